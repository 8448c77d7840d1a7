/- Entering a function that is handed objects. -/
import Derived.Test.YtocmgnljgemjkaaAbsP
set_option linter.unusedVariables false
set_option linter.unusedSimpArgs false
namespace Go.Abs
open Go.RowKit (Below)

/-- What a body that was handed objects must leave behind. -/
def EndA (P : Program) (rs : List ResultVar) (s : Nat → AV) (Hs : Heap) (T W : List Nat) (H H' : Heap) (r : Res) : Prop :=
  match r with
  | .val x => resAll P s Hs rs x ∧ idsIn (· ∈ T) x ∧ ∀ id ∈ T, Hs id = (if id ∈ W then H' id else H id) ∧ ∀ o, Hs id = some o → o.idsIn (· ∈ T)
  | .row es o len => ∃ i full, resAll P s Hs rs (.slc i 0 es len full) ∧ Hs i = some o ∧ o.idsIn (fun id => id ∈ T ∧ id ≠ i) ∧
      ∀ id ∈ T, upd Hs i none id = (if id ∈ W then H' id else H id) ∧ ∀ o, upd Hs i none id = some o → o.idsIn (fun id => id ∈ T ∧ id ≠ i)
  | .box o => ∃ i, resAll P s Hs rs (.ptr i 0) ∧ Hs i = some o ∧ o ≠ .grow [] ∧ o.idsIn (fun id => id ∈ T ∧ id ≠ i) ∧
      ∀ id ∈ T, upd Hs i none id = (if id ∈ W then H' id else H id) ∧ ∀ o, upd Hs i none id = some o → o.idsIn (fun id => id ∈ T ∧ id ≠ i)

theorem AObj.idsIn.mono {S S' : Nat → Prop} (h : ∀ i, S i → S' i) {o : AObj} (k : o.idsIn S) : o.idsIn S' := by
  cases o with
  | cells cs => exact idsInL.mono h cs k
  | grow cs => exact idsInL.mono h cs k
  | mp es => exact fun p hp => ⟨Abs.idsIn.mono h _ (k p hp).1, Abs.idsIn.mono h _ (k p hp).2⟩

/-- Of a heap, only some names. -/
theorem HRel.narrow {c : Cx} {H : Heap} {w : World} (h : HRel c H w) (S : Nat → Prop) [DecidablePred S] (hc : ∀ id, S id → ∀ o, H id = some o → o.idsIn S) :
    HRel ⟨c.Z, fun i => if S i then c.ι i else .unused, c.h⟩ (fun i => if S i then H i else none) w ∧ c.LeOn S ⟨c.Z, fun i => if S i then c.ι i else .unused, c.h⟩ := by
  have L : c.LeOn S ⟨c.Z, fun i => if S i then c.ι i else .unused, c.h⟩ := by
    refine ⟨fun _ h => h, fun _ _ _ _ h => h, fun i hS hi => ?_, fun i b y z hS hi hl => ?_, fun i hS hi hl => ?_⟩
    · simpa only [hS, if_true] using hi
    · simpa only [hS, if_true] using hl
    · simpa only [hS, if_true] using hl
  have lv : ∀ i b y z, (if S i then c.ι i else .unused) = .live b y z → S i ∧ c.ι i = .live b y z := by
    intro i b y z hl
    split at hl
    · exact ⟨by assumption, hl⟩
    · cases hl
  refine ⟨⟨h.heap, ?_, ?_, ?_, ?_, ?_, h.zlt, ?_⟩, L⟩
  · intro i b y z hl
    obtain ⟨hS, hl'⟩ := lv i b y z hl
    obtain ⟨o, h1, h2⟩ := h.obj i b y z hl'
    exact ⟨o, by simp [hS, h1], h2.on L (hc i hS o h1) rfl⟩
  · intro i hi
    simp only [] at hi ⊢
    split at hi
    · rw [if_pos ‹_›]; exact h.emp i hi
    · cases hi
  · intro i hi hm
    simp only [] at hi hm ⊢
    by_cases hS : S i
    · simp only [hS, if_true] at hi hm ⊢; exact h.non i hi hm
    · simp [hS]
  · intro i j b y z y' z' e1 e2
    exact h.inj i j b y z y' z' (lv _ _ _ _ e1).2 (lv _ _ _ _ e2).2
  · intro i b y z e1
    exact h.sep i b y z (lv _ _ _ _ e1).2
  · obtain ⟨B, hB⟩ := h.fin
    refine ⟨B, fun i hi => ?_⟩
    have := hB i hi
    simp [this]

/-- The objects that were handed in come back into what stood around. -/
theorem HRel.join {c c2 : Cx} {H1 H2 : Heap} {w w2 : World} (h : HRel c H1 w) (S S2 : Nat → Prop) [DecidablePred S] [DecidablePred S2] (hsub : ∀ i, S2 i → S i) (hu : ∀ i, S i → c.ι i ≠ .unused) (h2 : HRel c2 H2 w2)
    (g : Grow ⟨c.Z, fun i => if S i then c.ι i else .unused, c.h⟩ w c2 w2) (hc : ∀ id, S2 id → ∀ o, H2 id = some o → o.idsIn S2) :
    HRel ⟨c2.Z, fun i => if S2 i then c2.ι i else if S i then .dead else c.ι i, c2.h⟩ (fun i => if S2 i then H2 i else if S i then none else H1 i) w2 ∧
    Grow c w ⟨c2.Z, fun i => if S2 i then c2.ι i else if S i then .dead else c.ι i, c2.h⟩ w2 ∧
    c2.LeOn S2 ⟨c2.Z, fun i => if S2 i then c2.ι i else if S i then .dead else c.ι i, c2.h⟩ := by
  have L2 : c2.LeOn S2 ⟨c2.Z, fun i => if S2 i then c2.ι i else if S i then .dead else c.ι i, c2.h⟩ := by
    refine ⟨fun _ h => h, fun _ _ _ _ h => h, fun i hS hi => ?_, fun i b y z hS hi hl => ?_, fun i hS hi hl => ?_⟩
    · simpa only [hS, if_true] using hi
    · simpa only [hS, if_true] using hl
    · simpa only [hS, if_true] using hl
  have back : ∀ i b y z, S2 i → c2.ι i = .live b y z → c.ι i = .live b y z := by
    intro i b y z hS hl
    have hSi := hsub i hS
    have := g.le.live i b y z (by simpa only [hSi, if_true] using hu i hSi) hl
    simpa only [hSi, if_true] using this
  have backE : ∀ i, S2 i → c2.ι i = .emp → c.ι i = .emp := by
    intro i hS hl
    have hSi := hsub i hS
    have := g.le.emp i (by simpa only [hSi, if_true] using hu i hSi) hl
    simpa only [hSi, if_true] using this
  have lv : ∀ i b y z, (if S2 i then c2.ι i else if S i then .dead else c.ι i) = .live b y z → (S2 i ∧ c2.ι i = .live b y z) ∨ (¬ S i ∧ c.ι i = .live b y z) := by
    intro i b y z hl
    split at hl
    · exact .inl ⟨by assumption, hl⟩
    · split at hl
      · cases hl
      · exact .inr ⟨by assumption, hl⟩
  have lvc : ∀ i b y z, (if S2 i then c2.ι i else if S i then .dead else c.ι i) = .live b y z → c.ι i = .live b y z := by
    intro i b y z hl
    rcases lv i b y z hl with ⟨h1, h2⟩ | ⟨_, h2⟩
    · exact back i b y z h1 h2
    · exact h2
  have c1lv : ∀ i b y z, (if S i then c.ι i else .unused) = .live b y z → S i ∧ c.ι i = .live b y z := by
    intro i b y z hl
    split at hl
    · exact ⟨by assumption, hl⟩
    · cases hl
  have L : c.Le ⟨c2.Z, fun i => if S2 i then c2.ι i else if S i then .dead else c.ι i, c2.h⟩ := by
    refine ⟨g.le.z, g.le.cell, fun i hi => ?_, fun i b y z hi hl => lvc i b y z hl, fun i hi hl => ?_⟩
    · simp only []
      split
      · have hSi := hsub i ‹_›
        exact g.le.used i (by simpa only [hSi, if_true] using hi)
      · split
        · simp
        · exact hi
    · simp only [] at hl
      split at hl
      · exact backE i ‹_› hl
      · split at hl
        · cases hl
        · exact hl
  refine ⟨⟨h2.heap, ?_, ?_, ?_, ?_, ?_, h2.zlt, ?_⟩, ⟨L, ?_, fun i b y z hl => .inr ⟨i, y, z, lvc i b y z hl⟩, ?_, g.size, g.os, g.tape, g.output⟩, L2⟩
  · intro i b y z hl
    rcases lv i b y z hl with ⟨hS, hl2⟩ | ⟨hS, hl2⟩
    · obtain ⟨o, k1, k2⟩ := h2.obj i b y z hl2
      exact ⟨o, by simp only [hS, if_true]; exact k1, k2.on L2 (hc i hS o k1) rfl⟩
    · obtain ⟨o, k1, k2⟩ := h.obj i b y z hl2
      have hS2 : ¬ S2 i := fun h => hS (hsub i h)
      refine ⟨o, by simp only [hS, hS2, if_false]; exact k1, k2.mono L ?_⟩
      simp only [h2.heap, h.heap]
      refine g.keep b (h.live_lt hl2) fun id x y' hl' => ?_
      obtain ⟨q1, q2⟩ := c1lv _ _ _ _ hl'
      exact hS (h.inj id i b x y' y z q2 hl2 ▸ q1)
  · intro i hi
    simp only [] at hi ⊢
    split at hi
    · rw [if_pos ‹_›]; exact h2.emp i hi
    · rw [if_neg ‹_›]
      split at hi
      · cases hi
      · rw [if_neg ‹_›]; exact h.emp i hi
  · intro i hi hm
    simp only [] at hi hm ⊢
    by_cases hS2 : S2 i
    · simp only [hS2, if_true] at hi hm ⊢; exact h2.non i hi hm
    · by_cases hS : S i
      · simp [hS2, hS]
      · simp only [hS2, hS, if_false] at hi hm ⊢; exact h.non i hi hm
  · intro i j b y z y' z' e1 e2
    exact h.inj i j b y z y' z' (lvc _ _ _ _ e1) (lvc _ _ _ _ e2)
  · intro i b y z e1 e2
    rcases lv i b y z e1 with ⟨hS, hl2⟩ | ⟨hS, hl2⟩
    · exact h2.sep i b y z hl2 e2
    · rcases g.zn b e2 with k | k | ⟨id, x, y', k⟩
      · exact h.sep i b y z hl2 k
      · have := h.live_lt hl2; omega
      · obtain ⟨q1, q2⟩ := c1lv _ _ _ _ k
        exact hS (h.inj id i b x y' y z q2 hl2 ▸ q1)
  · obtain ⟨B, hB⟩ := h.fin
    refine ⟨B, fun i hi => ?_⟩
    have hun := hB i hi
    have hS : ¬ S i := fun k => hu i k hun
    have hS2 : ¬ S2 i := fun k => hS (hsub i k)
    simp only [hS, hS2, if_false]; exact hun
  · intro b hb
    rcases g.zn b hb with k | k | ⟨id, x, y', k⟩
    · exact .inl k
    · exact .inr (.inl k)
    · obtain ⟨q1, q2⟩ := c1lv _ _ _ _ k
      exact .inr (.inr ⟨id, x, y', q2⟩)
  · intro b hb hn
    refine g.keep b hb fun id x y hl => ?_
    obtain ⟨q1, q2⟩ := c1lv _ _ _ _ hl
    exact hn id x y q2

theorem ACall.enter {P : Program} {f : FuncId} {fn : Func} {code : Code} {args : List AV} {H H' : Heap} {r : Res} {T W : List Nat} (hf : P.funcs[f]? = some fn) (hb : fn.body = some code) (hm : args.length ≤ fn.ntmps) (hin : resIn fn.ntmps fn.results.toList = true)
    (N : Nat) (hN : ∀ id ∈ T, id < N) (hs : ∀ id ∈ T, (H id).isSome = true) (hW : ∀ id ∈ W, id ∈ T) (hargs : idsInL (· ∈ T) args) (hH : ∀ id ∈ T, ∀ o, H id = some o → o.idsIn (· ∈ T))
    (h : ∀ (c0 : Cx) (w0 : World) (Q : Post), (∀ s Hs Ns, EndA P fn.results.toList s Hs T W H H' r → Q .ret s Hs Ns ∧ Q .normal s Hs Ns) → AW P fn.ntmps c0 w0 code Q (argS args) (fun i => if i ∈ T then H i else none) N) : ACall P f args H r H' T W := by
  intro c H1 w vs hr hT ha
  have hu : ∀ i, i ∈ T → c.ι i ≠ .unused := by
    intro i hi
    obtain ⟨o, ho⟩ := Option.isSome_iff_exists.1 (hs i hi)
    rcases emp_or_live hr ((hT i hi).trans ho) with ⟨he, _⟩ | ⟨b, x, y, hl, _⟩
    · rw [he]; simp
    · rw [hl]; simp
  obtain ⟨n1, n2⟩ := hr.narrow (· ∈ T) (fun id hid o ho => hH id hid o ((hT id hid).symm.trans ho))
  have n1' : HRel ⟨c.Z, fun i => if i ∈ T then c.ι i else .unused, c.h⟩ (fun i => if i ∈ T then H i else none) w := n1.eqH (by
    funext i
    by_cases hi : i ∈ T
    · simp only [hi, if_true]; exact (hT i hi).symm
    · simp [hi])
  have ha' := ha.on n2 _ _ hargs
  refine Calls.mono (Abs.enter hf hb hm hin n1' ha' (N := N) (fun i hi => ?_) (fun s Hs Ns r' => match r with
      | .val x => r' = x ∧ EndA P fn.results.toList s Hs T W H H' (.val x)
      | .row es o len => ∃ i full, r' = .slc i 0 es len full ∧ Hs i = some o ∧ o.idsIn (fun id => id ∈ T ∧ id ≠ i) ∧ ∀ id ∈ T, upd Hs i none id = (if id ∈ W then H' id else H id) ∧ ∀ o, upd Hs i none id = some o → o.idsIn (fun id => id ∈ T ∧ id ≠ i)
      | .box o => ∃ i, r' = .ptr i 0 ∧ Hs i = some o ∧ o ≠ .grow [] ∧ o.idsIn (fun id => id ∈ T ∧ id ≠ i) ∧ ∀ id ∈ T, upd Hs i none id = (if id ∈ W then H' id else H id) ∧ ∀ o, upd Hs i none id = some o → o.idsIn (fun id => id ∈ T ∧ id ≠ i))
    (fun Q hQ => h _ w Q (fun s Hs Ns hE => ?_))) ?_
  · have : i ∉ T := fun hi' => by have := hN i hi'; omega
    simp [this]
  · cases r with
    | val x => exact hQ s Hs Ns x hE.1 ⟨rfl, hE⟩
    | row es o len => obtain ⟨i, full, k1, k2⟩ := hE; exact hQ s Hs Ns _ k1 ⟨i, full, rfl, k2⟩
    | box o => obtain ⟨i, k1, k2⟩ := hE; exact hQ s Hs Ns _ k1 ⟨i, rfl, k2⟩
  · intro e w2 ⟨v, c2, s, Hs, Ns, r', he, hr2, g, hu2, hx, hE⟩
    have hWT : ∀ (H3 : Heap) (S2 : Nat → Prop) [DecidablePred S2], (∀ i, S2 i → i ∈ T) → (∀ id ∈ T, (if S2 id then H3 id else none) = (if id ∈ W then H' id else H id)) →
        (fun i => if S2 i then H3 i else if i ∈ T then none else H1 i) = (fun id => if id ∈ W then H' id else H1 id) := by
      intro H3 S2 _ hsub hh
      funext i
      by_cases hi : i ∈ T
      · have := hh i hi
        by_cases hS : S2 i
        · simp only [hS, hi, if_true] at this ⊢
          rw [this, hT i hi]
        · simp only [hS, hi, if_true, if_false] at this ⊢
          rw [this, hT i hi]
      · have hS : ¬ S2 i := fun k => hi (hsub i k)
        have hw : i ∉ W := fun k => hi (hW i k)
        simp [hS, hi, hw]
    have c1lv : ∀ i b y z, (if i ∈ T then c.ι i else IdSt.unused) = .live b y z → i ∈ T ∧ c.ι i = .live b y z := by
      intro i b y z hl
      split at hl
      · exact ⟨by assumption, hl⟩
      · cases hl
    have fresh : ∀ i b base sz, c2.ι i = .live b base sz → FreshB c ⟨c2.Z, fun id => if id ∈ T ∧ id ≠ i then c2.ι id else if id ∈ T then .dead else c.ι id, c2.h⟩ w b := by
      intro i b base sz hl
      refine ⟨?_, hr2.sep i b base sz hl, ?_⟩
      · rcases g.nb i b base sz hl with k | ⟨id, x, y, k⟩
        · exact .inl k
        · exact .inr ⟨id, x, y, (c1lv _ _ _ _ k).2⟩
      · intro id x y hl2
        simp only [] at hl2
        split at hl2
        · rename_i hc2
          exact hc2.2 (hr2.inj id i b x y base sz hl2 hl)
        · split at hl2
          · cases hl2
          · rename_i hnT
            rcases g.nb i b base sz hl with k | ⟨id2, x2, y2, k⟩
            · have := hr.live_lt hl2; omega
            · obtain ⟨q1, q2⟩ := c1lv _ _ _ _ k
              exact hnT (hr.inj id2 id b x2 y2 x y q2 hl2 ▸ q1)
    have hS2 : ∀ i id, (id ∈ T ∧ id ≠ i) → id ∈ T := fun _ _ h => h.1
    have hT2 : ∀ i, (∀ id ∈ T, upd Hs i none id = (if id ∈ W then H' id else H id) ∧ ∀ o, upd Hs i none id = some o → o.idsIn (fun id => id ∈ T ∧ id ≠ i)) →
        (fun k => if k ∈ T ∧ k ≠ i then Hs k else if k ∈ T then none else H1 k) = (fun id => if id ∈ W then H' id else H1 id) := by
      intro i hTs
      refine hWT Hs (fun id => id ∈ T ∧ id ≠ i) (hS2 i) (fun id hid => ?_)
      have := (hTs id hid).1
      by_cases e : id = i
      · subst e; simpa using this
      · rw [upd_ne _ _ e] at this; simp only [hid, e, ne_eq, not_false_eq_true, and_self, if_true]; exact this
    cases r with
    | val x =>
      obtain ⟨rfl, _, hxi, hTs⟩ := hE
      obtain ⟨j1, j2, j3⟩ := hr.join (· ∈ T) (· ∈ T) (fun _ h => h) hu hr2 g (fun id hid o ho => (hTs id hid).2 o ho)
      refine ⟨v, _, he, j1.eqH (hWT Hs (· ∈ T) (fun _ h => h) (fun id hid => by simp only [hid, if_true]; exact (hTs id hid).1)).symm, hx.on j3 _ _ hxi, j2, fun id hid => ?_⟩
      have : id ∉ T := fun k => hu id k hid
      simp only [this, if_false]; exact hid
    | row es o len =>
      obtain ⟨i, full, rfl, hi, ho, hTs⟩ := hE
      obtain ⟨j1, j2, j3⟩ := hr.join (· ∈ T) (fun id => id ∈ T ∧ id ≠ i) (hS2 i) hu hr2 g (fun id hid o ho' => (hTs id hid.1).2 o (by rw [upd_ne _ _ hid.2]; exact ho'))
      refine ⟨v, _, he, j1.eqH (hT2 i hTs).symm, ?_, j2, fun id hid => ?_⟩
      · rcases emp_or_live hr2 hi with ⟨hemp, rfl⟩ | ⟨b, base, sz, hl, hor⟩
        · simp only [Rep] at hx
          obtain ⟨rfl, rfl⟩ := hx.2.2.1 hemp
          exact .inl ⟨rfl, rfl, rfl⟩
        · obtain ⟨cap, p, rfl, hp, h1, h2, h3, h4⟩ := rep_slc_live hx hl
          exact .inr ⟨b, base, p, cap, sz, rfl, fun k => by simpa using hp k, h1, h2, by simpa using h3, fresh i b base sz hl, hor.on j3 ho rfl⟩
      · have : id ∉ T := fun k => hu id k hid
        simp only [this, if_false, false_and]; exact hid
    | box o =>
      obtain ⟨i, rfl, hi, hne, ho, hTs⟩ := hE
      obtain ⟨j1, j2, j3⟩ := hr.join (· ∈ T) (fun id => id ∈ T ∧ id ≠ i) (hS2 i) hu hr2 g (fun id hid o ho' => (hTs id hid.1).2 o (by rw [upd_ne _ _ hid.2]; exact ho'))
      refine ⟨v, _, he, j1.eqH (hT2 i hTs).symm, ?_, j2, fun id hid => ?_⟩
      · obtain ⟨b, base, sz, hl, hor⟩ := hr2.live_of hi hne
        have := rep_ptr_live hx hl
        subst this
        exact ⟨b, base, sz, rfl, fresh i b base sz hl, hor.on j3 ho rfl⟩
      · have : id ∉ T := fun k => hu id k hid
        simp only [this, if_false, false_and]; exact hid

theorem AW.heapEq {P : Program} {n : Nat} {c0 : Cx} {w0 : World} {Q : Post} {s : Nat → AV} {H H2 : Heap} {N : Nat} {x : Code} (e : H = H2) (h : AW P n c0 w0 x Q s H2 N) : AW P n c0 w0 x Q s H N := e ▸ h

theorem CallOut.a {P : Program} {f : FuncId} {args : List AV} {H H' : Heap} {N : Nat} (hcal : callable P f = true) {x : AV} {T W : List Nat} (hA : ACall P f args H (.val x) H' T W) (hT : ∀ id ∈ T, id < N) (hW : ∀ id ∈ W, id ∈ T) (hr : ∀ id, id ∉ W → H' id = H id) :
    CallOut P f args H N x H' N T W := by
  intro o s g as ts caps hc ho hg ha
  exact out_acall hc g as ts ho f caps hg hcal x H' T W (by rw [ha]; exact hA) hT hW hr

theorem aCall_a {P : Program} {f : FuncId} {args : List AV} {H H' : Heap} {N : Nat} {K : CK} {x : AV} {T W : List Nat} (hA : ACall P f args H (.val x) H' T W) (hcal : callable P f = true) (hT : ∀ id ∈ T, id < N) (hW : ∀ id ∈ W, id ∈ T) (hr : ∀ id, id ∉ W → H' id = H id) (hk : K x H' N T W) : aCall P f args H N K :=
  ⟨x, H', N, T, W, CallOut.a hcal hA hT hW hr, hk⟩

theorem aCall_row {P : Program} {f : FuncId} {args : List AV} {H H' : Heap} {N : Nat} {K : CK} {es len : Nat} {ob : AObj} {T W : List Nat} (hA : ACall P f args H (.row es ob len) H' T W) (hcal : callable P f = true) (hT : ∀ id ∈ T, id < N) (hW : ∀ id ∈ W, id ∈ T) (hr : ∀ id, id ∉ W → H' id = H id)
    (hk : K (.slc N 0 es len false) (upd H' N (some ob)) (N + 1) T (N :: W)) : aCall P f args H N K :=
  ⟨_, _, _, _, _, fun o s g as ts caps hc ho hg ha => out_acall_row hc g as ts ho f caps hg hcal es len ob H' T W (by rw [ha]; exact hA) hT hW hr, hk⟩

theorem aCall_box {P : Program} {f : FuncId} {args : List AV} {H H' : Heap} {N : Nat} {K : CK} {ob : AObj} {T W : List Nat} (hA : ACall P f args H (.box ob) H' T W) (hcal : callable P f = true) (hT : ∀ id ∈ T, id < N) (hW : ∀ id ∈ W, id ∈ T) (hr : ∀ id, id ∉ W → H' id = H id)
    (hk : K (.ptr N 0) (upd H' N (some ob)) (N + 1) T (N :: W)) : aCall P f args H N K :=
  ⟨_, _, _, _, _, fun o s g as ts caps hc ho hg ha => out_acall_box hc g as ts ho f caps hg hcal ob H' T W (by rw [ha]; exact hA) hT hW hr, hk⟩

end Go.Abs
