/- Steps of a body; freezing, owning; what simp should know. -/
import Derived.Test.YtjmcidiplbkmpaaAbsO
set_option linter.unusedVariables false
set_option linter.unusedSimpArgs false
namespace Go.Abs
open Go.RowKit (Below)

section
variable {P : Program} {n : Nat} {c0 : Cx} {w0 : World} {Q : Post} {s : Nat → AV} {H : Heap} {N : Nat}

/-- A region, and what stands behind it. -/
theorem AW.seqR {id : Nat} {ops : List Oper} {draw : Bool} {y : Code} (hm : P.follows .mixedOrders = true) (mu : List Nat) (gs : List (Option (Nat × Bool))) (hok : regOk n ops gs = true)
    (h : ∀ (G : Log → Prop) (K : (Nat → AV) → Heap → Nat → Prop), (∀ lg, (!draw || idOrder ops lg) = true → G lg) → (∀ s' H' N', AW P n c0 w0 y Q s' H' N' → K s' H' N') → aops P mu ops gs s H N [] (fun s' H' N' lg => G lg ∧ K s' H' N')) :
    AW P n c0 w0 (.seq (.region id ops.toArray draw) y) Q s H N :=
  AW.seq fun K hK => AW.region hm mu gs hok fun G K1 hG hK1 => h G K1 hG fun s' H' N' hA => hK1 s' H' N' (hK s' H' N' hA)

/-- Two pieces of code, with a statement between them that takes some x. -/
theorem AW.mid {x y : Code} (M : (Nat → AV) → Heap → Nat → Prop) (h1 : ∀ K : (Nat → AV) → Heap → Nat → Prop, (∀ s H N, M s H N → K s H N) → AW P n c0 w0 x (Post.then K Q) s H N) (h2 : ∀ s H N, M s H N → AW P n c0 w0 y Q s H N) : AW P n c0 w0 (.seq x y) Q s H N :=
  AW.seq fun K hK => h1 K fun s H N hM => hK s H N (h2 s H N hM)

/-- A state by lists between two pieces. -/
theorem AW.midL {x y : Code} {α : Type} (inv : α → Prop) (L : α → List (Nat × AV)) (O : α → List (Nat × AObj)) (M : α → Nat)
    (h1 : ∀ K : (Nat → AV) → Heap → Nat → Prop, (∀ z s' H' N', inv z → (∀ p ∈ L z, s' p.1 = p.2) → (∀ p ∈ O z, H' p.1 = some p.2) → N' ≤ M z → K s' H' N') → AW P n c0 w0 x (Post.then K Q) s H N)
    (h2 : ∀ z, inv z → AW P n c0 w0 y Q (mkS (L z)) (mkH (O z)) (M z)) : AW P n c0 w0 (.seq x y) Q s H N :=
  AW.seq fun K hK => h1 K fun z s' H' N' hi hl ho hn => hK s' H' N' (AW.weak (L z) (O z) (M z) hl ho hn (h2 z hi))

theorem AW.repFact {c : Code} {p : Prop} (t : Nat) (ht : decide (t < n) = true) (hp : ∀ c v, Rep c (s t) v → p) (h : p → AW P n c0 w0 c Q s H N) : AW P n c0 w0 c Q s H N := by
  intro a w hs
  obtain ⟨cx, _, hr⟩ := hs.eval (t := t) (by simpa using ht)
  exact h (hp cx _ hr) a w hs

theorem AW.lenFact {c : Code} (t : Nat) (ht : decide (t < n) = true) {nl fl : Bool} {xs : List AV} (hs : s t = .lst nl fl xs) (h : xs.length ≤ maxLen → AW P n c0 w0 c Q s H N) : AW P n c0 w0 c Q s H N :=
  AW.repFact t ht (fun c v hr => by
    rw [hs] at hr
    obtain ⟨_, cap, _, h1, h2, _⟩ := rep_lst hr
    omega) h

theorem AW.intFact {c : Code} (t : Nat) (ht : decide (t < n) = true) {k : IntKind} {m : Int} (hs : s t = .int k m) (h : InR k m → AW P n c0 w0 c Q s H N) : AW P n c0 w0 c Q s H N :=
  AW.repFact t ht (fun c v hr => by rw [hs] at hr; exact hr.2) h

theorem AW.strFact {c : Code} (t : Nat) (ht : decide (t < n) = true) {b : ByteArray} (hs : s t = .str b) (h : b.size ≤ maxLen → AW P n c0 w0 c Q s H N) : AW P n c0 w0 c Q s H N :=
  AW.repFact t ht (fun c v hr => by rw [hs] at hr; exact hr.2) h

/-- A nil slice gets a name of one's own. -/
theorem AW.own {c : Code} (t : Nat) (es : Nat) (fl : Bool) (hs : s t = .lst true fl []) (ht : decide (t < n) = true) (h : AW P n c0 w0 c Q (upd s t (.slc N 0 es 0 false)) (upd H N (some (.grow []))) (N + 1)) : AW P n c0 w0 c Q s H N := by
  intro a w ⟨cx, hr, hd, g, hu⟩
  have hv := hr.slot t (by simpa using ht)
  rw [hs] at hv
  have hv' : a.tmps.getD t undef = .slice none 0 0 := by
    simp only [Rep] at hv
    rcases hv with ⟨_, h⟩ | ⟨h, _⟩
    · exact h
    · cases h
  obtain ⟨c', k1, k2, k3, k4⟩ := hr.hr.adopt (.refl cx w) (hu N (Nat.le_refl _)) (hu N (Nat.le_refl _)) (es := es) (len := 0) (o := .grow []) (v := .slice none 0 0) (.inl ⟨rfl, rfl, _, rfl⟩)
  refine h a w ⟨c', ⟨k1, hr.size, fun t' ht' => ?_⟩, hd, g.trans k2, fun i hi => by rw [k4 i (by omega)]; exact hu i (by omega)⟩
  by_cases e : t' = t
  · subst e; rw [upd_same, hv']; exact k3
  · rw [upd_ne _ _ e]; exact (hr.slot t' ht').mono k2.le _ _

/-- A slice of one's own becomes memory that stays as it is. -/
theorem AW.freeze {c : Code} (t : Nat) {id off es len : Nat} {full : Bool} (hs : s t = .slc id off es len full) (ht : decide (t < n) = true) {o : AObj} {cs : List AV} (ho : H id = some o) (hc : o.cs? = some cs) (xs : List AV) (hel : okEls es xs)
    (hlen : xs.length = len) (he : flatA xs = (cs.drop off).take (len * es)) (nl : Bool) (hnl : nl = false) (h : AW P n c0 w0 c Q (upd s t (.lst nl full xs)) (upd H id none) N) : AW P n c0 w0 c Q s H N := by
  intro a w ⟨cx, hr, hd, g, hu⟩
  have hv := hr.slot t (by simpa using ht)
  rw [hs] at hv
  rcases emp_or_live hr.hr ho with ⟨hemp, rfl⟩ | ⟨b, base, sz, hlive, hor⟩
  · simp only [Rep] at hv
    obtain ⟨rfl, a0, hv'⟩ := hv.2.2.1 hemp
    subst hnl
    have : xs = [] := List.length_eq_zero_iff.1 hlen
    subst this
    obtain ⟨k1, k2⟩ := hr.hr.kill (id := id) (by rw [hemp]; simp)
    refine h a w ⟨_, ⟨k1, hr.size, fun t' ht' => ?_⟩, hd, g.trans k2, fun i hi => ?_⟩
    · by_cases e : t' = t
      · subst e; rw [upd_same, hv']; exact rep_emp _ _ _
      · rw [upd_ne _ _ e]; exact (hr.slot t' ht').mono k2.le _ _
    · have := hu i hi
      have hne : i ≠ id := by intro e; subst e; rw [hemp] at this; cases this
      simp only [upd, hne, if_false]; exact this
  · have hng : o ≠ .grow [] := by intro e; subst e; obtain ⟨hne, _⟩ := hor; exact hne rfl
    have hn' : nl = false := hnl
    obtain ⟨cap, p, hv', hp, h1, h2, h3, h4⟩ := rep_slc_live hv hlive
    obtain ⟨cur, Ty, fr, vs, q1, q2, q3, q4, q5, q6⟩ := hor.cs hc
    obtain ⟨k1, k2⟩ := hr.hr.freeze hlive
    refine h a w ⟨_, ⟨k1, hr.size, fun t' ht' => ?_⟩, hd, g.trans k2, fun i hi => ?_⟩
    · by_cases e : t' = t
      · subst e
        rw [upd_same, hv']
        have hr2 : RepVals ⟨fun k => cx.Z k ∨ k = b, upd cx.ι id .dead, cx.h⟩ (flatA xs) ((vs.drop off).take (len * es)) := by rw [he]; exact ((q5.drop off).take _).mono k2.le
        obtain ⟨us, u1, u2, u3⟩ := unflat hel.1 hr2 (RepVals.oneCell hr2 (List.all_eq_true.2 hel.2))
        have hul : us.length = len := by rw [u1.length, hlen]
        subst hul
        simp only [Rep]
        refine .inr ⟨hn', _, b, p, cap, es, us, rfl, h1, h2, h4, fun _ => ⟨rfl, .inr rfl⟩, ?_, u1⟩
        by_cases hcap : 0 < cap
        · rw [elemsAt_flat u3, u2, hp hcap]
          exact (q6.drop off).take _
        · have : us = [] := List.length_eq_zero_iff.1 (by omega)
          subst this
          intro i hi; simp at hi
      · rw [upd_ne _ _ e]; exact (hr.slot t' ht').mono k2.le _ _
    · have := hu i hi
      have hne : i ≠ id := by intro e; subst e; rw [hlive] at this; cases this
      simp only [upd, hne, if_false]; exact this

end

theorem idConf_map (f : Nat → Nat) (x y : List Nat × List Nat) (h : idConf x y = true) : idConf (x.1.map f, x.2.map f) (y.1.map f, y.2.map f) = true := by
  simp only [idConf, Bool.or_eq_true, List.any_eq_true, List.contains_iff_mem, List.mem_map] at h ⊢
  rcases h with ⟨i, h1, h2 | h2⟩ | ⟨i, h1, h2⟩
  · exact .inl ⟨f i, ⟨i, h1, rfl⟩, .inl ⟨i, h2, rfl⟩⟩
  · exact .inl ⟨f i, ⟨i, h1, rfl⟩, .inr ⟨i, h2, rfl⟩⟩
  · exact .inr ⟨f i, ⟨i, h1, rfl⟩, ⟨i, h2, rfl⟩⟩

/-- The order of names may be looked up under other names. -/
theorem order_map {ops : List Oper} {lg : Log} (f : Nat → Nat) (lg' : Log) (h : lg.map (fun p => (p.1.map f, p.2.map f)) = lg') (h2 : idOrder ops lg' = true) : (!true || idOrder ops lg) = true := by
  subst h
  simp only [Bool.not_true, Bool.false_or]
  unfold idOrder at h2 ⊢
  simp only [Bool.or_eq_true, List.all_map] at h2 ⊢
  rcases h2 with h2 | h2
  · left
    rw [List.all_eq_true] at h2 ⊢
    intro p hp
    have := h2 p hp
    simpa using this
  · right
    rw [List.all_eq_true] at h2 ⊢
    intro j hj
    have h3 := h2 j hj
    rw [List.all_eq_true] at h3 ⊢
    intro i hi
    have h4 := h3 i hi
    rw [Bool.or_eq_true] at h4 ⊢
    rcases h4 with h4 | h4
    · left
      rw [Bool.not_eq_true'] at h4 ⊢
      cases hc : idConf (lg.getD i ([], [])) (lg.getD j ([], [])) with
      | false => rfl
      | true =>
        have := idConf_map f _ _ hc
        have e : ∀ k, (lg.map (fun p => (p.1.map f, p.2.map f))).getD k ([], []) = ((lg.getD k ([], [])).1.map f, (lg.getD k ([], [])).2.map f) := by
          intro k
          simp only [List.getD_eq_getElem?_getD, List.getElem?_map]
          cases lg[k]? <;> rfl
        rw [e, e] at h4
        rw [this] at h4; cases h4
    · exact .inr h4

/-! ### what simp should know -/
@[simp] theorem putS_some (s : Nat → AV) (d : Nat) (x : AV) : putS s (some d) x = upd s d x := rfl
@[simp] theorem putS_none (s : Nat → AV) (x : AV) : putS s none x = s := rfl
theorem upd_at {α : Type} (f : Nat → α) (i : Nat) (a : α) (j : Nat) : upd f i a j = if j = i then a else f j := rfl
@[simp] theorem mkS_nil (t : Nat) : mkS [] t = .undef := rfl
@[simp] theorem mkS_cons (i : Nat) (x : AV) (l : List (Nat × AV)) (t : Nat) : mkS ((i, x) :: l) t = if i = t then x else mkS l t := by
  unfold mkS
  by_cases h : i = t <;> simp [h]
@[simp] theorem mkH_nil (t : Nat) : mkH [] t = none := rfl
@[simp] theorem mkH_cons (i : Nat) (x : AObj) (l : List (Nat × AObj)) (t : Nat) : mkH ((i, x) :: l) t = if i = t then some x else mkH l t := by
  unfold mkH
  by_cases h : i = t <;> simp [h]
@[simp] theorem ev_tmp (s : Nat → AV) (t : Nat) : ev s (.tmp t) = s t := rfl
@[simp] theorem ev_bool (s : Nat → AV) (b : Bool) : ev s (.const (.bool b)) = .bool b := rfl
@[simp] theorem ev_int (s : Nat → AV) (k : IntKind) (m : Int) : ev s (.const (.int k m)) = .int k m := rfl
@[simp] theorem ev_str (s : Nat → AV) (b : ByteArray) : ev s (.const (.string b)) = .str b := rfl
@[simp] theorem ev_nilp (s : Nat → AV) : ev s (.const (.pointer none)) = .nilptr := rfl
@[simp] theorem ev_nils (s : Nat → AV) (a b : Nat) : ev s (.const (.slice none a b)) = .lst true true [] := rfl
@[simp] theorem ev_agg (s : Nat → AV) (l : List Value) : ev s (.const (.agg l.toArray)) = .agg (l.map ofS) := by simp [ev, ofV]
@[simp] theorem ev_func (s : Nat → AV) (f : FuncId) : ev s (.func f) = .fn f [] := rfl
attribute [simp] ofS
attribute [simp] AV.flat flatAll noIdsL noIds idsIn idsInL isShift
@[simp] theorem one_undef  : (AV.undef).one = false := rfl
@[simp] theorem cells_undef  : (AV.undef).cells = [AV.undef] := rfl
@[simp] theorem one_skip  : (AV.skip).one = false := rfl
@[simp] theorem cells_skip  : (AV.skip).cells = [AV.skip] := rfl
@[simp] theorem one_bool (b : Bool) : (AV.bool b).one = true := rfl
@[simp] theorem cells_bool (b : Bool) : (AV.bool b).cells = [AV.bool b] := rfl
@[simp] theorem one_int (k : IntKind) (n : Int) : (AV.int k n).one = true := rfl
@[simp] theorem cells_int (k : IntKind) (n : Int) : (AV.int k n).cells = [AV.int k n] := rfl
@[simp] theorem one_str (s : ByteArray) : (AV.str s).one = true := rfl
@[simp] theorem cells_str (s : ByteArray) : (AV.str s).cells = [AV.str s] := rfl
@[simp] theorem one_lst (a b : Bool) (l : List AV) : (AV.lst a b l).one = true := rfl
@[simp] theorem cells_lst (a b : Bool) (l : List AV) : (AV.lst a b l).cells = [AV.lst a b l] := rfl
@[simp] theorem one_cptr (l : List AV) : (AV.cptr l).one = true := rfl
@[simp] theorem cells_cptr (l : List AV) : (AV.cptr l).cells = [AV.cptr l] := rfl
@[simp] theorem one_ptr (i j : Nat) : (AV.ptr i j).one = true := rfl
@[simp] theorem cells_ptr (i j : Nat) : (AV.ptr i j).cells = [AV.ptr i j] := rfl
@[simp] theorem one_nilptr  : (AV.nilptr).one = true := rfl
@[simp] theorem cells_nilptr  : (AV.nilptr).cells = [AV.nilptr] := rfl
@[simp] theorem one_slc (i j e l : Nat) (f : Bool) : (AV.slc i j e l f).one = true := rfl
@[simp] theorem cells_slc (i j e l : Nat) (f : Bool) : (AV.slc i j e l f).cells = [AV.slc i j e l f] := rfl
@[simp] theorem one_agg (l : List AV) : (AV.agg l).one = false := rfl
@[simp] theorem cells_agg (l : List AV) : (AV.agg l).cells = l := rfl
@[simp] theorem one_tup (l : List AV) : (AV.tup l).one = false := rfl
@[simp] theorem cells_tup (l : List AV) : (AV.tup l).cells = [AV.tup l] := rfl
@[simp] theorem one_fn (f : Nat) (l : List AV) : (AV.fn f l).one = true := rfl
@[simp] theorem cells_fn (f : Nat) (l : List AV) : (AV.fn f l).cells = [AV.fn f l] := rfl
@[simp] theorem one_nilfn  : (AV.nilfn).one = true := rfl
@[simp] theorem cells_nilfn  : (AV.nilfn).cells = [AV.nilfn] := rfl
@[simp] theorem one_map (i : Nat) : (AV.map i).one = true := rfl
@[simp] theorem cells_map (i : Nat) : (AV.map i).cells = [AV.map i] := rfl
@[simp] theorem one_nilmap  : (AV.nilmap).one = true := rfl
@[simp] theorem cells_nilmap  : (AV.nilmap).cells = [AV.nilmap] := rfl
@[simp] theorem one_ifc (t : Nat) (x : AV) : (AV.ifc t x).one = true := rfl
@[simp] theorem cells_ifc (t : Nat) (x : AV) : (AV.ifc t x).cells = [AV.ifc t x] := rfl
@[simp] theorem one_nilifc  : (AV.nilifc).one = true := rfl
@[simp] theorem cells_nilifc  : (AV.nilifc).cells = [AV.nilifc] := rfl
@[simp] theorem one_nn (x : AV) : (AV.nn x).one = false := rfl
@[simp] theorem cells_nn (x : AV) : (AV.nn x).cells = [AV.nn x] := rfl
@[simp] theorem cs_cells (l : List AV) : (AObj.cells l).cs? = some l := rfl
@[simp] theorem cs_grow (l : List AV) : (AObj.grow l).cs? = some l := rfl
@[simp] theorem with_cells (l m : List AV) : (AObj.cells l).with m = .cells m := rfl
@[simp] theorem with_grow (l m : List AV) : (AObj.grow l).with m = .grow m := rfl
@[simp] theorem okc_int (k : IntKind) (m : Int) : (AV.int k m).okc = true := rfl
@[simp] theorem okc_str (b : ByteArray) : (AV.str b).okc = true := rfl
@[simp] theorem okc_bool (b : Bool) : (AV.bool b).okc = true := rfl
@[simp] theorem okc_agg (l : List AV) : (AV.agg l).okc = true := rfl
@[simp] theorem okc_lst (a b : Bool) (l : List AV) : (AV.lst a b l).okc = true := rfl
@[simp] theorem okc_cptr (l : List AV) : (AV.cptr l).okc = true := rfl
@[simp] theorem okc_ptr (i j : Nat) : (AV.ptr i j).okc = true := rfl
@[simp] theorem okc_slc (i j e l : Nat) (f : Bool) : (AV.slc i j e l f).okc = true := rfl
@[simp] theorem okc_fn (i : Nat) (l : List AV) : (AV.fn i l).okc = true := rfl
@[simp] theorem okc_nilptr : AV.nilptr.okc = true := rfl
@[simp] theorem okc_map (i : Nat) : (AV.map i).okc = true := rfl
@[simp] theorem okc_nilmap : AV.nilmap.okc = true := rfl
@[simp] theorem flatA_nil : flatA [] = [] := rfl
@[simp] theorem flatA_cons (x : AV) (l : List AV) : flatA (x :: l) = x.cells ++ flatA l := rfl
@[simp] theorem flatA_app (l m : List AV) : flatA (l ++ m) = flatA l ++ flatA m := flatA_append l m
@[simp] theorem flatA_ints {α : Type} (k : IntKind) (f : α → Int) (l : List α) : flatA (l.map fun x => .int k (f x)) = l.map fun x => .int k (f x) := by
  induction l with
  | nil => rfl
  | cons x l ih => simp [ih]
@[simp] theorem flatA_strs {α : Type} (f : α → ByteArray) (l : List α) : flatA (l.map fun x => .str (f x)) = l.map fun x => .str (f x) := by
  induction l with
  | nil => rfl
  | cons x l ih => simp [ih]
@[simp] theorem flatA_bytes (l : List UInt8) : flatA (bytes l) = bytes l := flatA_ints _ _ _
@[simp] theorem noIds_ints {α : Type} (k : IntKind) (f : α → Int) (S : Nat → Prop) (l : List α) : idsInL S (l.map fun x => .int k (f x)) ↔ True := by
  induction l with
  | nil => simp
  | cons x l ih => simp [ih]
@[simp] theorem noIds_strs {α : Type} (f : α → ByteArray) (S : Nat → Prop) (l : List α) : idsInL S (l.map fun x => .str (f x)) ↔ True := by
  induction l with
  | nil => simp
  | cons x l ih => simp [ih]
@[simp] theorem noIds_ints' (k : IntKind) (S : Nat → Prop) (l : List Int) : idsInL S (l.map (.int k)) ↔ True := noIds_ints k id S l
@[simp] theorem flatA_ints' (k : IntKind) (l : List Int) : flatA (l.map (.int k)) = l.map (.int k) := flatA_ints k id l
@[simp] theorem okEls_ints' (k : IntKind) (l : List Int) : okEls 1 (l.map (.int k)) ↔ True := iff_true_intro (okEls_ints (f := id))
@[simp] theorem noIds_strs' (S : Nat → Prop) (l : List ByteArray) : idsInL S (l.map .str) ↔ True := noIds_strs id S l
@[simp] theorem flatA_strs' (l : List ByteArray) : flatA (l.map .str) = l.map .str := flatA_strs id l
@[simp] theorem okEls_strs' (l : List ByteArray) : okEls 1 (l.map .str) ↔ True := iff_true_intro (okEls_strs (f := id))
@[simp] theorem noIds_bytes (S : Nat → Prop) (l : List UInt8) : idsInL S (bytes l) ↔ True := noIds_ints _ _ _ _
@[simp] theorem pickV_t (x y : AV) : pickV true x y = x := rfl
@[simp] theorem pickV_f (x y : AV) : pickV false x y = y := rfl
@[simp] theorem pickV_bool (b x y : Bool) : pickV b (.bool x) (.bool y) = .bool (if b then x else y) := by cases b <;> rfl
@[simp] theorem pickV_int (b : Bool) (k : IntKind) (x y : Int) : pickV b (.int k x) (.int k y) = .int k (if b then x else y) := by cases b <;> rfl
@[simp] theorem pickV_str (b : Bool) (x y : ByteArray) : pickV b (.str x) (.str y) = .str (if b then x else y) := by cases b <;> rfl

attribute [simp ↓] upd_at
attribute [simp] AV.fits consec abuild fillAV boundOf inMu inMf loadCs argS abin abinInt abinStr aun binOk resAll resOne srcOf

theorem wrapI (k : IntKind) {n : Int} (h1 : k.min ≤ n) (h2 : n ≤ k.max) : k.wrap n = n := by
  cases k <;> simp [IntKind.wrap, IntKind.min, IntKind.max, IntKind.bits, IntKind.signed] at * <;> omega
theorem wrap64 {n : Int} (h1 : -9223372036854775808 ≤ n) (h2 : n ≤ 9223372036854775807) : IntKind.i64.wrap n = n := wrapI .i64 (by simpa [IntKind.min, IntKind.bits, IntKind.signed] using h1) (by simpa [IntKind.max, IntKind.bits, IntKind.signed] using h2)

end Go.Abs
