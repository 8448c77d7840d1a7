/- Walks of functions that are given as Lean functions: calls, loops, joins; what a Lean function is made of. -/
import Derived.Test.YtjmcidiplbkmpaaAbsU
import Derived.Laws.Externs
set_option linter.unusedVariables false
set_option linter.unusedSimpArgs false
namespace Go.Abs
open Go.RowKit (Below)

/-! ### what a Lean function is made of -/
/-- A test without which the run would not go on. -/
def chk {α : Type} (c : Prop) [Decidable c] (x : Option α) : Option α := if c then x else none
def idx {α β : Type} (l : List α) (i : Int) (f : α → Option β) : Option β := if 0 ≤ i then (match l[i.toNat]? with | some x => f x | none => none) else none
def bnd1 {α γ : Type} (x : Option α) (f : α → Option γ) : Option γ := match x with | some a => f a | none => none
def bnd2 {α β γ : Type} (x : Option (α × β)) (f : α → β → Option γ) : Option γ := match x with | some a => f a.1 a.2 | none => none
def bnd3 {α β δ γ : Type} (x : Option (α × β × δ)) (f : α → β → δ → Option γ) : Option γ := match x with | some a => f a.1 a.2.1 a.2.2 | none => none
def bnd4 {α β δ ε γ : Type} (x : Option (α × β × δ × ε)) (f : α → β → δ → ε → Option γ) : Option γ := match x with | some a => f a.1 a.2.1 a.2.2.1 a.2.2.2 | none => none
def bnd5 {α β δ ε ζ γ : Type} (x : Option (α × β × δ × ε × ζ)) (f : α → β → δ → ε → ζ → Option γ) : Option γ := match x with | some a => f a.1 a.2.1 a.2.2.1 a.2.2.2.1 a.2.2.2.2 | none => none
def bnd6 {α β δ ε ζ η γ : Type} (x : Option (α × β × δ × ε × ζ × η)) (f : α → β → δ → ε → ζ → η → Option γ) : Option γ := match x with | some a => f a.1 a.2.1 a.2.2.1 a.2.2.2.1 a.2.2.2.2.1 a.2.2.2.2.2 | none => none
def bnd7 {α β δ ε ζ η θ γ : Type} (x : Option (α × β × δ × ε × ζ × η × θ)) (f : α → β → δ → ε → ζ → η → θ → Option γ) : Option γ := match x with | some a => f a.1 a.2.1 a.2.2.1 a.2.2.2.1 a.2.2.2.2.1 a.2.2.2.2.2.1 a.2.2.2.2.2.2 | none => none
def bnd8 {α β δ ε ζ η θ κ γ : Type} (x : Option (α × β × δ × ε × ζ × η × θ × κ)) (f : α → β → δ → ε → ζ → η → θ → κ → Option γ) : Option γ := match x with | some a => f a.1 a.2.1 a.2.2.1 a.2.2.2.1 a.2.2.2.2.1 a.2.2.2.2.2.1 a.2.2.2.2.2.2.1 a.2.2.2.2.2.2.2 | none => none
def let1 {α γ : Type} (x : α) (f : α → Option γ) : Option γ := f x

theorem chk_elim {α : Type} {c : Prop} [Decidable c] {x : Option α} {r : α} (h : chk c x = some r) : c ∧ x = some r := by
  unfold chk at h; split at h
  · exact ⟨by assumption, h⟩
  · cases h
theorem idx_elim {α β : Type} {l : List α} {i : Int} {f : α → Option β} {r : β} (h : idx l i f = some r) : ∃ x, 0 ≤ i ∧ i.toNat < l.length ∧ l[i.toNat]? = some x ∧ f x = some r := by
  unfold idx at h; split at h
  · split at h
    · rename_i x hx
      exact ⟨x, by assumption, (List.getElem?_eq_some_iff.1 hx).1, hx, h⟩
    · cases h
  · cases h
theorem head_of {α : Type} {l : List α} {x : α} (h : l[Int.toNat 0]? = some x) : l.head? = some x := by rw [List.head?_eq_getElem?]; exact h
theorem map_get {α β : Type} (f : α → β) {l : List α} {n : Nat} {x : α} (h : l[n]? = some x) : (l.map f)[n]? = some (f x) := by simp [h]
theorem get_of {α : Type} {l : List α} {n : Nat} {x : α} (h : l[n]? = some x) : l[n]'(List.getElem?_eq_some_iff.1 h).1 = x := (List.getElem?_eq_some_iff.1 h).2
theorem bnd1_elim {α γ : Type} {x : Option α} {f : α → Option γ} {r : γ} (h : bnd1 x f = some r) : ∃ a, x = some a ∧ f a = some r := by
  cases x with
  | none => cases h
  | some a => exact ⟨a, rfl, h⟩
theorem bnd2_elim {α β γ : Type} {x : Option (α × β)} {f : α → β → Option γ} {r : γ} (h : bnd2 x f = some r) : ∃ a b, x = some (a, b) ∧ f a b = some r := by
  cases x with
  | none => cases h
  | some a => exact ⟨_, _, rfl, h⟩
theorem bnd3_elim {α β δ γ : Type} {x : Option (α × β × δ)} {f : α → β → δ → Option γ} {r : γ} (h : bnd3 x f = some r) : ∃ a b c, x = some (a, b, c) ∧ f a b c = some r := by
  cases x with
  | none => cases h
  | some a => exact ⟨_, _, _, rfl, h⟩
theorem bnd4_elim {α β δ ε γ : Type} {x : Option (α × β × δ × ε)} {f : α → β → δ → ε → Option γ} {r : γ} (h : bnd4 x f = some r) : ∃ a b c d, x = some (a, b, c, d) ∧ f a b c d = some r := by
  cases x with
  | none => cases h
  | some a => exact ⟨_, _, _, _, rfl, h⟩
theorem bnd5_elim {α β δ ε ζ γ : Type} {x : Option (α × β × δ × ε × ζ)} {f : α → β → δ → ε → ζ → Option γ} {r : γ} (h : bnd5 x f = some r) : ∃ a b c d e, x = some (a, b, c, d, e) ∧ f a b c d e = some r := by
  cases x with
  | none => cases h
  | some a => exact ⟨_, _, _, _, _, rfl, h⟩
theorem bnd6_elim {α β δ ε ζ η γ : Type} {x : Option (α × β × δ × ε × ζ × η)} {f : α → β → δ → ε → ζ → η → Option γ} {r : γ} (h : bnd6 x f = some r) : ∃ a b c d e g, x = some (a, b, c, d, e, g) ∧ f a b c d e g = some r := by
  cases x with
  | none => cases h
  | some a => exact ⟨_, _, _, _, _, _, rfl, h⟩
theorem bnd7_elim {α β δ ε ζ η θ γ : Type} {x : Option (α × β × δ × ε × ζ × η × θ)} {f : α → β → δ → ε → ζ → η → θ → Option γ} {r : γ} (h : bnd7 x f = some r) : ∃ a b c d e g i, x = some (a, b, c, d, e, g, i) ∧ f a b c d e g i = some r := by
  cases x with
  | none => cases h
  | some a => exact ⟨_, _, _, _, _, _, _, rfl, h⟩
theorem bnd8_elim {α β δ ε ζ η θ κ γ : Type} {x : Option (α × β × δ × ε × ζ × η × θ × κ)} {f : α → β → δ → ε → ζ → η → θ → κ → Option γ} {r : γ} (h : bnd8 x f = some r) : ∃ a b c d e g i j, x = some (a, b, c, d, e, g, i, j) ∧ f a b c d e g i j = some r := by
  cases x with
  | none => cases h
  | some a => exact ⟨_, _, _, _, _, _, _, _, rfl, h⟩
def opt2 {α γ : Type} (x : Option α) (f : α → Option γ) (g : Option γ) : Option γ := match x with | some a => f a | none => g
theorem opt2_elim {α γ : Type} {x : Option α} {f : α → Option γ} {g : Option γ} {r : γ} (h : opt2 x f g = some r) : (∃ a, x = some a ∧ f a = some r) ∨ (x = none ∧ g = some r) := by
  unfold opt2 at h; split at h
  · exact .inl ⟨_, rfl, h⟩
  · exact .inr ⟨rfl, h⟩
theorem let1_elim {α γ : Type} {x : α} {f : α → Option γ} {r : γ} (h : let1 x f = some r) : ∃ a, x = a ∧ f a = some r := ⟨x, rfl, h⟩
theorem ite_t {α : Type} {c : Prop} [Decidable c] {x y : Option α} {r : α} (hc : c) (h : (if c then x else y) = some r) : x = some r := by rwa [if_pos hc] at h
theorem ite_f {α : Type} {c : Prop} [Decidable c] {x y : Option α} {r : α} (hc : ¬ c) (h : (if c then x else y) = some r) : y = some r := by rwa [if_neg hc] at h

/-- A list that stays, of anything. -/
abbrev sl {α : Type} (f : α → AV) (l : List α) : AV := .lst false false (l.map f)

/-- Objects handed over, as they stand and as they come back, told by lists. -/
def hasO (H : Heap) (ρ : Nat → Nat) : List Nat → List AObj → Prop
  | [], [] => True
  | j :: js, o :: os => H j = some (renO ρ o) ∧ hasO H ρ js os
  | _, _ => False
theorem hasO_spec {H : Heap} {ρ : Nat → Nat} : ∀ {σ : List Nat} {O : List AObj}, hasO H ρ σ O → ∀ i (h : i < O.length), H (nm σ i) = some (renO ρ O[i])
  | [], [], _, i, hi => absurd hi (by simp)
  | j :: js, o :: os, h, 0, _ => h.1
  | j :: js, o :: os, h, i + 1, hi => by
    have := hasO_spec h.2 i (by simpa using hi)
    simpa [nm] using this
  | [], _ :: _, h, _, _ => h.elim
  | _ :: _, [], h, _, _ => h.elim
def unch (W : List Nat) : List Nat → List AObj → List (Option AObj) → Prop
  | [], [], _ => True
  | j :: js, o :: os, o' :: os' => (j ∈ W ∨ o' = some o) ∧ unch W js os os'
  | _, _, _ => False
theorem unch_spec {W : List Nat} : ∀ {σ : List Nat} {O : List AObj} {O' : List (Option AObj)}, unch W σ O O' → ∀ i (h : i < O.length), nm σ i ∈ W ∨ nth O' i = some O[i]
  | [], [], _, _, i, hi => absurd hi (by simp)
  | j :: js, o :: os, o' :: os', h, 0, _ => h.1
  | j :: js, o :: os, o' :: os', h, i + 1, hi => by
    have := unch_spec h.2 i (by simpa using hi)
    simpa [nm, nth] using this
  | [], _ :: _, _, h, _, _ => h.elim
  | _ :: _, [], _, h, _, _ => h.elim
  | _ :: _, _ :: _, [], h, _, _ => h.elim
def matchO (H : Heap) : Nat → List (Option AObj) → Prop
  | _, [] => True
  | i, o :: os => H i = o ∧ matchO H (i + 1) os
theorem matchO_spec {H : Heap} : ∀ {O : List (Option AObj)} {j : Nat}, matchO H j O → ∀ i, i < O.length → H (j + i) = nth O i
  | [], _, _, i, hi => absurd hi (by simp)
  | o :: os, j, h, 0, _ => h.1
  | o :: os, j, h, i + 1, hi => by
    have := matchO_spec h.2 i (by simpa using hi)
    rw [show j + (i + 1) = j + 1 + i by omega, this]
    simp [nth]
theorem matchO_0 {H : Heap} {O : List (Option AObj)} (h : matchO H 0 O) : ∀ i, i < O.length → H i = nth O i := fun i hi => by simpa using matchO_spec h i hi
theorem Coe.fl {H : Heap} {σ : Nat → Nat} {nl fl : Bool} {xs ys : List AV} (h : xs = ys) : Coe H σ (.lst nl fl xs) (.lst false false ys) [] := h ▸ .flags
theorem Coe.l {H : Heap} {σ : Nat → Nat} {id es len : Nat} {full : Bool} {o : AObj} {cs xs : List AV} (ho : H id = some o) (hc : o.cs? = some cs) (hel : okEls es xs) (hn : noIdsL xs) (hl : xs.length = len) (hcs : flatA xs = cs) : Coe H σ (.slc id 0 es len full) (.lst false false xs) [id] := by
  cases Frz.l (id := id) (o := o) (full := full) (fl := false) (fun h => by cases h) hel hl hcs with
  | lst _ _ _ he _ => exact .lst ho hc hel hn hl he
theorem ne_of_lt {α : Type} {l : List α} {n : Nat} (h : n < l.length) : ¬ l = [] := by rintro rfl; simp at h
theorem take_flat {es : Nat} {xs : List AV} (h : okEls es xs) : flatA xs = ((flatA xs).drop 0).take (xs.length * es) := by
  rw [List.drop_zero, List.take_of_length_le]
  have : ∀ l : List AV, okEls es l → (flatA l).length = l.length * es := by
    intro l
    induction l with
    | nil => intro _; simp
    | cons x l ih =>
      intro hl
      rw [okEls_cons] at hl
      simp only [flatA_cons, List.length_append, ih hl.2, hl.1.2.1, List.length_cons, Nat.add_mul]; omega
  rw [this xs h]; exact Nat.le_refl _

section
variable {P : Program} {n : Nat} {c0 : Cx} {w0 : World} {Q : Post} {s : Nat → AV} {H : Heap} {N : Nat}

theorem aCall_l {f : FuncId} {args : List AV} {K : CK} {args0 : List AV} {O : List AObj} {r : AV} {O' : List (Option AObj)} (hF : FCall P f args0 O r O') (hcal : callable P f = true) (σ T1 W0 : List Nat) (hlen : σ.length = O.length)
    (hco : Coes H (nm σ) args args0 T1) (hO : hasO H (nm σ) σ O) (hnd : σ.Nodup) (hσN : ∀ j ∈ σ, j < N) (hT1 : ∀ j ∈ T1, j < N ∧ j ∉ σ)
    (hfr : T1 = [] ∨ (fresh r = true ∧ ∀ o, some o ∈ O' → freshO o = true)) (hW0 : ∀ j ∈ W0, j ∈ σ) (hun : unch W0 σ O O')
    (hk : K (ren (nm (σ ++ news N (O'.length - O.length))) r) (putO (nm (σ ++ news N (O'.length - O.length))) H (σ ++ news N (O'.length - O.length)) O') (N + (O'.length - O.length)) (σ ++ T1) (W0 ++ news N (O'.length - O.length))) : aCall P f args H N K :=
  ⟨_, _, _, _, _, fun o s g as ts caps hc ho hg ha => out_fcall hc g as ts ho f caps hg hcal hF σ T1 hlen (by rw [ha]; exact hco) (hasO_spec hO) hnd hσN hT1 hfr W0 hW0 (unch_spec hun), hk⟩

theorem aCall_f {f : FuncId} {args : List AV} {K : CK} {args0 : List AV} {O : List AObj} {r : AV} {O' : List (Option AObj)} (hF : FCall P f args0 O r O') (hcal : callable P f = true) (σ T1 W0 : List Nat) (hlen : σ.length = O.length)
    (hco : Coes H (nm σ) args args0 T1) (hO : ∀ i (h : i < O.length), H (nm σ i) = some (renO (nm σ) O[i])) (hnd : σ.Nodup) (hσN : ∀ j ∈ σ, j < N) (hT1 : ∀ j ∈ T1, j < N ∧ j ∉ σ)
    (hfr : T1 = [] ∨ (fresh r = true ∧ ∀ o, some o ∈ O' → freshO o = true)) (hW0 : ∀ j ∈ W0, j ∈ σ) (hun : ∀ i (h : i < O.length), nm σ i ∈ W0 ∨ nth O' i = some O[i])
    (hk : K (ren (nm (σ ++ news N (O'.length - O.length))) r) (putO (nm (σ ++ news N (O'.length - O.length))) H (σ ++ news N (O'.length - O.length)) O') (N + (O'.length - O.length)) (σ ++ T1) (W0 ++ news N (O'.length - O.length))) : aCall P f args H N K :=
  ⟨_, _, _, _, _, fun o s g as ts caps hc ho hg ha => out_fcall hc g as ts ho f caps hg hcal hF σ T1 hlen (by rw [ha]; exact hco) hO hnd hσN hT1 hfr W0 hW0 hun, hk⟩

/-- A call of a function that is handed no object. -/
theorem aCall_0 {f : FuncId} {args : List AV} {K : CK} {args0 : List AV} {r : AV} {O' : List (Option AObj)} (hF : FCall P f args0 [] r O') (hcal : callable P f = true) (T1 : List Nat)
    (hco : Coes H (nm []) args args0 T1) (hT1 : ∀ j ∈ T1, j < N) (hfr : T1 = [] ∨ (fresh r = true ∧ ∀ o, some o ∈ O' → freshO o = true))
    (hk : K (ren (nm (news N O'.length)) r) (putO (nm (news N O'.length)) H (news N O'.length) O') (N + O'.length) T1 (news N O'.length)) : aCall P f args H N K :=
  aCall_f hF hcal [] T1 [] rfl hco (fun i h => absurd h (by simp)) List.nodup_nil (by simp) (fun j h => ⟨hT1 j h, by simp⟩) hfr (by simp) (fun i h => absurd h (by simp)) (by simpa using hk)

theorem AW.condT {t : Nat} {x y : Code} (ht : decide (t < n) = true) (hb : s t = .bool true) (h : AW P n c0 w0 x Q s H N) : AW P n c0 w0 (.cond (.tmp t) x y) Q s H N :=
  AW.cond ht true hb (fun _ => h) (fun e => by cases e)
theorem AW.condF {t : Nat} {x y : Code} (ht : decide (t < n) = true) (hb : s t = .bool false) (h : AW P n c0 w0 y Q s H N) : AW P n c0 w0 (.cond (.tmp t) x y) Q s H N :=
  AW.cond ht false hb (fun e => by cases e) (fun _ => h)

/-- A loop whose head's states are a family, with so much fuel. -/
theorem AW.loopF {c : Code} {α : Type} (F : Nat → α → Prop) (L : α → List (Nat × AV)) (O : α → List (Nat × AObj)) (M : Nat) (k : Nat) (x0 : α) (h0 : F k x0) (h1 : ∀ p ∈ L x0, s p.1 = p.2) (h2 : ∀ p ∈ O x0, H p.1 = some p.2) (hN : N ≤ M)
    (round : ∀ k x, F k x → ∀ K : (Nat → AV) → Heap → Nat → Prop, (∀ s' H' N', Can n c0 w0 s' H' N' (fun a w => ∃ k' y, k' < k ∧ F k' y ∧ St n c0 w0 (mkS (L y)) (mkH (O y)) M a w) → K s' H' N') →
      AW P n c0 w0 c (Post.then K Q) (mkS (L x)) (mkH (O x)) M) : AW P n c0 w0 (.loop c) Q s H N := by
  classical
  intro a w hs
  let J : Nat → Act → World → Prop := fun k a w => ∃ x, F k x ∧ St n c0 w0 (mkS (L x)) (mkH (O x)) M a w
  have key : ∀ k a w, J k a w → (Code.loop c).wp P (Q.real n c0 w0) a w := by
    intro k0 a w hJ
    let μ : Act → World → Nat := fun a w => if h : ∃ k, J k a w then Classical.choose (least _ h) else 0
    have hμ : ∀ a w, (∃ k, J k a w) → J (μ a w) a w ∧ ∀ j, J j a w → μ a w ≤ j := by
      intro a w h
      have : μ a w = Classical.choose (least _ h) := by simp only [μ, h, dif_pos]
      rw [this]
      exact Classical.choose_spec (least _ h)
    refine wp_loop (fun a w => ∃ k, J k a w) μ ⟨k0, hJ⟩ ?_
    intro a w hk
    obtain ⟨x, hx, hst⟩ := (hμ a w hk).1
    refine wp_mono (round _ x hx (fun s' H' N' => Can n c0 w0 s' H' N' (fun a' w' => ∃ k' y, k' < μ a w ∧ F k' y ∧ St n c0 w0 (mkS (L y)) (mkH (O y)) M a' w')) (fun s' H' N' h => h) a w hst) ?_
    intro e a' w' ⟨s', H', N', q, st⟩
    cases e with
    | normal =>
      obtain ⟨k', y, k1, k2, k3⟩ := q a' w' st
      have hJy : J k' a' w' := ⟨y, k2, k3⟩
      refine ⟨⟨k', hJy⟩, ?_⟩
      have := (hμ a' w' ⟨_, hJy⟩).2 _ hJy
      omega
    | _ => exact ⟨s', H', N', q, st⟩
  exact key k a w ⟨x0, h0, hs.weak (L x0) (O x0) M h1 h2 hN⟩

/-- The state fits the loop's head once more. -/
theorem Can.next {α : Type} {F : Nat → α → Prop} {L : α → List (Nat × AV)} {O : α → List (Nat × AObj)} {M k k' : Nat} (y : α) (hk : k' < k) (hF : F k' y) (h1 : ∀ p ∈ L y, s p.1 = p.2) (h2 : ∀ p ∈ O y, H p.1 = some p.2) (hN : N ≤ M) :
    Can n c0 w0 s H N (fun a w => ∃ k' y, k' < k ∧ F k' y ∧ St n c0 w0 (mkS (L y)) (mkH (O y)) M a w) :=
  fun a w hs => ⟨k', y, hk, hF, hs.weak (L y) (O y) M h1 h2 hN⟩

/-- Two pieces of code, with a family of states between them. -/
theorem AW.midF {x y : Code} {α : Type} (F : α → Prop) (L : α → List (Nat × AV)) (O : α → List (Nat × AObj)) (M : Nat)
    (h1 : ∀ K : (Nat → AV) → Heap → Nat → Prop, (∀ s' H' N', Can n c0 w0 s' H' N' (fun a w => ∃ z, F z ∧ St n c0 w0 (mkS (L z)) (mkH (O z)) M a w) → K s' H' N') → AW P n c0 w0 x (Post.then K Q) s H N)
    (h2 : ∀ z, F z → AW P n c0 w0 y Q (mkS (L z)) (mkH (O z)) M) : AW P n c0 w0 (.seq x y) Q s H N := by
  intro a w hs
  refine wp_seq (wp_mono (h1 (fun s' H' N' => Can n c0 w0 s' H' N' (fun a w => ∃ z, F z ∧ St n c0 w0 (mkS (L z)) (mkH (O z)) M a w)) (fun _ _ _ h => h) a w hs) fun e a w ⟨s', H', N', q, st⟩ => ?_)
  cases e with
  | normal =>
    obtain ⟨z, k1, k2⟩ := q a w st
    exact h2 z k1 a w k2
  | _ => exact ⟨s', H', N', q, st⟩

theorem Can.join {α : Type} {F : α → Prop} {L : α → List (Nat × AV)} {O : α → List (Nat × AObj)} {M : Nat} (y : α) (hF : F y) (h1 : ∀ p ∈ L y, s p.1 = p.2) (h2 : ∀ p ∈ O y, H p.1 = some p.2) (hN : N ≤ M) :
    Can n c0 w0 s H N (fun a w => ∃ y, F y ∧ St n c0 w0 (mkS (L y)) (mkH (O y)) M a w) :=
  fun a w hs => ⟨y, hF, hs.weak (L y) (O y) M h1 h2 hN⟩

/-- A slice that came in: it is nil, or it is not. -/
theorem AW.nilSplit {x : Code} (t : Nat) (ht : decide (t < n) = true) {fl : Bool} {xs : List AV} (hs : s t = .lst false fl xs) (h1 : xs = [] → AW P n c0 w0 x Q (upd s t (.lst true fl [])) H N) (h2 : AW P n c0 w0 x Q (upd s t (.nn (.lst false fl xs))) H N) : AW P n c0 w0 x Q s H N := by
  intro a w ⟨cx, hr, hd, g, hu⟩
  have hv := hr.slot t (by simpa using ht)
  rw [hs] at hv
  have key : ∀ y, Rep cx y (a.tmps.getD t undef) → St n c0 w0 (upd s t y) H N a w := fun y hy =>
    ⟨cx, ⟨hr.hr, hr.size, fun t' ht' => by
      by_cases e : t' = t
      · subst e; rw [upd_same]; exact hy
      · rw [upd_ne _ _ e]; exact hr.slot t' ht'⟩, hd, g, hu⟩
  have hv2 := hv
  simp only [Rep] at hv2
  rcases hv2 with ⟨hx, hv2⟩ | ⟨_, ad, b, off, cap, es, vs, hv2, _⟩
  · exact h1 hx a w (key _ (by simp only [Rep]; exact .inl ⟨trivial, hv2⟩))
  · refine h2 a w (key _ ?_)
    rw [Rep]
    exact ⟨hv, ad, _, _, hv2⟩

/-- What follows the region, with the state by lists. -/
theorem AW.wk {x : Code} (l : List (Nat × AV)) (hl : List (Nat × AObj)) (N' : Nat) (h1 : ∀ p ∈ l, s p.1 = p.2) (h2 : ∀ p ∈ hl, H p.1 = some p.2) (hN : N ≤ N') (h : AW P n c0 w0 x Q (mkS l) (mkH hl) N') : AW P n c0 w0 x Q s H N := AW.weak l hl N' h1 h2 hN h
theorem AW.own' {x : Code} (t : Nat) (es : Nat) (fl : Bool) (hs : s t = .lst true fl []) (ht : decide (t < n) = true) (h : AW P n c0 w0 x Q (upd s t (.slc N 0 es 0 false)) (upd H N (some (.grow []))) (N + 1)) : AW P n c0 w0 x Q s H N := Can.own t es fl hs ht h
theorem AW.frz {x : Code} (id : Nat) {o : AObj} {cs : List AV} (ho : H id = some o) (hc : o.cs? = some cs) (l : List (Nat × AV)) (lo : List (Nat × AObj)) (hl : FrzS id o cs s l) (hlo : FrzH id o cs H lo)
    (h : AW P n c0 w0 x Q (updL s l) (updO (upd H id none) lo) N) : AW P n c0 w0 x Q s H N := Can.freeze id ho hc l lo hl hlo h
theorem AW.flg {x : Code} (l : List (Nat × AV)) (lo : List (Nat × AObj)) (hl : FlS s l) (hlo : FlH H lo) (hn : (lo.map (·.1)).Nodup) (h : AW P n c0 w0 x Q (updL s l) (updO H lo) N) : AW P n c0 w0 x Q s H N := Can.flg l lo hl hlo hn h
theorem AW.rnm {x : Code} {m : Nat} (h0 : IdsUsed c0 m) (ρ : List (Nat × Nat)) (l : List (Nat × AV)) (o : List (Nat × AObj)) (M : Nat)
    (hρ1 : (ρ.map (·.2)).Nodup) (hρ2 : ∀ p ∈ ρ, p.1 < M ∧ (p.1 < m → p.1 = p.2)) (hM : m ≤ M) (hk : o.map (·.1) = ρ.map (·.1))
    (h1 : ∀ p ∈ l, s p.1 = Abs.ren (lookD ρ) p.2 ∧ gd (fun i => (look ρ i).isSome = true) p.2)
    (h2 : ∀ p ∈ o, H (lookD ρ p.1) = some (renO (lookD ρ) p.2) ∧ gdO (fun i => (look ρ i).isSome = true) p.2)
    (h : AW P n c0 w0 x Q (mkS l) (mkH o) M) : AW P n c0 w0 x Q s H N := Can.ren h0 ρ l o M hρ1 hρ2 hM hk h1 h2 h
end

/-! ### what simp should know -/
attribute [simp] List.take_of_length_le
@[simp] theorem renO_cells (σ : Nat → Nat) (cs : List AV) : renO σ (.cells cs) = .cells (renL σ cs) := rfl
@[simp] theorem renO_grow (σ : Nat → Nat) (cs : List AV) : renO σ (.grow cs) = .grow (renL σ cs) := rfl
@[simp] theorem gdO_cells (S : Nat → Prop) (cs : List AV) : gdO S (.cells cs) = gdL S cs := rfl
@[simp] theorem gdO_grow (S : Nat → Prop) (cs : List AV) : gdO S (.grow cs) = gdL S cs := rfl
@[simp] theorem freshO_cells (cs : List AV) : freshO (.cells cs) = freshL cs := rfl
@[simp] theorem freshO_grow (cs : List AV) : freshO (.grow cs) = freshL cs := rfl
attribute [simp] ren renL gd gdL fresh freshL putO hasO unch matchO look lookD
@[simp] theorem nm_0 (a : Nat) (σ : List Nat) : nm (a :: σ) 0 = a := rfl
@[simp] theorem nm_s (a : Nat) (σ : List Nat) (i : Nat) : nm (a :: σ) (i + 1) = nm σ i := by simp [nm]
@[simp] theorem nm_1 (a b : Nat) (σ : List Nat) : nm (a :: b :: σ) 1 = b := rfl
@[simp] theorem nm_2 (a b c : Nat) (σ : List Nat) : nm (a :: b :: c :: σ) 2 = c := rfl
@[simp] theorem nm_3 (a b c d : Nat) (σ : List Nat) : nm (a :: b :: c :: d :: σ) 3 = d := rfl
@[simp] theorem nm_4 (a b c d e : Nat) (σ : List Nat) : nm (a :: b :: c :: d :: e :: σ) 4 = e := rfl
@[simp] theorem nth_0 (a : Option AObj) (σ : List (Option AObj)) : nth (a :: σ) 0 = a := rfl
@[simp] theorem nth_s (a : Option AObj) (σ : List (Option AObj)) (i : Nat) : nth (a :: σ) (i + 1) = nth σ i := by simp [nth]
@[simp] theorem nth_1 (a b : Option AObj) (σ : List (Option AObj)) : nth (a :: b :: σ) 1 = b := rfl
@[simp] theorem nth_2 (a b c : Option AObj) (σ : List (Option AObj)) : nth (a :: b :: c :: σ) 2 = c := rfl
@[simp] theorem nth_3 (a b c d : Option AObj) (σ : List (Option AObj)) : nth (a :: b :: c :: d :: σ) 3 = d := rfl
@[simp] theorem nth_4 (a b c d e : Option AObj) (σ : List (Option AObj)) : nth (a :: b :: c :: d :: e :: σ) 4 = e := rfl
@[simp] theorem nth_nil (i : Nat) : nth [] i = none := by simp [nth]
@[simp] theorem news_0 (N : Nat) : news N 0 = [] := rfl
@[simp] theorem news_1 (N : Nat) : news N 1 = [N] := rfl
@[simp] theorem news_2 (N : Nat) : news N 2 = [N, N + 1] := rfl
@[simp] theorem news_3 (N : Nat) : news N 3 = [N, N + 1, N + 2] := rfl
@[simp] theorem news_4 (N : Nat) : news N 4 = [N, N + 1, N + 2, N + 3] := rfl
/-- The bytes of a string, as numbers; and back. -/
def bI (b : ByteArray) : List Int := b.data.toList.map fun x => (x.toNat : Int)
def ofI (l : List Int) : ByteArray := ⟨(l.map fun n => UInt8.ofNat n.toNat).toArray⟩
@[simp] theorem bytes_bI (b : ByteArray) : bytes b.data.toList = (bI b).map (AV.int .u8) := by simp [bytes, bI]
@[simp] theorem allU8_ints (l : List Int) : allU8 (l.map (AV.int .u8)) = true := by
  induction l with
  | nil => rfl
  | cons x l ih => simpa [allU8] using ih
theorem map_toU8 (l : List Int) : (l.map (AV.int .u8)).map toU8 = l.map fun n => UInt8.ofNat n.toNat := by simp [toU8]
@[simp] theorem sOf_ints (l : List Int) : sOf (l.map (AV.int .u8)) = ofI l := by simp [sOf, ofI, toU8]
@[simp] theorem sOf_take (n : Nat) (l : List Int) : sOf ((l.map (AV.int .u8)).take n) = ofI (l.take n) := by rw [← List.map_take, sOf_ints]
@[simp] theorem sOf_drop (n : Nat) (l : List Int) : sOf ((l.map (AV.int .u8)).drop n) = ofI (l.drop n) := by rw [← List.map_drop, sOf_ints]
@[simp] theorem sOf_take_drop (n m : Nat) (l : List Int) : sOf (((l.map (AV.int .u8)).drop m).take n) = ofI ((l.drop m).take n) := by rw [← List.map_drop, ← List.map_take, sOf_ints]
@[simp] theorem sOf_drop_take (n m : Nat) (l : List Int) : sOf (((l.map (AV.int .u8)).take m).drop n) = ofI ((l.take m).drop n) := by rw [← List.map_take, ← List.map_drop, sOf_ints]
@[simp] theorem sOf_append (l m : List Int) : sOf (l.map (AV.int .u8) ++ m.map (AV.int .u8)) = ofI (l ++ m) := by rw [← List.map_append, sOf_ints]
@[simp] theorem bI_length (b : ByteArray) : (bI b).length = b.size := by simp [bI]
@[simp] theorem bI_get (b : ByteArray) (n : Nat) : (((b.data.toList[n]?).getD 0).toNat : Int) = ((bI b)[n]?).getD 0 := by
  simp only [bI, List.getElem?_map]
  cases b.data.toList[n]? <;> rfl
theorem idsInL_map {α : Type} (S : Nat → Prop) (f : α → AV) (l : List α) : idsInL S (l.map f) ↔ ∀ x ∈ l, idsIn S (f x) := by
  simp [idsInL_iff]
theorem ids_map_of {α : Type} {S : Nat → Prop} {f : α → AV} (h : ∀ x, idsIn S (f x)) (l : List α) : idsInL S (l.map f) := (idsInL_map S f l).2 fun x _ => h x
@[simp] theorem ids_ints (S : Nat → Prop) (k : IntKind) (l : List Int) : idsInL S (l.map (AV.int k)) ↔ True := iff_true_intro (ids_map_of (by simp) l)
@[simp] theorem ids_bools (S : Nat → Prop) (l : List Bool) : idsInL S (l.map AV.bool) ↔ True := iff_true_intro (ids_map_of (by simp) l)
@[simp] theorem ids_strs (S : Nat → Prop) (l : List ByteArray) : idsInL S (l.map AV.str) ↔ True := iff_true_intro (ids_map_of (by simp) l)
@[simp] theorem ids_sl {α : Type} (S : Nat → Prop) (f : α → AV) (l : List (List α)) : idsInL S (l.map (fun x => AV.lst false false (x.map f))) ↔ ∀ x ∈ l, idsInL S (x.map f) := by
  simp [idsInL_map]
@[simp] theorem flatA_bools (l : List Bool) : flatA (l.map AV.bool) = l.map AV.bool := by
  induction l with
  | nil => rfl
  | cons x l ih => simp [ih]
@[simp] theorem okEls_bools (l : List Bool) : okEls 1 (l.map AV.bool) ↔ True := iff_true_intro (okEls_iff.2 fun x hx => by
  simp only [List.mem_map] at hx
  obtain ⟨b, _, rfl⟩ := hx
  simp)
@[simp] theorem flatA_sl {α : Type} (f : α → AV) (l : List (List α)) : flatA (l.map (fun x => AV.lst false false (x.map f))) = l.map (fun x => AV.lst false false (x.map f)) := by
  induction l with
  | nil => rfl
  | cons x l ih => simp [ih]
@[simp] theorem okEls_sl {α : Type} (f : α → AV) (l : List (List α)) : okEls 1 (l.map (fun x => AV.lst false false (x.map f))) ↔ True := iff_true_intro (okEls_iff.2 fun x hx => by
  simp only [List.mem_map] at hx
  obtain ⟨b, _, rfl⟩ := hx
  simp)
theorem gdL_map {α : Type} (S : Nat → Prop) (f : α → AV) (l : List α) : gdL S (l.map f) ↔ ∀ x ∈ l, gd S (f x) := by
  induction l with
  | nil => simp
  | cons x l ih => simp [ih]
theorem renL_map {α : Type} (σ : Nat → Nat) (f : α → AV) (h : ∀ x, ren σ (f x) = f x) (l : List α) : renL σ (l.map f) = l.map f := by
  induction l with
  | nil => simp
  | cons x l ih => simp [ih, h]
theorem freshL_map {α : Type} (f : α → AV) (h : ∀ x, fresh (f x) = true) (l : List α) : freshL (l.map f) = true := by
  induction l with
  | nil => simp
  | cons x l ih => simp [ih, h]
@[simp] theorem gdL_ints (S : Nat → Prop) (k : IntKind) (l : List Int) : gdL S (l.map (AV.int k)) ↔ True := by simp [gdL_map]
@[simp] theorem gdL_bools (S : Nat → Prop) (l : List Bool) : gdL S (l.map AV.bool) ↔ True := by simp [gdL_map]
@[simp] theorem gdL_strs (S : Nat → Prop) (l : List ByteArray) : gdL S (l.map AV.str) ↔ True := by simp [gdL_map]
@[simp] theorem renL_ints (σ : Nat → Nat) (k : IntKind) (l : List Int) : renL σ (l.map (AV.int k)) = l.map (AV.int k) := renL_map _ _ (by simp) _
@[simp] theorem renL_bools (σ : Nat → Nat) (l : List Bool) : renL σ (l.map AV.bool) = l.map AV.bool := renL_map _ _ (by simp) _
@[simp] theorem renL_strs (σ : Nat → Nat) (l : List ByteArray) : renL σ (l.map AV.str) = l.map AV.str := renL_map _ _ (by simp) _
@[simp] theorem freshL_ints (k : IntKind) (l : List Int) : freshL (l.map (AV.int k)) = true := freshL_map _ (by simp) _
@[simp] theorem freshL_bools (l : List Bool) : freshL (l.map AV.bool) = true := freshL_map _ (by simp) _
@[simp] theorem freshL_strs (l : List ByteArray) : freshL (l.map AV.str) = true := freshL_map _ (by simp) _
@[simp] theorem renL_append (σ : Nat → Nat) (a b : List AV) : renL σ (a ++ b) = renL σ a ++ renL σ b := by
  induction a with
  | nil => simp
  | cons x l ih => simp [ih]
@[simp] theorem gdL_append (S : Nat → Prop) (a b : List AV) : gdL S (a ++ b) ↔ gdL S a ∧ gdL S b := by
  induction a with
  | nil => simp
  | cons x l ih => simp [ih, and_assoc]
@[simp] theorem freshL_append (a b : List AV) : freshL (a ++ b) = (freshL a && freshL b) := by
  induction a with
  | nil => simp
  | cons x l ih => simp [ih, Bool.and_assoc]
@[simp] theorem idsInL_append (S : Nat → Prop) (a b : List AV) : idsInL S (a ++ b) ↔ idsInL S a ∧ idsInL S b := by
  induction a with
  | nil => simp
  | cons x l ih => simp [ih, and_assoc]
theorem renL_eq (σ : Nat → Nat) (l : List AV) : renL σ l = l.map (ren σ) := by
  induction l with
  | nil => rfl
  | cons x l ih => simp [ih]
theorem gdL_iff (S : Nat → Prop) (l : List AV) : gdL S l ↔ ∀ x ∈ l, gd S x := by
  induction l with
  | nil => simp
  | cons x l ih => simp [ih]
theorem freshL_iff (l : List AV) : freshL l = l.all fresh := by
  induction l with
  | nil => rfl
  | cons x l ih => simp [ih]
@[simp] theorem renL_take (σ : Nat → Nat) (n : Nat) (l : List AV) : renL σ (l.take n) = (renL σ l).take n := by simp [renL_eq, List.map_take]
@[simp] theorem renL_drop (σ : Nat → Nat) (n : Nat) (l : List AV) : renL σ (l.drop n) = (renL σ l).drop n := by simp [renL_eq, List.map_drop]
@[simp] theorem renL_set (σ : Nat → Nat) (n : Nat) (x : AV) (l : List AV) : renL σ (l.set n x) = (renL σ l).set n (ren σ x) := by simp [renL_eq, List.map_set]
@[simp] theorem renL_replicate (σ : Nat → Nat) (n : Nat) (x : AV) : renL σ (List.replicate n x) = List.replicate n (ren σ x) := by simp [renL_eq]
theorem gdL_take {S : Nat → Prop} {n : Nat} {l : List AV} (h : gdL S l) : gdL S (l.take n) := (gdL_iff _ _).2 fun x hx => (gdL_iff _ _).1 h x (List.mem_of_mem_take hx)
theorem gdL_drop {S : Nat → Prop} {n : Nat} {l : List AV} (h : gdL S l) : gdL S (l.drop n) := (gdL_iff _ _).2 fun x hx => (gdL_iff _ _).1 h x (List.mem_of_mem_drop hx)
theorem gdL_set {S : Nat → Prop} {n : Nat} {x : AV} {l : List AV} (h : gdL S l) (hx : gd S x) : gdL S (l.set n x) := (gdL_iff _ _).2 fun y hy => by
  rcases List.mem_or_eq_of_mem_set hy with hy | rfl
  · exact (gdL_iff _ _).1 h y hy
  · exact hx
@[simp] theorem gdL_take_ints (S : Nat → Prop) (n : Nat) (k : IntKind) (l : List Int) : gdL S ((l.map (AV.int k)).take n) ↔ True := iff_true_intro (gdL_take (by simp))
@[simp] theorem gdL_drop_ints (S : Nat → Prop) (n : Nat) (k : IntKind) (l : List Int) : gdL S ((l.map (AV.int k)).drop n) ↔ True := iff_true_intro (gdL_drop (by simp))
@[simp] theorem gdL_set_ints (S : Nat → Prop) (n : Nat) (k : IntKind) (x : Int) (l : List Int) : gdL S ((l.map (AV.int k)).set n (AV.int k x)) ↔ True := iff_true_intro (gdL_set (by simp) (by simp))
@[simp] theorem gdL_set_bools (S : Nat → Prop) (n : Nat) (x : Bool) (l : List Bool) : gdL S ((l.map AV.bool).set n (AV.bool x)) ↔ True := iff_true_intro (gdL_set (by simp) (by simp))
@[simp] theorem gdL_replicate_int (S : Nat → Prop) (n : Nat) (k : IntKind) (x : Int) : gdL S (List.replicate n (AV.int k x)) ↔ True := iff_true_intro ((gdL_iff _ _).2 fun y hy => by rw [List.eq_of_mem_replicate hy]; simp)
@[simp] theorem gdL_replicate_bool (S : Nat → Prop) (n : Nat) (x : Bool) : gdL S (List.replicate n (AV.bool x)) ↔ True := iff_true_intro ((gdL_iff _ _).2 fun y hy => by rw [List.eq_of_mem_replicate hy]; simp)
theorem aggEq_map {α : Type} [BEq α] (f : α → AV) (h : ∀ x y, scEq (f x) (f y) = (x == y)) : ∀ (l m : List α), aggEq (l.map f) (m.map f) = (l == m)
  | [], [] => rfl
  | [], _ :: _ => rfl
  | _ :: _, [] => rfl
  | x :: l, y :: m => by simp [aggEq, h, aggEq_map f h l m]
@[simp] theorem aggEq_bools (l m : List Bool) : aggEq (l.map AV.bool) (m.map AV.bool) = (l == m) := aggEq_map _ (fun x y => rfl) l m
@[simp] theorem aggEq_ints (k : IntKind) (l m : List Int) : aggEq (l.map (AV.int k)) (m.map (AV.int k)) = (l == m) := aggEq_map _ (fun x y => rfl) l m
@[simp] theorem aggEq_bools' (l : List Bool) (n : Nat) (b : Bool) : aggEq (l.map AV.bool) (List.replicate n (AV.bool b)) = (l == List.replicate n b) := by rw [← aggEq_bools]; simp
def toB : AV → Bool
  | .bool b => b
  | _ => false
def isB : AV → Bool
  | .bool _ => true
  | _ => false
def toI : AV → Int
  | .int _ n => n
  | _ => 0
def isI : AV → Bool
  | .int _ _ => true
  | _ => false
theorem unB : ∀ (ys : List AV), ys.all isB = true → ys = (ys.map toB).map AV.bool
  | [], _ => rfl
  | y :: ys, h => by
    simp only [List.all_cons, Bool.and_eq_true] at h
    have ih := unB ys h.2
    cases y <;> simp [isB] at h
    simp only [List.map_cons, toB]
    rw [← ih]
theorem aggEq_lb (l : List Bool) (ys : List AV) (h : ys.all isB = true) : aggEq (l.map AV.bool) ys = (l == ys.map toB) := by
  rw [← aggEq_bools, ← unB ys h]
theorem ne_of_len {α : Type} {l : List α} {n : Nat} (h : l.length = n) (hn : 0 < n) : ¬ l = [] := by rintro rfl; simp at h; omega
@[simp] theorem aggEq_consb (l : List Bool) (y : Bool) (ys : List AV) (h : ys.all isB = true) : aggEq (l.map AV.bool) (.bool y :: ys) = (l == y :: ys.map toB) := by
  rw [aggEq_lb _ _ (by rw [List.all_cons, h]; rfl)]; rfl
@[simp] theorem setR_one (cs : List AV) (off : Nat) (x : AV) : setR cs off [x] = cs.set off x := rfl
@[simp] theorem setR_two (cs : List AV) (off : Nat) (x y : AV) (zs : List AV) : setR cs off (x :: y :: zs) = cs.take off ++ (x :: y :: zs) ++ cs.drop (off + (zs.length + 2)) := rfl
@[simp] theorem setR_map {α : Type} (f : α → AV) (l : List α) (cs : List AV) (h : l.length = cs.length) : setR cs 0 (l.map f) = l.map f := by
  rw [setR_eq _ _ _ (by simp [h])]
  simp [h]
attribute [simp] toB isB IntKind.bits IntKind.signed
attribute [simp] maxV minV
@[simp] theorem not_bne' {α : Type} [BEq α] (a b : α) : (!(a != b)) = (a == b) := by simp [bne]
@[simp] theorem sOf_replicate (n : Nat) (x : Int) : sOf (List.replicate n (.int .u8 x)) = ofI (List.replicate n x) := by simp [sOf, ofI, toU8]
@[simp] theorem allU8_replicate (n : Nat) (x : Int) : allU8 (List.replicate n (.int .u8 x)) = true := by
  induction n with
  | zero => rfl
  | succ n ih => exact ih
@[simp] theorem allU8_nil : allU8 [] = true := rfl
@[simp] theorem allU8_cons (n : Int) (l : List AV) : allU8 (.int .u8 n :: l) = allU8 l := rfl
attribute [simp] arrOk SKind.has strOk kindsHave
@[simp] theorem aggEq_nil : aggEq [] [] = true := rfl
@[simp] theorem aggEq_cons (x y : AV) (xs ys : List AV) : aggEq (x :: xs) (y :: ys) = (scEq x y && aggEq xs ys) := rfl
@[simp] theorem scEq_int (k k' : IntKind) (a b : Int) : scEq (.int k a) (.int k' b) = (a == b) := rfl
@[simp] theorem scEq_bool (a b : Bool) : scEq (.bool a) (.bool b) = (a == b) := rfl
@[simp] theorem scEq_str (a b : ByteArray) : scEq (.str a) (.str b) = strEq a b := rfl
theorem allU8_iff (l : List AV) : allU8 l = true ↔ ∀ x ∈ l, ∃ n, x = .int .u8 n := by
  induction l with
  | nil => simp [allU8]
  | cons x l ih =>
    constructor
    · exact fun h => allU8_mem h
    · intro h
      obtain ⟨n, rfl⟩ := h x (by simp)
      simp only [allU8]
      exact ih.2 fun y hy => h y (by simp [hy])
@[simp] theorem allU8_take_ints (n : Nat) (l : List Int) : allU8 ((l.map (AV.int .u8)).take n) = true := by rw [← List.map_take, allU8_ints]
@[simp] theorem allU8_drop_ints (n : Nat) (l : List Int) : allU8 ((l.map (AV.int .u8)).drop n) = true := by rw [← List.map_drop, allU8_ints]
@[simp] theorem allU8_take_drop (n m : Nat) (l : List Int) : allU8 (((l.map (AV.int .u8)).drop m).take n) = true := by rw [← List.map_drop, ← List.map_take, allU8_ints]
@[simp] theorem allU8_drop_take (n m : Nat) (l : List Int) : allU8 (((l.map (AV.int .u8)).take m).drop n) = true := by rw [← List.map_take, ← List.map_drop, allU8_ints]
@[simp] theorem allU8_append (a b : List AV) : allU8 (a ++ b) = (allU8 a && allU8 b) := by
  rw [Bool.eq_iff_iff]
  simp only [Bool.and_eq_true, allU8_iff, List.mem_append]
  exact ⟨fun h => ⟨fun x hx => h x (.inl hx), fun x hx => h x (.inr hx)⟩, fun h x hx => hx.elim (h.1 x) (h.2 x)⟩
theorem okEls_of_mem {es : Nat} {a b : List AV} (h : ∀ x ∈ a, x ∈ b) (hb : okEls es b) : okEls es a := okEls_iff.2 fun x hx => okEls_iff.1 hb x (h x hx)
theorem idsInL_of_mem {S : Nat → Prop} {a b : List AV} (h : ∀ x ∈ a, x ∈ b) (hb : idsInL S b) : idsInL S a := idsInL_iff.2 fun x hx => idsInL_iff.1 hb x (h x hx)
@[simp] theorem okEls_take_map {α : Type} {es n : Nat} {f : α → AV} {l : List α} (h : okEls es (l.map f)) : okEls es ((l.map f).take n) := h.take n
@[simp] theorem okEls_drop_map {α : Type} {es n : Nat} {f : α → AV} {l : List α} (h : okEls es (l.map f)) : okEls es ((l.map f).drop n) := h.drop n
@[simp] theorem okEls_drop_take_map {α : Type} {es n m : Nat} {f : α → AV} {l : List α} (h : okEls es (l.map f)) : okEls es (((l.map f).take m).drop n) := (h.take m).drop n
@[simp] theorem okEls_take_drop_map {α : Type} {es n m : Nat} {f : α → AV} {l : List α} (h : okEls es (l.map f)) : okEls es (((l.map f).drop m).take n) := (h.drop m).take n
@[simp] theorem ids_take_map {α : Type} {S : Nat → Prop} {n : Nat} {f : α → AV} {l : List α} (h : idsInL S (l.map f)) : idsInL S ((l.map f).take n) := idsInL_of_mem (fun _ => List.mem_of_mem_take) h
@[simp] theorem ids_drop_map {α : Type} {S : Nat → Prop} {n : Nat} {f : α → AV} {l : List α} (h : idsInL S (l.map f)) : idsInL S ((l.map f).drop n) := idsInL_of_mem (fun _ => List.mem_of_mem_drop) h
@[simp] theorem ids_take_drop_map {α : Type} {S : Nat → Prop} {n m : Nat} {f : α → AV} {l : List α} (h : idsInL S (l.map f)) : idsInL S (((l.map f).drop m).take n) := idsInL_of_mem (fun _ h => List.mem_of_mem_drop (List.mem_of_mem_take h)) h
@[simp] theorem ids_drop_take_map {α : Type} {S : Nat → Prop} {n m : Nat} {f : α → AV} {l : List α} (h : idsInL S (l.map f)) : idsInL S (((l.map f).take m).drop n) := idsInL_of_mem (fun _ h => List.mem_of_mem_take (List.mem_of_mem_drop h)) h
@[simp] theorem flatA_take_ints (n : Nat) (k : IntKind) (l : List Int) : flatA ((l.map (AV.int k)).take n) = (l.map (AV.int k)).take n := by rw [← List.map_take, flatA_ints']
@[simp] theorem flatA_drop_ints (n : Nat) (k : IntKind) (l : List Int) : flatA ((l.map (AV.int k)).drop n) = (l.map (AV.int k)).drop n := by rw [← List.map_drop, flatA_ints']
@[simp] theorem flatA_drop_take_ints (n m : Nat) (k : IntKind) (l : List Int) : flatA (((l.map (AV.int k)).take m).drop n) = ((l.map (AV.int k)).take m).drop n := by rw [← List.map_take, ← List.map_drop, flatA_ints']
@[simp] theorem flatA_take_drop_ints (n m : Nat) (k : IntKind) (l : List Int) : flatA (((l.map (AV.int k)).drop m).take n) = ((l.map (AV.int k)).drop m).take n := by rw [← List.map_drop, ← List.map_take, flatA_ints']
@[simp] theorem flatA_set_ints (n : Nat) (k : IntKind) (x : Int) (l : List Int) : flatA ((l.map (AV.int k)).set n (AV.int k x)) = (l.map (AV.int k)).set n (AV.int k x) := by rw [← List.map_set, flatA_ints']
@[simp] theorem okEls_set_ints (n : Nat) (k : IntKind) (x : Int) (l : List Int) : okEls 1 ((l.map (AV.int k)).set n (AV.int k x)) := by rw [← List.map_set]; exact (okEls_ints' k _).2 trivial
@[simp] theorem ids_set_ints (S : Nat → Prop) (n : Nat) (k : IntKind) (x : Int) (l : List Int) : idsInL S ((l.map (AV.int k)).set n (AV.int k x)) := by rw [← List.map_set]; exact (ids_ints S k _).2 trivial
@[simp] theorem flatA_replicate_int (n : Nat) (k : IntKind) (x : Int) : flatA (List.replicate n (AV.int k x)) = List.replicate n (AV.int k x) := by rw [← List.map_replicate, flatA_ints']
@[simp] theorem okEls_replicate_int (n : Nat) (k : IntKind) (x : Int) : okEls 1 (List.replicate n (AV.int k x)) := by rw [← List.map_replicate]; exact (okEls_ints' k _).2 trivial
@[simp] theorem ids_replicate_int (S : Nat → Prop) (n : Nat) (k : IntKind) (x : Int) : idsInL S (List.replicate n (AV.int k x)) := by rw [← List.map_replicate]; exact (ids_ints S k _).2 trivial
@[simp] theorem flatA_replicate_bool (n : Nat) (x : Bool) : flatA (List.replicate n (AV.bool x)) = List.replicate n (AV.bool x) := by rw [← List.map_replicate, flatA_bools]
@[simp] theorem okEls_replicate_bool (n : Nat) (x : Bool) : okEls 1 (List.replicate n (AV.bool x)) := by rw [← List.map_replicate]; exact (okEls_bools _).2 trivial
theorem eqb_t {α : Type} [BEq α] [LawfulBEq α] {a b : α} (h : a = b) : (a == b) = true := beq_iff_eq.2 h
theorem eqb_f {α : Type} [BEq α] [LawfulBEq α] {a b : α} (h : ¬ a = b) : (a == b) = false := beq_eq_false_iff_ne.2 h
theorem neb_t {α : Type} [BEq α] [LawfulBEq α] {a b : α} (h : ¬ a = b) : (a != b) = true := by simp [bne, eqb_f h]
theorem neb_f {α : Type} [BEq α] [LawfulBEq α] {a b : α} (h : a = b) : (a != b) = false := by simp [bne, h]
@[simp] theorem ids_take {S : Nat → Prop} {n : Nat} {l : List AV} (h : idsInL S l = True) : idsInL S (l.take n) = True := eq_true (idsInL_of_mem (fun _ => List.mem_of_mem_take) (of_eq_true h))
@[simp] theorem ids_drop {S : Nat → Prop} {n : Nat} {l : List AV} (h : idsInL S l = True) : idsInL S (l.drop n) = True := eq_true (idsInL_of_mem (fun _ => List.mem_of_mem_drop) (of_eq_true h))
@[simp] theorem okEls_take' {es n : Nat} {l : List AV} (h : okEls es l = True) : okEls es (l.take n) = True := eq_true (okEls.take (of_eq_true h) n)
@[simp] theorem okEls_drop' {es n : Nat} {l : List AV} (h : okEls es l = True) : okEls es (l.drop n) = True := eq_true (okEls.drop (of_eq_true h) n)
@[simp] theorem gdL_take' {S : Nat → Prop} {n : Nat} {l : List AV} (h : gdL S l = True) : gdL S (l.take n) = True := eq_true (gdL_take (of_eq_true h))
@[simp] theorem gdL_drop' {S : Nat → Prop} {n : Nat} {l : List AV} (h : gdL S l = True) : gdL S (l.drop n) = True := eq_true (gdL_drop (of_eq_true h))
theorem flatA_one {l : List AV} (h : l.all AV.one = true) : flatA l = l := by
  induction l with
  | nil => rfl
  | cons x l ih =>
    simp only [List.all_cons, Bool.and_eq_true] at h
    have h1 : x.cells = [x] := by cases x <;> simp_all [AV.cells, AV.one]
    rw [flatA_cons, h1, ih h.2]; rfl
@[simp] theorem all_one_ints (k : IntKind) (l : List Int) : (l.map (AV.int k)).all AV.one = true := by simp [List.all_map]
@[simp] theorem all_one_bools (l : List Bool) : (l.map AV.bool).all AV.one = true := by simp [List.all_map]
@[simp] theorem all_one_strs (l : List ByteArray) : (l.map AV.str).all AV.one = true := by simp [List.all_map]
@[simp] theorem all_one_sl {α : Type} (f : α → AV) (l : List (List α)) : (l.map (fun x => AV.lst false false (x.map f))).all AV.one = true := by simp [List.all_map]
theorem all_take {l : List AV} {n : Nat} (h : l.all AV.one = true) : (l.take n).all AV.one = true := List.all_eq_true.2 fun x hx => List.all_eq_true.1 h x (List.mem_of_mem_take hx)
theorem all_drop {l : List AV} {n : Nat} (h : l.all AV.one = true) : (l.drop n).all AV.one = true := List.all_eq_true.2 fun x hx => List.all_eq_true.1 h x (List.mem_of_mem_drop hx)
@[simp] theorem all_take' {l : List AV} {n : Nat} (h : (l.all AV.one) = true) : (l.take n).all AV.one = true := all_take h
@[simp] theorem all_drop' {l : List AV} {n : Nat} (h : (l.all AV.one) = true) : (l.drop n).all AV.one = true := all_drop h
@[simp] theorem flatA_take' {n : Nat} {l : List AV} (h : l.all AV.one = true) : flatA (l.take n) = l.take n := flatA_one (all_take h)
@[simp] theorem flatA_drop' {n : Nat} {l : List AV} (h : l.all AV.one = true) : flatA (l.drop n) = l.drop n := flatA_one (all_drop h)
/-! ### maps as lists of pairs -/
def mgI {α β : Type} [BEq α] (l : List (α × β)) (k : α) : Option Nat := l.findIdx? fun p => k == p.1
def mget {α β : Type} [BEq α] (l : List (α × β)) (k : α) : Option β := (mgI l k).bind fun j => l[j]?.map (·.2)
def mput {α β : Type} [BEq α] (l : List (α × β)) (k : α) (v : β) : List (α × β) :=
  match mgI l k with
  | some j => l.set j (k, v)
  | none => l ++ [(k, v)]
def mpA {α β : Type} (f : α → AV) (g : β → AV) (l : List (α × β)) : List (AV × AV) := l.map fun p => (f p.1, g p.2)
@[simp] theorem mpA_nil {α β : Type} (f : α → AV) (g : β → AV) : mpA f g [] = [] := rfl
@[simp] theorem mpA_has {β : Type} (k : IntKind) (g : β → AV) (l : List (Int × β)) : ((mpA (.int k) g l).all fun p => (SKind.int k).has p.1) = true := by simp [mpA]
@[simp] theorem mpA_has_s {β : Type} (g : β → AV) (l : List (ByteArray × β)) : ((mpA .str g l).all fun p => SKind.str.has p.1) = true := by simp [mpA]
theorem mpIdx_mpA {β : Type} (k k' : IntKind) (g : β → AV) (l : List (Int × β)) (i : Int) : mpIdx (mpA (.int k) g l) (.int k' i) = mgI l i := by
  unfold mpIdx mgI mpA
  rw [List.findIdx?_map]; rfl
@[simp] theorem mpGet_mpA {β : Type} (k k' : IntKind) (g : β → AV) (l : List (Int × β)) (i : Int) : mpGet (mpA (.int k) g l) (.int k' i) = (mget l i).map g := by
  unfold mpGet mget
  rw [mpIdx_mpA]
  cases mgI l i with
  | none => rfl
  | some j => simp [mpA, Function.comp_def]
@[simp] theorem mpA_put {β : Type} (k : IntKind) (g : β → AV) (l : List (Int × β)) (i : Int) (v : β) : mpA (.int k) g (mput l i v) = mpPut (mpA (.int k) g l) (.int k i) (g v) := by
  unfold mput mpPut
  rw [mpIdx_mpA]
  cases mgI l i with
  | none => simp [mpA]
  | some j => simp [mpA]
@[simp] theorem gdO_mpA {α β : Type} (S : Nat → Prop) (f : α → AV) (g : β → AV) (l : List (α × β)) (hf : ∀ x, gd S (f x)) (hg : ∀ x, gd S (g x)) : gdO S (.mp (mpA f g l)) ↔ True := by
  refine iff_true_intro ?_
  simp only [gdO, mpA]
  intro p hp
  obtain ⟨q, _, rfl⟩ := List.mem_map.1 hp
  exact ⟨hf _, hg _⟩
@[simp] theorem renO_mpA {α β : Type} (σ : Nat → Nat) (f : α → AV) (g : β → AV) (l : List (α × β)) (hf : ∀ x, ren σ (f x) = f x) (hg : ∀ x, ren σ (g x) = g x) : renO σ (.mp (mpA f g l)) = .mp (mpA f g l) := by
  simp [renO, mpA, hf, hg]
@[simp] theorem freshO_mpA {α β : Type} (f : α → AV) (g : β → AV) (l : List (α × β)) (hf : ∀ x, fresh (f x) = true) (hg : ∀ x, fresh (g x) = true) : freshO (.mp (mpA f g l)) = true := by
  simp only [freshO, mpA, List.all_eq_true]
  intro p hp
  obtain ⟨q, _, rfl⟩ := List.mem_map.1 hp
  simp [hf, hg]

/-! ### elements of lists of structs of one's own -/
theorem flat_len {α : Type} {F : α → AV} {es : Nat} (hF : ∀ x, (F x).cells.length = es) (l : List α) : (flatA (l.map F)).length = l.length * es := by
  induction l with
  | nil => simp
  | cons x l ih => rw [List.map_cons, flatA_cons, List.length_append, hF, ih, List.length_cons, Nat.succ_mul, Nat.add_comm]
theorem flat_ne {α : Type} {F : α → AV} {es : Nat} (hF : ∀ x, (F x).cells.length = es) (he : 0 < es) {l : List α} {i : Nat} (h : i < l.length) : ¬ flatA (l.map F) = [] := by
  intro e
  have := flat_len hF l
  rw [e] at this
  simp only [List.length_nil] at this
  have h2 : 0 < l.length * es := Nat.mul_pos (by omega) he
  omega
theorem flat_split {α : Type} {F : α → AV} {l : List α} {i : Nat} {x : α} (h : l[i]? = some x) : flatA (l.map F) = flatA ((l.take i).map F) ++ (F x).cells ++ flatA ((l.drop (i + 1)).map F) := by
  obtain ⟨hi, rfl⟩ := List.getElem?_eq_some_iff.1 h
  conv => lhs; rw [← List.take_append_drop i l, List.drop_eq_getElem_cons hi]
  rw [List.map_append, List.map_cons, flatA_app, flatA_cons, List.append_assoc]
theorem flat_dropd {α : Type} {F : α → AV} {es : Nat} (hF : ∀ x, (F x).cells.length = es) {l : List α} {i : Nat} {x : α} (h : l[i]? = some x) (d : Nat) (hd : decide (d < es) = true) :
    (flatA (l.map F)).drop (i * es + d) = (F x).cells.drop d ++ flatA ((l.drop (i + 1)).map F) := by
  have hi := (List.getElem?_eq_some_iff.1 h).1
  have hA : (flatA ((l.take i).map F)).length = i * es := by rw [flat_len hF, List.length_take, Nat.min_eq_left (by omega)]
  have hd' : d < es := of_decide_eq_true hd
  rw [flat_split h, List.append_assoc, List.drop_append, hA, List.drop_of_length_le (by omega), List.nil_append, show i * es + d - i * es = d by omega, List.drop_append_of_le_length (by rw [hF]; omega)]
theorem set_get {α : Type} {l : List α} {i : Nat} {x x' : α} (h : l[i]? = some x) : (l.set i x')[i]? = some x' := by
  have := (List.getElem?_eq_some_iff.1 h).1
  simp [this]
theorem flat_set {α : Type} {F : α → AV} {es : Nat} (hF : ∀ x, (F x).cells.length = es) {l : List α} {i : Nat} {x x' : α} {d : Nat} {zs : List AV} (h : l[i]? = some x) (hz : setR (F x).cells d zs = (F x').cells) (hd : d + zs.length ≤ (F x).cells.length) :
    setR (flatA (l.map F)) (i * es + d) zs = flatA ((l.set i x').map F) := by
  have hi := (List.getElem?_eq_some_iff.1 h).1
  have hA : (flatA ((l.take i).map F)).length = i * es := by rw [flat_len hF, List.length_take, Nat.min_eq_left (by omega)]
  have hC := hF x
  have hle : i * es + d + zs.length ≤ (flatA (l.map F)).length := by
    rw [flat_split h, List.length_append, List.length_append, hA]; omega
  rw [setR_eq _ _ _ hd] at hz
  have e1 : (l.set i x').take i = l.take i := by rw [List.take_set]; exact List.set_eq_of_length_le (by simp; omega)
  have e2 : (l.set i x').drop (i + 1) = l.drop (i + 1) := by rw [List.drop_set, if_pos (by omega)]
  have hs : flatA (l.map F) = flatA ((l.take i).map F) ++ ((F x).cells ++ flatA ((l.drop (i + 1)).map F)) := by rw [flat_split h, List.append_assoc]
  rw [setR_eq _ _ _ hle, flat_split (set_get (x' := x') h), e1, e2, ← hz, hs]
  generalize flatA ((l.take i).map F) = A at hA ⊢
  generalize flatA ((l.drop (i + 1)).map F) = B
  generalize (F x).cells = C at hd ⊢
  have e3 : (A ++ (C ++ B)).take (i * es + d) = A ++ C.take d := by
    rw [List.take_append, hA, List.take_of_length_le (by omega), show i * es + d - i * es = d by omega, List.take_append_of_le_length (by omega)]
  have e4 : (A ++ (C ++ B)).drop (i * es + d + zs.length) = C.drop (d + zs.length) ++ B := by
    rw [List.drop_append, hA, List.drop_of_length_le (by omega), List.nil_append, show i * es + d + zs.length - i * es = d + zs.length by omega, List.drop_append_of_le_length (by omega)]
  rw [e3, e4]
  simp only [List.append_assoc]

/-! ### cells of objects that become slices of one's own; functions without a body -/
theorem rep_nil_of {c : Cx} {fl : Bool} {v : Value} (h : Rep c (.lst true fl []) v) : v = .slice none 0 0 := by
  simp only [Rep] at h
  rcases h with ⟨_, h⟩ | ⟨h, _⟩
  · exact h
  · cases h
theorem RepVals.set {c : Cx} {xs : List AV} {vs : List Value} {x y : AV} {j : Nat} (hr : RepVals c xs vs) (hj : xs[j]? = some x) (hy : ∀ v, Rep c x v → Rep c y v) : RepVals c (xs.set j y) vs := by
  refine RepVals.of_get (by rw [List.length_set]; exact hr.length) fun i h1 h2 => ?_
  rw [List.getElem_set]
  have hi : i < xs.length := by simpa using h1
  split
  · rename_i e; subst e
    have := hr.get j hi h2
    obtain ⟨_, e2⟩ := List.getElem?_eq_some_iff.1 hj
    rw [e2] at this
    exact hy _ this
  · exact hr.get i hi h2
theorem Can.ownC {n : Nat} {c0 : Cx} {w0 : World} {s : Nat → AV} {H : Heap} {N : Nat} {T : Act → World → Prop} (id j es : Nat) (fl : Bool) {cs : List AV} (ho : H id = some (.cells cs)) (hj : cs[j]? = some (.lst true fl []))
    (h : Can n c0 w0 s (upd (upd H N (some (.grow []))) id (some (.cells (cs.set j (.slc N 0 es 0 false))))) (N + 1) T) : Can n c0 w0 s H N T := by
  intro a w ⟨cx, hr, hd, g, hu⟩
  obtain ⟨c', k1, k2, k3, k4⟩ := hr.hr.adopt (.refl cx w) (hu N (Nat.le_refl _)) (hu N (Nat.le_refl _)) (es := es) (len := 0) (o := .grow []) (v := .slice none 0 0) (.inl ⟨rfl, rfl, _, rfl⟩)
  have hne : id ≠ N := by
    rintro rfl
    obtain ⟨b, x, y, hl, _⟩ := hr.hr.live_of ho (by simp)
    rw [hu id (Nat.le_refl _)] at hl; cases hl
  have hid : upd H N (some (.grow [])) id = some (.cells cs) := by rw [upd_ne _ _ hne]; exact ho
  have k5 := k1.reobj id (.cells (cs.set j (.slc N 0 es 0 false))) (fun o ho' he => by rw [hid] at ho'; cases ho'; cases he) (by rw [hid]; rfl) (fun o b base sz ho' hl hor => by
    rw [hid] at ho'; cases ho'
    obtain ⟨cur, T, fr, vs, h1, h2, h3, h4, h5, h6⟩ := hor
    exact ⟨cur, T, fr, vs, h1, h2, h3, by rw [List.length_set]; exact h4, h5.set hj (fun v hv => by rw [rep_nil_of hv]; exact k3), h6⟩)
  exact h a w ⟨c', ⟨k5, hr.size, fun t ht => (hr.slot t ht).mono k2.le _ _⟩, hd, g.trans k2, fun i hi => by rw [k4 i (by omega)]; exact hu i (by omega)⟩
theorem AW.ownC {P : Program} {n : Nat} {c0 : Cx} {w0 : World} {Q : Post} {s : Nat → AV} {H : Heap} {N : Nat} {x : Code} (id j es : Nat) (fl : Bool) {cs : List AV} (ho : H id = some (.cells cs)) (hj : cs[j]? = some (.lst true fl []))
    (h : AW P n c0 w0 x Q s (upd (upd H N (some (.grow []))) id (some (.cells (cs.set j (.slc N 0 es 0 false))))) (N + 1)) : AW P n c0 w0 x Q s H N := Can.ownC id j es fl ho hj h

theorem AW.ownA {P : Program} {n : Nat} {c0 : Cx} {w0 : World} {Q : Post} {s : Nat → AV} {H : Heap} {N : Nat} {x : Code} (t j es : Nat) (fl : Bool) {cs : List AV} (hs : s t = .agg cs) (ht : decide (t < n) = true) (hj : cs[j]? = some (.lst true fl []))
    (h : AW P n c0 w0 x Q (upd s t (.agg (cs.set j (.slc N 0 es 0 false)))) (upd H N (some (.grow []))) (N + 1)) : AW P n c0 w0 x Q s H N := by
  intro a w ⟨cx, hr, hd, g, hu⟩
  have hv := hr.slot t (by simpa using ht)
  rw [hs] at hv
  obtain ⟨c', k1, k2, k3, k4⟩ := hr.hr.adopt (.refl cx w) (hu N (Nat.le_refl _)) (hu N (Nat.le_refl _)) (es := es) (len := 0) (o := .grow []) (v := .slice none 0 0) (.inl ⟨rfl, rfl, _, rfl⟩)
  refine h a w ⟨c', ⟨k1, hr.size, fun t' ht' => ?_⟩, hd, g.trans k2, fun i hi => by rw [k4 i (by omega)]; exact hu i (by omega)⟩
  by_cases e : t' = t
  · subst e
    rw [upd_same]
    have hv := hv.mono k2.le _ _
    simp only [Rep] at hv ⊢
    obtain ⟨vs, e1, e2⟩ := hv
    exact ⟨vs, e1, e2.set hj fun v hv => by rw [rep_nil_of hv]; exact k3⟩
  · rw [upd_ne _ _ e]; exact (hr.slot t' ht').mono k2.le _ _

/-- The comparison of strings, which has no body. -/
def CmpFn (P : Program) (f : FuncId) : Prop := ∃ fn, P.funcs[f]? = some fn ∧ (fn.name == "runtime.NumGoroutine") = false ∧ fn.body.isNone = true ∧ Extern.findNext fn = none ∧ Extern.find fn = some Go.Extern.BytealgCompare.compare
theorem cmp_range (a b : ByteArray) : -1 ≤ Go.Extern.BytealgCompare.cmp a b ∧ Go.Extern.BytealgCompare.cmp a b ≤ 1 := by
  unfold Go.Extern.BytealgCompare.cmp
  split
  · split <;> omega
  · split
    · omega
    · split <;> omega
theorem aCall_cmp {P : Program} {f : FuncId} {a b : ByteArray} {H : Heap} {N : Nat} {K : CK} (h : CmpFn P f) (hk : K (.int .i64 (Go.Extern.BytealgCompare.cmp a b)) H N [] []) : aCall P f [.str a, .str b] H N K := by
  obtain ⟨fn, h1, h2, h3, h4, h5⟩ := h
  refine ⟨_, _, _, _, _, fun o s g as ts caps hc ho hg hargs => ?_, hk⟩
  refine OpOut.pure hc fun ρ w c hh hrep => ?_
  have hgr := hrep g (by simp [ho, Op.operands, Call.operands])
  rw [hg] at hgr
  simp only [Rep] at hgr
  obtain ⟨cv, hgv, hcv⟩ := hgr
  have hr := reps_map (c := c) (s := s) (ρ := ρ) as.toList (fun p hp => hrep p (by simp [ho, Op.operands, Call.operands]; exact .inr (by simpa using hp)))
  have hall := hr.append hcv
  rw [hargs] at hall
  simp only [RepVals, Rep] at hall
  obtain ⟨v, r, e1, ⟨rfl, _⟩, v2, r2, e2, ⟨rfl, _⟩, e3⟩ := hall
  subst e3
  subst e2
  have hav : as.map ρ ++ cv = #[.string a, .string b] := by
    apply Array.toList_inj.1
    simpa using e1
  have hn : ¬ fn.name = "runtime.NumGoroutine" := by simpa using h2
  refine ⟨.int .i64 (Go.Extern.BytealgCompare.cmp a b), ?_, ?_⟩
  · have := run_callFunc_extern (w := w) h1 h2 h3 h4 h5 #[.string a, .string b]
    have hcmp : (Go.Extern.BytealgCompare.compare #[.string a, .string b]).run P w = .ok (.int .i64 (Go.Extern.BytealgCompare.cmp a b)) w := by
      show (do pure (goInt (Go.Extern.BytealgCompare.cmp (← Go.Extern.Bytes.bytesOf (.string a)) (← Go.Extern.Bytes.bytesOf (.string b)))) : Sem Value).run P w = _
      simp [Go.Extern.Bytes.bytesOf, goInt]
    rw [hcmp] at this
    simp [execOp, ho, resolve, Deferred.ofValue, hgv, invoke, hav, this]
  · have := cmp_range a b
    simp only [Rep, true_and]
    exact ⟨by simp [IntKind.min, IntKind.bits, IntKind.signed]; omega, by simp [IntKind.max, IntKind.bits, IntKind.signed]; omega⟩

end Go.Abs
