/- More of what simp should know. -/
import Derived.Test.YtjmcidiplbkmpaaAbsV
set_option linter.unusedVariables false
set_option linter.unusedSimpArgs false
namespace Go.Abs
open Go.RowKit (Below)

theorem allU8_set {l : List AV} {i : Nat} {x : Int} (h : allU8 l = true) : allU8 (l.set i (.int .u8 x)) = true := by
  rw [allU8_iff] at h ⊢
  intro y hy
  rcases List.mem_or_eq_of_mem_set hy with h1 | h1
  · exact h y h1
  · exact ⟨x, h1⟩
def setB (b : ByteArray) (i : Nat) (x : Int) : ByteArray := ⟨(b.data.toList.set i (UInt8.ofNat x.toNat)).toArray⟩
theorem sOf_set (l : List AV) (i : Nat) (x : Int) : sOf (l.set i (.int .u8 x)) = setB (sOf l) i x := by simp [sOf, setB, toU8, List.map_set]
theorem ofI_set (l : List Int) (i : Nat) (x : Int) : ofI (l.set i x) = setB (ofI l) i x := by simp [ofI, setB, List.map_set]
theorem gdL_flat {α : Type} {F : α → AV} {S : Nat → Prop} (h : ∀ x, gdL S (F x).cells) (l : List α) : gdL S (flatA (l.map F)) := by
  refine (gdL_iff _ _).2 fun y hy => ?_
  simp only [flatA, List.mem_flatMap, List.mem_map] at hy
  obtain ⟨z, ⟨x, _, rfl⟩, hz⟩ := hy
  exact (gdL_iff _ _).1 (h x) y hz
theorem renL_flat {α : Type} {F : α → AV} {σ : Nat → Nat} (h : ∀ x, renL σ (F x).cells = (F x).cells) (l : List α) : renL σ (flatA (l.map F)) = flatA (l.map F) := by
  induction l with
  | nil => rfl
  | cons x l ih =>
    rw [List.map_cons, flatA_cons, renL_eq, List.map_append, ← renL_eq, ← renL_eq, h, ih]

theorem freshL_flat {α : Type} {F : α → AV} (h : ∀ x, freshL (F x).cells = true) (l : List α) : freshL (flatA (l.map F)) = true := by
  rw [freshL_iff, List.all_eq_true]
  intro y hy
  simp only [flatA, List.mem_flatMap, List.mem_map] at hy
  obtain ⟨z, ⟨x, _, rfl⟩, hz⟩ := hy
  have := h x
  rw [freshL_iff, List.all_eq_true] at this
  exact this y hz

theorem bI_at {b : ByteArray} {n : Nat} {v : Int} (h : (bI b)[n]? = some v) : (((b.data.toList.getD n 0).toNat : Nat) : Int) = v := by
  unfold bI at h
  rw [List.getElem?_map] at h
  rw [List.getD_eq_getElem?_getD]
  cases hh : b.data.toList[n]? with
  | none => rw [hh] at h; cases h
  | some x => rw [hh] at h; simpa using h

@[simp↓] theorem mpA_hasP {β : Type} (k : IntKind) (g : β → AV) (l : List (Int × β)) : ((mpA (.int k) g l).all fun p => (SKind.int k).has p.1) = true := mpA_has k g l
@[simp↓] theorem mpA_hasPs {β : Type} (g : β → AV) (l : List (ByteArray × β)) : ((mpA .str g l).all fun p => SKind.str.has p.1) = true := mpA_has_s g l

theorem mem_mpPut {es : List (AV × AV)} {k v : AV} {p : AV × AV} (h : p ∈ mpPut es k v) : p ∈ es ∨ p = (k, v) := by
  unfold mpPut at h
  split at h
  · exact List.mem_or_eq_of_mem_set h
  · simpa using h
@[simp] theorem mpR_iI (σ : Nat → Nat) (k : IntKind) (k2 : IntKind) (l : List (Int × Int)) : renO σ (.mp (mpA (AV.int k) (AV.int k2) l)) = .mp (mpA (AV.int k) (AV.int k2) l) := renO_mpA σ _ _ l (fun _ => by simp) (fun _ => by simp)
@[simp] theorem mpG_iI (S : Nat → Prop) (k : IntKind) (k2 : IntKind) (l : List (Int × Int)) : gdO S (.mp (mpA (AV.int k) (AV.int k2) l)) ↔ True := gdO_mpA S _ _ l (fun _ => by simp) (fun _ => by simp)
@[simp] theorem mpF_iI (k : IntKind) (k2 : IntKind) (l : List (Int × Int)) : freshO (.mp (mpA (AV.int k) (AV.int k2) l)) = true := freshO_mpA _ _ l (fun _ => by simp) (fun _ => by simp)
@[simp] theorem mpPR_iI (σ : Nat → Nat) (k : IntKind) (k2 : IntKind) (l : List (Int × Int)) (i : Int) (v : Int) : renO σ (.mp (mpPut (mpA (AV.int k) (AV.int k2) l) (AV.int k i) (AV.int k2 v))) = .mp (mpPut (mpA (AV.int k) (AV.int k2) l) (AV.int k i) (AV.int k2 v)) := by
  have h := mpR_iI σ k k2 (mput l i v)
  rw [mpA_put] at h; exact h
@[simp] theorem mpPG_iI (S : Nat → Prop) (k : IntKind) (k2 : IntKind) (l : List (Int × Int)) (i : Int) (v : Int) : gdO S (.mp (mpPut (mpA (AV.int k) (AV.int k2) l) (AV.int k i) (AV.int k2 v))) ↔ True := by
  have h := mpG_iI S k k2 (mput l i v)
  rw [mpA_put] at h; exact h
@[simp] theorem mpPF_iI (k : IntKind) (k2 : IntKind) (l : List (Int × Int)) (i : Int) (v : Int) : freshO (.mp (mpPut (mpA (AV.int k) (AV.int k2) l) (AV.int k i) (AV.int k2 v))) = true := by
  have h := mpF_iI k k2 (mput l i v)
  rw [mpA_put] at h; exact h
@[simp] theorem mpR_iB (σ : Nat → Nat) (k : IntKind) (l : List (Int × Bool)) : renO σ (.mp (mpA (AV.int k) AV.bool l)) = .mp (mpA (AV.int k) AV.bool l) := renO_mpA σ _ _ l (fun _ => by simp) (fun _ => by simp)
@[simp] theorem mpG_iB (S : Nat → Prop) (k : IntKind) (l : List (Int × Bool)) : gdO S (.mp (mpA (AV.int k) AV.bool l)) ↔ True := gdO_mpA S _ _ l (fun _ => by simp) (fun _ => by simp)
@[simp] theorem mpF_iB (k : IntKind) (l : List (Int × Bool)) : freshO (.mp (mpA (AV.int k) AV.bool l)) = true := freshO_mpA _ _ l (fun _ => by simp) (fun _ => by simp)
@[simp] theorem mpPR_iB (σ : Nat → Nat) (k : IntKind) (l : List (Int × Bool)) (i : Int) (v : Bool) : renO σ (.mp (mpPut (mpA (AV.int k) AV.bool l) (AV.int k i) (AV.bool v))) = .mp (mpPut (mpA (AV.int k) AV.bool l) (AV.int k i) (AV.bool v)) := by
  have h := mpR_iB σ k (mput l i v)
  rw [mpA_put] at h; exact h
@[simp] theorem mpPG_iB (S : Nat → Prop) (k : IntKind) (l : List (Int × Bool)) (i : Int) (v : Bool) : gdO S (.mp (mpPut (mpA (AV.int k) AV.bool l) (AV.int k i) (AV.bool v))) ↔ True := by
  have h := mpG_iB S k (mput l i v)
  rw [mpA_put] at h; exact h
@[simp] theorem mpPF_iB (k : IntKind) (l : List (Int × Bool)) (i : Int) (v : Bool) : freshO (.mp (mpPut (mpA (AV.int k) AV.bool l) (AV.int k i) (AV.bool v))) = true := by
  have h := mpF_iB k (mput l i v)
  rw [mpA_put] at h; exact h
@[simp] theorem mpR_iS (σ : Nat → Nat) (k : IntKind) (l : List (Int × ByteArray)) : renO σ (.mp (mpA (AV.int k) AV.str l)) = .mp (mpA (AV.int k) AV.str l) := renO_mpA σ _ _ l (fun _ => by simp) (fun _ => by simp)
@[simp] theorem mpG_iS (S : Nat → Prop) (k : IntKind) (l : List (Int × ByteArray)) : gdO S (.mp (mpA (AV.int k) AV.str l)) ↔ True := gdO_mpA S _ _ l (fun _ => by simp) (fun _ => by simp)
@[simp] theorem mpF_iS (k : IntKind) (l : List (Int × ByteArray)) : freshO (.mp (mpA (AV.int k) AV.str l)) = true := freshO_mpA _ _ l (fun _ => by simp) (fun _ => by simp)
@[simp] theorem mpPR_iS (σ : Nat → Nat) (k : IntKind) (l : List (Int × ByteArray)) (i : Int) (v : ByteArray) : renO σ (.mp (mpPut (mpA (AV.int k) AV.str l) (AV.int k i) (AV.str v))) = .mp (mpPut (mpA (AV.int k) AV.str l) (AV.int k i) (AV.str v)) := by
  have h := mpR_iS σ k (mput l i v)
  rw [mpA_put] at h; exact h
@[simp] theorem mpPG_iS (S : Nat → Prop) (k : IntKind) (l : List (Int × ByteArray)) (i : Int) (v : ByteArray) : gdO S (.mp (mpPut (mpA (AV.int k) AV.str l) (AV.int k i) (AV.str v))) ↔ True := by
  have h := mpG_iS S k (mput l i v)
  rw [mpA_put] at h; exact h
@[simp] theorem mpPF_iS (k : IntKind) (l : List (Int × ByteArray)) (i : Int) (v : ByteArray) : freshO (.mp (mpPut (mpA (AV.int k) AV.str l) (AV.int k i) (AV.str v))) = true := by
  have h := mpF_iS k (mput l i v)
  rw [mpA_put] at h; exact h
@[simp] theorem mpR_iLI (σ : Nat → Nat) (k : IntKind) (k2 : IntKind) (l : List (Int × (List Int))) : renO σ (.mp (mpA (AV.int k) (sl (AV.int k2)) l)) = .mp (mpA (AV.int k) (sl (AV.int k2)) l) := renO_mpA σ _ _ l (fun _ => by simp) (fun _ => by simp)
@[simp] theorem mpG_iLI (S : Nat → Prop) (k : IntKind) (k2 : IntKind) (l : List (Int × (List Int))) : gdO S (.mp (mpA (AV.int k) (sl (AV.int k2)) l)) ↔ True := gdO_mpA S _ _ l (fun _ => by simp) (fun _ => by simp)
@[simp] theorem mpPR_iLI (σ : Nat → Nat) (k : IntKind) (k2 : IntKind) (l : List (Int × (List Int))) (i : Int) (v : (List Int)) : renO σ (.mp (mpPut (mpA (AV.int k) (sl (AV.int k2)) l) (AV.int k i) (sl (AV.int k2) v))) = .mp (mpPut (mpA (AV.int k) (sl (AV.int k2)) l) (AV.int k i) (sl (AV.int k2) v)) := by
  have h := mpR_iLI σ k k2 (mput l i v)
  rw [mpA_put] at h; exact h
@[simp] theorem mpPG_iLI (S : Nat → Prop) (k : IntKind) (k2 : IntKind) (l : List (Int × (List Int))) (i : Int) (v : (List Int)) : gdO S (.mp (mpPut (mpA (AV.int k) (sl (AV.int k2)) l) (AV.int k i) (sl (AV.int k2) v))) ↔ True := by
  have h := mpG_iLI S k k2 (mput l i v)
  rw [mpA_put] at h; exact h
@[simp] theorem mpR_sI (σ : Nat → Nat) (k2 : IntKind) (l : List (ByteArray × Int)) : renO σ (.mp (mpA AV.str (AV.int k2) l)) = .mp (mpA AV.str (AV.int k2) l) := renO_mpA σ _ _ l (fun _ => by simp) (fun _ => by simp)
@[simp] theorem mpG_sI (S : Nat → Prop) (k2 : IntKind) (l : List (ByteArray × Int)) : gdO S (.mp (mpA AV.str (AV.int k2) l)) ↔ True := gdO_mpA S _ _ l (fun _ => by simp) (fun _ => by simp)
@[simp] theorem mpF_sI (k2 : IntKind) (l : List (ByteArray × Int)) : freshO (.mp (mpA AV.str (AV.int k2) l)) = true := freshO_mpA _ _ l (fun _ => by simp) (fun _ => by simp)
@[simp] theorem mpR_sB (σ : Nat → Nat) (l : List (ByteArray × Bool)) : renO σ (.mp (mpA AV.str AV.bool l)) = .mp (mpA AV.str AV.bool l) := renO_mpA σ _ _ l (fun _ => by simp) (fun _ => by simp)
@[simp] theorem mpG_sB (S : Nat → Prop) (l : List (ByteArray × Bool)) : gdO S (.mp (mpA AV.str AV.bool l)) ↔ True := gdO_mpA S _ _ l (fun _ => by simp) (fun _ => by simp)
@[simp] theorem mpF_sB (l : List (ByteArray × Bool)) : freshO (.mp (mpA AV.str AV.bool l)) = true := freshO_mpA _ _ l (fun _ => by simp) (fun _ => by simp)
@[simp] theorem mpR_sS (σ : Nat → Nat) (l : List (ByteArray × ByteArray)) : renO σ (.mp (mpA AV.str AV.str l)) = .mp (mpA AV.str AV.str l) := renO_mpA σ _ _ l (fun _ => by simp) (fun _ => by simp)
@[simp] theorem mpG_sS (S : Nat → Prop) (l : List (ByteArray × ByteArray)) : gdO S (.mp (mpA AV.str AV.str l)) ↔ True := gdO_mpA S _ _ l (fun _ => by simp) (fun _ => by simp)
@[simp] theorem mpF_sS (l : List (ByteArray × ByteArray)) : freshO (.mp (mpA AV.str AV.str l)) = true := freshO_mpA _ _ l (fun _ => by simp) (fun _ => by simp)
@[simp] theorem mpR_sLI (σ : Nat → Nat) (k2 : IntKind) (l : List (ByteArray × (List Int))) : renO σ (.mp (mpA AV.str (sl (AV.int k2)) l)) = .mp (mpA AV.str (sl (AV.int k2)) l) := renO_mpA σ _ _ l (fun _ => by simp) (fun _ => by simp)
@[simp] theorem mpG_sLI (S : Nat → Prop) (k2 : IntKind) (l : List (ByteArray × (List Int))) : gdO S (.mp (mpA AV.str (sl (AV.int k2)) l)) ↔ True := gdO_mpA S _ _ l (fun _ => by simp) (fun _ => by simp)
theorem one_flat {α : Type} {F : α → AV} (h : ∀ x, (F x).cells.all AV.one = true) (l : List α) : (flatA (l.map F)).all AV.one = true := by
  rw [List.all_eq_true]
  intro y hy
  simp only [flatA, List.mem_flatMap, List.mem_map] at hy
  obtain ⟨z, ⟨x, _, rfl⟩, hz⟩ := hy
  exact List.all_eq_true.1 (h x) y hz

theorem FlL.app {a b c d : List AV} : FlL a b → FlL c d → FlL (a ++ c) (b ++ d)
  | .nil, h => h
  | .cons h t, h2 => .cons h (FlL.app t h2)
theorem FlO.rep {α : Type} {F : α → AV} {x : AV} {z : α} (n : Nat) (h : FlL x.cells (F z).cells) : FlO (.cells (flatA (List.replicate n x))) (.cells (flatA (List.map F (List.replicate n z)))) := by
  refine FlO.mk ?_
  induction n with
  | zero => exact .nil
  | succ n ih =>
    rw [List.replicate_succ, List.replicate_succ, List.map_cons, flatA_cons, flatA_cons]
    exact h.app ih

def mdel {α β : Type} [BEq α] (l : List (α × β)) (k : α) : List (α × β) :=
  match mgI l k with
  | some j => l.eraseIdx j
  | none => l
theorem map_erase {α β : Type} (f : α → β) : ∀ (l : List α) (j : Nat), (l.map f).eraseIdx j = (l.eraseIdx j).map f
  | [], _ => rfl
  | a :: l, 0 => rfl
  | a :: l, j + 1 => by simp [List.eraseIdx, map_erase f l j]
@[simp] theorem mpDel_mpA {β : Type} (k k' : IntKind) (g : β → AV) (l : List (Int × β)) (i : Int) : mpDel (mpA (.int k) g l) (.int k' i) = mpA (.int k) g (mdel l i) := by
  unfold mpDel mdel
  rw [mpIdx_mpA]
  cases mgI l i with
  | none => rfl
  | some j => exact map_erase _ l j
theorem setR_rep {α : Type} {F : α → AV} {es : Nat} (hF : ∀ x, (F x).cells.length = es) (L : List α) (z : α) {off len : Nat} (h : off + len ≤ L.length) :
    setR (flatA (L.map F)) (off * es) (flatA (List.replicate len (F z))) = flatA ((L.take off ++ List.replicate len z ++ L.drop (off + len)).map F) := by
  have hr : (flatA (List.replicate len (F z))).length = len * es := by
    have := flat_len hF (List.replicate len z)
    rw [List.map_replicate, List.length_replicate] at this; exact this
  have hm : off * es + len * es ≤ L.length * es := by rw [← Nat.add_mul]; exact Nat.mul_le_mul_right _ h
  have hd : ∀ n, n ≤ L.length → (flatA (L.map F)).drop (n * es) = flatA ((L.drop n).map F) ∧ (flatA (L.map F)).take (n * es) = flatA ((L.take n).map F) := by
    intro n hn
    have e : flatA (L.map F) = flatA ((L.take n).map F) ++ flatA ((L.drop n).map F) := by rw [← flatA_app, ← List.map_append, List.take_append_drop]
    have hl : (flatA ((L.take n).map F)).length = n * es := by rw [flat_len hF, List.length_take, Nat.min_eq_left hn]
    rw [e]
    exact ⟨by rw [← hl, List.drop_left], by rw [← hl, List.take_left]⟩
  rw [setR_eq _ _ _ (by rw [hr, flat_len hF]; exact hm), hr, ← Nat.add_mul, (hd (off + len) h).1, (hd off (by omega)).2, List.map_append, List.map_append, flatA_app, flatA_app, List.map_replicate]
theorem setR_end {α : Type} {F : α → AV} {es : Nat} (hF : ∀ x, (F x).cells.length = es) (L : List α) (z : α) {off : Nat} (h : off ≤ L.length) :
    setR (flatA (L.map F)) (off * es) (flatA (List.replicate (L.length - off) (F z))) = flatA ((L.take off ++ List.replicate (L.length - off) z).map F) := by
  rw [setR_rep hF L z (len := L.length - off) (by omega), List.drop_eq_nil_of_le (by omega), List.append_nil]
theorem flat_part {α : Type} {F : α → AV} {es : Nat} (hF : ∀ x, (F x).cells.length = es) (L : List α) {off len : Nat} (h : off + len ≤ L.length) :
    flatA (((L.drop off).take len).map F) = ((flatA (L.map F)).drop (off * es)).take (len * es) := by
  have hl : (flatA ((L.take off).map F)).length = off * es := by rw [flat_len hF, List.length_take, Nat.min_eq_left (by omega)]
  have e : flatA (L.map F) = flatA ((L.take off).map F) ++ flatA ((L.drop off).map F) := by rw [← flatA_app, ← List.map_append, List.take_append_drop]
  rw [e, ← hl, List.drop_left]
  have hl2 : (flatA (((L.drop off).take len).map F)).length = len * es := by rw [flat_len hF, List.length_take, List.length_drop, Nat.min_eq_left (by omega)]
  have e2 : flatA ((L.drop off).map F) = flatA (((L.drop off).take len).map F) ++ flatA (((L.drop off).drop len).map F) := by rw [← flatA_app, ← List.map_append, List.take_append_drop]
  rw [e2, ← hl2, List.take_left]
theorem flat_part0 {α : Type} {F : α → AV} {es : Nat} (hF : ∀ x, (F x).cells.length = es) (L : List α) {len : Nat} (h : len ≤ L.length) :
    flatA ((L.take len).map F) = ((flatA (L.map F)).drop (0 * es)).take (len * es) := by
  have := flat_part hF L (off := 0) (len := len) (by omega)
  simpa using this
theorem flat_part1 {α : Type} {F : α → AV} {es : Nat} (hF : ∀ x, (F x).cells.length = es) (L : List α) {off : Nat} (h : off ≤ L.length) :
    flatA ((L.drop off).map F) = ((flatA (L.map F)).drop (off * es)).take ((L.length - off) * es) := by
  have := flat_part hF L (off := off) (len := L.length - off) (by omega)
  rwa [List.take_of_length_le (by rw [List.length_drop]; exact Nat.le_refl _)] at this
@[simp] theorem gdL_set_app (S : Nat → Prop) (n : Nat) (k k' k'' : IntKind) (x y : Int) (l : List Int) : gdL S ((l.map (AV.int k) ++ [AV.int k' y]).set n (AV.int k'' x)) ↔ True := iff_true_intro (gdL_set (by simp) (by simp))
theorem setR_cat {α : Type} {F : α → AV} {es : Nat} (hF : ∀ x, (F x).cells.length = es) (L Y : List α) {off : Nat} (h : off + Y.length ≤ L.length) :
    setR (flatA (L.map F)) (off * es) (flatA (Y.map F)) = flatA ((L.take off ++ Y ++ L.drop (off + Y.length)).map F) := by
  have hr : (flatA (Y.map F)).length = Y.length * es := flat_len hF Y
  have hm : off * es + Y.length * es ≤ L.length * es := by rw [← Nat.add_mul]; exact Nat.mul_le_mul_right _ h
  have hd : ∀ n, n ≤ L.length → (flatA (L.map F)).drop (n * es) = flatA ((L.drop n).map F) ∧ (flatA (L.map F)).take (n * es) = flatA ((L.take n).map F) := by
    intro n hn
    have e : flatA (L.map F) = flatA ((L.take n).map F) ++ flatA ((L.drop n).map F) := by rw [← flatA_app, ← List.map_append, List.take_append_drop]
    have hl : (flatA ((L.take n).map F)).length = n * es := by rw [flat_len hF, List.length_take, Nat.min_eq_left hn]
    rw [e]
    exact ⟨by rw [← hl, List.drop_left], by rw [← hl, List.take_left]⟩
  rw [setR_eq _ _ _ (by rw [hr, flat_len hF]; exact hm), hr, ← Nat.add_mul, (hd (off + Y.length) h).1, (hd off (by omega)).2, List.map_append, List.map_append, flatA_app, flatA_app]
theorem ne_of_pos {α : Type} {l : List α} (h : 0 < l.length) : l ≠ [] := by intro e; subst e; simp at h
theorem flatA_sub {α : Type} {F : α → AV} (h : ∀ x, (F x).cells.length = 1) (l : List α) : True := trivial

end Go.Abs
