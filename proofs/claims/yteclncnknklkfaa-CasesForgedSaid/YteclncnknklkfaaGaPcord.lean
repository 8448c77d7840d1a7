/- Plain laws of layer 23: the order of contents. -/
import Derived.Test.YteclncnknklkfaaGaPcase
set_option linter.unusedVariables false
set_option linter.unusedSimpArgs false
namespace Go.TF
open Go Go.Abs
structure Cmp {α : Type} (f : α → α → Int) : Prop where
 v : ∀ a b, f a b = -1 ∨ f a b = 0 ∨ f a b = 1
 z : ∀ a b, f a b = 0 ↔ a = b
 s : ∀ a b, f a b = - f b a
 t : ∀ a b c, f a b = -1 → f b c = -1 → f a c = -1
def thenC (x y : Int) : Int := if x = 0 then y else x
def lexF {α : Type} (f : α → α → Int) : List α → List α → Int
 | [], [] => 0
 | [], _ :: _ => -1
 | _ :: _, [] => 1
 | a :: x, b :: y => thenC (f a b) (lexF f x y)
theorem Cmp.lex {α : Type} {f : α → α → Int} (h : Cmp f) : Cmp (lexF f) where
 v := by
  intro a
  induction a with
  | nil => intro b; cases b <;> simp [lexF]
  | cons x a ih =>
   intro b
   cases b with
   | nil => simp [lexF]
   | cons y b =>
    simp only [lexF, thenC]
    split
    ·exact ih b
    ·exact h.v x y
 z := by
  intro a
  induction a with
  | nil => intro b; cases b <;> simp [lexF]
  | cons x a ih =>
   intro b
   cases b with
   | nil => simp [lexF]
   | cons y b =>
    simp only [lexF, thenC, List.cons.injEq, ← ih b, ← h.z x y]
    split
    ·rename_i c; simp [c]
    ·rename_i c; simp [c]
 s := by
  intro a
  induction a with
  | nil => intro b; cases b <;> simp [lexF]
  | cons x a ih =>
   intro b
   cases b with
   | nil => simp [lexF]
   | cons y b =>
    simp only [lexF, thenC]
    have := h.s x y
    have := ih b
    split <;> split <;> omega
 t := by
  intro a
  induction a with
  | nil => intro b c; cases b <;> cases c <;> simp [lexF]
  | cons x a ih =>
   intro b c
   cases b with
   | nil => simp [lexF]
   | cons y b =>
    cases c with
    | nil => simp [lexF]
    | cons w c =>
     simp only [lexF, thenC]
     intro h1 h2
     have t1 := h.t x y w
     have i1 := ih b c
     by_cases a1 : f x y = 0
     ·have : x = y := (h.z x y).1 a1
      subst this
      rw [if_pos a1] at h1
      by_cases c1 : f x w = 0
      ·rw [if_pos c1] at h2 ⊢; exact i1 h1 h2
      ·rw [if_neg c1] at h2 ⊢; exact h2
     ·rw [if_neg a1] at h1
      by_cases a2 : f y w = 0
      ·have : y = w := (h.z y w).1 a2
       subst this
       rw [if_neg a1]; exact h1
      ·rw [if_neg a2] at h2
       have := t1 h1 h2
       rw [if_neg (by omega)]; exact this
theorem Cmp.pair {α β γ : Type} {f : α → α → Int} {g : β → β → Int} (h : Cmp f) (h' : Cmp g) (p : γ → α) (q : γ → β) (hinj : ∀ a b, p a = p b → q a = q b → a = b) : Cmp fun a b => thenC (f (p a) (p b)) (g (q a) (q b)) where
 v a b := by
  unfold thenC
  split
  ·exact h'.v _ _
  ·exact h.v _ _
 z a b := by
  unfold thenC
  constructor
  ·intro e
   split at e
   ·rename_i c; exact hinj a b ((h.z _ _).1 c) ((h'.z _ _).1 e)
   ·rename_i c; exact absurd e c
  ·rintro rfl
   rw [if_pos ((h.z _ _).2 rfl)]; exact (h'.z _ _).2 rfl
 s a b := by
  unfold thenC
  have := h.s (p a) (p b)
  have := h'.s (q a) (q b)
  split <;> split <;> omega
 t a b c := by
  unfold thenC
  intro h1 h2
  have t1 := h.t (p a) (p b) (p c)
  have i1 := h'.t (q a) (q b) (q c)
  by_cases a1 : f (p a) (p b) = 0
  ·have e := (h.z _ _).1 a1
   rw [if_pos a1] at h1
   rw [e]
   by_cases c1 : f (p b) (p c) = 0
   ·rw [if_pos c1] at h2 ⊢; exact i1 h1 h2
   ·rw [if_neg c1] at h2 ⊢; exact h2
  ·rw [if_neg a1] at h1
   by_cases a2 : f (p b) (p c) = 0
   ·have e := (h.z _ _).1 a2
    rw [← e, if_neg a1]; exact h1
   ·rw [if_neg a2] at h2
    have := t1 h1 h2
    rw [if_neg (by omega)]; exact this
def cmpI (a b : Int) : Int := if a < b then -1 else if b < a then 1 else 0
theorem cmpI_cmp : Cmp cmpI where
 v a b := by
  unfold cmpI
  split
  ·omega
  ·split <;> omega
 z a b := by
  unfold cmpI
  split
  ·omega
  ·split <;> omega
 s a b := by unfold cmpI; split <;> split <;> (try split) <;> omega
 t a b c := by unfold cmpI; split <;> split <;> split <;> (try split) <;> (try split) <;> omega
def cmpU (a b : UInt8) : Int := cmpI (a.toNat : Int) (b.toNat : Int)
theorem cmpU_cmp : Cmp cmpU where
 v a b := cmpI_cmp.v _ _
 z a b := by
  refine (cmpI_cmp.z _ _).trans ⟨fun h => UInt8.toNat_inj.1 (by omega), fun h => by rw [h]⟩
 s a b := cmpI_cmp.s _ _
 t a b c := cmpI_cmp.t _ _ _
def cmpS (a b : ByteArray) : Int := lexF cmpU a.data.toList b.data.toList
theorem ba_ext {a b : ByteArray} (h : a.data.toList = b.data.toList) : a = b := by
 cases a; cases b
 simp at h
 simp [h]
theorem cmpS_cmp : Cmp cmpS where
 v a b := cmpU_cmp.lex.v _ _
 z a b := (cmpU_cmp.lex.z _ _).trans ⟨ba_ext, fun h => by rw [h]⟩
 s a b := cmpU_cmp.lex.s _ _
 t a b c := cmpU_cmp.lex.t _ _ _
theorem less_lex : ∀ a b : List UInt8, Op.bytesLess a b = decide (lexF cmpU a b = -1)
 | [], [] => by simp [Op.bytesLess, lexF]
 | [], b :: y => by simp [Op.bytesLess, lexF]
 | a :: x, [] => by simp [Op.bytesLess, lexF]
 | a :: x, b :: y => by
  simp only [Op.bytesLess, lexF, thenC]
  rw [less_lex x y]
  unfold cmpU cmpI
  by_cases h : a < b
  ·have : (a.toNat : Int) < b.toNat := by have := UInt8.lt_iff_toNat_lt.1 h; omega
   simp [h, this]
  ·have h2 : ¬ (a.toNat : Int) < b.toNat := fun c => h (UInt8.lt_iff_toNat_lt.2 (by omega))
   by_cases e : a = b
   ·subst e; simp
   ·have h3 : (b.toNat : Int) < a.toNat := by
     have : a.toNat ≠ b.toNat := fun c => e (UInt8.toNat_inj.1 c)
     omega
    simp [h, h2, h3, e]
theorem cmpS_if (a b : ByteArray) : cmpS a b = if (!strEq a b) = true then (if strLt a b = true then -1 else 1) else 0 := by
 have hz := cmpS_cmp.z a b
 have hv := cmpS_cmp.v a b
 have hl : strLt a b = decide (cmpS a b = -1) := less_lex _ _
 by_cases e : strEq a b = true
 ·have := (strEq_iff a b).1 e
  rw [e]; simp [hz.2 this]
 ·have : ¬ cmpS a b = 0 := fun c => e ((strEq_iff a b).2 (hz.1 c))
  simp only [Bool.not_eq_true] at e
  rw [e, hl]
  rcases hv with h | h | h
  ·simp [h]
  ·exact absurd h this
  ·simp [h]
def firstD (A B : Array UInt8) (l : List Nat) : Int := match l.find? fun i => A[i]! != B[i]! with
 | some i => if A[i]! < B[i]! then -1 else 1
 | none => if A.size < B.size then -1 else if A.size > B.size then 1 else 0
theorem firstD_lex (A B : Array UInt8) : ∀ (m i : Nat), i + m = min A.size B.size → firstD A B (List.range' i m) = lexF cmpU (A.toList.drop i) (B.toList.drop i)
 | 0, i, h => by
  unfold firstD
  simp only [List.range', List.find?_nil]
  by_cases h1 : A.size < B.size
  ·rw [if_pos h1, List.drop_of_length_le (by simp; omega), List.drop_eq_getElem_cons (l := B.toList) (by simp; omega)]; rfl
  ·by_cases h2 : A.size > B.size
   ·rw [if_neg h1, if_pos h2, List.drop_of_length_le (l := B.toList) (by simp; omega), List.drop_eq_getElem_cons (l := A.toList) (by simp; omega)]; rfl
   ·rw [if_neg h1, if_neg h2, List.drop_of_length_le (l := A.toList) (by simp; omega), List.drop_of_length_le (l := B.toList) (by simp; omega)]; rfl
 | m + 1, i, h => by
  have ha : i < A.size := by omega
  have hb : i < B.size := by omega
  have ih := firstD_lex A B m (i + 1) (by omega)
  rw [List.drop_eq_getElem_cons (l := A.toList) (by simpa using ha), List.drop_eq_getElem_cons (l := B.toList) (by simpa using hb)]
  simp only [lexF, thenC, Array.getElem_toList]
  rw [← ih]
  unfold firstD
  rw [List.range'_succ, List.find?_cons]
  rw [getElem!_pos A i ha, getElem!_pos B i hb]
  unfold cmpU cmpI
  by_cases e : A[i] = B[i]
  ·simp [e]
  ·have ne : ¬ A[i].toNat = B[i].toNat := fun c => e (UInt8.toNat_inj.1 c)
   have : (A[i] != B[i]) = true := by simp [e]
   rw [this]
   simp only
   rw [getElem!_pos A i ha, getElem!_pos B i hb]
   by_cases l : A[i] < B[i]
   ·have : (A[i].toNat : Int) < B[i].toNat := by have := UInt8.lt_iff_toNat_lt.1 l; omega
    simp [l, this]
   ·have h2 : ¬ (A[i].toNat : Int) < B[i].toNat := fun c => l (UInt8.lt_iff_toNat_lt.2 (by omega))
    have h3 : (B[i].toNat : Int) < A[i].toNat := by omega
    simp [l, h2, h3]
theorem getB (a : ByteArray) (i : Nat) : a[i]! = a.data[i]! := by
 by_cases h : i < a.size
 ·rw [getElem!_pos a i h, getElem!_pos a.data i h]; rfl
 ·rw [getElem!_neg a i h, getElem!_neg a.data i h]
theorem cmp_cmpS (a b : ByteArray) : Go.Extern.BytealgCompare.cmp a b = cmpS a b := by
 have := firstD_lex a.data b.data (min a.size b.size) 0 (by rw [Nat.zero_add]; rfl)
 rw [List.drop_zero, List.drop_zero] at this
 unfold cmpS
 rw [← this]
 unfold Go.Extern.BytealgCompare.cmp firstD
 rw [← List.range_eq_range']
 simp only [getB]
 rfl
def cmpP (p q : api_Pin) : Int := thenC (cmpI p.Author q.Author) (thenC (cmpI p.Height q.Height) (cmpS p.Digest q.Digest))
theorem cmpP_cmp : Cmp cmpP := by
 have h2 : Cmp (fun p q : Int × ByteArray => thenC (cmpI p.1 q.1) (cmpS p.2 q.2)) := Cmp.pair cmpI_cmp cmpS_cmp (fun p => p.1) (fun p => p.2) (fun a b h1 h2 => Prod.ext h1 h2)
 exact Cmp.pair (γ := api_Pin) cmpI_cmp h2 (fun p => p.Author) (fun p => (p.Height, p.Digest)) (fun a b h1 h2 => by
  cases a; cases b
  simp only [Prod.mk.injEq] at h1 h2
  simp [h1, h2])
def ordC (x : List Int) (p : List api_Pin) (y : List Int) (q : List api_Pin) : Int := thenC (lexF cmpI x y) (lexF cmpP p q)
theorem ordC_cmp : Cmp fun a b : List Int × List api_Pin => ordC a.1 a.2 b.1 b.2 := Cmp.pair cmpI_cmp.lex cmpP_cmp.lex (fun p => p.1) (fun p => p.2) (fun a b h1 h2 => Prod.ext h1 h2)
theorem ordC_self (x : List Int) (p : List api_Pin) : ordC x p x p = 0 := (ordC_cmp.z (x, p) (x, p)).2 rfl
theorem cCmp_eq (k : Nat) (a b : Int) : cmp_Compare_int k a b = some (cmpI a b) := by
 unfold cmp_Compare_int cmp_isNaN_int cmpI
 rw [bnd1_some, bnd1_some, show (a != a) = false by simp, if_neg (by simp), show (b != b) = false by simp, if_neg (by simp)]
 split
 ·rfl
 ·split <;> rfl
theorem or2 (k : Nat) (hk : 3 < k) (a b : Int) : cmp_Or_int k [a, b] = some (thenC a b) := by
 unfold cmp_Or_int thenC
 obtain ⟨n, rfl⟩ : ∃ n, k = n + 3 := ⟨k - 3, by omega⟩
 have i0 : ∀ f : Int → Option Int, idx [a, b] (0 : Int) f = f a := fun f => idx_pos (l := [a, b]) (i := 0) (by simp)
 have i1 : ∀ f : Int → Option Int, idx [a, b] (1 : Int) f = f b := fun f => idx_pos (l := [a, b]) (i := 1) (by simp)
 rw [cmp_Or_int.L1, if_pos (by simp), i0]
 by_cases h : a = 0
 ·rw [if_neg (by simp [h]), if_pos h, w64 (by omega) (by omega), cmp_Or_int.L1, if_pos (by simp), show (0 : Int) + 1 = 1 from rfl, i1]
  by_cases h2 : b = 0
  ·rw [if_neg (by simp [h2]), w64 (by omega) (by omega), cmp_Or_int.L1, if_neg (by simp), h2]
  ·rw [if_pos h2]
 ·rw [if_pos h, if_neg h]
theorem or3 (k : Nat) (hk : 4 < k) (a b c : Int) : cmp_Or_int k [a, b, c] = some (thenC a (thenC b c)) := by
 unfold cmp_Or_int thenC
 obtain ⟨n, rfl⟩ : ∃ n, k = n + 4 := ⟨k - 4, by omega⟩
 have i0 : ∀ f : Int → Option Int, idx [a, b, c] (0 : Int) f = f a := fun f => idx_pos (l := [a, b, c]) (i := 0) (by simp)
 have i1 : ∀ f : Int → Option Int, idx [a, b, c] (1 : Int) f = f b := fun f => idx_pos (l := [a, b, c]) (i := 1) (by simp)
 have i2 : ∀ f : Int → Option Int, idx [a, b, c] (2 : Int) f = f c := fun f => idx_pos (l := [a, b, c]) (i := 2) (by simp)
 rw [cmp_Or_int.L1, if_pos (by simp), i0]
 by_cases h : a = 0
 ·rw [if_neg (by simp [h]), if_pos h, w64 (by omega) (by omega), cmp_Or_int.L1, if_pos (by simp), show (0 : Int) + 1 = 1 from rfl, i1]
  by_cases h2 : b = 0
  ·rw [if_neg (by simp [h2]), if_pos h2, w64 (by omega) (by omega), cmp_Or_int.L1, if_pos (by simp), show (1 : Int) + 1 = 2 from rfl, i2]
   by_cases h3 : c = 0
   ·rw [if_neg (by simp [h3]), w64 (by omega) (by omega), cmp_Or_int.L1, if_neg (by simp), h3]
   ·rw [if_pos h3]
  ·rw [if_pos h2, if_neg h2]
 ·rw [if_pos h, if_neg h]
theorem cpin_eq (k : Nat) (hk : 4 < k) (p q : api_Pin) : cases_pin k p.Author p.Height p.Digest q.Author q.Height q.Digest = some (cmpP p q) := by
 unfold cases_pin strings_Compare internal_bytealg_CompareString
 simp only [cCmp_eq, bnd1_some, cmp_cmpS, or3 k hk]
 rfl
theorem lex_end {α : Type} (f : α → α → Int) (a b : List α) (i : Nat) (h : i = a.length ∨ i = b.length) (h1 : i ≤ a.length) (h2 : i ≤ b.length) : lexF f (a.drop i) (b.drop i) = cmpI (a.length : Int) (b.length : Int) := by
 unfold cmpI
 by_cases c1 : a.length < b.length
 ·rw [if_pos (by omega), List.drop_of_length_le (l := a) (by omega), List.drop_eq_getElem_cons (l := b) (by omega)]; rfl
 ·by_cases c2 : b.length < a.length
  ·rw [if_neg (by omega), if_pos (by omega), List.drop_of_length_le (l := b) (by omega), List.drop_eq_getElem_cons (l := a) (by omega)]; rfl
  ·rw [if_neg (by omega), if_neg (by omega), List.drop_of_length_le (l := a) (by omega), List.drop_of_length_le (l := b) (by omega)]; rfl
theorem lex_step {α : Type} (f : α → α → Int) (a b : List α) (i : Nat) (h1 : i < a.length) (h2 : i < b.length) : lexF f (a.drop i) (b.drop i) = thenC (f a[i] b[i]) (lexF f (a.drop (i + 1)) (b.drop (i + 1))) := by
 rw [List.drop_eq_getElem_cons h1, List.drop_eq_getElem_cons h2]; rfl
theorem cordI_loop (k : Nat) (a b : List Int) (N : Nat) (hN : N = min a.length b.length) (h9 : a.length ≤ 9223372036854775807) : ∀ (m i n : Nat), i + m = N → m < n → cases_order_int_Compare_int.L1 k a b (N : Int) n (i : Int) = some (lexF cmpI (a.drop i) (b.drop i))
 | 0, i, n + 1, h, _ => by
  rw [cases_order_int_Compare_int.L1, if_neg (by omega), cCmp_eq, bnd1_some, lex_end cmpI a b i (by omega) (by omega) (by omega)]
 | m + 1, i, n + 1, h, hn => by
  have h1 : i < a.length := by omega
  have h2 : i < b.length := by omega
  rw [cases_order_int_Compare_int.L1, if_pos (by omega), idx_pos h1, idx_pos h2, cCmp_eq, bnd1_some, lex_step cmpI a b i h1 h2]
  unfold thenC
  by_cases c : cmpI a[i] b[i] = 0
  ·rw [if_neg (by simp [c]), if_pos c, succ64 i (by omega), cordI_loop k a b N hN h9 m (i + 1) n (by omega) (by omega)]
  ·rw [if_pos c, if_neg c]
theorem cordP_loop (k : Nat) (hk : 4 < k) (a b : List api_Pin) (N : Nat) (hN : N = min a.length b.length) (h9 : a.length ≤ 9223372036854775807) : ∀ (m i n : Nat), i + m = N → m < n → cases_order_api_Pin_cases_pin.L1 k a b (N : Int) n (i : Int) = some (lexF cmpP (a.drop i) (b.drop i))
 | 0, i, n + 1, h, _ => by
  rw [cases_order_api_Pin_cases_pin.L1, if_neg (by omega), cCmp_eq, bnd1_some, lex_end cmpP a b i (by omega) (by omega) (by omega)]
 | m + 1, i, n + 1, h, hn => by
  have h1 : i < a.length := by omega
  have h2 : i < b.length := by omega
  rw [cases_order_api_Pin_cases_pin.L1, if_pos (by omega), idx_pos h1, idx_pos h2, cpin_eq k hk, bnd1_some, lex_step cmpP a b i h1 h2]
  unfold thenC
  by_cases c : cmpP a[i] b[i] = 0
  ·rw [if_neg (by simp [c]), if_pos c, succ64 i (by omega), cordP_loop k hk a b N hN h9 m (i + 1) n (by omega) (by omega)]
  ·rw [if_pos c, if_neg c]
theorem minI (a b : Nat) : (if (b : Int) < (a : Int) then (b : Int) else (a : Int)) = ((min a b : Nat) : Int) := by
 split <;> omega
theorem cOrder_eq (k : Nat) (hk : 4 < k) (x y : List Int) (p q : List api_Pin) (hx : x.length < k) (hp : p.length < k) (hx9 : x.length ≤ 9223372036854775807) (hp9 : p.length ≤ 9223372036854775807) : cases_Order k x p y q = some (ordC x p y q) := by
 unfold cases_Order cases_order_int_Compare_int cases_order_api_Pin_cases_pin
 rw [let1_eq, let1_eq, minI, minI]
 have e1 := cordI_loop k x y _ rfl hx9 (min x.length y.length) 0 k (by omega) (by omega)
 have e2 := cordP_loop k hk p q _ rfl hp9 (min p.length q.length) 0 k (by omega) (by omega)
 rw [show ((0 : Nat) : Int) = 0 from rfl] at e1 e2
 rw [e1, e2, bnd1_some, bnd1_some, or2 k (by omega), bnd1_some]
 rfl
end Go.TF
