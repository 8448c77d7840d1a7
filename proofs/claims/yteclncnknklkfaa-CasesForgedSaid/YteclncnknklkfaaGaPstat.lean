/- Plain laws of layer 3: what is wrong with a statement. -/
import Derived.Test.YteclncnknklkfaaGaPrules
set_option linter.unusedVariables false
set_option linter.unusedSimpArgs false
namespace Go.TF
open Go Go.Abs
def bIn (x lo hi : Int) : Bool := decide (lo ≤ x) && decide (x ≤ hi)
theorem In_eq (k : Nat) (x lo hi : Int) : lists_In k x lo hi = some (bIn x lo hi) := by
 unfold lists_In bIn
 by_cases h : lo ≤ x <;> simp [h]
theorem value_eq (k : Nat) (x : Int) : statement_value k x = some (bIn x 0 1099511627776) := by unfold statement_value; rw [In_eq]; rfl
theorem rin_eq (k : Nat) (x m : Int) : ref03_in k x m = some (bIn x 0 m) := by
 unfold ref03_in bIn
 by_cases h : 0 ≤ x <;> simp [h]
theorem rkey_eq (k : Nat) (x : Int) : ref03_key k x = some (bIn x 0 63) := by
 unfold ref03_key bIn
 have : decide (x < 64) = decide (x ≤ 63) := decide_eq_decide.2 (by omega)
 by_cases h : 0 ≤ x <;> simp [h, this]
def pinB (p : Option Int) (x : api_Pin) : Bool := bIn x.Author 0 63 && relP (fun q x => decide (q < x)) p x.Author && bIn x.Height 1 200 && decide (x.Digest.size = 32)
def pinsB : Option Int → List api_Pin → Bool
 | _, [] => true
 | p, x :: l => pinB p x && pinsB (some x.Author) l
def prvP (l : List api_Pin) (i : Nat) : Option Int := if i = 0 then none else (l[i - 1]?).map (·.Author)
theorem prvP_succ {l : List api_Pin} {i : Nat} (h : i < l.length) : prvP l (i + 1) = some l[i].Author := by simp [prvP, h]
theorem size32 (n : Nat) : ((n : Int) != 32) = !decide (n = 32) := by
 by_cases h : n = 32
 ·subst h; rfl
 ·have : ¬ (n : Int) = 32 := by omega
  simp [h, this]
theorem pinsB_cons (p : Option Int) (x : api_Pin) (l : List api_Pin) : pinsB p (x :: l) = (pinB p x && pinsB (some x.Author) l) := by cases p <;> rfl
theorem pinned_loop (k : Nat) (l : List api_Pin) (h9 : l.length ≤ 9223372036854775807) : ∀ (m i n : Nat), i + m = l.length → m < n → statement_pinned.L1 k l n (i : Int) = some (pinsB (prvP l i) (l.drop i))
 | 0, i, n + 1, h, _ => by rw [statement_pinned.L1, if_neg (by omega), List.drop_of_length_le (by omega)]; cases prvP l i <;> rfl
 | m + 1, i, n + 1, h, hn => by
  have h1 : i < l.length := by omega
  have ih := pinned_loop k l h9 m (i + 1) n (by omega) (by omega)
  rw [prvP_succ h1] at ih
  rw [statement_pinned.L1, if_pos (by omega), idx_pos h1, List.drop_eq_getElem_cons h1, pinsB_cons, In_eq, bnd1_some, In_eq, pinB]
  have hj : ∀ b : Bool, statement_pinned.J2 k (i : Int) (fun v => statement_pinned.L1 k l n v) b = if b = true then some false else some (pinsB (some l[i].Author) (l.drop (i + 1))) := by
   intro b
   unfold statement_pinned.J2
   rw [succ64 i (by omega)]; dsimp only; rw [ih]
  simp only [bnd1_some, hj]
  cases bIn l[i].Author 0 63
  ·rfl
  rw [itt]
  by_cases c : i = 0
  ·subst c
   rw [if_neg (by omega)]
   cases bIn l[0].Height 1 200
   ·rfl
   rw [itt, size32]
   cases decide (l[0].Digest.size = 32) <;> rfl
  ·have hp : prvP l i = some ((l[i - 1]'(by omega)).Author) := by simp [prvP, c, List.getElem?_eq_getElem (show i - 1 < l.length by omega)]
   rw [if_pos (by omega), pred64 i (by omega) (by omega), idx_pos (by omega), hp]
   by_cases d : l[i].Author ≤ l[i - 1].Author
   ·rw [if_pos d]
    have : ¬ l[i - 1].Author < l[i].Author := by omega
    simp [this]
   ·rw [if_neg d]
    have : l[i - 1].Author < l[i].Author := by omega
    cases bIn l[i].Height 1 200
    ·simp
    rw [itt, size32]
    cases decide (l[i].Digest.size = 32) <;> simp [this]
theorem pinned_eq (k : Nat) (l : List api_Pin) (h9 : l.length ≤ 9223372036854775807) (hk : l.length < k) : statement_pinned k l = some (pinsB none l) := pinned_loop k l h9 l.length 0 k (by omega) hk
theorem hgt_eq (x : Int) (y z : Option Bool) : (if x < 1 then y else if 200 < x then y else z) = if bIn x 1 200 = true then z else y := by
 unfold bIn
 by_cases a : x < 1
 ·rw [if_pos a, if_neg (by simp; omega)]
 ·by_cases b : 200 < x
  ·rw [if_neg a, if_pos b, if_neg (by simp; omega)]
  ·rw [if_neg a, if_neg b, if_pos (by simp; omega)]
theorem pinsOK_loop (k : Nat) (l : List api_Pin) (h9 : l.length ≤ 9223372036854775807) : ∀ (m i n : Nat), i + m = l.length → m < n → ref03_PinsOK.L1 k l n (i : Int) = some (pinsB (prvP l i) (l.drop i))
 | 0, i, n + 1, h, _ => by rw [ref03_PinsOK.L1, if_neg (by omega), List.drop_of_length_le (by omega)]; cases prvP l i <;> rfl
 | m + 1, i, n + 1, h, hn => by
  have h1 : i < l.length := by omega
  have ih := pinsOK_loop k l h9 m (i + 1) n (by omega) (by omega)
  rw [prvP_succ h1] at ih
  rw [ref03_PinsOK.L1, if_pos (by omega), idx_pos h1, List.drop_eq_getElem_cons h1, pinsB_cons, rkey_eq, bnd1_some, pinB]
  have hj : ∀ b : Bool, ref03_PinsOK.J2 k (i : Int) (fun v => ref03_PinsOK.L1 k l n v) b = if b = true then some false else some (pinsB (some l[i].Author) (l.drop (i + 1))) := by
   intro b
   unfold ref03_PinsOK.J2
   rw [succ64 i (by omega)]; dsimp only; rw [ih]
  simp only [hj, hgt_eq]
  cases bIn l[i].Author 0 63
  ·rfl
  rw [itt]
  by_cases c : i = 0
  ·subst c
   rw [if_neg (by omega)]
   cases bIn l[0].Height 1 200
   ·rfl
   rw [if_pos rfl, size32]
   cases decide (l[0].Digest.size = 32) <;> rfl
  ·have hp : prvP l i = some ((l[i - 1]'(by omega)).Author) := by simp [prvP, c, List.getElem?_eq_getElem (show i - 1 < l.length by omega)]
   rw [if_pos (by omega), pred64 i (by omega) (by omega), idx_pos (by omega), hp]
   by_cases d : l[i].Author ≤ l[i - 1].Author
   ·rw [if_pos d]
    have : ¬ l[i - 1].Author < l[i].Author := by omega
    simp [this]
   ·rw [if_neg d]
    have : l[i - 1].Author < l[i].Author := by omega
    cases bIn l[i].Height 1 200
    ·simp
    rw [if_pos rfl, size32]
    cases decide (l[i].Digest.size = 32) <;> simp [this]
theorem pinsOK_eq (k : Nat) (l : List api_Pin) (h9 : l.length ≤ 9223372036854775807) (hk : l.length < k) : ref03_PinsOK k l = some (pinsB none l) := pinsOK_loop k l h9 l.length 0 k (by omega) hk
def allV (l : List Int) : Bool := l.all fun x => bIn x 0 1099511627776
theorem allV_cons (x : Int) (l : List Int) : allV (x :: l) = (bIn x 0 1099511627776 && allV l) := by simp [allV]
theorem ixf_loop (k : Nat) (l : List Int) (h9 : l.length ≤ 9223372036854775807) : ∀ (m i n : Nat), i + m = l.length → m < n → ∃ r, slices_IndexFunc_int_int_Check_1.L1 k l n (i : Int) = some r ∧ decide (0 ≤ r) = !allV (l.drop i)
 | 0, i, n + 1, h, _ => by rw [slices_IndexFunc_int_int_Check_1.L1, if_neg (by omega), List.drop_of_length_le (by omega)]; exact ⟨_, rfl, rfl⟩
 | m + 1, i, n + 1, h, hn => by
  have h1 : i < l.length := by omega
  rw [slices_IndexFunc_int_int_Check_1.L1, if_pos (by omega), idx_pos h1, List.drop_eq_getElem_cons h1, allV_cons]
  unfold statement_Check_1
  rw [value_eq, bnd1_some, bnd1_some]
  cases e : bIn l[i] 0 1099511627776
  ·exact ⟨_, rfl, by simp⟩
  ·obtain ⟨r, h2, h3⟩ := ixf_loop k l h9 m (i + 1) n (by omega) (by omega)
   rw [itt, succ64 i (by omega), h2]
   exact ⟨r, rfl, by rw [h3]; simp⟩
theorem cont_eq (k : Nat) (l : List Int) (h9 : l.length ≤ 9223372036854775807) (hk : l.length < k) : slices_ContainsFunc_int_int_Check_1 k l = some (!allV l) := by
 obtain ⟨r, h2, h3⟩ := ixf_loop k l h9 l.length 0 k (by omega) hk
 unfold slices_ContainsFunc_int_int_Check_1 slices_IndexFunc_int_int_Check_1
 rw [show (0 : Int) = ((0 : Nat) : Int) from rfl, h2, bnd1_some]
 exact congrArg some h3
def meantB (author time kind A B C : Int) : Bool :=
 if kind = 1 then bIn A 0 63 && decide (A ≠ author) && bIn B 1 3 && bIn C time 2147483648
 else if kind = 2 then bIn A 0 199 && decide (B = 0) && decide (C = 0)
 else if kind = 3 then decide (A = 0) && decide (B = 0) && decide (C = 0)
 else true
theorem beq0 (x : Int) : (x == 0) = decide (x = 0) := by by_cases h : x = 0 <;> simp [h]
theorem meant_eq (k : Nat) (author num : Int) (prev : ByteArray) (time kind A B C : Int) (l : List Int) (pins : List api_Pin) (body : ByteArray) (sk : Int) (sd : ByteArray) :
 statement_meant k author num prev time kind A B C l pins body sk sd = some (meantB author time kind A B C) := by
 unfold statement_meant meantB
 simp only [In_eq, bnd1_some, beq0]
 by_cases k1 : kind = 1
 ·rw [if_pos k1, if_pos k1]
  cases bIn A 0 63 <;> simp
  by_cases e : A = author <;> simp [e]
  cases bIn B 1 3 <;> simp
 rw [if_neg k1, if_neg k1]
 by_cases k2 : kind = 2
 ·rw [if_pos k2, if_pos k2]
  cases bIn A 0 199 <;> simp
  by_cases e : B = 0 <;> simp [e]
 rw [if_neg k2, if_neg k2]
 by_cases k3 : kind = 3
 ·rw [if_pos k3, if_pos k3]
  by_cases e : A = 0 <;> simp [e]
  by_cases e : B = 0 <;> simp [e]
 rw [if_neg k3, if_neg k3]
theorem numbers_loop (k : Nat) (author time kind A B C : Int) (l : List Int) (h9 : l.length ≤ 9223372036854775807) : ∀ (m i n : Nat), i + m = l.length → m < n →
 ref03_numbers.L1 k author time kind A B C l n (i : Int) = some (allV (l.drop i) && meantB author time kind A B C)
 | 0, i, n + 1, h, _ => by
  rw [ref03_numbers.L1, if_neg (by omega), List.drop_of_length_le (by omega)]
  unfold meantB
  simp only [rkey_eq, rin_eq, bnd1_some, beq0, allV, List.all_nil, Bool.true_and]
  by_cases k1 : kind = 1
  ·rw [if_pos k1, if_pos k1]
   cases bIn A 0 63 <;> simp
   by_cases e : A = author <;> simp [e]
   unfold bIn
   by_cases b1 : 1 ≤ B <;> simp [b1]
   by_cases b2 : B ≤ 3 <;> simp [b2]
   by_cases c1 : time ≤ C <;> simp [c1]
  rw [if_neg k1, if_neg k1]
  by_cases k2 : kind = 2
  ·rw [if_pos k2, if_pos k2]
   cases bIn A 0 199 <;> simp
   by_cases e : B = 0 <;> simp [e]
  rw [if_neg k2, if_neg k2]
  by_cases k3 : kind = 3
  ·rw [if_pos k3, if_pos k3]
   by_cases e : A = 0 <;> simp [e]
   by_cases e : B = 0 <;> simp [e]
  rw [if_neg k3, if_neg k3]
 | m + 1, i, n + 1, h, hn => by
  have h1 : i < l.length := by omega
  rw [ref03_numbers.L1, if_pos (by omega), idx_pos h1, List.drop_eq_getElem_cons h1, rin_eq, bnd1_some, allV_cons]
  cases bIn l[i] 0 1099511627776
  ·rfl
  rw [itt, succ64 i (by omega), numbers_loop k author time kind A B C l h9 m (i + 1) n (by omega) (by omega)]
  simp
def numsB (author num time kind A B C : Int) (l : List Int) : Bool := bIn num 0 199 && bIn A 0 1099511627776 && bIn B 0 1099511627776 && bIn C 0 1099511627776 && meantB author time kind A B C && allV l
theorem numbers_eq (k : Nat) (author num : Int) (prev : ByteArray) (time kind A B C : Int) (l : List Int) (pins : List api_Pin) (body : ByteArray) (sk : Int) (sd : ByteArray) (h9 : l.length ≤ 9223372036854775807) (hk : l.length < k) :
 ref03_numbers k author num prev time kind A B C l pins body sk sd = some (numsB author num time kind A B C l) := by
 unfold ref03_numbers numsB
 have := numbers_loop k author time kind A B C l h9 l.length 0 k (by omega) hk
 simp only [rin_eq, bnd1_some]
 rw [show (0 : Int) = ((0 : Nat) : Int) from rfl] at *
 rw [this]
 cases bIn num ((0 : Nat) : Int) 199
 ·rfl
 cases bIn A ((0 : Nat) : Int) 1099511627776
 ·rfl
 cases bIn B ((0 : Nat) : Int) 1099511627776
 ·rfl
 cases bIn C ((0 : Nat) : Int) 1099511627776
 ·rfl
 simp [Bool.and_comm]
def formB (num : Int) (prev : ByteArray) (kind : Int) (l : List Int) (pins : List api_Pin) (body : ByteArray) : Bool :=
 (if num = 0 then strEq prev (ByteArray.mk #[]) else if 0 < num then decide (prev.size = 32) else true) && pinsB none pins && !(decide (kind ≤ 3) && (!l.isEmpty || !pins.isEmpty || !strEq body (ByteArray.mk #[])))
def chkS (author num : Int) (prev : ByteArray) (time kind A B C : Int) (l : List Int) (pins : List api_Pin) (body : ByteArray) : Int :=
 if bIn author 0 63 = true then
  if (bIn kind 1 3 || bIn kind 10 31) = true then
   if bIn time 0 2147483648 = true then
    if numsB author num time kind A B C l = true then
     if l.length ≤ 64 ∧ pins.length ≤ 64 ∧ body.size ≤ 4096 then
      if formB num prev kind l pins body = true then 0 else 1
     else 3
    else 2
   else 9
  else 5
 else 4
theorem empty_size (b : ByteArray) : strEq b (ByteArray.mk #[]) = decide (b.size = 0) := by
 by_cases h : b.size = 0
 ·have : b = ByteArray.mk #[] := by
   obtain ⟨a⟩ := b
   have : a.size = 0 := h
   rw [Array.size_eq_zero_iff.1 this]
  subst this; rfl
 ·have : ¬ strEq b (ByteArray.mk #[]) = true := by
   rw [strEq_iff]; rintro rfl; exact h rfl
  simp [h, this]
theorem plain_eq (l : List Int) (pins : List api_Pin) (body : ByteArray) (h1 : l.length ≤ 64) (h2 : pins.length ≤ 64) (h3 : body.size ≤ 4096) :
 decide (0 < IntKind.wrap .i64 (IntKind.wrap .i64 ((l.length : Int) + (pins.length : Int)) + (body.size : Int))) = (!l.isEmpty || !pins.isEmpty || !strEq body (ByteArray.mk #[])) := by
 rw [w64 (n := (l.length : Int) + pins.length) (by omega) (by omega), w64 (by omega) (by omega), empty_size]
 cases l with
 | cons x l => simp; omega
 | nil => cases pins with
  | cons x p => simp; omega
  | nil =>
   by_cases h : body.size = 0
   ·simp [h]
   ·have : 0 < body.size := by omega
    simp [h, this]
theorem sz_ne (b : ByteArray) : ((b.size : Int) ≠ 32) ↔ ¬ b.size = 32 := by omega
theorem tail_p (k : Nat) (num : Int) (prev : ByteArray) (kind : Int) (l : List Int) (pins : List api_Pin) (body : ByteArray) (h2 : pins.length < k) (J : Bool → Option Int) (hJ : ∀ b, J b = if b = true then some 1 else some 0) :
 (if 64 < (l.length : Int) then some 3 else if 64 < (pins.length : Int) then some 3 else if 4096 < (body.size : Int) then some 3 else
  if num = 0 then
   if (!strEq prev (ByteArray.mk #[])) = true then J true
   else if 0 < num then none
   else bnd1 (statement_pinned k pins) fun v => if (!v) = true then J true else if kind ≤ 3 then J (decide (0 < IntKind.wrap .i64 (IntKind.wrap .i64 ((l.length : Int) + (pins.length : Int)) + (body.size : Int)))) else J false
  else if 0 < num then
   if (prev.size : Int) ≠ 32 then J true
   else bnd1 (statement_pinned k pins) fun v => if (!v) = true then J true else if kind ≤ 3 then J (decide (0 < IntKind.wrap .i64 (IntKind.wrap .i64 ((l.length : Int) + (pins.length : Int)) + (body.size : Int)))) else J false
  else bnd1 (statement_pinned k pins) fun v => if (!v) = true then J true else if kind ≤ 3 then J (decide (0 < IntKind.wrap .i64 (IntKind.wrap .i64 ((l.length : Int) + (pins.length : Int)) + (body.size : Int)))) else J false) =
 some (if l.length ≤ 64 ∧ pins.length ≤ 64 ∧ body.size ≤ 4096 then (if formB num prev kind l pins body = true then 0 else 1) else 3) := by
 by_cases a1 : 64 < (l.length : Int)
 ·rw [if_pos a1, if_neg (by omega)]
 by_cases a2 : 64 < (pins.length : Int)
 ·rw [if_neg a1, if_pos a2, if_neg (by omega)]
 by_cases a3 : 4096 < (body.size : Int)
 ·rw [if_neg a1, if_neg a2, if_pos a3, if_neg (by omega)]
 rw [if_neg a1, if_neg a2, if_neg a3, if_pos (show l.length ≤ 64 ∧ pins.length ≤ 64 ∧ body.size ≤ 4096 from ⟨by omega, by omega, by omega⟩), pinned_eq k pins (by omega) h2]
 simp only [bnd1_some, hJ, plain_eq l pins body (by omega) (by omega) (by omega)]
 unfold formB
 generalize (!l.isEmpty || !pins.isEmpty || !strEq body (ByteArray.mk #[])) = q
 generalize pinsB none pins = p
 by_cases n0 : num = 0
 ·subst n0
  generalize strEq prev (ByteArray.mk #[]) = e
  by_cases k3 : kind ≤ 3 <;> cases e <;> cases p <;> cases q <;> simp [k3]
 by_cases n1 : 0 < num
 ·by_cases z : prev.size = 32
  ·have z' : (prev.size : Int) = 32 := by omega
   by_cases k3 : kind ≤ 3 <;> cases p <;> cases q <;> simp [k3, n0, n1, z, z']
  ·have z' : ¬ (prev.size : Int) = 32 := by omega
   by_cases k3 : kind ≤ 3 <;> cases p <;> cases q <;> simp [k3, n0, n1, z, z']
 ·by_cases k3 : kind ≤ 3 <;> cases p <;> cases q <;> simp [k3, n0, n1]
theorem Check_p (k : Nat) (author num : Int) (prev : ByteArray) (time kind A B C : Int) (l : List Int) (pins : List api_Pin) (body : ByteArray) (sk : Int) (sd : ByteArray) (h9 : l.length ≤ 9223372036854775807) (hk : l.length < k) (h2 : pins.length < k) :
 statement_Check k author num prev time kind A B C l pins body sk sd = some (chkS author num prev time kind A B C l pins body) := by
 unfold statement_Check chkS
 simp only [In_eq, value_eq, meant_eq, cont_eq k l h9 hk, bnd1_some, tail_p k num prev kind l pins body h2 (statement_Check.J2 k) (fun b => by unfold statement_Check.J2 statement_Check.J1; rfl),
  tail_p k num prev kind l pins body h2 (statement_Check.J3 k) (fun b => by unfold statement_Check.J3 statement_Check.J1; rfl)]
 unfold numsB
 generalize (if l.length ≤ 64 ∧ pins.length ≤ 64 ∧ body.size ≤ 4096 then (if formB num prev kind l pins body = true then (0 : Int) else 1) else 3) = R
 cases bIn author 0 63
 ·rfl
 simp only [itt, if_true]
 cases bIn kind 1 3
 ·simp only [itf, Bool.false_or]
  cases bIn kind 10 31
  ·rfl
  simp only [itt, if_true]
  cases bIn time 0 2147483648
  ·rfl
  simp only [itt, if_true]
  cases bIn num 0 199
  ·rfl
  cases bIn A 0 1099511627776
  ·rfl
  cases bIn B 0 1099511627776
  ·rfl
  cases bIn C 0 1099511627776
  ·rfl
  cases meantB author time kind A B C
  ·rfl
  cases allV l <;> rfl
 ·simp only [itt, Bool.true_or, if_true]
  cases bIn time 0 2147483648
  ·rfl
  simp only [itt, if_true]
  cases bIn num 0 199
  ·rfl
  cases bIn A 0 1099511627776
  ·rfl
  cases bIn B 0 1099511627776
  ·rfl
  cases bIn C 0 1099511627776
  ·rfl
  cases meantB author time kind A B C
  ·rfl
  cases allV l <;> rfl
theorem J3_r (k : Nat) (kind : Int) (l : List Int) (pins : List api_Pin) (body : ByteArray) (b : Bool) : ref03_Check.J3 k kind l pins body b =
 if b = true then some 1 else if (decide (kind ≤ 3) && (!l.isEmpty || !pins.isEmpty || !strEq body (ByteArray.mk #[]))) = true then some 1 else some 0 := by
 unfold ref03_Check.J3 ref03_Check.J1
 cases b
 ·simp only [Bool.false_eq_true, if_false]
  by_cases k3 : kind ≤ 3
  ·rw [if_pos k3]
   cases l with
   | cons x l => rw [if_pos (by simp)]; simp [k3]
   | nil => cases pins with
    | cons x p => rw [if_neg (by simp), if_pos (by simp)]; simp [k3]
    | nil =>
     rw [if_neg (by simp), if_neg (by simp)]
     cases strEq body (ByteArray.mk #[]) <;> simp [k3]
  ·rw [if_neg k3]; simp [k3]
 ·rfl
theorem kind_r (kind : Int) (x : Bool → Option Int) : (if kind < 1 then x true else if 3 < kind then (if kind < 10 then x true else x (decide (31 < kind))) else x (decide (31 < kind))) = x (!(bIn kind 1 3 || bIn kind 10 31)) := by
 unfold bIn
 by_cases a : kind < 1
 ·rw [if_pos a]; congr 1; symm; simp; try omega
 rw [if_neg a]
 by_cases b : 3 < kind
 ·rw [if_pos b]
  by_cases c : kind < 10
  ·rw [if_pos c]; congr 1; symm; simp; try omega
  ·rw [if_neg c]; congr 1
   by_cases d : 31 < kind
   ·simp [d]; try omega
   ·simp [d]; try omega
 ·rw [if_neg b]; congr 1
  have : ¬ 31 < kind := by omega
  simp [this]; try omega
theorem Check_r (k : Nat) (author num : Int) (prev : ByteArray) (time kind A B C : Int) (l : List Int) (pins : List api_Pin) (body : ByteArray) (sk : Int) (sd : ByteArray) (h9 : l.length ≤ 9223372036854775807) (hk : l.length < k) (h2 : pins.length < k) :
 ref03_Check k author num prev time kind A B C l pins body sk sd = some (chkS author num prev time kind A B C l pins body) := by
 unfold ref03_Check chkS
 rw [rkey_eq, bnd1_some]
 cases bIn author 0 63
 ·rfl
 rw [itt, if_pos rfl, kind_r kind (fun b => ref03_Check.J2 k author num prev time kind A B C l pins body sk sd b)]
 unfold ref03_Check.J2
 cases (bIn kind 1 3 || bIn kind 10 31)
 ·rfl
 rw [if_neg (by simp), if_pos rfl, rin_eq, bnd1_some]
 cases bIn time 0 2147483648
 ·rfl
 rw [itt, if_pos rfl, numbers_eq k _ _ _ _ _ _ _ _ l _ _ _ _ h9 hk, bnd1_some]
 cases numsB author num time kind A B C l
 ·rfl
 rw [itt, if_pos rfl]
 by_cases a1 : 64 < (l.length : Int)
 ·rw [if_pos a1, if_neg (by omega)]
 by_cases a2 : 64 < (pins.length : Int)
 ·rw [if_neg a1, if_pos a2, if_neg (by omega)]
 by_cases a3 : 4096 < (body.size : Int)
 ·rw [if_neg a1, if_neg a2, if_pos a3, if_neg (by omega)]
 rw [if_neg a1, if_neg a2, if_neg a3, if_pos (show l.length ≤ 64 ∧ pins.length ≤ 64 ∧ body.size ≤ 4096 from ⟨by omega, by omega, by omega⟩), pinsOK_eq k pins (by omega) h2]
 simp only [bnd1_some, J3_r]
 unfold formB
 generalize (decide (kind ≤ 3) && (!l.isEmpty || !pins.isEmpty || !strEq body (ByteArray.mk #[]))) = q
 generalize pinsB none pins = p
 by_cases n0 : num = 0
 ·subst n0
  generalize strEq prev (ByteArray.mk #[]) = e
  cases e <;> cases p <;> cases q <;> simp
 by_cases n1 : 0 < num
 ·by_cases z : prev.size = 32
  ·have z' : (prev.size : Int) = 32 := by omega
   cases p <;> cases q <;> simp [n0, n1, z, z']
  ·have z' : ¬ (prev.size : Int) = 32 := by omega
   cases p <;> cases q <;> simp [n0, n1, z, z']
 ·cases p <;> cases q <;> simp [n0, n1]
end Go.TF
