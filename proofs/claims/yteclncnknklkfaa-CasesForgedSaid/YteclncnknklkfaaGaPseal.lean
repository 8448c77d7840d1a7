/- Plain laws of layer 3: the bytes of statements, and their seals. -/
import Derived.Test.YteclncnknklkfaaGaPstat
import Derived.Test.YteclncnknklkfaaGaPsha
import Derived.Test.YteclncnknklkfaaGaPwire
set_option linter.unusedVariables false
set_option linter.unusedSimpArgs false
namespace Go.TF
open Go Go.Abs
def txtE (s : ByteArray) : List Int := enc s.size ++ bI s
theorem txtE_len (s : ByteArray) : (txtE s).length = 8 + s.size := by rw [txtE, List.length_append, enc_length, bI_len]
def pinE (p : api_Pin) : List Int := enc p.Author ++ enc p.Height ++ txtE p.Digest
theorem pinE_len (p : api_Pin) (h : p.Digest.size = 32) : (pinE p).length = 56 := by simp only [pinE, List.length_append, enc_length, txtE_len, h]
theorem pins_len : ∀ (l : List api_Pin), (∀ p ∈ l, p.Digest.size = 32) → (l.flatMap pinE).length = 56 * l.length
 | [], _ => rfl
 | p :: l, h => by
  rw [List.flatMap_cons, List.length_append, pins_len l (fun q hq => h q (by simp [hq])), pinE_len p (h p (by simp)), List.length_cons]; omega
theorem flatF_len : ∀ (l : List Int), (l.flatMap enc).length = 8 * l.length
 | [] => rfl
 | x :: l => by rw [List.flatMap_cons, List.length_append, enc_length, flatF_len l, List.length_cons]; omega
theorem pinsB_digest : ∀ (l : List api_Pin) (p : Option Int), pinsB p l = true → ∀ q ∈ l, q.Digest.size = 32
 | [], _, _, q, hq => by cases hq
 | x :: l, p, h, q, hq => by
  rw [pinsB_cons, Bool.and_eq_true] at h
  rcases List.mem_cons.1 hq with rfl | hq
  ·have := h.1
   simp only [pinB, Bool.and_eq_true, decide_eq_true_eq] at this
   exact this.2
  ·exact pinsB_digest l _ h.2 q hq
def bytesS (author num : Int) (prev : ByteArray) (time kind A B C : Int) (l : List Int) (pins : List api_Pin) (body : ByteArray) : List Int :=
 enc author ++ enc num ++ txtE prev ++ [time, kind, A, B, C].flatMap enc ++ enc l.length ++ l.flatMap enc ++ enc pins.length ++ pins.flatMap pinE ++ txtE body
structure SizeS (prev : ByteArray) (l : List Int) (pins : List api_Pin) (body : ByteArray) : Prop where
 p : prev.size ≤ 32
 l : l.length ≤ 100
 q : pins.length ≤ 64
 d : ∀ x ∈ pins, x.Digest.size = 32
 b : body.size ≤ 4096
theorem bytesS_len (author num : Int) (prev : ByteArray) (time kind A B C : Int) (l : List Int) (pins : List api_Pin) (body : ByteArray) (h : SizeS prev l pins body) : (bytesS author num prev time kind A B C l pins body).length ≤ 9000 := by
 have h1 := h.p; have h2 := h.l; have h3 := h.q; have h5 := h.b
 simp only [bytesS, List.length_append, enc_length, txtE_len, flatF_len, pins_len pins h.d, List.length_cons, List.length_nil]
 omega
theorem br2 (k : Nat) (hk : 8 < k) (pins : List api_Pin) (body : ByteArray) (hb : body.size ≤ 4096) (h9 : pins.length ≤ 64) (hd : ∀ x ∈ pins, x.Digest.size = 32) : ∀ (m i n : Nat) (acc : List Int), i + m = pins.length → m < n → acc.length + 56 * m ≤ 50000 →
 ref03_Bytes.L2 k pins body n acc (i : Int) = some (acc ++ (pins.drop i).flatMap pinE ++ txtE body)
 | 0, i, n + 1, acc, h, _, ha => by
  rw [ref03_Bytes.L2, if_neg (by omega), refText_eq k hk _ _ (by omega) (by omega), bnd1_some, List.drop_of_length_le (by omega)]
  simp [txtE]
 | m + 1, i, n + 1, acc, h, hn, ha => by
  have h1 : i < pins.length := by omega
  have h2 := hd _ (List.getElem_mem h1)
  rw [ref03_Bytes.L2, if_pos (by omega), idx_pos h1, refInt_eq k hk _ _ (by omega), bnd1_some, refInt_eq k hk _ _ (by rw [List.length_append, enc_length]; omega), bnd1_some, refText_eq k hk _ _ (by simp only [List.length_append, enc_length]; omega) (by omega), bnd1_some, w64 (by omega) (by omega), show ((i : Int) + 1) = ((i + 1 : Nat) : Int) by omega,
   br2 k hk pins body hb h9 hd m (i + 1) n _ (by omega) (by omega) (by simp only [List.length_append, enc_length, bI_len, h2]; omega), List.drop_eq_getElem_cons h1, List.flatMap_cons]
  simp only [pinE, txtE, List.append_assoc]
theorem br1 (k : Nat) (hk : 100 < k) (time kind A B C : Int) (l : List Int) (pins : List api_Pin) (body : ByteArray) (hl : l.length ≤ 100) (hb : body.size ≤ 4096) (h9 : pins.length ≤ 64) (hd : ∀ x ∈ pins, x.Digest.size = 32) : ∀ (m i n : Nat) (acc : List Int), i + m = 5 → m < n → acc.length + 8 * m ≤ 5000 →
 ref03_Bytes.L1 k time kind A B C l pins body n acc (i : Int) = some (acc ++ (([time, kind, A, B, C] : List Int).drop i).flatMap enc ++ enc l.length ++ l.flatMap enc ++ enc pins.length ++ pins.flatMap pinE ++ txtE body)
 | 0, i, n + 1, acc, h, _, ha => by
  rw [ref03_Bytes.L1, if_neg (by simp; omega), refInts_eq k (by omega) _ _ (by omega) (by omega) (by omega), bnd1_some, refInt_eq k (by omega) _ _ (by simp only [List.length_append, enc_length, flatF_len]; omega), bnd1_some, show (0 : Int) = ((0 : Nat) : Int) from rfl,
   br2 k (by omega) pins body hb h9 hd pins.length 0 k _ (by omega) (by omega) (by simp only [List.length_append, enc_length, flatF_len]; omega), List.drop_of_length_le (l := ([time, kind, A, B, C] : List Int)) (by simp; omega)]
  simp
 | m + 1, i, n + 1, acc, h, hn, ha => by
  have h1 : i < ([time, kind, A, B, C] : List Int).length := by simp; omega
  rw [ref03_Bytes.L1, if_pos (by simp; omega), idx_pos h1, refInt_eq k (by omega) _ _ (by omega), bnd1_some, w64 (by omega) (by omega), show ((i : Int) + 1) = ((i + 1 : Nat) : Int) by omega,
   br1 k hk time kind A B C l pins body hl hb h9 hd m (i + 1) n _ (by omega) (by omega) (by rw [List.length_append, enc_length]; omega), List.drop_eq_getElem_cons h1, List.flatMap_cons]
  simp only [List.append_assoc]
theorem Bytes_r (k : Nat) (hk : 100 < k) (author num : Int) (prev : ByteArray) (time kind A B C : Int) (l : List Int) (pins : List api_Pin) (body : ByteArray) (sk : Int) (sd : ByteArray) (h : SizeS prev l pins body) :
 ref03_Bytes k author num prev time kind A B C l pins body sk sd = some (bytesS author num prev time kind A B C l pins body) := by
 have h1 := h.p
 unfold ref03_Bytes bytesS
 rw [refInt_eq k (by omega) _ _ (by simp), bnd1_some, refInt_eq k (by omega) _ _ (by simp only [List.length_append, enc_length, List.length_nil]; omega), bnd1_some, refText_eq k (by omega) _ _ (by simp only [List.length_append, enc_length, List.length_nil]; omega) (by omega), bnd1_some, show (0 : Int) = ((0 : Nat) : Int) from rfl,
  br1 k hk time kind A B C l pins body h.l h.b h.q h.d 5 0 k _ (by omega) (by omega) (by simp only [List.length_append, enc_length, List.length_nil, bI_len]; omega)]
 simp only [txtE, List.nil_append, List.drop_zero, List.append_assoc]
def digS (author num : Int) (prev : ByteArray) (time kind A B C : Int) (l : List Int) (pins : List api_Pin) (body : ByteArray) : ByteArray := shaS (bytesS author num prev time kind A B C l pins body)
theorem Digest_r (k : Nat) (hk : 10000 < k) (author num : Int) (prev : ByteArray) (time kind A B C : Int) (l : List Int) (pins : List api_Pin) (body : ByteArray) (sk : Int) (sd : ByteArray) (h : SizeS prev l pins body) :
 ref03_Digest k author num prev time kind A B C l pins body sk sd = some (digS author num prev time kind A B C l pins body) := by
 have := bytesS_len author num prev time kind A B C l pins body h
 unfold ref03_Digest digS
 rw [Bytes_r k (by omega) _ _ _ _ _ _ _ _ _ _ _ _ _ h, bnd1_some, Sum_r k _ (by omega) (by omega) (by omega), bnd1_some]
def sealB (author num : Int) (prev : ByteArray) (time kind A B C : Int) (l : List Int) (pins : List api_Pin) (body : ByteArray) (sk : Int) (sd : ByteArray) : Bool := decide (sk = author) && strEq sd (digS author num prev time kind A B C l pins body)
theorem Sealed_r (k : Nat) (hk : 10000 < k) (author num : Int) (prev : ByteArray) (time kind A B C : Int) (l : List Int) (pins : List api_Pin) (body : ByteArray) (sk : Int) (sd : ByteArray) (h : SizeS prev l pins body) :
 ref03_Sealed k author num prev time kind A B C l pins body sk sd = some (sealB author num prev time kind A B C l pins body sk sd) := by
 unfold ref03_Sealed sealB
 by_cases e : sk = author
 ·rw [if_pos e, Digest_r k hk _ _ _ _ _ _ _ _ _ _ _ _ _ h, bnd1_some]; simp [e]
 ·rw [if_neg e]; simp [e]
theorem chk0_size {author num : Int} {prev : ByteArray} {time kind A B C : Int} {l : List Int} {pins : List api_Pin} {body : ByteArray} (h : chkS author num prev time kind A B C l pins body = 0) : SizeS prev l pins body := by
 unfold chkS at h
 split at h; rotate_left; · omega
 split at h; rotate_left; · omega
 split at h; rotate_left; · omega
 split at h; rotate_left; · omega
 rename_i hn
 split at h; rotate_left; · omega
 rename_i hz
 split at h; rotate_left; · omega
 rename_i hf
 simp only [formB, Bool.and_eq_true] at hf
 refine ⟨?_, by have := hz.1; omega, hz.2.1, pinsB_digest _ _ hf.1.2, hz.2.2⟩
 have h1 := hf.1.1
 split at h1
 ·have := (empty_size prev).symm.trans h1
  simp only [decide_eq_true_eq] at this
  omega
 split at h1
 ·simp only [decide_eq_true_eq] at h1; omega
 ·simp only [numsB, Bool.and_eq_true, bIn, decide_eq_true_eq] at hn
  omega
end Go.TF
