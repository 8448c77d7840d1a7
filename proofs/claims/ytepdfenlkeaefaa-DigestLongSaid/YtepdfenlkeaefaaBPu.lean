/- The Go functions as Lean functions (printed by a program of our own). -/
import Derived.Test.YtepdfenlkeaefaaAbsX
set_option linter.unusedVariables false
set_option maxRecDepth 100000
namespace Go.TF
open Go Go.Abs

def made_Mod.J1 (k : Nat) (v3 : Int) : Option Int :=
  some v3
def made_Mod (k : Nat) (v0 : Int) (v1 : Int) : Option Int :=
  if v1 < 1 then
    some 0
  else
    chk (v1 ≠ (0 : Int)) <|
    if Int.tmod v0 v1 < 0 then
      made_Mod.J1 k (IntKind.wrap .i64 (Int.tmod v0 v1 + v1))
    else
      made_Mod.J1 k (Int.tmod v0 v1)
def digest_rounds (k : Nat) : Option (List Int) :=
  chk ((List.replicate 64 0).length = 64 ∧ ([1116352408, 1899447441, 3049323471, 3921009573, 961987163, 1508970993, 2453635748, 2870763221, 3624381080, 310598401, 607225278, 1426881987, 1925078388, 2162078206, 2614888103, 3248222580, 3835390401, 4022224774, 264347078, 604807628, 770255983, 1249150122, 1555081692, 1996064986, 2554220882, 2821834349, 2952996808, 3210313671, 3336571891, 3584528711, 113926993, 338241895, 666307205, 773529912, 1294757372, 1396182291, 1695183700, 1986661051, 2177026350, 2456956037, 2730485921, 2820302411, 3259730800, 3345764771, 3516065817, 3600352804, 4094571909, 275423344, 430227734, 506948616, 659060556, 883997877, 958139571, 1322822218, 1537002063, 1747873779, 1955562222, 2024104815, 2227730452, 2361852424, 2428436474, 2756734187, 3204031479, 3329325298] : List Int).length = 64) <|
  chk (([1116352408, 1899447441, 3049323471, 3921009573, 961987163, 1508970993, 2453635748, 2870763221, 3624381080, 310598401, 607225278, 1426881987, 1925078388, 2162078206, 2614888103, 3248222580, 3835390401, 4022224774, 264347078, 604807628, 770255983, 1249150122, 1555081692, 1996064986, 2554220882, 2821834349, 2952996808, 3210313671, 3336571891, 3584528711, 113926993, 338241895, 666307205, 773529912, 1294757372, 1396182291, 1695183700, 1986661051, 2177026350, 2456956037, 2730485921, 2820302411, 3259730800, 3345764771, 3516065817, 3600352804, 4094571909, 275423344, 430227734, 506948616, 659060556, 883997877, 958139571, 1322822218, 1537002063, 1747873779, 1955562222, 2024104815, 2227730452, 2361852424, 2428436474, 2756734187, 3204031479, 3329325298] : List Int).length = 64) <|
  some ([1116352408, 1899447441, 3049323471, 3921009573, 961987163, 1508970993, 2453635748, 2870763221, 3624381080, 310598401, 607225278, 1426881987, 1925078388, 2162078206, 2614888103, 3248222580, 3835390401, 4022224774, 264347078, 604807628, 770255983, 1249150122, 1555081692, 1996064986, 2554220882, 2821834349, 2952996808, 3210313671, 3336571891, 3584528711, 113926993, 338241895, 666307205, 773529912, 1294757372, 1396182291, 1695183700, 1986661051, 2177026350, 2456956037, 2730485921, 2820302411, 3259730800, 3345764771, 3516065817, 3600352804, 4094571909, 275423344, 430227734, 506948616, 659060556, 883997877, 958139571, 1322822218, 1537002063, 1747873779, 1955562222, 2024104815, 2227730452, 2361852424, 2428436474, 2756734187, 3204031479, 3329325298] : List Int)
def math_bits_RotateLeft32 (k : Nat) (v0 : Int) (v1 : Int) : Option Int :=
  chk ((0 : Int) ≤ bitsV .and .u64 (IntKind.wrap .u64 v1) 31) <|
  chk ((0 : Int) ≤ IntKind.wrap .u64 (32 - bitsV .and .u64 (IntKind.wrap .u64 v1) 31)) <|
  some (bitsV .or .u32 (IntKind.wrap .u32 (v0 * 2 ^ (min ((bitsV .and .u64 (IntKind.wrap .u64 v1) 31).toNat) 32))) (Int.fdiv v0 (2 ^ (min ((IntKind.wrap .u64 (32 - bitsV .and .u64 (IntKind.wrap .u64 v1) 31)).toNat) 32))))
def digest_state_block_1 (k : Nat) (v0 : Int) (v1 : Int) : Option Int :=
  bnd1 (math_bits_RotateLeft32 k v0 (IntKind.wrap .i64 (0 - v1))) fun v3 =>
  some v3
def digest_state_block.L4 (k : Nat) (v21 : (List Int)) : Nat → Int → (List Int) → Option (List Int)
  | 0, _, _ => none
  | n + 1, v38, v39 =>
    if v38 < 8 then
      chk ((0 : Int) ≤ v38 ∧ v38 < 8 ∧ (v38).toNat < v39.length) <|
      idx v39 v38 fun v40 =>
      chk ((0 : Int) ≤ v38 ∧ v38 < 8 ∧ (v38).toNat < v21.length) <|
      idx v21 v38 fun v41 =>
      chk ((0 : Int) ≤ v38 ∧ v38 < 8 ∧ (v38).toNat < v39.length) <|
      digest_state_block.L4 k v21 n (IntKind.wrap .i64 (v38 + 1)) (v39.set (v38).toNat (IntKind.wrap .u32 (v40 + v41)))
    else
      some v39
def digest_state_block.L3 (k : Nat) (v0 : (List Int)) (v2 : (List Int)) (v11 : (List Int)) : Nat → Int → (List Int) → Option (List Int)
  | 0, _, _ => none
  | n + 1, v20, v21 =>
    if v20 < 64 then
      chk ((0 : Int) ≤ 0 ∧ 0 < 8 ∧ (0 : Int).toNat < v21.length) <|
      idx v21 (0 : Int) fun v22 =>
      chk ((0 : Int) ≤ 4 ∧ 4 < 8 ∧ (4 : Int).toNat < v21.length) <|
      idx v21 (4 : Int) fun v23 =>
      chk ((0 : Int) ≤ 7 ∧ 7 < 8 ∧ (7 : Int).toNat < v21.length) <|
      idx v21 (7 : Int) fun v24 =>
      bnd1 (digest_state_block_1 k v23 6) fun v25 =>
      bnd1 (digest_state_block_1 k v23 11) fun v26 =>
      bnd1 (digest_state_block_1 k v23 25) fun v27 =>
      chk ((0 : Int) ≤ 5 ∧ 5 < 8 ∧ (5 : Int).toNat < v21.length) <|
      idx v21 (5 : Int) fun v28 =>
      chk ((0 : Int) ≤ 6 ∧ 6 < 8 ∧ (6 : Int).toNat < v21.length) <|
      idx v21 (6 : Int) fun v29 =>
      chk ((0 : Int) ≤ v20 ∧ v20 < 64 ∧ (v20).toNat < v2.length) <|
      idx v2 v20 fun v30 =>
      chk ((0 : Int) ≤ v20 ∧ v20 < 64 ∧ (v20).toNat < v11.length) <|
      idx v11 v20 fun v31 =>
      bnd1 (digest_state_block_1 k v22 2) fun v32 =>
      bnd1 (digest_state_block_1 k v22 13) fun v33 =>
      bnd1 (digest_state_block_1 k v22 22) fun v34 =>
      chk ((0 : Int) ≤ 1 ∧ 1 < 8 ∧ (1 : Int).toNat < v21.length) <|
      idx v21 (1 : Int) fun v35 =>
      chk ((0 : Int) ≤ 2 ∧ 2 < 8 ∧ (2 : Int).toNat < v21.length) <|
      idx v21 (2 : Int) fun v36 =>
      chk ((0 : Int) ≤ 1 ∧ 1 < 8 ∧ (1 : Int).toNat < v21.length) <|
      chk ((0 : Int) ≤ 2 ∧ 2 < 8 ∧ (2 : Int).toNat < v21.length) <|
      chk ((0 : Int) ≤ 0 ∧ 0 < 8 ∧ (0 : Int).toNat < v21.length) <|
      chk ((0 : Int) ≤ 1 ∧ 1 < 8 ∧ (1 : Int).toNat < v21.length) <|
      chk ((0 : Int) ≤ 2 ∧ 2 < 8 ∧ (2 : Int).toNat < v21.length) <|
      chk ((0 : Int) ≤ 3 ∧ 3 < 8 ∧ (3 : Int).toNat < v21.length) <|
      idx v21 (3 : Int) fun v37 =>
      chk ((0 : Int) ≤ 4 ∧ 4 < 8 ∧ (4 : Int).toNat < v21.length) <|
      chk ((0 : Int) ≤ 5 ∧ 5 < 8 ∧ (5 : Int).toNat < v21.length) <|
      chk ((0 : Int) ≤ 6 ∧ 6 < 8 ∧ (6 : Int).toNat < v21.length) <|
      chk (v21.length = 8 ∧ ([IntKind.wrap .u32 (IntKind.wrap .u32 (IntKind.wrap .u32 (IntKind.wrap .u32 (IntKind.wrap .u32 (v24 + bitsV .xor .u32 (bitsV .xor .u32 v25 v26) v27) + bitsV .xor .u32 (bitsV .and .u32 v23 v28) (bitsV .and .u32 (bitsV .xor .u32 (IntKind.max .u32) v23) v29)) + v30) + v31) + IntKind.wrap .u32 (bitsV .xor .u32 (bitsV .xor .u32 v32 v33) v34 + bitsV .xor .u32 (bitsV .xor .u32 (bitsV .and .u32 v22 v35) (bitsV .and .u32 v22 v36)) (bitsV .and .u32 v35 v36))), v22, v35, v36, IntKind.wrap .u32 (v37 + IntKind.wrap .u32 (IntKind.wrap .u32 (IntKind.wrap .u32 (IntKind.wrap .u32 (v24 + bitsV .xor .u32 (bitsV .xor .u32 v25 v26) v27) + bitsV .xor .u32 (bitsV .and .u32 v23 v28) (bitsV .and .u32 (bitsV .xor .u32 (IntKind.max .u32) v23) v29)) + v30) + v31)), v23, v28, v29] : List Int).length = 8) <|
      digest_state_block.L3 k v0 v2 v11 n (IntKind.wrap .i64 (v20 + 1)) ([IntKind.wrap .u32 (IntKind.wrap .u32 (IntKind.wrap .u32 (IntKind.wrap .u32 (IntKind.wrap .u32 (v24 + bitsV .xor .u32 (bitsV .xor .u32 v25 v26) v27) + bitsV .xor .u32 (bitsV .and .u32 v23 v28) (bitsV .and .u32 (bitsV .xor .u32 (IntKind.max .u32) v23) v29)) + v30) + v31) + IntKind.wrap .u32 (bitsV .xor .u32 (bitsV .xor .u32 v32 v33) v34 + bitsV .xor .u32 (bitsV .xor .u32 (bitsV .and .u32 v22 v35) (bitsV .and .u32 v22 v36)) (bitsV .and .u32 v35 v36))), v22, v35, v36, IntKind.wrap .u32 (v37 + IntKind.wrap .u32 (IntKind.wrap .u32 (IntKind.wrap .u32 (IntKind.wrap .u32 (v24 + bitsV .xor .u32 (bitsV .xor .u32 v25 v26) v27) + bitsV .xor .u32 (bitsV .and .u32 v23 v28) (bitsV .and .u32 (bitsV .xor .u32 (IntKind.max .u32) v23) v29)) + v30) + v31)), v23, v28, v29] : List Int)
    else
      digest_state_block.L4 k v21 k 0 v0
def digest_state_block.L2 (k : Nat) (v0 : (List Int)) (v2 : (List Int)) : Nat → Int → (List Int) → Option (List Int)
  | 0, _, _ => none
  | n + 1, v10, v11 =>
    if v10 < 64 then
      chk ((0 : Int) ≤ (IntKind.wrap .i64 (v10 - 15)) ∧ (IntKind.wrap .i64 (v10 - 15)) < 64 ∧ (IntKind.wrap .i64 (v10 - 15)).toNat < v11.length) <|
      idx v11 (IntKind.wrap .i64 (v10 - 15)) fun v12 =>
      chk ((0 : Int) ≤ (IntKind.wrap .i64 (v10 - 2)) ∧ (IntKind.wrap .i64 (v10 - 2)) < 64 ∧ (IntKind.wrap .i64 (v10 - 2)).toNat < v11.length) <|
      idx v11 (IntKind.wrap .i64 (v10 - 2)) fun v13 =>
      chk ((0 : Int) ≤ (IntKind.wrap .i64 (v10 - 16)) ∧ (IntKind.wrap .i64 (v10 - 16)) < 64 ∧ (IntKind.wrap .i64 (v10 - 16)).toNat < v11.length) <|
      idx v11 (IntKind.wrap .i64 (v10 - 16)) fun v14 =>
      bnd1 (digest_state_block_1 k v12 7) fun v15 =>
      bnd1 (digest_state_block_1 k v12 18) fun v16 =>
      chk ((0 : Int) ≤ (IntKind.wrap .i64 (v10 - 7)) ∧ (IntKind.wrap .i64 (v10 - 7)) < 64 ∧ (IntKind.wrap .i64 (v10 - 7)).toNat < v11.length) <|
      idx v11 (IntKind.wrap .i64 (v10 - 7)) fun v17 =>
      bnd1 (digest_state_block_1 k v13 17) fun v18 =>
      bnd1 (digest_state_block_1 k v13 19) fun v19 =>
      chk ((0 : Int) ≤ v10 ∧ v10 < 64 ∧ (v10).toNat < v11.length) <|
      digest_state_block.L2 k v0 v2 n (IntKind.wrap .i64 (v10 + 1)) (v11.set (v10).toNat (IntKind.wrap .u32 (IntKind.wrap .u32 (IntKind.wrap .u32 (v14 + bitsV .xor .u32 (bitsV .xor .u32 v15 v16) (Int.fdiv v12 (2 ^ (3)))) + v17) + bitsV .xor .u32 (bitsV .xor .u32 v18 v19) (Int.fdiv v13 (2 ^ (10))))))
    else
      chk (v0.length = 8) <|
      chk ((List.replicate 8 0).length = 8 ∧ v0.length = 8) <|
      digest_state_block.L3 k v0 v2 v11 k 0 v0
def digest_state_block.L1 (k : Nat) (v0 : (List Int)) (v1 : (List Int)) (v2 : (List Int)) : Nat → Int → (List Int) → Option (List Int)
  | 0, _, _ => none
  | n + 1, v4, v5 =>
    if v4 < 16 then
      idx v1 (IntKind.wrap .i64 (4 * v4)) fun v6 =>
      idx v1 (IntKind.wrap .i64 (IntKind.wrap .i64 (4 * v4) + 1)) fun v7 =>
      idx v1 (IntKind.wrap .i64 (IntKind.wrap .i64 (4 * v4) + 2)) fun v8 =>
      idx v1 (IntKind.wrap .i64 (IntKind.wrap .i64 (4 * v4) + 3)) fun v9 =>
      chk ((0 : Int) ≤ v4 ∧ v4 < 64 ∧ (v4).toNat < v5.length) <|
      digest_state_block.L1 k v0 v1 v2 n (IntKind.wrap .i64 (v4 + 1)) (v5.set (v4).toNat (bitsV .or .u32 (bitsV .or .u32 (bitsV .or .u32 (IntKind.wrap .u32 ((IntKind.wrap .u32 v6) * 2 ^ (24))) (IntKind.wrap .u32 ((IntKind.wrap .u32 v7) * 2 ^ (16)))) (IntKind.wrap .u32 ((IntKind.wrap .u32 v8) * 2 ^ (8)))) (IntKind.wrap .u32 v9)))
    else
      digest_state_block.L2 k v0 v2 k 16 v5
def digest_state_block (k : Nat) (v0 : (List Int)) (v1 : (List Int)) (v2 : (List Int)) : Option (List Int) :=
  digest_state_block.L1 k v0 v1 v2 k 0 (List.replicate 64 0)
def digest_Sum.L4 (k : Nat) (v7 : (List Int)) : Nat → Int → (List Int) → Option ByteArray
  | 0, _, _ => none
  | n + 1, v9, v10 =>
    if v9 < 8 then
      chk (v9 < 8) <|
      idx v7 v9 fun v11 =>
      chk ((v10.length + ([IntKind.wrap .u8 (Int.fdiv v11 (2 ^ (24))), IntKind.wrap .u8 (Int.fdiv v11 (2 ^ (16))), IntKind.wrap .u8 (Int.fdiv v11 (2 ^ (8))), IntKind.wrap .u8 v11] : List Int).length) * 1 ≤ 140737488355328) <|
      digest_Sum.L4 k v7 n (IntKind.wrap .i64 (v9 + 1)) (v10 ++ ([IntKind.wrap .u8 (Int.fdiv v11 (2 ^ (24))), IntKind.wrap .u8 (Int.fdiv v11 (2 ^ (16))), IntKind.wrap .u8 (Int.fdiv v11 (2 ^ (8))), IntKind.wrap .u8 v11] : List Int))
    else
      some (ofI v10)
def digest_Sum.L3 (k : Nat) (v5 : (List Int)) : Nat → (List Int) → (List Int) → Option ByteArray
  | 0, _, _ => none
  | n + 1, v6, v7 =>
    if 0 < (v6.length : Int) then
      chk ((64 : Int) ≤ (v6.length : Int)) <|
      bnd1 (digest_state_block k v7 (v6.take (64 : Int).toNat) v5) fun v8 =>
      chk ((64 : Int) ≤ (v6.length : Int)) <|
      digest_Sum.L3 k v5 n (v6.drop (64 : Int).toNat) v8
    else
      chk (v7.length = 8) <|
      digest_Sum.L4 k v7 k 0 ([] : List Int)
def digest_Sum.L2 (k : Nat) (v0 : (List Int)) : Nat → Int → (List Int) → Option ByteArray
  | 0, _, _ => none
  | n + 1, v3, v4 =>
    if 0 ≤ v3 then
      chk ((0 : Int) ≤ IntKind.wrap .u64 v3) <|
      chk ((v4.length + ([IntKind.wrap .u8 (Int.fdiv (IntKind.wrap .u64 (IntKind.wrap .u64 (v0.length : Int) * 8)) (2 ^ (min ((IntKind.wrap .u64 v3).toNat) 64)))] : List Int).length) * 1 ≤ 140737488355328) <|
      digest_Sum.L2 k v0 n (IntKind.wrap .i64 (v3 - 8)) (v4 ++ ([IntKind.wrap .u8 (Int.fdiv (IntKind.wrap .u64 (IntKind.wrap .u64 (v0.length : Int) * 8)) (2 ^ (min ((IntKind.wrap .u64 v3).toNat) 64)))] : List Int))
    else
      bnd1 (digest_rounds k) fun v5 =>
      chk ((List.replicate 8 0).length = 8 ∧ ([1779033703, 3144134277, 1013904242, 2773480762, 1359893119, 2600822924, 528734635, 1541459225] : List Int).length = 8) <|
      chk ((List.replicate 64 0).length = 64 ∧ v5.length = 64) <|
      digest_Sum.L3 k v5 k v4 ([1779033703, 3144134277, 1013904242, 2773480762, 1359893119, 2600822924, 528734635, 1541459225] : List Int)
def digest_Sum.L1 (k : Nat) (v0 : (List Int)) : Nat → (List Int) → Option ByteArray
  | 0, _ => none
  | n + 1, v2 =>
    if (Int.tmod (v2.length : Int) 64) ≠ 56 then
      chk ((v2.length + ([0] : List Int).length) * 1 ≤ 140737488355328) <|
      digest_Sum.L1 k v0 n (v2 ++ ([0] : List Int))
    else
      digest_Sum.L2 k v0 k 56 v2
def digest_Sum (k : Nat) (v0 : (List Int)) : Option ByteArray :=
  chk (v0.length * 1 ≤ 140737488355328) <|
  chk ((v0.length + ([128] : List Int).length) * 1 ≤ 140737488355328) <|
  digest_Sum.L1 k v0 k (v0 ++ ([128] : List Int))
def digest_Hex.L1 (k : Nat) (v0 : ByteArray) : Nat → Int → (List Int) → Option ByteArray
  | 0, _, _ => none
  | n + 1, v2, v3 =>
    if v2 < (v0.size : Int) then
      idx (bI v0) v2 fun v4 =>
      idx (bI (ByteArray.mk #[48, 49, 50, 51, 52, 53, 54, 55, 56, 57, 97, 98, 99, 100, 101, 102])) (Int.fdiv v4 (2 ^ (4))) fun v5 =>
      idx (bI (ByteArray.mk #[48, 49, 50, 51, 52, 53, 54, 55, 56, 57, 97, 98, 99, 100, 101, 102])) (bitsV .and .u8 v4 15) fun v6 =>
      chk ((v3.length + ([v5, v6] : List Int).length) * 1 ≤ 140737488355328) <|
      digest_Hex.L1 k v0 n (IntKind.wrap .i64 (v2 + 1)) (v3 ++ ([v5, v6] : List Int))
    else
      some (ofI v3)
def digest_Hex (k : Nat) (v0 : ByteArray) : Option ByteArray :=
  digest_Hex.L1 k v0 k 0 ([] : List Int)
def law01_awake (k : Nat) : Option Bool :=
  bnd1 (digest_Sum k ([97, 98, 99] : List Int)) fun v1 =>
  bnd1 (digest_Hex k v1) fun v2 =>
  some (strEq v2 (ByteArray.mk #[98, 97, 55, 56, 49, 54, 98, 102, 56, 102, 48, 49, 99, 102, 101, 97, 52, 49, 52, 49, 52, 48, 100, 101, 53, 100, 97, 101, 50, 50, 50, 51, 98, 48, 48, 51, 54, 49, 97, 51, 57, 54, 49, 55, 55, 97, 57, 99, 98, 52, 49, 48, 102, 102, 54, 49, 102, 50, 48, 48, 49, 53, 97, 100]))
def ref01_constants (k : Nat) : Option (List Int) :=
  some ([1116352408, 1899447441, 3049323471, 3921009573, 961987163, 1508970993, 2453635748, 2870763221, 3624381080, 310598401, 607225278, 1426881987, 1925078388, 2162078206, 2614888103, 3248222580, 3835390401, 4022224774, 264347078, 604807628, 770255983, 1249150122, 1555081692, 1996064986, 2554220882, 2821834349, 2952996808, 3210313671, 3336571891, 3584528711, 113926993, 338241895, 666307205, 773529912, 1294757372, 1396182291, 1695183700, 1986661051, 2177026350, 2456956037, 2730485921, 2820302411, 3259730800, 3345764771, 3516065817, 3600352804, 4094571909, 275423344, 430227734, 506948616, 659060556, 883997877, 958139571, 1322822218, 1537002063, 1747873779, 1955562222, 2024104815, 2227730452, 2361852424, 2428436474, 2756734187, 3204031479, 3329325298] : List Int)
def ref01_turn (k : Nat) (v0 : Int) (v1 : Int) : Option Int :=
  chk ((0 : Int) ≤ v1) <|
  chk ((0 : Int) ≤ IntKind.wrap .u64 (32 - v1)) <|
  some (bitsV .or .u32 (Int.fdiv v0 (2 ^ (min v1.toNat 32))) (IntKind.wrap .u32 (v0 * 2 ^ (min ((IntKind.wrap .u64 (32 - v1)).toNat) 32))))
def ref01_block.L4 (k : Nat) (v0 : (List Int)) : Nat → Int → (List Int) → Option (List Int)
  | 0, _, _ => none
  | n + 1, v39, v40 =>
    if v39 < 8 then
      chk ((0 : Int) ≤ v39 ∧ (v39).toNat < v40.length) <|
      idx v40 v39 fun v41 =>
      idx v0 v39 fun v42 =>
      chk ((0 : Int) ≤ v39 ∧ (v39).toNat < v40.length) <|
      ref01_block.L4 k v0 n (IntKind.wrap .i64 (v39 + 1)) (v40.set (v39).toNat (IntKind.wrap .u32 (v41 + v42)))
    else
      some v40
def ref01_block.L3 (k : Nat) (v0 : (List Int)) (v2 : (List Int)) (v12 : (List Int)) : Nat → Int → (List Int) → Option (List Int)
  | 0, _, _ => none
  | n + 1, v21, v22 =>
    if v21 < 64 then
      idx v22 4 fun v23 =>
      bnd1 (ref01_turn k v23 6) fun v24 =>
      bnd1 (ref01_turn k v23 11) fun v25 =>
      bnd1 (ref01_turn k v23 25) fun v26 =>
      idx v22 5 fun v27 =>
      idx v22 6 fun v28 =>
      idx v22 7 fun v29 =>
      idx v2 v21 fun v30 =>
      idx v12 v21 fun v31 =>
      idx v22 0 fun v32 =>
      bnd1 (ref01_turn k v32 2) fun v33 =>
      bnd1 (ref01_turn k v32 13) fun v34 =>
      bnd1 (ref01_turn k v32 22) fun v35 =>
      idx v22 1 fun v36 =>
      idx v22 2 fun v37 =>
      idx v22 3 fun v38 =>
      ref01_block.L3 k v0 v2 v12 n (IntKind.wrap .i64 (v21 + 1)) ([IntKind.wrap .u32 (IntKind.wrap .u32 (IntKind.wrap .u32 (IntKind.wrap .u32 (IntKind.wrap .u32 (IntKind.wrap .u32 (v29 + bitsV .xor .u32 (bitsV .xor .u32 v24 v25) v26) + bitsV .xor .u32 (bitsV .and .u32 v23 v27) (bitsV .and .u32 (bitsV .xor .u32 (IntKind.max .u32) v23) v28)) + v30) + v31) + bitsV .xor .u32 (bitsV .xor .u32 v33 v34) v35) + bitsV .xor .u32 (bitsV .xor .u32 (bitsV .and .u32 v32 v36) (bitsV .and .u32 v32 v37)) (bitsV .and .u32 v36 v37)), v32, v36, v37, IntKind.wrap .u32 (v38 + IntKind.wrap .u32 (IntKind.wrap .u32 (IntKind.wrap .u32 (IntKind.wrap .u32 (v29 + bitsV .xor .u32 (bitsV .xor .u32 v24 v25) v26) + bitsV .xor .u32 (bitsV .and .u32 v23 v27) (bitsV .and .u32 (bitsV .xor .u32 (IntKind.max .u32) v23) v28)) + v30) + v31)), v23, v27, v28] : List Int)
    else
      ref01_block.L4 k v0 k 0 v22
def ref01_block.L2 (k : Nat) (v0 : (List Int)) (v2 : (List Int)) : Nat → Int → (List Int) → Option (List Int)
  | 0, _, _ => none
  | n + 1, v11, v12 =>
    if v11 < 64 then
      chk ((0 : Int) ≤ (IntKind.wrap .i64 (v11 - 15)) ∧ (IntKind.wrap .i64 (v11 - 15)).toNat < v12.length) <|
      idx v12 (IntKind.wrap .i64 (v11 - 15)) fun v13 =>
      bnd1 (ref01_turn k v13 7) fun v14 =>
      chk ((0 : Int) ≤ (IntKind.wrap .i64 (v11 - 15)) ∧ (IntKind.wrap .i64 (v11 - 15)).toNat < v12.length) <|
      bnd1 (ref01_turn k v13 18) fun v15 =>
      chk ((0 : Int) ≤ (IntKind.wrap .i64 (v11 - 15)) ∧ (IntKind.wrap .i64 (v11 - 15)).toNat < v12.length) <|
      chk ((0 : Int) ≤ (IntKind.wrap .i64 (v11 - 2)) ∧ (IntKind.wrap .i64 (v11 - 2)).toNat < v12.length) <|
      idx v12 (IntKind.wrap .i64 (v11 - 2)) fun v16 =>
      bnd1 (ref01_turn k v16 17) fun v17 =>
      chk ((0 : Int) ≤ (IntKind.wrap .i64 (v11 - 2)) ∧ (IntKind.wrap .i64 (v11 - 2)).toNat < v12.length) <|
      bnd1 (ref01_turn k v16 19) fun v18 =>
      chk ((0 : Int) ≤ (IntKind.wrap .i64 (v11 - 2)) ∧ (IntKind.wrap .i64 (v11 - 2)).toNat < v12.length) <|
      chk ((0 : Int) ≤ (IntKind.wrap .i64 (v11 - 16)) ∧ (IntKind.wrap .i64 (v11 - 16)).toNat < v12.length) <|
      idx v12 (IntKind.wrap .i64 (v11 - 16)) fun v19 =>
      chk ((0 : Int) ≤ (IntKind.wrap .i64 (v11 - 7)) ∧ (IntKind.wrap .i64 (v11 - 7)).toNat < v12.length) <|
      idx v12 (IntKind.wrap .i64 (v11 - 7)) fun v20 =>
      chk ((0 : Int) ≤ v11 ∧ (v11).toNat < v12.length) <|
      ref01_block.L2 k v0 v2 n (IntKind.wrap .i64 (v11 + 1)) (v12.set (v11).toNat (IntKind.wrap .u32 (IntKind.wrap .u32 (IntKind.wrap .u32 (v19 + bitsV .xor .u32 (bitsV .xor .u32 v14 v15) (Int.fdiv v13 (2 ^ (3)))) + v20) + bitsV .xor .u32 (bitsV .xor .u32 v17 v18) (Int.fdiv v16 (2 ^ (10))))))
    else
      chk (v0.length * 4 ≤ 140737488355328) <|
      ref01_block.L3 k v0 v2 v12 k 0 v0
def ref01_block.L1 (k : Nat) (v0 : (List Int)) (v1 : (List Int)) (v2 : (List Int)) : Nat → Int → (List Int) → Option (List Int)
  | 0, _, _ => none
  | n + 1, v5, v6 =>
    if v5 < 16 then
      idx v1 (IntKind.wrap .i64 (4 * v5)) fun v7 =>
      idx v1 (IntKind.wrap .i64 (IntKind.wrap .i64 (4 * v5) + 1)) fun v8 =>
      idx v1 (IntKind.wrap .i64 (IntKind.wrap .i64 (4 * v5) + 2)) fun v9 =>
      idx v1 (IntKind.wrap .i64 (IntKind.wrap .i64 (4 * v5) + 3)) fun v10 =>
      chk ((0 : Int) ≤ v5 ∧ (v5).toNat < v6.length) <|
      ref01_block.L1 k v0 v1 v2 n (IntKind.wrap .i64 (v5 + 1)) (v6.set (v5).toNat (bitsV .or .u32 (bitsV .or .u32 (bitsV .or .u32 (IntKind.wrap .u32 ((IntKind.wrap .u32 v7) * 2 ^ (24))) (IntKind.wrap .u32 ((IntKind.wrap .u32 v8) * 2 ^ (16)))) (IntKind.wrap .u32 ((IntKind.wrap .u32 v9) * 2 ^ (8)))) (IntKind.wrap .u32 v10)))
    else
      ref01_block.L2 k v0 v2 k 16 v6
def ref01_block (k : Nat) (v0 : (List Int)) (v1 : (List Int)) (v2 : (List Int)) : Option (List Int) :=
  chk ((0 : Int) ≤ 64 ∧ 16 * 64 ≤ 281474976710656) <|
  let1 (List.replicate 64 0) fun v4 =>
  ref01_block.L1 k v0 v1 v2 k 0 v4
def ref01_Sum.L4 (k : Nat) (v6 : (List Int)) : Nat → Int → (List Int) → Option ByteArray
  | 0, _, _ => none
  | n + 1, v9, v10 =>
    if v9 < 8 then
      idx v6 v9 fun v11 =>
      chk ((v10.length + ([IntKind.wrap .u8 (Int.fdiv v11 (2 ^ (24))), IntKind.wrap .u8 (Int.fdiv v11 (2 ^ (16))), IntKind.wrap .u8 (Int.fdiv v11 (2 ^ (8))), IntKind.wrap .u8 v11] : List Int).length) * 1 ≤ 140737488355328) <|
      ref01_Sum.L4 k v6 n (IntKind.wrap .i64 (v9 + 1)) (v10 ++ ([IntKind.wrap .u8 (Int.fdiv v11 (2 ^ (24))), IntKind.wrap .u8 (Int.fdiv v11 (2 ^ (16))), IntKind.wrap .u8 (Int.fdiv v11 (2 ^ (8))), IntKind.wrap .u8 v11] : List Int))
    else
      some (ofI v10)
def ref01_Sum.L3 (k : Nat) (v4 : (List Int)) (v5 : (List Int)) : Nat → (List Int) → Int → Option ByteArray
  | 0, _, _ => none
  | n + 1, v6, v7 =>
    if v7 < (v4.length : Int) then
      chk ((0 : Int) ≤ v7 ∧ (v7 : Int) ≤ IntKind.wrap .i64 (v7 + 64) ∧ (IntKind.wrap .i64 (v7 + 64) : Int) ≤ (v4.length : Int)) <|
      bnd1 (ref01_block k v6 ((v4.take (IntKind.wrap .i64 (v7 + 64)).toNat).drop (v7).toNat) v5) fun v8 =>
      ref01_Sum.L3 k v4 v5 n v8 (IntKind.wrap .i64 (v7 + 64))
    else
      ref01_Sum.L4 k v6 k 0 ([] : List Int)
def ref01_Sum.L2 (k : Nat) (v0 : (List Int)) : Nat → Int → (List Int) → Option ByteArray
  | 0, _, _ => none
  | n + 1, v3, v4 =>
    if 0 ≤ v3 then
      chk ((0 : Int) ≤ IntKind.wrap .u64 (IntKind.wrap .i64 (8 * v3))) <|
      chk ((v4.length + ([IntKind.wrap .u8 (Int.fdiv (IntKind.wrap .u64 (IntKind.wrap .u64 (v0.length : Int) * 8)) (2 ^ (min ((IntKind.wrap .u64 (IntKind.wrap .i64 (8 * v3))).toNat) 64)))] : List Int).length) * 1 ≤ 140737488355328) <|
      ref01_Sum.L2 k v0 n (IntKind.wrap .i64 (v3 - 1)) (v4 ++ ([IntKind.wrap .u8 (Int.fdiv (IntKind.wrap .u64 (IntKind.wrap .u64 (v0.length : Int) * 8)) (2 ^ (min ((IntKind.wrap .u64 (IntKind.wrap .i64 (8 * v3))).toNat) 64)))] : List Int))
    else
      bnd1 (ref01_constants k) fun v5 =>
      ref01_Sum.L3 k v4 v5 k ([1779033703, 3144134277, 1013904242, 2773480762, 1359893119, 2600822924, 528734635, 1541459225] : List Int) 0
def ref01_Sum.L1 (k : Nat) (v0 : (List Int)) : Nat → (List Int) → Option ByteArray
  | 0, _ => none
  | n + 1, v2 =>
    if (Int.tmod (v2.length : Int) 64) ≠ 56 then
      chk ((v2.length + ([0] : List Int).length) * 1 ≤ 140737488355328) <|
      ref01_Sum.L1 k v0 n (v2 ++ ([0] : List Int))
    else
      ref01_Sum.L2 k v0 k 7 v2
def ref01_Sum (k : Nat) (v0 : (List Int)) : Option ByteArray :=
  chk (v0.length * 1 ≤ 140737488355328) <|
  chk ((v0.length + ([128] : List Int).length) * 1 ≤ 140737488355328) <|
  ref01_Sum.L1 k v0 k (v0 ++ ([128] : List Int))
def law01_DigestLong.L1 (k : Nat) (v1 : Int) : Nat → Int → (List Int) → Option Bool
  | 0, _, _ => none
  | n + 1, v4, v5 =>
    if v4 < (v5.length : Int) then
      chk ((0 : Int) ≤ v4 ∧ (v4).toNat < v5.length) <|
      law01_DigestLong.L1 k v1 n (IntKind.wrap .i64 (v4 + 1)) (v5.set (v4).toNat (IntKind.wrap .u8 (v1 + IntKind.wrap .u8 v4)))
    else
      bnd1 (law01_awake k) fun v6 =>
      if v6 = true then
        bnd1 (digest_Sum k v5) fun v7 =>
        bnd1 (ref01_Sum k v5) fun v8 =>
        if (strEq v7 v8) = true then
          bnd1 (digest_Sum k v5) fun v9 =>
          some ((v9.size : Int) == 32)
        else
          some false
      else
        some false
def law01_DigestLong (k : Nat) (v0 : Int) (v1 : Int) : Option Bool :=
  bnd1 (made_Mod k v0 200) fun v3 =>
  chk ((0 : Int) ≤ v3 ∧ 16 * v3 ≤ 281474976710656) <|
  law01_DigestLong.L1 k v1 k 0 (List.replicate (v3).toNat 0)
end Go.TF
