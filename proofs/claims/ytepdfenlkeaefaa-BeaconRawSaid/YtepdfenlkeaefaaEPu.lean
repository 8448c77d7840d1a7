/- The Go functions as Lean functions (printed by a program of our own). -/
import Derived.Test.YtepdfenlkeaefaaAbsX
set_option linter.unusedVariables false
set_option maxRecDepth 100000
namespace Go.TF
open Go Go.Abs

def beacon_public (k : Nat) (v0 : Int) : Option Bool :=
  if 0 ≤ v0 then
    some (decide (v0 < 4294967296))
  else
    some false
def beacon_Mix_1 (k : Nat) (v0 : Int) : Option Bool :=
  bnd1 (beacon_public k v0) fun v2 =>
  some (!v2)
def slices_IndexFunc_int_int_Mix_1.L1 (k : Nat) (v0 : (List Int)) : Nat → Int → Option Int
  | 0, _ => none
  | n + 1, v2 =>
    if v2 < (v0.length : Int) then
      idx v0 v2 fun v3 =>
      bnd1 (beacon_Mix_1 k v3) fun v4 =>
      if v4 = true then
        some v2
      else
        slices_IndexFunc_int_int_Mix_1.L1 k v0 n (IntKind.wrap .i64 (v2 + 1))
    else
      some (-1)
def slices_IndexFunc_int_int_Mix_1 (k : Nat) (v0 : (List Int)) : Option Int :=
  slices_IndexFunc_int_int_Mix_1.L1 k v0 k 0
def slices_ContainsFunc_int_int_Mix_1 (k : Nat) (v0 : (List Int)) : Option Bool :=
  bnd1 (slices_IndexFunc_int_int_Mix_1 k v0) fun v2 =>
  some (decide (0 ≤ v2))
def beacon_Mix.L1 (k : Nat) (v0 : (List Int)) (v1 : Int) : Nat → Int → Int → Option (Int × Int)
  | 0, _, _ => none
  | n + 1, v5, v6 =>
    if v6 < (v0.length : Int) then
      idx v0 v6 fun v7 =>
      beacon_Mix.L1 k v0 v1 n (IntKind.wrap .i64 (v5 + v7)) (IntKind.wrap .i64 (v6 + 1))
    else
      chk (v1 ≠ (0 : Int)) <|
      some (Int.tmod v5 v1, 0)
def beacon_Mix (k : Nat) (v0 : (List Int)) (v1 : Int) : Option (Int × Int) :=
  if 64 < (v0.length : Int) then
    some (0, 3)
  else
    if v1 < 1 then
      some (0, 2)
    else
      if 2147483648 < v1 then
        some (0, 2)
      else
        bnd1 (slices_ContainsFunc_int_int_Mix_1 k v0) fun v4 =>
        if v4 = true then
          some (0, 2)
        else
          beacon_Mix.L1 k v0 v1 k 0 0
def beacon_bytes.L2 (k : Nat) (v3 : Int) (v5 : Int) (kb1 : Int → (List Int) → Option (List Int)) : Nat → Int → (List Int) → Option (List Int)
  | 0, _, _ => none
  | n + 1, v6, v7 =>
    if 0 ≤ v6 then
      chk ((0 : Int) ≤ v6) <|
      chk ((v7.length + ([IntKind.wrap .u8 (Int.fdiv (IntKind.wrap .u64 v5) (2 ^ (min v6.toNat 64)))] : List Int).length) * 1 ≤ 140737488355328) <|
      beacon_bytes.L2 k v3 v5 kb1 n (IntKind.wrap .i64 (v6 - 8)) (v7 ++ ([IntKind.wrap .u8 (Int.fdiv (IntKind.wrap .u64 v5) (2 ^ (min v6.toNat 64)))] : List Int))
    else
      kb1 (IntKind.wrap .i64 (v3 + 1)) v7
def beacon_bytes.L1 (k : Nat) (v1 : (List Int)) : Nat → Int → (List Int) → Option (List Int)
  | 0, _, _ => none
  | n + 1, v3, v4 =>
    if v3 < (v1.length : Int) then
      idx v1 v3 fun v5 =>
      beacon_bytes.L2 k v3 v5 (fun v3_ v4_ => beacon_bytes.L1 k v1 n v3_ v4_) k 56 v4
    else
      some v4
def beacon_bytes (k : Nat) (v0 : (List Int)) (v1 : (List Int)) : Option (List Int) :=
  beacon_bytes.L1 k v1 k 0 v0
def beacon_list (k : Nat) (v0 : (List Int)) (v1 : (List Int)) : Option (List Int) :=
  bnd1 (beacon_bytes k v0 ([(v1.length : Int)] : List Int)) fun v3 =>
  bnd1 (beacon_bytes k v3 v1) fun v4 =>
  some v4
def beacon_bytes_v2.J1 (k : Nat) (v3 : (List Int)) : Option (List Int) :=
  some v3
def beacon_bytes_v2.L3 (k : Nat) (v4 : Int) (v6 : Int) (kb2 : Int → (List Int) → Option (List Int)) : Nat → Int → (List Int) → Option (List Int)
  | 0, _, _ => none
  | n + 1, v7, v8 =>
    if 0 ≤ v7 then
      chk ((0 : Int) ≤ v7) <|
      chk ((v8.length + ([IntKind.wrap .u8 (Int.fdiv (IntKind.wrap .u64 v6) (2 ^ (min v7.toNat 64)))] : List Int).length) * 1 ≤ 140737488355328) <|
      beacon_bytes_v2.L3 k v4 v6 kb2 n (IntKind.wrap .i64 (v7 - 8)) (v8 ++ ([IntKind.wrap .u8 (Int.fdiv (IntKind.wrap .u64 v6) (2 ^ (min v7.toNat 64)))] : List Int))
    else
      kb2 (IntKind.wrap .i64 (v4 + 1)) v8
def beacon_bytes_v2.L2 (k : Nat) (v1 : (List Int)) : Nat → Int → (List Int) → Option (List Int)
  | 0, _, _ => none
  | n + 1, v4, v5 =>
    if v4 < (v1.length : Int) then
      idx v1 v4 fun v6 =>
      beacon_bytes_v2.L3 k v4 v6 (fun v4_ v5_ => beacon_bytes_v2.L2 k v1 n v4_ v5_) k 56 v5
    else
      beacon_bytes_v2.J1 k v5
def beacon_bytes_v2.L5 (k : Nat) (v9 : Int) (kb4 : Int → (List Int) → Option (List Int)) : Nat → Int → (List Int) → Option (List Int)
  | 0, _, _ => none
  | n + 1, v10, v11 =>
    if 0 ≤ v10 then
      chk ((0 : Int) ≤ v10) <|
      chk ((v11.length + ([IntKind.wrap .u8 (Int.fdiv (IntKind.wrap .u64 v9) (2 ^ (min v10.toNat 64)))] : List Int).length) * 1 ≤ 140737488355328) <|
      beacon_bytes_v2.L5 k v9 kb4 n (IntKind.wrap .i64 (v10 - 8)) (v11 ++ ([IntKind.wrap .u8 (Int.fdiv (IntKind.wrap .u64 v9) (2 ^ (min v10.toNat 64)))] : List Int))
    else
      kb4 (IntKind.wrap .i64 (0 + 1)) v11
def beacon_bytes_v2.P6 (k : Nat) (v0 : (List Int)) (v9 : Int) (kb4 : Int → (List Int) → Option (List Int)) : Nat → Option (List Int)
  | 0 => none
  | n + 1 =>
    chk ((v0.length + ([IntKind.wrap .u8 (Int.fdiv (IntKind.wrap .u64 v9) (2 ^ (56)))] : List Int).length) * 1 ≤ 140737488355328) <|
    beacon_bytes_v2.L5 k v9 kb4 n (IntKind.wrap .i64 (56 - 8)) (v0 ++ ([IntKind.wrap .u8 (Int.fdiv (IntKind.wrap .u64 v9) (2 ^ (56)))] : List Int))
def beacon_bytes_v2.P4 (k : Nat) (v0 : (List Int)) (v1 : (List Int)) : Nat → Option (List Int)
  | 0 => none
  | n + 1 =>
    if 0 < (v1.length : Int) then
      idx v1 0 fun v9 =>
      beacon_bytes_v2.P6 k v0 v9 (fun v4_ v5_ => beacon_bytes_v2.L2 k v1 n v4_ v5_) k
    else
      beacon_bytes_v2.J1 k v0
def beacon_bytes_v2 (k : Nat) (v0 : (List Int)) (v1 : (List Int)) : Option (List Int) :=
  beacon_bytes_v2.P4 k v0 v1 k
def digest_rounds (k : Nat) : Option (List Int) :=
  chk ((List.replicate 64 0).length = 64 ∧ ([1116352408, 1899447441, 3049323471, 3921009573, 961987163, 1508970993, 2453635748, 2870763221, 3624381080, 310598401, 607225278, 1426881987, 1925078388, 2162078206, 2614888103, 3248222580, 3835390401, 4022224774, 264347078, 604807628, 770255983, 1249150122, 1555081692, 1996064986, 2554220882, 2821834349, 2952996808, 3210313671, 3336571891, 3584528711, 113926993, 338241895, 666307205, 773529912, 1294757372, 1396182291, 1695183700, 1986661051, 2177026350, 2456956037, 2730485921, 2820302411, 3259730800, 3345764771, 3516065817, 3600352804, 4094571909, 275423344, 430227734, 506948616, 659060556, 883997877, 958139571, 1322822218, 1537002063, 1747873779, 1955562222, 2024104815, 2227730452, 2361852424, 2428436474, 2756734187, 3204031479, 3329325298] : List Int).length = 64) <|
  chk (([1116352408, 1899447441, 3049323471, 3921009573, 961987163, 1508970993, 2453635748, 2870763221, 3624381080, 310598401, 607225278, 1426881987, 1925078388, 2162078206, 2614888103, 3248222580, 3835390401, 4022224774, 264347078, 604807628, 770255983, 1249150122, 1555081692, 1996064986, 2554220882, 2821834349, 2952996808, 3210313671, 3336571891, 3584528711, 113926993, 338241895, 666307205, 773529912, 1294757372, 1396182291, 1695183700, 1986661051, 2177026350, 2456956037, 2730485921, 2820302411, 3259730800, 3345764771, 3516065817, 3600352804, 4094571909, 275423344, 430227734, 506948616, 659060556, 883997877, 958139571, 1322822218, 1537002063, 1747873779, 1955562222, 2024104815, 2227730452, 2361852424, 2428436474, 2756734187, 3204031479, 3329325298] : List Int).length = 64) <|
  some ([1116352408, 1899447441, 3049323471, 3921009573, 961987163, 1508970993, 2453635748, 2870763221, 3624381080, 310598401, 607225278, 1426881987, 1925078388, 2162078206, 2614888103, 3248222580, 3835390401, 4022224774, 264347078, 604807628, 770255983, 1249150122, 1555081692, 1996064986, 2554220882, 2821834349, 2952996808, 3210313671, 3336571891, 3584528711, 113926993, 338241895, 666307205, 773529912, 1294757372, 1396182291, 1695183700, 1986661051, 2177026350, 2456956037, 2730485921, 2820302411, 3259730800, 3345764771, 3516065817, 3600352804, 4094571909, 275423344, 430227734, 506948616, 659060556, 883997877, 958139571, 1322822218, 1537002063, 1747873779, 1955562222, 2024104815, 2227730452, 2361852424, 2428436474, 2756734187, 3204031479, 3329325298] : List Int)
def math_bits_RotateLeft32 (k : Nat) (v0 : Int) (v1 : Int) : Option Int :=
  chk ((0 : Int) ≤ bitsV .and .u64 (IntKind.wrap .u64 v1) 31) <|
  chk ((0 : Int) ≤ IntKind.wrap .u64 (32 - bitsV .and .u64 (IntKind.wrap .u64 v1) 31)) <|
  some (bitsV .or .u32 (IntKind.wrap .u32 (v0 * 2 ^ (min ((bitsV .and .u64 (IntKind.wrap .u64 v1) 31).toNat) 32))) (Int.fdiv v0 (2 ^ (min ((IntKind.wrap .u64 (32 - bitsV .and .u64 (IntKind.wrap .u64 v1) 31)).toNat) 32))))
def digest_state_block_1 (k : Nat) (v0 : Int) (v1 : Int) : Option Int :=
  bnd1 (math_bits_RotateLeft32 k v0 (IntKind.wrap .i64 (0 - v1))) fun v3 =>
  some v3
def digest_state_block.L4 (k : Nat) (v21 : (List Int)) : Nat → Int → (List Int) → Option (List Int)
  | 0, _, _ => none
  | n + 1, v38, v39 =>
    if v38 < 8 then
      chk ((0 : Int) ≤ v38 ∧ v38 < 8 ∧ (v38).toNat < v39.length) <|
      idx v39 v38 fun v40 =>
      chk ((0 : Int) ≤ v38 ∧ v38 < 8 ∧ (v38).toNat < v21.length) <|
      idx v21 v38 fun v41 =>
      chk ((0 : Int) ≤ v38 ∧ v38 < 8 ∧ (v38).toNat < v39.length) <|
      digest_state_block.L4 k v21 n (IntKind.wrap .i64 (v38 + 1)) (v39.set (v38).toNat (IntKind.wrap .u32 (v40 + v41)))
    else
      some v39
def digest_state_block.L3 (k : Nat) (v0 : (List Int)) (v2 : (List Int)) (v11 : (List Int)) : Nat → Int → (List Int) → Option (List Int)
  | 0, _, _ => none
  | n + 1, v20, v21 =>
    if v20 < 64 then
      chk ((0 : Int) ≤ 0 ∧ 0 < 8 ∧ (0 : Int).toNat < v21.length) <|
      idx v21 (0 : Int) fun v22 =>
      chk ((0 : Int) ≤ 4 ∧ 4 < 8 ∧ (4 : Int).toNat < v21.length) <|
      idx v21 (4 : Int) fun v23 =>
      chk ((0 : Int) ≤ 7 ∧ 7 < 8 ∧ (7 : Int).toNat < v21.length) <|
      idx v21 (7 : Int) fun v24 =>
      bnd1 (digest_state_block_1 k v23 6) fun v25 =>
      bnd1 (digest_state_block_1 k v23 11) fun v26 =>
      bnd1 (digest_state_block_1 k v23 25) fun v27 =>
      chk ((0 : Int) ≤ 5 ∧ 5 < 8 ∧ (5 : Int).toNat < v21.length) <|
      idx v21 (5 : Int) fun v28 =>
      chk ((0 : Int) ≤ 6 ∧ 6 < 8 ∧ (6 : Int).toNat < v21.length) <|
      idx v21 (6 : Int) fun v29 =>
      chk ((0 : Int) ≤ v20 ∧ v20 < 64 ∧ (v20).toNat < v2.length) <|
      idx v2 v20 fun v30 =>
      chk ((0 : Int) ≤ v20 ∧ v20 < 64 ∧ (v20).toNat < v11.length) <|
      idx v11 v20 fun v31 =>
      bnd1 (digest_state_block_1 k v22 2) fun v32 =>
      bnd1 (digest_state_block_1 k v22 13) fun v33 =>
      bnd1 (digest_state_block_1 k v22 22) fun v34 =>
      chk ((0 : Int) ≤ 1 ∧ 1 < 8 ∧ (1 : Int).toNat < v21.length) <|
      idx v21 (1 : Int) fun v35 =>
      chk ((0 : Int) ≤ 2 ∧ 2 < 8 ∧ (2 : Int).toNat < v21.length) <|
      idx v21 (2 : Int) fun v36 =>
      chk ((0 : Int) ≤ 1 ∧ 1 < 8 ∧ (1 : Int).toNat < v21.length) <|
      chk ((0 : Int) ≤ 2 ∧ 2 < 8 ∧ (2 : Int).toNat < v21.length) <|
      chk ((0 : Int) ≤ 0 ∧ 0 < 8 ∧ (0 : Int).toNat < v21.length) <|
      chk ((0 : Int) ≤ 1 ∧ 1 < 8 ∧ (1 : Int).toNat < v21.length) <|
      chk ((0 : Int) ≤ 2 ∧ 2 < 8 ∧ (2 : Int).toNat < v21.length) <|
      chk ((0 : Int) ≤ 3 ∧ 3 < 8 ∧ (3 : Int).toNat < v21.length) <|
      idx v21 (3 : Int) fun v37 =>
      chk ((0 : Int) ≤ 4 ∧ 4 < 8 ∧ (4 : Int).toNat < v21.length) <|
      chk ((0 : Int) ≤ 5 ∧ 5 < 8 ∧ (5 : Int).toNat < v21.length) <|
      chk ((0 : Int) ≤ 6 ∧ 6 < 8 ∧ (6 : Int).toNat < v21.length) <|
      chk (v21.length = 8 ∧ ([IntKind.wrap .u32 (IntKind.wrap .u32 (IntKind.wrap .u32 (IntKind.wrap .u32 (IntKind.wrap .u32 (v24 + bitsV .xor .u32 (bitsV .xor .u32 v25 v26) v27) + bitsV .xor .u32 (bitsV .and .u32 v23 v28) (bitsV .and .u32 (bitsV .xor .u32 (IntKind.max .u32) v23) v29)) + v30) + v31) + IntKind.wrap .u32 (bitsV .xor .u32 (bitsV .xor .u32 v32 v33) v34 + bitsV .xor .u32 (bitsV .xor .u32 (bitsV .and .u32 v22 v35) (bitsV .and .u32 v22 v36)) (bitsV .and .u32 v35 v36))), v22, v35, v36, IntKind.wrap .u32 (v37 + IntKind.wrap .u32 (IntKind.wrap .u32 (IntKind.wrap .u32 (IntKind.wrap .u32 (v24 + bitsV .xor .u32 (bitsV .xor .u32 v25 v26) v27) + bitsV .xor .u32 (bitsV .and .u32 v23 v28) (bitsV .and .u32 (bitsV .xor .u32 (IntKind.max .u32) v23) v29)) + v30) + v31)), v23, v28, v29] : List Int).length = 8) <|
      digest_state_block.L3 k v0 v2 v11 n (IntKind.wrap .i64 (v20 + 1)) ([IntKind.wrap .u32 (IntKind.wrap .u32 (IntKind.wrap .u32 (IntKind.wrap .u32 (IntKind.wrap .u32 (v24 + bitsV .xor .u32 (bitsV .xor .u32 v25 v26) v27) + bitsV .xor .u32 (bitsV .and .u32 v23 v28) (bitsV .and .u32 (bitsV .xor .u32 (IntKind.max .u32) v23) v29)) + v30) + v31) + IntKind.wrap .u32 (bitsV .xor .u32 (bitsV .xor .u32 v32 v33) v34 + bitsV .xor .u32 (bitsV .xor .u32 (bitsV .and .u32 v22 v35) (bitsV .and .u32 v22 v36)) (bitsV .and .u32 v35 v36))), v22, v35, v36, IntKind.wrap .u32 (v37 + IntKind.wrap .u32 (IntKind.wrap .u32 (IntKind.wrap .u32 (IntKind.wrap .u32 (v24 + bitsV .xor .u32 (bitsV .xor .u32 v25 v26) v27) + bitsV .xor .u32 (bitsV .and .u32 v23 v28) (bitsV .and .u32 (bitsV .xor .u32 (IntKind.max .u32) v23) v29)) + v30) + v31)), v23, v28, v29] : List Int)
    else
      digest_state_block.L4 k v21 k 0 v0
def digest_state_block.L2 (k : Nat) (v0 : (List Int)) (v2 : (List Int)) : Nat → Int → (List Int) → Option (List Int)
  | 0, _, _ => none
  | n + 1, v10, v11 =>
    if v10 < 64 then
      chk ((0 : Int) ≤ (IntKind.wrap .i64 (v10 - 15)) ∧ (IntKind.wrap .i64 (v10 - 15)) < 64 ∧ (IntKind.wrap .i64 (v10 - 15)).toNat < v11.length) <|
      idx v11 (IntKind.wrap .i64 (v10 - 15)) fun v12 =>
      chk ((0 : Int) ≤ (IntKind.wrap .i64 (v10 - 2)) ∧ (IntKind.wrap .i64 (v10 - 2)) < 64 ∧ (IntKind.wrap .i64 (v10 - 2)).toNat < v11.length) <|
      idx v11 (IntKind.wrap .i64 (v10 - 2)) fun v13 =>
      chk ((0 : Int) ≤ (IntKind.wrap .i64 (v10 - 16)) ∧ (IntKind.wrap .i64 (v10 - 16)) < 64 ∧ (IntKind.wrap .i64 (v10 - 16)).toNat < v11.length) <|
      idx v11 (IntKind.wrap .i64 (v10 - 16)) fun v14 =>
      bnd1 (digest_state_block_1 k v12 7) fun v15 =>
      bnd1 (digest_state_block_1 k v12 18) fun v16 =>
      chk ((0 : Int) ≤ (IntKind.wrap .i64 (v10 - 7)) ∧ (IntKind.wrap .i64 (v10 - 7)) < 64 ∧ (IntKind.wrap .i64 (v10 - 7)).toNat < v11.length) <|
      idx v11 (IntKind.wrap .i64 (v10 - 7)) fun v17 =>
      bnd1 (digest_state_block_1 k v13 17) fun v18 =>
      bnd1 (digest_state_block_1 k v13 19) fun v19 =>
      chk ((0 : Int) ≤ v10 ∧ v10 < 64 ∧ (v10).toNat < v11.length) <|
      digest_state_block.L2 k v0 v2 n (IntKind.wrap .i64 (v10 + 1)) (v11.set (v10).toNat (IntKind.wrap .u32 (IntKind.wrap .u32 (IntKind.wrap .u32 (v14 + bitsV .xor .u32 (bitsV .xor .u32 v15 v16) (Int.fdiv v12 (2 ^ (3)))) + v17) + bitsV .xor .u32 (bitsV .xor .u32 v18 v19) (Int.fdiv v13 (2 ^ (10))))))
    else
      chk (v0.length = 8) <|
      chk ((List.replicate 8 0).length = 8 ∧ v0.length = 8) <|
      digest_state_block.L3 k v0 v2 v11 k 0 v0
def digest_state_block.L1 (k : Nat) (v0 : (List Int)) (v1 : (List Int)) (v2 : (List Int)) : Nat → Int → (List Int) → Option (List Int)
  | 0, _, _ => none
  | n + 1, v4, v5 =>
    if v4 < 16 then
      idx v1 (IntKind.wrap .i64 (4 * v4)) fun v6 =>
      idx v1 (IntKind.wrap .i64 (IntKind.wrap .i64 (4 * v4) + 1)) fun v7 =>
      idx v1 (IntKind.wrap .i64 (IntKind.wrap .i64 (4 * v4) + 2)) fun v8 =>
      idx v1 (IntKind.wrap .i64 (IntKind.wrap .i64 (4 * v4) + 3)) fun v9 =>
      chk ((0 : Int) ≤ v4 ∧ v4 < 64 ∧ (v4).toNat < v5.length) <|
      digest_state_block.L1 k v0 v1 v2 n (IntKind.wrap .i64 (v4 + 1)) (v5.set (v4).toNat (bitsV .or .u32 (bitsV .or .u32 (bitsV .or .u32 (IntKind.wrap .u32 ((IntKind.wrap .u32 v6) * 2 ^ (24))) (IntKind.wrap .u32 ((IntKind.wrap .u32 v7) * 2 ^ (16)))) (IntKind.wrap .u32 ((IntKind.wrap .u32 v8) * 2 ^ (8)))) (IntKind.wrap .u32 v9)))
    else
      digest_state_block.L2 k v0 v2 k 16 v5
def digest_state_block (k : Nat) (v0 : (List Int)) (v1 : (List Int)) (v2 : (List Int)) : Option (List Int) :=
  digest_state_block.L1 k v0 v1 v2 k 0 (List.replicate 64 0)
def digest_Sum.L4 (k : Nat) (v7 : (List Int)) : Nat → Int → (List Int) → Option ByteArray
  | 0, _, _ => none
  | n + 1, v9, v10 =>
    if v9 < 8 then
      chk (v9 < 8) <|
      idx v7 v9 fun v11 =>
      chk ((v10.length + ([IntKind.wrap .u8 (Int.fdiv v11 (2 ^ (24))), IntKind.wrap .u8 (Int.fdiv v11 (2 ^ (16))), IntKind.wrap .u8 (Int.fdiv v11 (2 ^ (8))), IntKind.wrap .u8 v11] : List Int).length) * 1 ≤ 140737488355328) <|
      digest_Sum.L4 k v7 n (IntKind.wrap .i64 (v9 + 1)) (v10 ++ ([IntKind.wrap .u8 (Int.fdiv v11 (2 ^ (24))), IntKind.wrap .u8 (Int.fdiv v11 (2 ^ (16))), IntKind.wrap .u8 (Int.fdiv v11 (2 ^ (8))), IntKind.wrap .u8 v11] : List Int))
    else
      some (ofI v10)
def digest_Sum.L3 (k : Nat) (v5 : (List Int)) : Nat → (List Int) → (List Int) → Option ByteArray
  | 0, _, _ => none
  | n + 1, v6, v7 =>
    if 0 < (v6.length : Int) then
      chk ((64 : Int) ≤ (v6.length : Int)) <|
      bnd1 (digest_state_block k v7 (v6.take (64 : Int).toNat) v5) fun v8 =>
      chk ((64 : Int) ≤ (v6.length : Int)) <|
      digest_Sum.L3 k v5 n (v6.drop (64 : Int).toNat) v8
    else
      chk (v7.length = 8) <|
      digest_Sum.L4 k v7 k 0 ([] : List Int)
def digest_Sum.L2 (k : Nat) (v0 : (List Int)) : Nat → Int → (List Int) → Option ByteArray
  | 0, _, _ => none
  | n + 1, v3, v4 =>
    if 0 ≤ v3 then
      chk ((0 : Int) ≤ IntKind.wrap .u64 v3) <|
      chk ((v4.length + ([IntKind.wrap .u8 (Int.fdiv (IntKind.wrap .u64 (IntKind.wrap .u64 (v0.length : Int) * 8)) (2 ^ (min ((IntKind.wrap .u64 v3).toNat) 64)))] : List Int).length) * 1 ≤ 140737488355328) <|
      digest_Sum.L2 k v0 n (IntKind.wrap .i64 (v3 - 8)) (v4 ++ ([IntKind.wrap .u8 (Int.fdiv (IntKind.wrap .u64 (IntKind.wrap .u64 (v0.length : Int) * 8)) (2 ^ (min ((IntKind.wrap .u64 v3).toNat) 64)))] : List Int))
    else
      bnd1 (digest_rounds k) fun v5 =>
      chk ((List.replicate 8 0).length = 8 ∧ ([1779033703, 3144134277, 1013904242, 2773480762, 1359893119, 2600822924, 528734635, 1541459225] : List Int).length = 8) <|
      chk ((List.replicate 64 0).length = 64 ∧ v5.length = 64) <|
      digest_Sum.L3 k v5 k v4 ([1779033703, 3144134277, 1013904242, 2773480762, 1359893119, 2600822924, 528734635, 1541459225] : List Int)
def digest_Sum.L1 (k : Nat) (v0 : (List Int)) : Nat → (List Int) → Option ByteArray
  | 0, _ => none
  | n + 1, v2 =>
    if (Int.tmod (v2.length : Int) 64) ≠ 56 then
      chk ((v2.length + ([0] : List Int).length) * 1 ≤ 140737488355328) <|
      digest_Sum.L1 k v0 n (v2 ++ ([0] : List Int))
    else
      digest_Sum.L2 k v0 k 56 v2
def digest_Sum (k : Nat) (v0 : (List Int)) : Option ByteArray :=
  chk (v0.length * 1 ≤ 140737488355328) <|
  chk ((v0.length + ([128] : List Int).length) * 1 ≤ 140737488355328) <|
  digest_Sum.L1 k v0 k (v0 ++ ([128] : List Int))
def beacon_Numbers.L2 (k : Nat) (v6 : Int) (v7 : (List Int)) (v9 : ByteArray) (kb1 : Int → (List Int) → Option ((List Int) × Int)) : Nat → Int → Int → Option ((List Int) × Int)
  | 0, _, _ => none
  | n + 1, v10, v11 =>
    if v11 < 4 then
      idx (bI v9) v11 fun v12 =>
      beacon_Numbers.L2 k v6 v7 v9 kb1 n (bitsV .or .i64 (IntKind.wrap .i64 (v10 * 2 ^ (8))) (IntKind.wrap .i64 v12)) (IntKind.wrap .i64 (v11 + 1))
    else
      chk ((v7.length + ([v10] : List Int).length) * 8 ≤ 140737488355328) <|
      kb1 (IntKind.wrap .i64 (v6 + 1)) (v7 ++ ([v10] : List Int))
def beacon_Numbers.L1 (k : Nat) (v2 : Int) (v5 : (List Int)) : Nat → Int → (List Int) → Option ((List Int) × Int)
  | 0, _, _ => none
  | n + 1, v6, v7 =>
    if v6 < v2 then
      chk ((0 : Int) ≤ (v5.length : Int) ∧ ((v5.length : Int) : Int) ≤ (v5.length : Int)) <|
      bnd1 (beacon_bytes_v2 k (v5.take ((v5.length : Int)).toNat) ([v6] : List Int)) fun v8 =>
      bnd1 (digest_Sum k v8) fun v9 =>
      beacon_Numbers.L2 k v6 v7 v9 (fun v6_ v7_ => beacon_Numbers.L1 k v2 v5 n v6_ v7_) k 0 0
    else
      some (v7, 0)
def beacon_Numbers (k : Nat) (v0 : ByteArray) (v1 : (List Int)) (v2 : Int) : Option ((List Int) × Int) :=
  if (v0.size : Int) ≠ 32 then
    some (([] : List Int), 1)
  else
    if 64 < (v1.length : Int) then
      some (([] : List Int), 3)
    else
      if v2 < 0 then
        some (([] : List Int), 2)
      else
        if 64 < v2 then
          some (([] : List Int), 2)
        else
          bnd1 (beacon_list k (bI v0) v1) fun v5 =>
          beacon_Numbers.L1 k v2 v5 k 0 ([] : List Int)
def beacon_bytes_v3.L2 (k : Nat) (v2 : Int) (v4 : Int) (kb1 : Int → (List Int) → Option (List Int)) : Nat → Int → (List Int) → Option (List Int)
  | 0, _, _ => none
  | n + 1, v5, v6 =>
    if 0 ≤ v5 then
      chk ((0 : Int) ≤ v5) <|
      chk ((v6.length + ([IntKind.wrap .u8 (Int.fdiv (IntKind.wrap .u64 v4) (2 ^ (min v5.toNat 64)))] : List Int).length) * 1 ≤ 140737488355328) <|
      beacon_bytes_v3.L2 k v2 v4 kb1 n (IntKind.wrap .i64 (v5 - 8)) (v6 ++ ([IntKind.wrap .u8 (Int.fdiv (IntKind.wrap .u64 v4) (2 ^ (min v5.toNat 64)))] : List Int))
    else
      kb1 (IntKind.wrap .i64 (v2 + 1)) v6
def beacon_bytes_v3.L1 (k : Nat) (v0 : (List Int)) : Nat → Int → (List Int) → Option (List Int)
  | 0, _, _ => none
  | n + 1, v2, v3 =>
    if v2 < (v0.length : Int) then
      idx v0 v2 fun v4 =>
      beacon_bytes_v3.L2 k v2 v4 (fun v2_ v3_ => beacon_bytes_v3.L1 k v0 n v2_ v3_) k 56 v3
    else
      some v3
def beacon_bytes_v3 (k : Nat) (v0 : (List Int)) : Option (List Int) :=
  beacon_bytes_v3.L1 k v0 k 0 ([] : List Int)
def beacon_Commit (k : Nat) (v0 : Int) (v1 : ByteArray) : Option (ByteArray × Int) :=
  bnd1 (beacon_public k v0) fun v4 =>
  if (!v4) = true then
    some ((ByteArray.mk #[]), 2)
  else
    if 64 < (v1.size : Int) then
      some ((ByteArray.mk #[]), 3)
    else
      bnd1 (beacon_bytes_v3 k ([v0] : List Int)) fun v5 =>
      chk ((v5.length + (bI v1).length) * 1 ≤ 140737488355328) <|
      bnd1 (digest_Sum k (v5 ++ (bI v1))) fun v6 =>
      some (v6, 0)
def beacon_Opens (k : Nat) (v0 : ByteArray) (v1 : Int) (v2 : ByteArray) : Option Bool :=
  bnd2 (beacon_Commit k v1 v2) fun v4 v5 =>
  if v5 = 0 then
    some (strEq v4 v0)
  else
    some false
def law25_awake (k : Nat) : Option Bool :=
  bnd2 (beacon_Mix k ([5, 6, 7] : List Int) 4) fun v1 v2 =>
  chk ((0 : Int) ≤ 32 ∧ 16 * 32 ≤ 281474976710656) <|
  bnd2 (beacon_Numbers k (ofI (List.replicate (32 : Int).toNat 0)) ([] : List Int) 2) fun v3 v4 =>
  bnd2 (beacon_Commit k 7 (ByteArray.mk #[115, 97, 108, 116])) fun v5 v6 =>
  if v2 = 0 then
    if v4 = 0 then
      if v6 = 0 then
        if v1 = 2 then
          if (v3.length : Int) = 2 then
            idx v3 0 fun v7 =>
            idx v3 1 fun v8 =>
            if v7 ≠ v8 then
              bnd1 (beacon_Opens k v5 7 (ByteArray.mk #[115, 97, 108, 116])) fun v9 =>
              if v9 = true then
                bnd1 (beacon_Opens k v5 8 (ByteArray.mk #[115, 97, 108, 116])) fun v10 =>
                some (!v10)
              else
                some false
            else
              some false
          else
            some false
        else
          some false
      else
        some false
    else
      some false
  else
    some false
def beacon_Next (k : Nat) (v0 : ByteArray) (v1 : Int) (v2 : (List Int)) : Option (ByteArray × Int) :=
  if (v0.size : Int) ≠ 32 then
    some ((ByteArray.mk #[]), 1)
  else
    if v1 < 0 then
      some ((ByteArray.mk #[]), 2)
    else
      if 40 ≤ v1 then
        some ((ByteArray.mk #[]), 2)
      else
        if 64 < (v2.length : Int) then
          some ((ByteArray.mk #[]), 3)
        else
          bnd1 (beacon_bytes k (bI v0) ([v1] : List Int)) fun v5 =>
          bnd1 (beacon_list k v5 v2) fun v6 =>
          bnd1 (digest_Sum k v6) fun v7 =>
          some (v7, 0)
def ref25_number.L1 (k : Nat) (v1 : Int) : Nat → Int → (List Int) → Option (List Int)
  | 0, _, _ => none
  | n + 1, v3, v4 =>
    if 0 ≤ v3 then
      chk ((0 : Int) ≤ IntKind.wrap .u64 (IntKind.wrap .i64 (8 * v3))) <|
      chk ((v4.length + ([IntKind.wrap .u8 (Int.fdiv (IntKind.wrap .u64 v1) (2 ^ (min ((IntKind.wrap .u64 (IntKind.wrap .i64 (8 * v3))).toNat) 64)))] : List Int).length) * 1 ≤ 140737488355328) <|
      ref25_number.L1 k v1 n (IntKind.wrap .i64 (v3 - 1)) (v4 ++ ([IntKind.wrap .u8 (Int.fdiv (IntKind.wrap .u64 v1) (2 ^ (min ((IntKind.wrap .u64 (IntKind.wrap .i64 (8 * v3))).toNat) 64)))] : List Int))
    else
      some v4
def ref25_number (k : Nat) (v0 : (List Int)) (v1 : Int) : Option (List Int) :=
  ref25_number.L1 k v1 k 7 v0
def ref25_list.L1 (k : Nat) (v1 : (List Int)) : Nat → Int → (List Int) → Option (List Int)
  | 0, _, _ => none
  | n + 1, v4, v5 =>
    if v4 < (v1.length : Int) then
      idx v1 v4 fun v6 =>
      bnd1 (ref25_number k v5 v6) fun v7 =>
      ref25_list.L1 k v1 n (IntKind.wrap .i64 (v4 + 1)) v7
    else
      some v5
def ref25_list (k : Nat) (v0 : (List Int)) (v1 : (List Int)) : Option (List Int) :=
  bnd1 (ref25_number k v0 (v1.length : Int)) fun v3 =>
  ref25_list.L1 k v1 k 0 v3
def ref01_constants (k : Nat) : Option (List Int) :=
  some ([1116352408, 1899447441, 3049323471, 3921009573, 961987163, 1508970993, 2453635748, 2870763221, 3624381080, 310598401, 607225278, 1426881987, 1925078388, 2162078206, 2614888103, 3248222580, 3835390401, 4022224774, 264347078, 604807628, 770255983, 1249150122, 1555081692, 1996064986, 2554220882, 2821834349, 2952996808, 3210313671, 3336571891, 3584528711, 113926993, 338241895, 666307205, 773529912, 1294757372, 1396182291, 1695183700, 1986661051, 2177026350, 2456956037, 2730485921, 2820302411, 3259730800, 3345764771, 3516065817, 3600352804, 4094571909, 275423344, 430227734, 506948616, 659060556, 883997877, 958139571, 1322822218, 1537002063, 1747873779, 1955562222, 2024104815, 2227730452, 2361852424, 2428436474, 2756734187, 3204031479, 3329325298] : List Int)
def ref01_turn (k : Nat) (v0 : Int) (v1 : Int) : Option Int :=
  chk ((0 : Int) ≤ v1) <|
  chk ((0 : Int) ≤ IntKind.wrap .u64 (32 - v1)) <|
  some (bitsV .or .u32 (Int.fdiv v0 (2 ^ (min v1.toNat 32))) (IntKind.wrap .u32 (v0 * 2 ^ (min ((IntKind.wrap .u64 (32 - v1)).toNat) 32))))
def ref01_block.L4 (k : Nat) (v0 : (List Int)) : Nat → Int → (List Int) → Option (List Int)
  | 0, _, _ => none
  | n + 1, v39, v40 =>
    if v39 < 8 then
      chk ((0 : Int) ≤ v39 ∧ (v39).toNat < v40.length) <|
      idx v40 v39 fun v41 =>
      idx v0 v39 fun v42 =>
      chk ((0 : Int) ≤ v39 ∧ (v39).toNat < v40.length) <|
      ref01_block.L4 k v0 n (IntKind.wrap .i64 (v39 + 1)) (v40.set (v39).toNat (IntKind.wrap .u32 (v41 + v42)))
    else
      some v40
def ref01_block.L3 (k : Nat) (v0 : (List Int)) (v2 : (List Int)) (v12 : (List Int)) : Nat → Int → (List Int) → Option (List Int)
  | 0, _, _ => none
  | n + 1, v21, v22 =>
    if v21 < 64 then
      idx v22 4 fun v23 =>
      bnd1 (ref01_turn k v23 6) fun v24 =>
      bnd1 (ref01_turn k v23 11) fun v25 =>
      bnd1 (ref01_turn k v23 25) fun v26 =>
      idx v22 5 fun v27 =>
      idx v22 6 fun v28 =>
      idx v22 7 fun v29 =>
      idx v2 v21 fun v30 =>
      idx v12 v21 fun v31 =>
      idx v22 0 fun v32 =>
      bnd1 (ref01_turn k v32 2) fun v33 =>
      bnd1 (ref01_turn k v32 13) fun v34 =>
      bnd1 (ref01_turn k v32 22) fun v35 =>
      idx v22 1 fun v36 =>
      idx v22 2 fun v37 =>
      idx v22 3 fun v38 =>
      ref01_block.L3 k v0 v2 v12 n (IntKind.wrap .i64 (v21 + 1)) ([IntKind.wrap .u32 (IntKind.wrap .u32 (IntKind.wrap .u32 (IntKind.wrap .u32 (IntKind.wrap .u32 (IntKind.wrap .u32 (v29 + bitsV .xor .u32 (bitsV .xor .u32 v24 v25) v26) + bitsV .xor .u32 (bitsV .and .u32 v23 v27) (bitsV .and .u32 (bitsV .xor .u32 (IntKind.max .u32) v23) v28)) + v30) + v31) + bitsV .xor .u32 (bitsV .xor .u32 v33 v34) v35) + bitsV .xor .u32 (bitsV .xor .u32 (bitsV .and .u32 v32 v36) (bitsV .and .u32 v32 v37)) (bitsV .and .u32 v36 v37)), v32, v36, v37, IntKind.wrap .u32 (v38 + IntKind.wrap .u32 (IntKind.wrap .u32 (IntKind.wrap .u32 (IntKind.wrap .u32 (v29 + bitsV .xor .u32 (bitsV .xor .u32 v24 v25) v26) + bitsV .xor .u32 (bitsV .and .u32 v23 v27) (bitsV .and .u32 (bitsV .xor .u32 (IntKind.max .u32) v23) v28)) + v30) + v31)), v23, v27, v28] : List Int)
    else
      ref01_block.L4 k v0 k 0 v22
def ref01_block.L2 (k : Nat) (v0 : (List Int)) (v2 : (List Int)) : Nat → Int → (List Int) → Option (List Int)
  | 0, _, _ => none
  | n + 1, v11, v12 =>
    if v11 < 64 then
      chk ((0 : Int) ≤ (IntKind.wrap .i64 (v11 - 15)) ∧ (IntKind.wrap .i64 (v11 - 15)).toNat < v12.length) <|
      idx v12 (IntKind.wrap .i64 (v11 - 15)) fun v13 =>
      bnd1 (ref01_turn k v13 7) fun v14 =>
      chk ((0 : Int) ≤ (IntKind.wrap .i64 (v11 - 15)) ∧ (IntKind.wrap .i64 (v11 - 15)).toNat < v12.length) <|
      bnd1 (ref01_turn k v13 18) fun v15 =>
      chk ((0 : Int) ≤ (IntKind.wrap .i64 (v11 - 15)) ∧ (IntKind.wrap .i64 (v11 - 15)).toNat < v12.length) <|
      chk ((0 : Int) ≤ (IntKind.wrap .i64 (v11 - 2)) ∧ (IntKind.wrap .i64 (v11 - 2)).toNat < v12.length) <|
      idx v12 (IntKind.wrap .i64 (v11 - 2)) fun v16 =>
      bnd1 (ref01_turn k v16 17) fun v17 =>
      chk ((0 : Int) ≤ (IntKind.wrap .i64 (v11 - 2)) ∧ (IntKind.wrap .i64 (v11 - 2)).toNat < v12.length) <|
      bnd1 (ref01_turn k v16 19) fun v18 =>
      chk ((0 : Int) ≤ (IntKind.wrap .i64 (v11 - 2)) ∧ (IntKind.wrap .i64 (v11 - 2)).toNat < v12.length) <|
      chk ((0 : Int) ≤ (IntKind.wrap .i64 (v11 - 16)) ∧ (IntKind.wrap .i64 (v11 - 16)).toNat < v12.length) <|
      idx v12 (IntKind.wrap .i64 (v11 - 16)) fun v19 =>
      chk ((0 : Int) ≤ (IntKind.wrap .i64 (v11 - 7)) ∧ (IntKind.wrap .i64 (v11 - 7)).toNat < v12.length) <|
      idx v12 (IntKind.wrap .i64 (v11 - 7)) fun v20 =>
      chk ((0 : Int) ≤ v11 ∧ (v11).toNat < v12.length) <|
      ref01_block.L2 k v0 v2 n (IntKind.wrap .i64 (v11 + 1)) (v12.set (v11).toNat (IntKind.wrap .u32 (IntKind.wrap .u32 (IntKind.wrap .u32 (v19 + bitsV .xor .u32 (bitsV .xor .u32 v14 v15) (Int.fdiv v13 (2 ^ (3)))) + v20) + bitsV .xor .u32 (bitsV .xor .u32 v17 v18) (Int.fdiv v16 (2 ^ (10))))))
    else
      chk (v0.length * 4 ≤ 140737488355328) <|
      ref01_block.L3 k v0 v2 v12 k 0 v0
def ref01_block.L1 (k : Nat) (v0 : (List Int)) (v1 : (List Int)) (v2 : (List Int)) : Nat → Int → (List Int) → Option (List Int)
  | 0, _, _ => none
  | n + 1, v5, v6 =>
    if v5 < 16 then
      idx v1 (IntKind.wrap .i64 (4 * v5)) fun v7 =>
      idx v1 (IntKind.wrap .i64 (IntKind.wrap .i64 (4 * v5) + 1)) fun v8 =>
      idx v1 (IntKind.wrap .i64 (IntKind.wrap .i64 (4 * v5) + 2)) fun v9 =>
      idx v1 (IntKind.wrap .i64 (IntKind.wrap .i64 (4 * v5) + 3)) fun v10 =>
      chk ((0 : Int) ≤ v5 ∧ (v5).toNat < v6.length) <|
      ref01_block.L1 k v0 v1 v2 n (IntKind.wrap .i64 (v5 + 1)) (v6.set (v5).toNat (bitsV .or .u32 (bitsV .or .u32 (bitsV .or .u32 (IntKind.wrap .u32 ((IntKind.wrap .u32 v7) * 2 ^ (24))) (IntKind.wrap .u32 ((IntKind.wrap .u32 v8) * 2 ^ (16)))) (IntKind.wrap .u32 ((IntKind.wrap .u32 v9) * 2 ^ (8)))) (IntKind.wrap .u32 v10)))
    else
      ref01_block.L2 k v0 v2 k 16 v6
def ref01_block (k : Nat) (v0 : (List Int)) (v1 : (List Int)) (v2 : (List Int)) : Option (List Int) :=
  chk ((0 : Int) ≤ 64 ∧ 16 * 64 ≤ 281474976710656) <|
  let1 (List.replicate 64 0) fun v4 =>
  ref01_block.L1 k v0 v1 v2 k 0 v4
def ref01_Sum.L4 (k : Nat) (v6 : (List Int)) : Nat → Int → (List Int) → Option ByteArray
  | 0, _, _ => none
  | n + 1, v9, v10 =>
    if v9 < 8 then
      idx v6 v9 fun v11 =>
      chk ((v10.length + ([IntKind.wrap .u8 (Int.fdiv v11 (2 ^ (24))), IntKind.wrap .u8 (Int.fdiv v11 (2 ^ (16))), IntKind.wrap .u8 (Int.fdiv v11 (2 ^ (8))), IntKind.wrap .u8 v11] : List Int).length) * 1 ≤ 140737488355328) <|
      ref01_Sum.L4 k v6 n (IntKind.wrap .i64 (v9 + 1)) (v10 ++ ([IntKind.wrap .u8 (Int.fdiv v11 (2 ^ (24))), IntKind.wrap .u8 (Int.fdiv v11 (2 ^ (16))), IntKind.wrap .u8 (Int.fdiv v11 (2 ^ (8))), IntKind.wrap .u8 v11] : List Int))
    else
      some (ofI v10)
def ref01_Sum.L3 (k : Nat) (v4 : (List Int)) (v5 : (List Int)) : Nat → (List Int) → Int → Option ByteArray
  | 0, _, _ => none
  | n + 1, v6, v7 =>
    if v7 < (v4.length : Int) then
      chk ((0 : Int) ≤ v7 ∧ (v7 : Int) ≤ IntKind.wrap .i64 (v7 + 64) ∧ (IntKind.wrap .i64 (v7 + 64) : Int) ≤ (v4.length : Int)) <|
      bnd1 (ref01_block k v6 ((v4.take (IntKind.wrap .i64 (v7 + 64)).toNat).drop (v7).toNat) v5) fun v8 =>
      ref01_Sum.L3 k v4 v5 n v8 (IntKind.wrap .i64 (v7 + 64))
    else
      ref01_Sum.L4 k v6 k 0 ([] : List Int)
def ref01_Sum.L2 (k : Nat) (v0 : (List Int)) : Nat → Int → (List Int) → Option ByteArray
  | 0, _, _ => none
  | n + 1, v3, v4 =>
    if 0 ≤ v3 then
      chk ((0 : Int) ≤ IntKind.wrap .u64 (IntKind.wrap .i64 (8 * v3))) <|
      chk ((v4.length + ([IntKind.wrap .u8 (Int.fdiv (IntKind.wrap .u64 (IntKind.wrap .u64 (v0.length : Int) * 8)) (2 ^ (min ((IntKind.wrap .u64 (IntKind.wrap .i64 (8 * v3))).toNat) 64)))] : List Int).length) * 1 ≤ 140737488355328) <|
      ref01_Sum.L2 k v0 n (IntKind.wrap .i64 (v3 - 1)) (v4 ++ ([IntKind.wrap .u8 (Int.fdiv (IntKind.wrap .u64 (IntKind.wrap .u64 (v0.length : Int) * 8)) (2 ^ (min ((IntKind.wrap .u64 (IntKind.wrap .i64 (8 * v3))).toNat) 64)))] : List Int))
    else
      bnd1 (ref01_constants k) fun v5 =>
      ref01_Sum.L3 k v4 v5 k ([1779033703, 3144134277, 1013904242, 2773480762, 1359893119, 2600822924, 528734635, 1541459225] : List Int) 0
def ref01_Sum.L1 (k : Nat) (v0 : (List Int)) : Nat → (List Int) → Option ByteArray
  | 0, _ => none
  | n + 1, v2 =>
    if (Int.tmod (v2.length : Int) 64) ≠ 56 then
      chk ((v2.length + ([0] : List Int).length) * 1 ≤ 140737488355328) <|
      ref01_Sum.L1 k v0 n (v2 ++ ([0] : List Int))
    else
      ref01_Sum.L2 k v0 k 7 v2
def ref01_Sum (k : Nat) (v0 : (List Int)) : Option ByteArray :=
  chk (v0.length * 1 ≤ 140737488355328) <|
  chk ((v0.length + ([128] : List Int).length) * 1 ≤ 140737488355328) <|
  ref01_Sum.L1 k v0 k (v0 ++ ([128] : List Int))
def ref25_Next (k : Nat) (v0 : ByteArray) (v1 : Int) (v2 : (List Int)) : Option (ByteArray × Int) :=
  if (v0.size : Int) ≠ 32 then
    some ((ByteArray.mk #[]), 1)
  else
    if v1 < 0 then
      some ((ByteArray.mk #[]), 2)
    else
      if 40 ≤ v1 then
        some ((ByteArray.mk #[]), 2)
      else
        if 64 < (v2.length : Int) then
          some ((ByteArray.mk #[]), 3)
        else
          chk ((bI v0).length * 1 ≤ 140737488355328) <|
          bnd1 (ref25_number k (bI v0) v1) fun v5 =>
          bnd1 (ref25_list k v5 v2) fun v6 =>
          bnd1 (ref01_Sum k v6) fun v7 =>
          some (v7, 0)
def ref25_Numbers.L1 (k : Nat) (v0 : ByteArray) (v1 : (List Int)) (v2 : Int) : Nat → Int → (List Int) → Option ((List Int) × Int)
  | 0, _, _ => none
  | n + 1, v5, v6 =>
    if v5 < v2 then
      chk ((bI v0).length * 1 ≤ 140737488355328) <|
      bnd1 (ref25_list k (bI v0) v1) fun v7 =>
      bnd1 (ref25_number k v7 v5) fun v8 =>
      bnd1 (ref01_Sum k v8) fun v9 =>
      idx (bI v9) 0 fun v10 =>
      idx (bI v9) 1 fun v11 =>
      idx (bI v9) 2 fun v12 =>
      idx (bI v9) 3 fun v13 =>
      chk ((v6.length + ([bitsV .or .i64 (bitsV .or .i64 (bitsV .or .i64 (IntKind.wrap .i64 ((IntKind.wrap .i64 v10) * 2 ^ (24))) (IntKind.wrap .i64 ((IntKind.wrap .i64 v11) * 2 ^ (16)))) (IntKind.wrap .i64 ((IntKind.wrap .i64 v12) * 2 ^ (8)))) (IntKind.wrap .i64 v13)] : List Int).length) * 8 ≤ 140737488355328) <|
      ref25_Numbers.L1 k v0 v1 v2 n (IntKind.wrap .i64 (v5 + 1)) (v6 ++ ([bitsV .or .i64 (bitsV .or .i64 (bitsV .or .i64 (IntKind.wrap .i64 ((IntKind.wrap .i64 v10) * 2 ^ (24))) (IntKind.wrap .i64 ((IntKind.wrap .i64 v11) * 2 ^ (16)))) (IntKind.wrap .i64 ((IntKind.wrap .i64 v12) * 2 ^ (8)))) (IntKind.wrap .i64 v13)] : List Int))
    else
      some (v6, 0)
def ref25_Numbers (k : Nat) (v0 : ByteArray) (v1 : (List Int)) (v2 : Int) : Option ((List Int) × Int) :=
  if (v0.size : Int) ≠ 32 then
    some (([] : List Int), 1)
  else
    if 64 < (v1.length : Int) then
      some (([] : List Int), 3)
    else
      if v2 < 0 then
        some (([] : List Int), 2)
      else
        if 64 < v2 then
          some (([] : List Int), 2)
        else
          ref25_Numbers.L1 k v0 v1 v2 k 0 ([] : List Int)
def ref25_Mix.L1 (k : Nat) (v0 : (List Int)) (v1 : Int) : Nat → Int → Int → Option (Int × Int)
  | 0, _, _ => none
  | n + 1, v4, v5 =>
    if v5 < (v0.length : Int) then
      idx v0 v5 fun v6 =>
      if v6 < 0 then
        some (0, 2)
      else
        if 4294967296 ≤ v6 then
          some (0, 2)
        else
          ref25_Mix.L1 k v0 v1 n (IntKind.wrap .i64 (v4 + v6)) (IntKind.wrap .i64 (v5 + 1))
    else
      chk (v1 ≠ (0 : Int)) <|
      some (Int.tmod v4 v1, 0)
def ref25_Mix (k : Nat) (v0 : (List Int)) (v1 : Int) : Option (Int × Int) :=
  if 64 < (v0.length : Int) then
    some (0, 3)
  else
    if v1 < 1 then
      some (0, 2)
    else
      if 2147483648 < v1 then
        some (0, 2)
      else
        ref25_Mix.L1 k v0 v1 k 0 0
def ref25_number_v2.L1 (k : Nat) (v0 : Int) : Nat → Int → (List Int) → Option (List Int)
  | 0, _, _ => none
  | n + 1, v2, v3 =>
    if 0 ≤ v2 then
      chk ((0 : Int) ≤ IntKind.wrap .u64 (IntKind.wrap .i64 (8 * v2))) <|
      chk ((v3.length + ([IntKind.wrap .u8 (Int.fdiv (IntKind.wrap .u64 v0) (2 ^ (min ((IntKind.wrap .u64 (IntKind.wrap .i64 (8 * v2))).toNat) 64)))] : List Int).length) * 1 ≤ 140737488355328) <|
      ref25_number_v2.L1 k v0 n (IntKind.wrap .i64 (v2 - 1)) (v3 ++ ([IntKind.wrap .u8 (Int.fdiv (IntKind.wrap .u64 v0) (2 ^ (min ((IntKind.wrap .u64 (IntKind.wrap .i64 (8 * v2))).toNat) 64)))] : List Int))
    else
      some v3
def ref25_number_v2 (k : Nat) (v0 : Int) : Option (List Int) :=
  ref25_number_v2.L1 k v0 k 7 ([] : List Int)
def ref25_Commit (k : Nat) (v0 : Int) (v1 : ByteArray) : Option (ByteArray × Int) :=
  if v0 < 0 then
    some ((ByteArray.mk #[]), 2)
  else
    if 4294967296 ≤ v0 then
      some ((ByteArray.mk #[]), 2)
    else
      if 64 < (v1.size : Int) then
        some ((ByteArray.mk #[]), 3)
      else
        bnd1 (ref25_number_v2 k v0) fun v4 =>
        chk ((v4.length + (bI v1).length) * 1 ≤ 140737488355328) <|
        bnd1 (ref01_Sum k (v4 ++ (bI v1))) fun v5 =>
        some (v5, 0)
def ref23_SameInts.L1 (k : Nat) (v0 : (List Int)) (v1 : (List Int)) : Nat → Int → Option Bool
  | 0, _ => none
  | n + 1, v3 =>
    if v3 < (v0.length : Int) then
      idx v0 v3 fun v4 =>
      idx v1 v3 fun v5 =>
      if v4 ≠ v5 then
        some false
      else
        ref23_SameInts.L1 k v0 v1 n (IntKind.wrap .i64 (v3 + 1))
    else
      some true
def ref23_SameInts (k : Nat) (v0 : (List Int)) (v1 : (List Int)) : Option Bool :=
  if (v0.length : Int) ≠ (v1.length : Int) then
    some false
  else
    ref23_SameInts.L1 k v0 v1 k 0
def ref25_Opens (k : Nat) (v0 : ByteArray) (v1 : Int) (v2 : ByteArray) : Option Bool :=
  bnd2 (ref25_Commit k v1 v2) fun v4 v5 =>
  if v5 = 0 then
    some (strEq v4 v0)
  else
    some false
def made_Mod.J1 (k : Nat) (v3 : Int) : Option Int :=
  some v3
def made_Mod (k : Nat) (v0 : Int) (v1 : Int) : Option Int :=
  if v1 < 1 then
    some 0
  else
    chk (v1 ≠ (0 : Int)) <|
    if Int.tmod v0 v1 < 0 then
      made_Mod.J1 k (IntKind.wrap .i64 (Int.tmod v0 v1 + v1))
    else
      made_Mod.J1 k (Int.tmod v0 v1)
def mill_Mod (k : Nat) (v0 : Int) (v1 : Int) : Option Int :=
  bnd1 (made_Mod k v0 v1) fun v3 =>
  some v3
def law25_BeaconRaw.L2 (k : Nat) (v7 : ByteArray) (v10 : Int) (v30 : Int) (kb1 : ByteArray → (List Int) → Int → Int → Option Bool) : Nat → Int → (List Int) → Option Bool
  | 0, _, _ => none
  | n + 1, v32, v33 =>
    if v32 < (v33.length : Int) then
      chk ((0 : Int) ≤ v32 ∧ (v32).toNat < v33.length) <|
      idx v33 v32 fun v34 =>
      bnd1 (mill_Mod k v34 4294967297) fun v35 =>
      chk ((0 : Int) ≤ v32 ∧ (v32).toNat < v33.length) <|
      law25_BeaconRaw.L2 k v7 v10 v30 kb1 n (IntKind.wrap .i64 (v32 + 1)) (v33.set (v32).toNat v35)
    else
      kb1 ((v7 ++ (ofI (List.replicate (32 : Int).toNat 0))).extract 0 (32 : Int).toNat) v33 v30 (IntKind.wrap .i64 (v10 + 1))
def law25_BeaconRaw.L1 (k : Nat) (v1 : ByteArray) : Nat → ByteArray → (List Int) → Int → Int → Option Bool
  | 0, _, _, _, _ => none
  | n + 1, v7, v8, v9, v10 =>
    if v10 < 2 then
      bnd2 (beacon_Next k v7 v9 v8) fun v11 v12 =>
      bnd2 (ref25_Next k v7 v9 v8) fun v13 v14 =>
      bnd2 (beacon_Numbers k v7 v8 v9) fun v15 v16 =>
      bnd2 (ref25_Numbers k v7 v8 v9) fun v17 v18 =>
      bnd2 (beacon_Mix k v8 v9) fun v19 v20 =>
      bnd2 (ref25_Mix k v8 v9) fun v21 v22 =>
      bnd2 (beacon_Commit k v9 v1) fun v23 v24 =>
      bnd2 (ref25_Commit k v9 v1) fun v25 v26 =>
      if (!strEq v11 v13) = true then
        some false
      else
        if v12 ≠ v14 then
          some false
        else
          if v16 ≠ v18 then
            some false
          else
            bnd1 (ref23_SameInts k v15 v17) fun v27 =>
            if (!v27) = true then
              some false
            else
              if v19 ≠ v21 then
                some false
              else
                if v20 ≠ v22 then
                  some false
                else
                  if (!strEq v23 v25) = true then
                    some false
                  else
                    if v24 ≠ v26 then
                      some false
                    else
                      bnd1 (beacon_Opens k v7 v9 v1) fun v28 =>
                      bnd1 (ref25_Opens k v7 v9 v1) fun v29 =>
                      if (v28 != v29) = true then
                        some false
                      else
                        chk ((0 : Int) ≤ 32 ∧ 16 * 32 ≤ 281474976710656) <|
                        chk (v7.size + (ofI (List.replicate (32 : Int).toNat 0)).size ≤ 140737488355328) <|
                        chk ((32 : Int) ≤ ((v7 ++ (ofI (List.replicate (32 : Int).toNat 0))).size : Int)) <|
                        bnd1 (mill_Mod k v9 66) fun v30 =>
                        let1 (if 20 < (v8.length : Int) then 20 else (v8.length : Int)) fun v31 =>
                        chk ((0 : Int) ≤ v31 ∧ (v31 : Int) ≤ (v8.length : Int)) <|
                        chk ((v8.take (v31).toNat).length * 8 ≤ 140737488355328) <|
                        law25_BeaconRaw.L2 k v7 v10 v30 (fun v7_ v8_ v9_ v10_ => law25_BeaconRaw.L1 k v1 n v7_ v8_ v9_ v10_) k 0 (v8.take (v31).toNat)
    else
      bnd1 (law25_awake k) fun v36 =>
      some v36
def law25_BeaconRaw (k : Nat) (v0 : ByteArray) (v1 : ByteArray) (v2 : (List Int)) (v3 : Int) : Option Bool :=
  if 100 < (v2.length : Int) then
    bnd1 (law25_awake k) fun v5 =>
    some v5
  else
    if 300 < IntKind.wrap .i64 ((v0.size : Int) + (v1.size : Int)) then
      bnd1 (law25_awake k) fun v6 =>
      some v6
    else
      law25_BeaconRaw.L1 k v1 k v0 v2 v3 0
end Go.TF
