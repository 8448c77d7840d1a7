/- Plain laws: sides and their capacities; least sides; all functions agree; made networks; CutRaw and CutMade. -/
import Derived.Test.YtjmcidiplbkmpaaNaPrm
set_option linter.unusedVariables false
set_option linter.unusedSimpArgs false
set_option maxRecDepth 100000
namespace Go.TF
open Go Go.Abs
def vS (N : Int) (A : List api_Arc) (side : List Int) : Bool := chkN N A && (setF N none side && (decide ((0 : Int) ∈ side) && !decide ((1 : Int) ∈ side)))
def inS (side : List Int) (v : Int) : Bool := decide (v ∈ side)
def cpS (A : List api_Arc) (side : List Int) : Int := Mf.capS (ar A) (inS side)
theorem vS_iff (N : Int) (A : List api_Arc) (side : List Int) : vS N A side = true ↔ (∃ n : Nat, N = n ∧ NV n A) ∧ ((∀ x ∈ side, 0 ≤ x ∧ x < N) ∧ side.Pairwise (· < ·)) ∧ (0 : Int) ∈ side ∧ (1 : Int) ∉ side := by
 unfold vS
 simp only [Bool.and_eq_true, chkN_iff, setF_iff, decide_eq_true_eq, Bool.not_eq_true', decide_eq_false_iff_not]
theorem cValid_eq (k : Nat) (N : Int) (A : List api_Arc) (side : List Int) (hk : 1200 < k) (hs : side.length < k) (hs9 : side.length ≤ 1000000) : cut_Valid k N A side = some (vS N A side) := by
 unfold cut_Valid vS
 rw [fCheck_eq k N A hk, bnd1_some]
 cases h : chkN N A with
 | false => rw [if_neg (by simp)]; rfl
 | true =>
  obtain ⟨n, rfl, nv⟩ := (chkN_iff _ _).1 h
  have := nv.n130
  rw [if_pos (by simp), rise_eq k side n hs hs9 (by omega), bnd1_some]
  cases h2 : setF (n : Int) none side with
  | false => rw [if_neg (by simp)]; rfl
  | true =>
   rw [if_pos rfl, sContains_eq k side 0 hs hs9, bnd1_some]
   by_cases h3 : (0 : Int) ∈ side
   ·rw [if_pos (by simpa using h3), sContains_eq k side 1 hs hs9, bnd1_some, decide_eq_true h3]; rfl
   ·rw [if_neg (by simpa using h3), decide_eq_false h3]; rfl
theorem rValid16_eq (k : Nat) (N : Int) (A : List api_Arc) (side : List Int) (hk : 1200 < k) (hs : side.length < k) (hs9 : side.length ≤ 1000000) : ref16_Valid k N A side = some (vS N A side) := by
 unfold ref16_Valid vS
 rw [r15Check_eq k N A hk, bnd1_some]
 cases h : chkN N A with
 | false => rw [if_neg (by simp)]; rfl
 | true =>
  rw [if_pos (by simp), rSet_eq k side N hs hs9, bnd1_some]
  cases h2 : setF N none side with
  | false => rw [if_neg (by simp)]; rfl
  | true =>
   rw [if_pos rfl, rHas_eq k side 0 hs hs9, bnd1_some]
   by_cases h3 : (0 : Int) ∈ side
   ·rw [if_pos (by simpa using h3), rHas_eq k side 1 hs hs9, bnd1_some, decide_eq_true h3]; rfl
   ·rw [if_neg (by simpa using h3), decide_eq_false h3]; rfl
theorem cpS_cons (a : api_Arc) (A : List api_Arc) (side : List Int) : cpS (a :: A) side = (if a.From ∈ side ∧ a.To ∉ side then a.Cap else 0) + cpS A side := by
 unfold cpS ar Mf.capS inS Mf.b2
 simp only [List.map_cons, List.sum_cons, decide_eq_true_eq, decide_eq_false_iff_not]
 split <;> omega
theorem cpS_range {A : List api_Arc} (side : List Int) (hA : ∀ a ∈ A, 0 ≤ a.Cap ∧ a.Cap ≤ 1048576) : 0 ≤ cpS A side ∧ cpS A side ≤ A.length * 1048576 := by
 induction A with
 | nil => simp [cpS, ar, Mf.capS]
 | cons a A ih =>
  have := ih fun b hb => hA b (by simp [hb])
  have ha := hA a (by simp)
  rw [cpS_cons, List.length_cons]
  split <;> omega
theorem cCap_L2 (k N : Nat) (A : List api_Arc) (side : List Int) (h : NV N A) : ∀ (m i n : Nat) (acc : Int), i + m = A.length → m < n → 0 ≤ acc → acc + cpS (A.drop i) side ≤ 9223372036854775807 →
 cut_Capacity.L2 k A (tabG N (inS side)) n acc (i : Int) = some (acc + cpS (A.drop i) side)
 | 0, i, n + 1, acc, e, _, _, _ => by
  rw [cut_Capacity.L2, if_neg (by omega), List.drop_eq_nil_of_le (by omega)]; simp [cpS, ar, Mf.capS]
 | m + 1, i, n + 1, acc, e, hn, a0, a1 => by
  have hi : i < A.length := by omega
  have ok := h.ok _ (List.getElem_mem hi)
  have hl := h.len
  have nn := (cpS_range (A := A.drop (i + 1)) side (fun a ha => by have := h.ok a (List.mem_of_mem_drop ha); omega)).1
  rw [List.drop_eq_getElem_cons hi, cpS_cons] at a1
  rw [cut_Capacity.L2, if_pos (by omega), idx_pos hi, idx_tabG ok.1 ok.2.1, List.drop_eq_getElem_cons hi, cpS_cons]
  unfold cut_Capacity.J3
  rw [sc64 i (by omega)]
  by_cases c1 : A[i].From ∈ side
  ·rw [if_pos (by simpa [inS] using c1), idx_tabG ok.2.2.1 ok.2.2.2.1]
   by_cases c2 : A[i].To ∈ side
   ·rw [if_neg (by simpa [inS] using c2), if_neg (fun z => z.2 c2)]; exact (cCap_L2 k N A side h m (i + 1) n acc (by omega) (by omega) a0 (by rw [if_neg (fun z => z.2 c2)] at a1; omega)).trans (congrArg some (by omega))
   ·rw [if_pos (by simpa [inS] using c2), if_pos ⟨c1, c2⟩, w64 (by omega) (by rw [if_pos ⟨c1, c2⟩] at a1; omega)]; exact (cCap_L2 k N A side h m (i + 1) n _ (by omega) (by omega) (by omega) (by rw [if_pos ⟨c1, c2⟩] at a1; omega)).trans (congrArg some (by omega))
  ·rw [if_neg (by simpa [inS] using c1), if_neg (fun z => c1 z.1)]; exact (cCap_L2 k N A side h m (i + 1) n acc (by omega) (by omega) a0 (by rw [if_neg (fun z => c1 z.1)] at a1; omega)).trans (congrArg some (by omega))
theorem cCap_L1 (k N : Nat) (A : List api_Arc) (side : List Int) (h : NV N A) (hk : A.length < k) (hs : ∀ x ∈ side, 0 ≤ x ∧ x < N) (hs9 : side.length ≤ 1000000) : ∀ (m i n : Nat), i + m = side.length → m < n →
 cut_Capacity.L1 k A side n (i : Int) (tabG N (inS (side.take i))) = some (cpS A side)
 | 0, i, n + 1, e, _ => by
  rw [cut_Capacity.L1, if_neg (by omega), List.take_of_length_le (by omega)]
  have rg := cpS_range (A := A) side (fun a ha => by have := h.ok a ha; omega)
  have hl := h.len
  have := cCap_L2 k N A side h A.length 0 k 0 (by omega) hk (by omega) (by rw [List.drop_zero]; omega)
  rw [List.drop_zero, Int.zero_add] at this; exact this
 | m + 1, i, n + 1, e, hn => by
  have hi : i < side.length := by omega
  have r := hs _ (List.getElem_mem hi)
  rw [cut_Capacity.L1, if_pos (by omega), idx_pos hi, chk_pos (by rw [tabG_len]; omega), sc64 i (by omega), tabG_set r.1]
  have e1 : (fun v => if v = side[i] then true else inS (side.take i) v) = inS (side.take (i + 1)) := by
   funext v; unfold inS
   rw [List.take_succ_eq_append_getElem hi]
   by_cases q : v = side[i]
   ·rw [if_pos q, decide_eq_true (List.mem_append.2 (.inr (by rw [q]; exact List.mem_singleton.2 rfl)))]
   ·rw [if_neg q]
    refine decide_eq_decide.2 ?_
    rw [List.mem_append, List.mem_singleton]
    constructor
    ·exact .inl
    ·rintro (z | z)
     ·exact z
     ·exact absurd z q
  rw [e1]
  exact cCap_L1 k N A side h hk hs hs9 m (i + 1) n (by omega) (by omega)
theorem cCapacity_eq (k : Nat) (N : Int) (A : List api_Arc) (side : List Int) (hk : 1200 < k) (hs : side.length < k) (hs9 : side.length ≤ 1000000) : cut_Capacity k N A side = some (if vS N A side then cpS A side else 0) := by
 unfold cut_Capacity
 rw [cValid_eq k N A side hk hs hs9, bnd1_some]
 cases h : vS N A side with
 | false => rfl
 | true =>
  obtain ⟨⟨n, rfl, nv⟩, ⟨s1, s2⟩, _⟩ := (vS_iff _ _ _).1 h
  have := nv.n130; have := nv.len
  rw [if_neg (by simp), chk_pos (by omega), show ((n : Int)).toNat = n by omega, tabG_rep]
  exact cCap_L1 k n A side nv (by omega) s1 hs9 side.length 0 k (by omega) hs
theorem rCap_L1 (k N : Nat) (A : List api_Arc) (side : List Int) (h : NV N A) (hs : side.length < k) (hs9 : side.length ≤ 1000000) : ∀ (m i n : Nat) (acc : Int), i + m = A.length → m < n → 0 ≤ acc → acc + cpS (A.drop i) side ≤ 9223372036854775807 →
 ref16_Capacity.L1 k A side n acc (i : Int) = some (acc + cpS (A.drop i) side)
 | 0, i, n + 1, acc, e, _, _, _ => by
  rw [ref16_Capacity.L1, if_neg (by omega), List.drop_eq_nil_of_le (by omega)]; simp [cpS, ar, Mf.capS]
 | m + 1, i, n + 1, acc, e, hn, a0, a1 => by
  have hi : i < A.length := by omega
  have ok := h.ok _ (List.getElem_mem hi)
  have hl := h.len
  have nn := (cpS_range (A := A.drop (i + 1)) side (fun a ha => by have := h.ok a (List.mem_of_mem_drop ha); omega)).1
  rw [List.drop_eq_getElem_cons hi, cpS_cons] at a1
  rw [ref16_Capacity.L1, if_pos (by omega), idx_pos hi, rHas_eq k side _ hs hs9, bnd1_some, List.drop_eq_getElem_cons hi, cpS_cons]
  unfold ref16_Capacity.J2
  rw [sc64 i (by omega)]
  by_cases c1 : A[i].From ∈ side
  ·rw [if_pos (by simpa using c1), rHas_eq k side _ hs hs9, bnd1_some]
   by_cases c2 : A[i].To ∈ side
   ·rw [if_neg (by simpa using c2), if_neg (fun z => z.2 c2)]; exact (rCap_L1 k N A side h hs hs9 m (i + 1) n acc (by omega) (by omega) a0 (by rw [if_neg (fun z => z.2 c2)] at a1; omega)).trans (congrArg some (by omega))
   ·rw [if_pos (by simpa using c2), if_pos ⟨c1, c2⟩, w64 (by omega) (by rw [if_pos ⟨c1, c2⟩] at a1; omega)]; exact (rCap_L1 k N A side h hs hs9 m (i + 1) n _ (by omega) (by omega) (by omega) (by rw [if_pos ⟨c1, c2⟩] at a1; omega)).trans (congrArg some (by omega))
  ·rw [if_neg (by simpa using c1), if_neg (fun z => c1 z.1)]; exact (rCap_L1 k N A side h hs hs9 m (i + 1) n acc (by omega) (by omega) a0 (by rw [if_neg (fun z => c1 z.1)] at a1; omega)).trans (congrArg some (by omega))
theorem rCapacity_eq (k : Nat) (N : Int) (A : List api_Arc) (side : List Int) (hk : 1200 < k) (hs : side.length < k) (hs9 : side.length ≤ 1000000) : ref16_Capacity k N A side = some (if vS N A side then cpS A side else 0) := by
 unfold ref16_Capacity
 rw [rValid16_eq k N A side hk hs hs9, bnd1_some]
 cases h : vS N A side with
 | false => rfl
 | true =>
  obtain ⟨⟨n, rfl, nv⟩, ⟨s1, s2⟩, _⟩ := (vS_iff _ _ _).1 h
  have := nv.len
  rw [if_neg (by simp)]
  have rg := cpS_range (A := A) side (fun a ha => by have := nv.ok a ha; omega)
  have := rCap_L1 k n A side nv hs hs9 A.length 0 k 0 (by omega) (by omega) (by omega) (by rw [List.drop_zero]; omega)
  rw [List.drop_zero, Int.zero_add] at this; exact this
theorem cProves_eq (k : Nat) (N : Int) (A : List api_Arc) (side : List Int) (most : Int) (hk : 1200 < k) (hs : side.length < k) (hs9 : side.length ≤ 1000000) : cut_Proves k N A side most = some (vS N A side && decide (cpS A side ≤ most)) := by
 unfold cut_Proves
 rw [cValid_eq k N A side hk hs hs9, bnd1_some]
 cases h : vS N A side with
 | false => rfl
 | true => rw [if_pos rfl, cCapacity_eq k N A side hk hs hs9, bnd1_some, h]; rfl
theorem whB_congr {p q : Int → Bool} (N : Nat) (h : ∀ v : Int, 0 ≤ v → v < N → p v = q v) : whB p N = whB q N := by
 unfold whB
 congr 1
 refine List.filter_congr fun v hv => ?_
 rw [List.mem_range] at hv
 exact h v (by omega) (by omega)
theorem nearC_eq (k N : Nat) (A : List api_Arc) (h : NV N A) (hk : 2 * A.length < k) (hk2 : 1200 < k) (hk3 : A.length * 1048576 < k) : ∃ (f : List Int) (V : Vs), cut_Nearest k (N : Int) A = some (rchL N V, 0) ∧ Mf.Flow N (ar A) f ∧ Mf.Disc (ar A) f V ∧ Cpl (ar A) f V ∧ (1 : Int) ∉ V.map (·.1) := by
 have hN := h.n130; have h2 := h.two
 obtain ⟨f, e1, d1⟩ := fMax_eq k N A h hk hk2 _ (val_bound h) hk3
 obtain ⟨V, e3, v1, v2⟩ := fReached_eq k N A f h d1.fl hk hk2
 refine ⟨f, V, ?_, d1.fl, v1, v2, fun hm => ?_⟩
 ·unfold cut_Nearest
  rw [e1, bnd2_some, if_neg (by simp), e3, bnd1_some]
 ·obtain ⟨S, s0, s1, sc⟩ := d1.side h
  have := Mf.disc_in d1.fl s0 sc v1 1 hm
  rw [s1] at this; cases this
theorem awake16 : law16_awake 1000000000 = some true := by decide +kernel
theorem Of_eq' (k : Nat) (l : List Int) (p : Int) (xs : List Int) (hl : l.length ≤ 1000) (hp : Pos p) (h1 : 1 ≤ xs.length) (h9 : xs.length ≤ 1000) : ∃ a q, made_Dice_Of k l p xs = some (a, q) ∧ Pos q ∧ a ∈ xs := by
 unfold made_Dice_Of
 obtain ⟨a, q, e, hq, ha⟩ := Next_eq k l p (xs.length : Int) hl hp
 have ha := ha (by omega) (by omega)
 obtain ⟨j, rfl⟩ := Int.eq_ofNat_of_zero_le ha.1
 rw [e, bnd2_some, idx_pos (by omega)]
 exact ⟨_, _, rfl, hq, List.getElem_mem _⟩
structure NM (N : Nat) (A : List api_Arc) : Prop where
 nv : NV N A
 n8 : N ≤ 8
 l15 : A.length ≤ 15
 c5 : ∀ a ∈ A, a.Cap ≤ 5
theorem net_L1 (k : Nat) (l : List Int) (hl : l.length ≤ 1000) (w : Int) (hw : 0 ≤ w ∧ w < 7) : ∀ (m n : Nat) (p : Int) (A : List api_Arc), m < n → A.length + m ≤ 15 → Pos p → (∀ a ∈ A, 0 ≤ a.From ∧ a.From < 2 + w ∧ 0 ≤ a.To ∧ a.To < 2 + w ∧ a.From ≠ a.To ∧ a.To ≠ 0 ∧ a.From ≠ 1 ∧ 0 ≤ a.Cap ∧ a.Cap ≤ 5) →
 ∃ A' q, made_Dice_Network.L1 k l w n (m : Int) p A = some (2 + w, A', q) ∧ Pos q ∧ A'.length ≤ 15 ∧ (∀ a ∈ A', 0 ≤ a.From ∧ a.From < 2 + w ∧ 0 ≤ a.To ∧ a.To < 2 + w ∧ a.From ≠ a.To ∧ a.To ≠ 0 ∧ a.From ≠ 1 ∧ 0 ≤ a.Cap ∧ a.Cap ≤ 5)
 | 0, n + 1, p, A, _, hm, hp, hA => by
  rw [made_Dice_Network.L1, if_neg (by omega), w64 (by omega) (by omega)]
  exact ⟨A, p, rfl, hp, by omega, hA⟩
 | m + 1, n + 1, p, A, hn, hm, hp, hA => by
  rw [made_Dice_Network.L1, if_pos (by omega), w64 (n := 2 + w) (by omega) (by omega)]
  obtain ⟨a, q, e, hq, ha⟩ := Next_eq k l p (2 + w) hl hp
  have ha := ha (by omega) (by omega)
  obtain ⟨b, q2, e2, hq2, hb⟩ := Next_eq k l q (2 + w) hl hq
  have hb := hb (by omega) (by omega)
  obtain ⟨c, q3, e3, hq3, hc⟩ := Of_eq' k l q2 [1, 2, 0, 5, 3] hl hq2 (by simp) (by simp)
  have hc : 0 ≤ c ∧ c ≤ 5 := by simp at hc; omega
  rw [e, bnd2_some, e2, bnd2_some, e3, bnd2_some]
  have go : ∀ fr to : Int, 0 ≤ fr → fr < 2 + w → fr ≠ 1 → 0 ≤ to → to < 2 + w → to ≠ 0 → ∃ A' q, made_Dice_Network.J4 k ((m + 1 : Nat) : Int) A c q3 fr (fun v9_ v10_ v11_ => made_Dice_Network.L1 k l w n v9_ v10_ v11_) to = some (2 + w, A', q) ∧ Pos q ∧ A'.length ≤ 15 ∧ (∀ a ∈ A', 0 ≤ a.From ∧ a.From < 2 + w ∧ 0 ≤ a.To ∧ a.To < 2 + w ∧ a.From ≠ a.To ∧ a.To ≠ 0 ∧ a.From ≠ 1 ∧ 0 ≤ a.Cap ∧ a.Cap ≤ 5) := by
   intro fr to h1 h2 h3 h4 h5 h6
   unfold made_Dice_Network.J4 made_Dice_Network.J2
   rw [pr64 m (by omega)]
   by_cases z : fr ≠ to
   ·rw [if_pos z, chk_pos (by simp only [List.length_cons, List.length_nil]; omega)]
    refine net_L1 k l hl w hw m n q3 (A ++ [⟨fr, to, c⟩]) (by omega) (by simp only [List.length_append, List.length_cons, List.length_nil]; omega) hq3 fun x hx => ?_
    rcases List.mem_append.1 hx with hx | hx
    ·exact hA x hx
    ·rw [List.mem_singleton] at hx; subst hx; exact ⟨h1, h2, h4, h5, z, h6, h3, hc.1, hc.2⟩
   ·rw [if_neg z]
    exact net_L1 k l hl w hw m n q3 A (by omega) (by omega) hq3 hA
  have go3 : ∀ fr : Int, 0 ≤ fr → fr < 2 + w → fr ≠ 1 → ∃ A' q, made_Dice_Network.J3 k ((m + 1 : Nat) : Int) A b c q3 (fun v9_ v10_ v11_ => made_Dice_Network.L1 k l w n v9_ v10_ v11_) fr = some (2 + w, A', q) ∧ Pos q ∧ A'.length ≤ 15 ∧ (∀ a ∈ A', 0 ≤ a.From ∧ a.From < 2 + w ∧ 0 ≤ a.To ∧ a.To < 2 + w ∧ a.From ≠ a.To ∧ a.To ≠ 0 ∧ a.From ≠ 1 ∧ 0 ≤ a.Cap ∧ a.Cap ≤ 5) := by
   intro fr h1 h2 h3
   unfold made_Dice_Network.J3
   by_cases z : b = 0
   ·rw [if_pos z]; exact go fr 1 h1 h2 h3 (by omega) (by omega) (by omega)
   ·rw [if_neg z]; exact go fr b h1 h2 h3 hb.1 hb.2 z
  by_cases z : a = 1
  ·rw [if_pos z]; exact go3 0 (by omega) (by omega) (by omega)
  ·rw [if_neg z]; exact go3 a ha.1 ha.2 z
theorem Network_eq (k : Nat) (l : List Int) (p : Int) (hl : l.length ≤ 1000) (hp : Pos p) (hk : 20 < k) : ∃ (N : Nat) (A : List api_Arc) (q : Int), made_Dice_Network k l p = some ((N : Int), A, q) ∧ Pos q ∧ NM N A := by
 unfold made_Dice_Network
 obtain ⟨w, q, e, hq, hw⟩ := Next_eq k l p 7 hl hp
 have hw := hw (by omega) (by omega)
 obtain ⟨m, q2, e2, hq2, hm⟩ := Next_eq k l q 16 hl hq
 have hm := hm (by omega) (by omega)
 obtain ⟨m, rfl⟩ := Int.eq_ofNat_of_zero_le hm.1
 obtain ⟨w, rfl⟩ := Int.eq_ofNat_of_zero_le hw.1
 rw [e, bnd2_some, e2, bnd2_some]
 obtain ⟨A, q3, e3, hq3, h1, h2⟩ := net_L1 k l hl (w : Int) hw m k q2 [] (by omega) (by simp only [List.length_nil]; omega) hq2 (by simp)
 refine ⟨2 + w, A, q3, by rw [e3]; simp, hq3, ⟨by omega, by omega, by omega, fun a ha => ?_⟩, by omega, h1, fun a ha => (h2 a ha).2.2.2.2.2.2.2.2⟩
 have := h2 a ha
 exact ⟨this.1, by omega, this.2.2.1, by omega, this.2.2.2.2.1, this.2.2.2.2.2.1, this.2.2.2.2.2.2.1, this.2.2.2.2.2.2.2.1, by omega⟩
end Go.TF
