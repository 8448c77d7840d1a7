/- The law GuardianLast. -/
import Derived.Test.YtepdfenlkeaefaaHPgback
set_option linter.unusedVariables false
set_option linter.unusedSimpArgs false
namespace Go.TF
open Go Go.Abs
theorem voicesN_mono (u v : List Int) (h : ∀ x, x ∈ u → x ∈ v) : ∀ l, voicesN u l ≤ voicesN v l
 | [] => by simp [voicesN]
 | x :: l => by
  have := voicesN_mono u v h l
  unfold voicesN
  by_cases a : x ∈ u
  ·rw [if_pos a, if_pos (h x a)]; omega
  ·rw [if_neg a]; split <;> omega
theorem voicesN_self (v : List Int) : ∀ l : List Int, (∀ x ∈ l, x ∈ v) → voicesN v l = l.length
 | [], _ => rfl
 | x :: l, h => by
  have := voicesN_self v l (fun y hy => h y (by simp [hy]))
  unfold voicesN
  rw [if_pos (h x (by simp)), this, List.length_cons]; omega
theorem voicesN_none (v : List Int) : ∀ l : List Int, (∀ x ∈ l, ¬ x ∈ v) → voicesN v l = 0
 | [], _ => rfl
 | x :: l, h => by
  have := voicesN_none v l (fun y hy => h y (by simp [hy]))
  unfold voicesN
  rw [if_neg (h x (by simp)), this]
theorem allF_more (f : Int → Option api_Guard) (a : Nat) : ∀ b, ∃ r, allF f (a + b) = allF f a ++ r
 | 0 => ⟨[], by simp⟩
 | b + 1 => by
  obtain ⟨r, h⟩ := allF_more f a b
  exact ⟨_, by rw [← Nat.add_assoc, allF_succ, h, List.append_assoc]⟩
theorem allF_stop (f : Int → Option api_Guard) (a : Nat) (h : ∀ x : Int, (a : Int) ≤ x → f x = none) : ∀ b, allF f (a + b) = allF f a
 | 0 => rfl
 | b + 1 => by
  rw [← Nat.add_assoc, allF_succ, allF_stop f a h b, h _ (by omega)]; simp
theorem lastG_app (w : List api_Statement) (s : api_Statement) (x : Int) : lastG (w ++ [s]) x = stepG x (lastG w x) s := by
 unfold lastG; rw [List.foldl_append]; rfl
structure LastI (w : List api_Statement) (L : List api_Guard) (B : List Bool) : Prop where
 lenL : L.length = 8
 lenB : B.length = 8
 fit : ∀ s ∈ w, s.Lst.length ≤ 100 ∧ s.Pins = []
 out : ∀ x : Int, x < 0 ∨ 8 ≤ x → lastG w x = none
 at' : ∀ x : Nat, x < 8 → (B[x]? = some false ∧ lastG w (x : Int) = none) ∨ (B[x]? = some true ∧ ∃ g, L[x]? = some g ∧ lastG w (x : Int) = some ⟨x, g.Need, g.Guardians⟩ ∧ okG x g.Need g.Guardians = true)
theorem LastI.fitK {w : List api_Statement} {L : List api_Guard} {B : List Bool} (h : LastI w L B) {k : Nat} (hk : 1000 < k) : ∀ s ∈ w, FitK k s := by
 intro s hs
 have := h.fit s hs
 exact ⟨by omega, by omega, by rw [this.2]; simp; omega⟩
theorem LastI.zero : LastI [] (List.replicate 8 (api_Guard.mk 0 0 [])) (List.replicate 8 false) := by
 refine ⟨rfl, rfl, by simp, fun x _ => rfl, fun x hx => .inl ⟨by rw [List.getElem?_replicate, if_pos hx], rfl⟩⟩
theorem LastI.step {w : List api_Statement} {L : List api_Guard} {B : List Bool} (h : LastI w L B) (o num n : Int) (g : List Int) (hv : okG o n g = true) (h8 : o < 8) (h0 : 0 ≤ num) (h1 : num ≤ 199) :
 LastI (w ++ [guardS o num n g]) (L.set o.toNat ⟨o, n, g⟩) (B.set o.toNat true) := by
 have ho := okG_key hv
 have hl := okG_len hv
 have e := ofS_guard o num n g hv h0 h1
 have eg : ofG (guardS o num n g) = some ⟨o, n, g⟩ := by unfold ofG; rw [e]; rfl
 have st : ∀ x, lastG (w ++ [guardS o num n g]) x = if o = x then some ⟨o, n, g⟩ else lastG w x := fun x => by rw [lastG_app]; unfold stepG; rw [eg]
 refine ⟨by rw [List.length_set]; exact h.lenL, by rw [List.length_set]; exact h.lenB, ?_, ?_, ?_⟩
 ·intro s hs
  rcases List.mem_append.1 hs with hs | hs
  ·exact h.fit s hs
  ·simp only [List.mem_singleton] at hs; subst hs; exact ⟨by show g.length ≤ 100; omega, rfl⟩
 ·intro x hx
  rw [st, if_neg (by omega)]; exact h.out x hx
 ·intro x hx
  rw [st]
  by_cases q : o.toNat = x
  ·right
   have q' : o = (x : Int) := by omega
   refine ⟨by rw [← q, List.getElem?_set_self (by rw [h.lenB]; omega)], ⟨o, n, g⟩, by rw [← q, List.getElem?_set_self (by rw [h.lenL]; omega)], by rw [if_pos q', q'], by rw [← q']; exact hv⟩
  ·have q' : ¬ o = (x : Int) := by omega
   rw [if_neg q', List.getElem?_set_ne q, List.getElem?_set_ne q]
   exact h.at' x hx
theorem glast3 (k : Nat) (hk : 10000 < k) (v4 : List Int) (h4 : v4.length ≤ 1000) (w : List api_Statement) (L : List api_Guard) (B : List Bool) (I : LastI w L B) : ∀ (j i n : Nat) (p : Int), i + j = 8 → j < n → Pos p →
 law34_GuardianLast.L3 k v4 L B (allG w) n ((allF (lastG w) i).length : Int) (i : Int) p = some true
 | 0, i, n + 1, p, h, _, hp => by
  obtain rfl : i = 8 := by omega
  have : allG w = allF (lastG w) 8 := allF_stop (lastG w) 8 (fun x hx => I.out x (.inr hx)) 56
  rw [law34_GuardianLast.L3, if_neg (by omega), if_pos (by rw [this]), awake34' k (by omega)]
  rfl
 | j + 1, i, n + 1, p, h, hn, hp => by
  have hb : i < B.length := by rw [I.lenB]; omega
  have hL : i < L.length := by rw [I.lenL]; omega
  have hs := allF_succ (lastG w) i
  have hlen := allF_len (lastG w) i
  rw [law34_GuardianLast.L3, if_pos (by omega), idx_pos hb]
  rcases I.at' i (by omega) with ⟨h1, h2⟩ | ⟨h1, g, h2, h3, h5⟩
  ·have hbi : B[i] = false := by rw [List.getElem?_eq_getElem hb] at h1; exact Option.some.inj h1
   rw [hbi, if_pos (by simp)]
   unfold law34_GuardianLast.J4
   rw [succ64 _ (by omega)]
   have := glast3 k hk v4 h4 w L B I j (i + 1) n p (by omega) (by omega) hp
   rw [hs, h2] at this
   simpa using this
  ·have hbi : B[i] = true := by rw [List.getElem?_eq_getElem hb] at h1; exact Option.some.inj h1
   have hLi : L[i] = g := by rw [List.getElem?_eq_getElem hL] at h2; exact Option.some.inj h2
   rw [h3] at hs
   obtain ⟨r, hr⟩ := allF_more (lastG w) (i + 1) (63 - i)
   have hall : allG w = allF (lastG w) i ++ ⟨i, g.Need, g.Guardians⟩ :: r := by
    have : allG w = allF (lastG w) (i + 1 + (63 - i)) := by rw [show i + 1 + (63 - i) = 64 by omega]; rfl
    rw [this, hr, hs]; simp
   have hlt : (allF (lastG w) i).length < (allG w).length := by rw [hall]; simp
   have hget : (allG w)[(allF (lastG w) i).length]'hlt = ⟨i, g.Need, g.Guardians⟩ := by simp [hall]
   have hl12 := okG_len h5
   have hn1 : 1 ≤ g.Need ∧ g.Need ≤ g.Guardians.length := by
    have h6 := h5
    simp only [okG, endG, Bool.and_eq_true, decide_eq_true_eq] at h6; omega
   have hni : ¬ (i : Int) ∈ g.Guardians := by
    have h6 := h5
    simp only [okG, Bool.and_eq_true, Bool.not_eq_true', decide_eq_false_iff_not] at h6; exact h6.1.2
   obtain ⟨a, q1, e1, hq1, _, ra, la⟩ := Some_eq k v4 p 12 h4 hp (by omega) (by omega) (by omega)
   obtain ⟨b, q2, e2, hq2, _, rb, lb⟩ := Some_eq k v4 q1 12 h4 hq1 (by omega) (by omega) (by omega)
   have lj := setJ_len a b
   have mono : voicesN a g.Guardians ≤ voicesN (setJ a b) g.Guardians := voicesN_mono _ _ (fun x hx => by
    have := ra x hx
    unfold setJ; rw [mem_sel]; simp [hx]; omega) _
   have self : voicesN g.Guardians g.Guardians = g.Guardians.length := voicesN_self _ _ fun _ h => h
   have none' : voicesN [(i : Int)] g.Guardians = 0 := voicesN_none _ _ fun x hx hh => by simp only [List.mem_singleton] at hh; subst hh; exact hni hx
   have en : ∀ v : List Int, v.length ≤ 1000 → guardian_Enough k (i : Int) g.Need g.Guardians v = some (decide (g.Need ≤ (voicesN v g.Guardians : Int))) := fun v hv => by
    rw [Enough_eq k _ _ _ _ (by omega) (by omega) (by omega) (by omega), h5, Bool.true_and]
   rw [hbi, if_neg (by simp), if_neg (by omega), idx_pos hlt, hget]
   simp only
   rw [if_neg (by simp), idx_pos hL, hLi, if_neg (by simp), same23_refl _ _ (by omega) (by omega), bnd1_some, if_neg (by simp), e1, bnd2_some, e2, bnd2_some, refJoin_eq k a b (by omega) (by omega) (by omega) (by omega) (by omega), bnd1_some, en a (by omega), bnd1_some,
    en (setJ a b) (by omega), en g.Guardians (by omega), en [(i : Int)] (by simp), self, none']
   simp only [bnd1_some]
   have d1 : decide (g.Need ≤ (g.Guardians.length : Int)) = true := by simp [hn1.2]
   have d2 : decide (g.Need ≤ ((0 : Nat) : Int)) = false := by simp; omega
   have fin := glast3 k hk v4 h4 w L B I j (i + 1) n q2 (by omega) (by omega) hq2
   rw [hs, List.length_append, List.length_cons, List.length_nil, Nat.zero_add] at fin
   rw [d1, d2]
   unfold law34_GuardianLast.J5 law34_GuardianLast.J4
   rw [if_neg (by simp : ¬ false = true), if_neg (by simp : ¬ (!true) = true), succ64 _ (by omega), succ64 _ (by omega)]
   by_cases c : g.Need ≤ (voicesN a g.Guardians : Int)
   ·have d3 : decide (g.Need ≤ (voicesN (setJ a b) g.Guardians : Int)) = true := by rw [decide_eq_true_eq]; omega
    rw [if_pos (by simpa using c), d3, if_neg (by simp)]
    exact fin
   ·rw [if_neg (by simpa using c)]
    exact fin
theorem glast1 (k : Nat) (hk : 10000 < k) (v4 : List Int) (h4 : v4.length ≤ 1000) : ∀ (j n : Nat) (p : Int) (w : List api_Statement) (L : List api_Guard) (B : List Bool), j < n → j + w.length ≤ 20 → Pos p → LastI w L B →
 law34_GuardianLast.L1 k v4 n (j : Int) p w L B = some true
 | 0, n + 1, p, w, L, B, _, hw, hp, I => by
  rw [law34_GuardianLast.L1, if_neg (by omega), All_p k hk w (by omega) (by omega) (I.fitK (by omega)), bnd1_some]
  exact glast3 k hk v4 h4 w L B I 8 0 k p (by omega) (by omega) hp
 | j + 1, n + 1, p, w, L, B, hn, hw, hp, I => by
  obtain ⟨o, need, g, q, e1, hgl, hq⟩ := guard_eq k (by omega) v4 p h4 hp
  have b4 : ∀ f : Int → Int → List Int → Int → Option Bool, bnd4 (some (o, need, g, q)) f = f o need g q := fun _ => rfl
  have pj : IntKind.wrap .i64 (((j + 1 : Nat) : Int) - 1) = (j : Int) := by rw [w64 (by omega) (by omega)]; omega
  rw [law34_GuardianLast.L1, if_pos (by omega), e1, b4, Draft_eq k o need g (by omega) (by omega)]
  unfold law34_GuardianLast.J2
  rw [pj]
  cases hv : okG o need g
  ·have hd : draftF o need g = (0, 0, 0, 0, [], [], 47) := by unfold draftF; rw [hv]; rfl
   have b7 : ∀ f : Int → Int → Int → Int → List Int → List api_Pin → Int → Option Bool, bnd7 (some ((0 : Int), (0 : Int), (0 : Int), (0 : Int), ([] : List Int), ([] : List api_Pin), (47 : Int))) f = f 0 0 0 0 [] [] 47 := fun _ => rfl
   rw [hd, b7, if_pos (by omega)]
   exact glast1 k hk v4 h4 j n q w L B (by omega) (by omega) hq I
  have hd : draftF o need g = (12, need, 0, 0, g, [], 0) := by unfold draftF; rw [hv]; rfl
  have b7 : ∀ f : Int → Int → Int → Int → List Int → List api_Pin → Int → Option Bool, bnd7 (some ((12 : Int), need, (0 : Int), (0 : Int), g, ([] : List api_Pin), (0 : Int))) f = f 12 need 0 0 g [] 0 := fun _ => rfl
  have ho := okG_key hv
  rw [hd, b7, if_neg (by simp)]
  by_cases h8 : 8 ≤ o
  ·rw [if_pos h8]
   exact glast1 k hk v4 h4 j n q w L B (by omega) (by omega) hq I
  rw [if_neg h8, mStatement_eq k hk _ _ _ _ _ _ _ _ hgl, bnd1_some, chk_pos (by simp only [List.length_cons, List.length_nil]; omega)]
  obtain ⟨i, rfl⟩ := Int.eq_ofNat_of_zero_le ho.1
  rw [idx_pos (by rw [I.lenL]; omega), chk_pos ⟨by omega, by rw [I.lenB]; omega⟩]
  exact glast1 k hk v4 h4 j n q _ _ _ (by omega) (by simp only [List.length_append, List.length_cons, List.length_nil]; omega) hq (I.step i w.length need g hv (by omega) (by omega) (by omega))
theorem GuardianLast_ex (v0 : List Int) (h0 : Fit (.lst false false (v0.map (.int .i64)))) : ∃ k, law34_GuardianLast k v0 = some true := by
 obtain ⟨k, hk⟩ : ∃ k, 10000 < k := ⟨20000, by omega⟩
 refine ⟨k, ?_⟩
 have aw := awake34' k (by omega)
 unfold law34_GuardianLast mill_Light mill_Roll
 rw [bnd1_some]
 by_cases a0 : ¬ (v0.length : Int) ≤ 400
 ·rw [if_pos (by simp; omega), aw]; rfl
 rw [if_neg (by simp; omega), Roll_eq, bnd2_some, bnd2_some, chk_pos (by omega), chk_pos (by omega)]
 obtain ⟨a, q, e, hq, ha⟩ := Next_eq k v0 0 9 (by omega) (by decide)
 have ha := ha (by omega) (by omega)
 obtain ⟨j, rfl⟩ := Int.eq_ofNat_of_zero_le ha.1
 rw [e, bnd2_some]
 exact glast1 k hk v0 (by omega) j k q [] _ _ (by omega) (by simp; omega) hq LastI.zero
end Go.TF
