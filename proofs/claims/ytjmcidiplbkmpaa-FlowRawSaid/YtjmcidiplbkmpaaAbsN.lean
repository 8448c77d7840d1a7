/- Regions evaluated: it is so. -/
import Derived.Test.YtjmcidiplbkmpaaAbsM
set_option linter.unusedVariables false
set_option linter.unusedSimpArgs false
namespace Go.Abs
open Go.RowKit (Below)

section
variable {P : Program} {o : Oper} {s : Nat → AV} {H : Heap} {N : Nat} {K : CK} {mu : List Nat}

def Gives (P : Program) (o : Oper) (s : Nat → AV) (H : Heap) (N : Nat) (K : CK) : Prop := ∃ x H' N' T W, OpOut P o s H N x H' N' T W ∧ K x H' N' T W

theorem list_toArray {α : Type} {a : Array α} {l : List α} (h : a.toList = l) : a = l.toArray := by cases a; simpa using h

theorem builtin_sound (hc : constsOk o = true) (m : Bool) (b : Builtin) (args : Array Operand) (ts : Array TypeId) (ho : o.op = .call { callee := .builtin b, args := args, argTypes := ts })
    (h : aBuiltin P m b ts.toList (args.toList.map (ev s)) H N K) : Gives P o s H N K := by
  generalize hx : args.toList.map (ev s) = xs at h
  generalize ht : ts.toList = tl at h
  have one : ∀ y, [y] = xs → ∃ z, args = #[z] ∧ ev s z = y := by
    intro y h; rw [← hx] at h
    cases ha : args.toList with
    | nil => simp [ha] at h
    | cons z l =>
      cases l with
      | nil => simp [ha] at h; exact ⟨z, list_toArray ha, h.symm⟩
      | cons => simp [ha] at h
  have two : ∀ y y', [y, y'] = xs → ∃ z z', args = #[z, z'] ∧ ev s z = y ∧ ev s z' = y' := by
    intro y y' h; rw [← hx] at h
    match ha : args.toList, h with
    | [z, z'], h => simp at h; exact ⟨z, z', list_toArray ha, h.1.symm, h.2.symm⟩
    | [], h => simp at h
    | [_], h => simp at h
    | _ :: _ :: _ :: _, h => simp at h
  unfold aBuiltin at h
  split at h
  · rename_i t nl fl ys
    obtain ⟨z, rfl, hz⟩ := one _ rfl
    have := list_toArray ht; subst this
    obtain ⟨e, he⟩ := isSl_spec h.1
    exact ⟨_, _, _, _, _, out_len_l hc t e z ho nl fl ys hz he, h.2⟩
  · rename_i t b
    obtain ⟨z, rfl, hz⟩ := one _ rfl
    have := list_toArray ht; subst this
    exact ⟨_, _, _, _, _, out_len_s hc t z ho b hz (isSt_spec h.1), h.2⟩
  · rename_i t id off es len full
    obtain ⟨z, rfl, hz⟩ := one _ rfl
    have := list_toArray ht; subst this
    obtain ⟨e, he⟩ := isSl_spec h.1
    obtain ⟨o', ho'⟩ := h.2.2.1
    exact ⟨_, _, _, _, _, out_len_p hc t e z ho id off es len full hz h.2.1 o' ho' he, h.2.2.2⟩
  · rename_i k a k' b
    obtain ⟨z, z', rfl, hz, hz'⟩ := two _ _ rfl
    obtain ⟨rfl, h⟩ := h
    exact ⟨_, _, _, _, _, out_max hc ts z z' ho k a b hz hz', h⟩
  · rename_i k a k' b
    obtain ⟨z, z', rfl, hz, hz'⟩ := two _ _ rfl
    obtain ⟨rfl, h⟩ := h
    exact ⟨_, _, _, _, _, out_min hc ts z z' ho k a b hz hz', h⟩
  · rename_i t t' nl fl ys z
    obtain ⟨y, z', rfl, hy, hz⟩ := two _ _ rfl
    have := list_toArray ht; subst this
    obtain ⟨h2, h⟩ := h
    split at h
    · rcases h with ⟨hfl, hnl, h⟩ | ⟨hnf, h⟩
      · split at h
        · rename_i e es by_ hE
          obtain ⟨h3, h4, h⟩ := h
          obtain ⟨zs, T, k1, k2, ⟨k0, k3, k4, k5, k6, k7⟩, k8⟩ := aSrc_spec h
          refine ⟨_, _, _, _, _, out_append_f hc t t' y z' ho nl fl ys hy hfl e es by_ hE h2 zs T ⟨by rw [hz]; exact k1, k3.1, k3.2, ?_, k2⟩ h3 k0 h4.1 h4.2 k5 k6, k7⟩
          intro hs
          rw [hz] at hs
          obtain ⟨id, rfl⟩ := k8 hs
          exact List.all_eq_true.1 (k4 (by simp))
        · exact h.elim
      split at h
      · rename_i e es by_ hE
        obtain ⟨h3, h⟩ := h
        obtain ⟨zs, T, k1, k2, ⟨k3, k4, k5, k6, k7⟩, k8⟩ := aSrc_spec h
        refine ⟨_, _, _, _, _, out_append_n hc t t' y z' ho nl fl ys hy hnf e es by_ hE h2 zs T ⟨by rw [hz]; exact k1, k3.1, k3.2, ?_, k2⟩ h3 k5 k6, k7⟩
        intro hs
        rw [hz] at hs
        obtain ⟨id, rfl⟩ := k8 hs
        exact List.all_eq_true.1 (k4 (by simp))
      · exact h.elim
    · obtain ⟨h1, h⟩ := h
      split at h
      · rename_i e es by_ hE
        obtain ⟨h3, h⟩ := h
        obtain ⟨zs, T, k1, k2, ⟨k3, k4, k5, k6, k7⟩, k8⟩ := aSrc_spec h
        refine ⟨_, _, _, _, _, out_append_l hc t t' y z' ho nl fl ys hy h1 e es by_ hE h2 zs T ⟨by rw [hz]; exact k1, k3.1, k3.2, ?_, k2⟩ h3.1 h3.2 k5 k6, k7⟩
        intro hs
        rw [hz] at hs
        obtain ⟨id, rfl⟩ := k8 hs
        exact List.all_eq_true.1 (k4 (by simp))
      · exact h.elim
  · rename_i t t' id off es len full z
    obtain ⟨y, z', rfl, hy, hz⟩ := two _ _ rfl
    have := list_toArray ht; subst this
    obtain ⟨h0, h2, h⟩ := h
    split at h
    · rename_i e es' by_ obj hE hob
      split at h
      · rename_i cs hcs
        obtain ⟨rfl, h3, h4, h5, h6, h⟩ := h
        obtain ⟨zs, T, k1, k2, ⟨k3, k4, k5, k6, k7⟩, k8⟩ := aSrc_spec h
        refine ⟨_, _, _, _, _, out_append_p hc t t' y z' ho id off es' len full hy h0 obj hob cs hcs h4 h5 e by_ hE h2 zs T ⟨by rw [hz]; exact k1, k3.1, k3.2, ?_, k2⟩ (List.all_eq_true.1 h6) h3 k5 k6, k7⟩
        intro hs
        rw [hz] at hs
        obtain ⟨id, rfl⟩ := k8 hs
        exact List.all_eq_true.1 (k4 (by simp))
      · exact h.elim
    · exact h.elim
  · rename_i t id off es len full
    obtain ⟨z, rfl, hz⟩ := one _ rfl
    have := list_toArray ht; subst this
    split at h
    · rename_i e es' by_ hE
      split at h
      · rename_i x hx0
        obtain ⟨h0, obj, cs, e1, e2, h1, rfl, h2, h3, h4, h⟩ := withCs_spec h
        exact ⟨_, _, _, _, _, out_clear hc t z ho id off es' len full hz h0 obj e1 cs e2 h1 e by_ hE x hx0 h2 h3 h4, h⟩
      · exact h.elim
    · exact h.elim
  · rename_i t t' id off es len full z
    obtain ⟨y, z', rfl, hy, hz⟩ := two _ _ rfl
    have := list_toArray ht; subst this
    split at h
    · rename_i e es' by_ hE
      obtain ⟨h0, obj, cs, e1, e2, h1, rfl, h2, h⟩ := withCs_spec h
      obtain ⟨zs, T, k1, k2, ⟨k3, k4, k5, k6⟩, k8⟩ := aSrc_spec h
      refine ⟨_, _, _, _, _, out_copy hc t t' y z' ho id off es' len full hy h0 obj e1 cs e2 h1 e by_ hE h2 zs T (by rw [hz]; exact k1) k2 k3.1 k3.2 ?_ k5, k6⟩
      rintro ⟨i1, i2, i3, i4, i5, hs⟩
      rw [hz] at hs; subst hs
      obtain ⟨id, rfl⟩ := k8 ⟨_, _, _, _, _, rfl⟩
      exact List.all_eq_true.1 (k4 (by simp))
    · exact h.elim
  · rename_i t t' id z
    obtain ⟨y, z', rfl, hy, hz⟩ := two _ _ rfl
    have := list_toArray ht; subst this
    obtain ⟨h0, h⟩ := h
    split at h
    · rename_i es kd zv e1 e2
      subst hz
      exact ⟨_, _, _, _, _, out_delete hc t t' y z' ho id hy h0 es e1 kd zv e2 h.1 h.2.1, h.2.2⟩
    · exact h.elim
  · exact h.elim


theorem aop_sound (hc : constsOk o = true) (h : aop P mu o s H N K) : Gives P o s H N K := by
  unfold aop at h
  split at h
  · rename_i y ho; exact ⟨_, _, _, _, _, out_move hc y (.inl ho), h⟩
  · rename_i y ho; exact ⟨_, _, _, _, _, out_move hc y (.inr ho), h⟩
  · rename_i t x y ho
    split at h
    · rename_i b hb; exact ⟨_, _, _, _, _, out_pick hc t x y ho b hb, h⟩
    · exact h.elim
  · rename_i op xt x y yt ho
    split at h
    · rename_i r hr; exact ⟨_, _, _, _, _, out_bin hc op xt yt x y ho r hr h.1, h.2⟩
    · exact h.elim
  · rename_i op xt x ho
    split at h
    · rename_i r hr; exact ⟨_, _, _, _, _, out_un hc op xt x ho r hr, h⟩
    · exact h.elim
  · rename_i t y ho
    split at h
    · rename_i cs hy
      split at h
      · rename_i x hx; exact ⟨_, _, _, _, _, out_load_c hc t y ho cs hy x hx, h⟩
      · exact h.elim
    · rename_i id off hy
      obtain ⟨hid, obj, cs, hob, hcs, h⟩ := withCs_spec h
      split at h
      · rename_i x hx; exact ⟨_, _, _, _, _, out_load_p hc t y ho id off hy hid obj hob cs hcs x hx, h⟩
      · exact h.elim
    · exact h.elim
  · rename_i t y z ho
    split at h
    · rename_i id off hy
      obtain ⟨hid, obj, cs, hob, hcs, h0, h1, h2, h⟩ := withCs_spec h
      exact ⟨_, _, _, _, _, out_store hc t y z ho id off hy hid obj hob cs hcs h1 h2 h0, h⟩
    · exact h.elim
  · rename_i t y ho; exact ⟨_, _, _, _, _, out_box hc t y ho h.1, h.2⟩
  · rename_i t ho
    split at h
    · rename_i z hz; exact ⟨_, _, _, _, _, out_alloc t ho z hz, h⟩
    · exact h.elim
  · rename_i t y f ho
    split at h
    · rename_i d hd
      split at h
      · rename_i cs hy; exact ⟨_, _, _, _, _, out_field_c hc t y f ho cs hy d hd, h⟩
      · rename_i id off hy
        obtain ⟨hid, obj, cs, hob, hcs, h0, h⟩ := withCs_spec h
        exact ⟨_, _, _, _, _, out_field_p hc t y f ho id off hy hid obj hob (not_grow_nil hcs h0) d hd, h⟩
      · exact h.elim
    · exact h.elim
  · rename_i y ho
    split at h
    · rename_i cs hy; exact ⟨_, _, _, _, _, out_nilCheck_c hc y ho cs hy, h⟩
    · rename_i f cs hy; exact ⟨_, _, _, _, _, out_nilCheck_f hc y ho f cs hy, h⟩
    · rename_i id off hy
      obtain ⟨hid, obj, cs, hob, hcs, h0, h⟩ := withCs_spec h
      exact ⟨_, _, _, _, _, out_nilCheck_p hc y ho id off hy hid obj hob (not_grow_nil hcs h0), h⟩
    · exact h.elim
  · rename_i t y z ho
    unfold aIdx at h
    split at h
    · rename_i k i hz
      split at h
      · rename_i nl fl xs hy
        split at h
        · rename_i e es by_ hE
          obtain ⟨h0, h1, h2, h3, h⟩ := h
          exact ⟨_, _, _, _, _, out_index_c hc t y z ho nl fl xs hy k i hz e es by_ hE h0 h1 _ (by simp [h1]) h2 h3, h⟩
        · exact h.elim
      · rename_i id off es len full hy
        split at h
        · rename_i e es' by_ hE
          obtain ⟨hid, obj, cs, hob, hcs, h0, rfl, h1, h2, h⟩ := withCs_spec h
          exact ⟨_, _, _, _, _, out_index_p hc t y z ho id off _ len full hy hid obj hob (not_grow_nil hcs h0) k i hz e by_ hE h1 h2, h⟩
        · exact h.elim
      · rename_i cs hy
        split at h
        · rename_i m es hE; exact ⟨_, _, _, _, _, out_index_ac hc t y z ho cs hy k i hz m es hE h.1 h.2.1, h.2.2⟩
        · exact h.elim
      · rename_i id off hy
        split at h
        · rename_i m es hE
          obtain ⟨hid, obj, cs, hob, hcs, h0, h1, h2, h⟩ := withCs_spec h
          exact ⟨_, _, _, _, _, out_index_ap hc t y z ho id off hy hid obj hob (not_grow_nil hcs h0) k i hz m es hE h1 h2, h⟩
        · exact h.elim
      · exact h.elim
    · exact h.elim
  · rename_i t y z ho
    split at h
    · rename_i b k i hy hz
      exact ⟨_, _, _, _, _, out_idx_str hc t y z ho b hy k i hz (isSt_spec h.1) h.2.1 h.2.2.1, h.2.2.2⟩
    · rename_i xs k i hy hz
      split at h
      · rename_i m kk hE
        obtain ⟨e, hu, ha, hs⟩ := arrP_one hE
        exact ⟨_, _, _, _, _, out_idx_agg hc t y z ho xs hy k i hz m e hu ha hs h.1 h.2.1 _ (by rw [List.getElem?_eq_getElem h.2.2.1]; rfl), h.2.2.2⟩
      · exact h.elim
    · exact h.elim
  · rename_i y i ho
    split at h
    · rename_i xs hy
      split at h
      · rename_i x hx; exact ⟨_, _, _, _, _, out_extract hc y i ho xs hy x hx, h⟩
      · exact h.elim
    · exact h.elim
  · rename_i f first caps ho
    have : first = #[] := Array.size_eq_zero_iff.1 h.1
    subst this
    exact ⟨_, _, _, _, _, out_makeFunc hc f caps ho, h.2⟩
  · rename_i t y l hh m ho
    split at h
    · rename_i nl fl xs hy
      split at h
      · rename_i e es by_ hE
        obtain ⟨h0, h⟩ := h
        obtain ⟨lo, hlo, h⟩ := bnd_spec h
        obtain ⟨hi, hhi, hm, h1, h2, h⟩ := bnd_spec h
        exact ⟨_, _, _, _, _, out_slice_l hc t y l hh m ho nl fl xs hy e es by_ hE h0.1 lo hi hlo hhi hm h1 h2, h⟩
      · exact h.elim
    · rename_i b hy
      obtain ⟨h0, rfl, h⟩ := h
      obtain ⟨lo, hlo, h⟩ := bnd_spec h
      obtain ⟨hi, hhi, h1, h2, h⟩ := bnd_spec h
      exact ⟨_, _, _, _, _, out_slice_s hc t y l hh ho b hy (isSt_spec h0) lo hi hlo hhi h1 h2, h⟩
    · rename_i id off es len full hy
      split at h
      · rename_i e es' by_ hE
        obtain ⟨hid, obj, cs, hob, hcs, h0, rfl, h⟩ := withCs_spec h
        obtain ⟨lo, hlo, h⟩ := bnd_spec h
        obtain ⟨hi, hhi, hm, h1, h2, h⟩ := bnd_spec h
        exact ⟨_, _, _, _, _, out_slice_p hc t y l hh m ho id off _ len full hy hid obj hob (not_grow_nil hcs h0) e by_ hE lo hi hlo hhi hm h1 h2, h⟩
      · exact h.elim
    · exact h.elim
  · rename_i t n parts ho
    split at h
    · rename_i e es by_ hE
      obtain ⟨h1, h2, h3, h4, h5, h⟩ := h
      split at h
      · exact ⟨_, _, _, _, _, out_buildSlice_p hc t n parts ho e es by_ hE h1 h2 h3.1 h3.2 h4 h5, h⟩
      · exact ⟨_, _, _, _, _, out_buildSlice_l hc t n parts ho e es by_ hE h1 h2 h3.1 h3.2 h4 h5, h⟩
    · exact h.elim
  · rename_i t y z ho
    split at h
    · rename_i e es by_ hE
      split at h
      · rename_i k m k' m' x hy hz hx
        obtain ⟨rfl, h0, h1, h2, h⟩ := h
        split at h
        · exact ⟨_, _, _, _, _, out_makeSlice_p hc t y z ho e es by_ hE k k' _ hy hz h0 h1 h2 x hx, h⟩
        · exact ⟨_, _, _, _, _, out_makeSlice_l hc t y z ho e es by_ hE k k' _ hy hz h0 h1 h2 x hx, h⟩
      · exact h.elim
    · exact h.elim
  · rename_i t parts ho
    obtain ⟨h0, h⟩ := h
    split at h
    · rename_i cs hb; exact ⟨_, _, _, _, _, out_build hc t parts ho h0 cs hb, h⟩
    · exact h.elim
  · rename_i src dst y ho
    split at h
    · rename_i k n hy
      obtain ⟨h0, h⟩ := h
      split at h
      · rename_i k' hk; exact ⟨_, _, _, _, _, out_conv_int hc src dst y ho k k' n hy h0 (intTy_spec hk), h⟩
      · exact h.elim
    · rename_i b hy
      obtain ⟨h0, h1, h2, h⟩ := h
      obtain ⟨e, he, he2⟩ := isBy_spec h1
      split at h2
      · rename_i e' es by_ hE
        subst h2
        obtain ⟨i, hu, _⟩ := slcElem_spec hE
        rw [he] at hu
        simp only [Option.some.injEq, Go.TypeDesc.slice.injEq] at hu
        subst hu
        split at h
        · exact ⟨_, _, _, _, _, out_bytes_own hc src dst e by_ y ho (isSt_spec h0) hE he2 b hy, h⟩
        · exact ⟨_, _, _, _, _, out_bytes_of hc src dst e by_ y ho (isSt_spec h0) hE he2 b hy, h⟩
      · exact h2.elim
    · rename_i id off es len full hy
      rcases h with ⟨rfl, rfl, h1, h⟩ | ⟨h0, h1, h⟩
      · obtain ⟨e, he, he2⟩ := isBy_spec h1
        obtain ⟨hid, obj, cs, hob, hcs, hne, h⟩ := withCs_spec h
        exact ⟨_, _, _, _, _, out_conv_own hc src e y ho he he2 id off len full hy hid obj hob (not_grow_nil hcs hne) cs hcs, h⟩
      · obtain ⟨e, he, he2⟩ := isBy_spec h0
        obtain ⟨ys, T, k1, k2, ⟨k3, k4⟩, k5⟩ := aSrc_spec h
        exact ⟨_, _, _, _, _, out_str_u8 hc src dst e y ho he he2 (isSt_spec h1) ys T (by rw [hy]; exact k1) (fun b hb => by rw [hy] at hb; cases hb) k3 k2, k4⟩
    · rename_i hn1 hn2 hn3
      obtain ⟨h0, h1, h⟩ := h
      obtain ⟨e, he, he2⟩ := isBy_spec h0
      obtain ⟨ys, T, k1, k2, ⟨k3, k4⟩, k5⟩ := aSrc_spec h
      exact ⟨_, _, _, _, _, out_str_u8 hc src dst e y ho he he2 (isSt_spec h1) ys T k1 (fun b hb => hn2 b hb) k3 k2, k4⟩
  · rename_i t y f ho
    split at h
    · rename_i cs hy
      split at h
      · rename_i x hx; exact ⟨_, _, _, _, _, out_field hc t y f ho cs hy x hx, h⟩
      · exact h.elim
    · exact h.elim
  · rename_i t ho; exact ⟨_, _, _, _, _, out_makeMap t ho, h⟩
  · rename_i t y z ok ho
    split at h
    · rename_i id hy
      obtain ⟨hid, h⟩ := h
      split at h
      · rename_i es kd zv hob ht
        refine ⟨_, _, _, _, _, out_lookup hc t y z ok ho id hy hid es hob kd zv ht h.1 h.2.1, ?_⟩
        have h := h.2.2
        cases ok
        · simpa [lookAV] using h
        · simpa [lookAV] using h
      · exact h.elim
    · exact h.elim
  · rename_i t y z v ho
    split at h
    · rename_i id hy
      obtain ⟨hid, h⟩ := h
      split at h
      · rename_i es kd zv hob ht
        exact ⟨_, _, _, _, _, out_mapUpdate hc t y z v (.inl ho) id hy hid es hob kd zv ht h.1 h.2.1, h.2.2⟩
      · exact h.elim
    · exact h.elim
  · rename_i t y z v ho
    split at h
    · rename_i id hy
      obtain ⟨hid, h⟩ := h
      split at h
      · rename_i es kd zv hob ht
        exact ⟨_, _, _, _, _, out_mapUpdate hc t y z v (.inr ho) id hy hid es hob kd zv ht h.1 h.2.1, h.2.2⟩
      · exact h.elim
    · exact h.elim
  · rename_i c ho
    split at h
    · rename_i b hb
      exact builtin_sound hc _ b c.args c.argTypes (by rw [ho]; cases c; simp_all) h
    · rename_i g hg
      split at h
      · rename_i f caps hf
        obtain ⟨x, H', N', T, W, h1, h2⟩ := h
        exact ⟨x, H', N', T, W, h1 o s g c.args c.argTypes caps hc (by rw [ho]; cases c; simp_all) hf rfl, h2⟩
      · exact h.elim
    · exact h.elim
  · exact h.elim

/-! ### the same, in a form that simp works out step by step: no function under which simp would look ahead -/
def oCs (o : Option AObj) : Option (AObj × List AV) := o.bind fun o => o.cs?.map fun cs => (o, cs)
@[simp] theorem oCs_cells (cs : List AV) : oCs (some (.cells cs)) = some (.cells cs, cs) := rfl
@[simp] theorem oCs_grow (cs : List AV) : oCs (some (.grow cs)) = some (.grow cs, cs) := rfl
theorem withCs_of {H : Heap} {N id : Nat} {o : AObj} {cs : List AV} (h : oCs (H id) = some (o, cs)) {k : AObj → List AV → Prop} (hN : id < N) (hk : k o cs) : withCs H N id k := by
  unfold oCs at h
  cases hh : H id with
  | none => simp [hh] at h
  | some o' =>
    simp only [hh, Option.bind_some, Option.map_eq_some_iff, Prod.mk.injEq] at h
    obtain ⟨cs', h1, rfl, rfl⟩ := h
    refine ⟨hN, ?_⟩
    simp only [hh, h1]; exact hk

def bPick (K : CK) (H : Heap) (N : Nat) (x y : AV) : AV → Prop
  | .bool b => K (pickV b x y) H N [] []
  | _ => False
def bOpt (K : CK) (H : Heap) (N : Nat) (T : List Nat) : Option AV → Prop
  | some r => K r H N T []
  | none => False
def bLoadP (P : Program) (t : TypeId) (K : CK) (H : Heap) (N id off : Nat) : Option (AObj × List AV) → Prop
  | some (_, cs) => id < N ∧ bOpt K H N [id] (loadCs P t (cs.drop off))
  | none => False
def bLoad (P : Program) (t : TypeId) (K : CK) (H : Heap) (N : Nat) : AV → Prop
  | .cptr cs => bOpt K H N [] (loadCs P t cs)
  | .ptr id off => bLoadP P t K H N id off (oCs (H id))
  | _ => False
def bStoreP (P : Program) (t : TypeId) (z : AV) (K : CK) (H : Heap) (N id off : Nat) : Option (AObj × List AV) → Prop
  | some (obj, cs) => id < N ∧ cs ≠ [] ∧ z.fits P t = true ∧ off + z.cells.length ≤ cs.length ∧ K .skip (upd H id (some (obj.with (setR cs off z.cells)))) N [id] [id]
  | none => False
def bStore (P : Program) (t : TypeId) (z : AV) (K : CK) (H : Heap) (N : Nat) : AV → Prop
  | .ptr id off => bStoreP P t z K H N id off (oCs (H id))
  | _ => False
def bAlloc (K : CK) (H : Heap) (N : Nat) : Option (List AV) → Prop
  | some z => K (.ptr N 0) (upd H N (some (.cells z))) (N + 1) [] [N]
  | none => False
def bKeepP (x : AV) (K : CK) (H : Heap) (N id : Nat) : Option (AObj × List AV) → Prop
  | some (_, cs) => id < N ∧ cs ≠ [] ∧ K x H N [id] []
  | none => False
def bField (K : CK) (H : Heap) (N : Nat) : Option Nat → AV → Prop
  | some d, .cptr cs => K (.cptr (cs.drop d)) H N [] []
  | some d, .ptr id off => bKeepP (.ptr id (off + d)) K H N id (oCs (H id))
  | _, _ => False
def bNil (K : CK) (H : Heap) (N : Nat) : AV → Prop
  | .cptr cs => K (.cptr cs) H N [] []
  | .fn f cs => K (.fn f cs) H N [] []
  | .ptr id off => bKeepP (.ptr id off) K H N id (oCs (H id))
  | _ => False
def bIdx (P : Program) (t : TypeId) (K : CK) (H : Heap) (N : Nat) : AV → AV → Option (TypeId × Nat × Nat) → Option (Nat × Nat) → Prop
  | .lst _ _ xs, .int _ i, some (_, es, _), _ => 0 ≤ i ∧ i.toNat < xs.length ∧ ((xs[i.toNat]?).getD .undef).okc = true ∧ ((xs[i.toNat]?).getD .undef).cells.length = es ∧ K (.cptr ((xs[i.toNat]?).getD .undef).cells) H N [] []
  | .slc id off es len _, .int _ i, some (_, es', _), _ => es' = es ∧ 0 ≤ i ∧ i.toNat < len ∧ bKeepP (.ptr id (off + i.toNat * es)) K H N id (oCs (H id))
  | .cptr cs, .int _ i, _, some (m, es) => 0 ≤ i ∧ i < m ∧ K (.cptr (cs.drop (i.toNat * es))) H N [] []
  | .ptr id off, .int _ i, _, some (m, es) => 0 ≤ i ∧ i < m ∧ bKeepP (.ptr id (off + i.toNat * es)) K H N id (oCs (H id))
  | _, _, _, _ => False
def bIndex (P : Program) (t : TypeId) (K : CK) (H : Heap) (N : Nat) : AV → AV → Option (Nat × SKind) → Prop
  | .str b, .int _ i, _ => isSt P t = true ∧ 0 ≤ i ∧ i.toNat < b.size ∧ K (.int .u8 (b.data.toList.getD i.toNat 0).toNat) H N [] []
  | .agg xs, .int _ i, some (m, _) => 0 ≤ i ∧ i < m ∧ i.toNat < xs.length ∧ K ((xs[i.toNat]?).getD .undef) H N [] []
  | _, _, _ => False
def bExtract (i : Nat) (K : CK) (H : Heap) (N : Nat) : AV → Prop
  | .tup xs => bOpt K H N [] xs[i]?
  | _ => False
def bndP (s : Nat → AV) : Option Operand → Prop
  | none => True
  | some y => match ev s y with
    | .int _ n => 0 ≤ n
    | _ => False
def bndV (s : Nat → AV) (d : Nat) : Option Operand → Nat
  | none => d
  | some y => match ev s y with
    | .int _ n => n.toNat
    | _ => 0
theorem bnd_of {s : Nat → AV} {d : Nat} {x : Option Operand} {k : Nat → Prop} (h : bndP s x) (hk : k (bndV s d x)) : bnd s d x k := by
  unfold bndP at h; unfold bndV at hk; unfold bnd
  cases x with
  | none => exact hk
  | some y =>
    simp only [] at h hk ⊢
    split at h
    · rename_i hy; simp only [hy] at hk ⊢; exact ⟨h, hk⟩
    · exact h.elim
def bSlcP (s : Nat → AV) (l h m : Option Operand) (K : CK) (H : Heap) (N id off es len : Nat) (full : Bool) : Option (AObj × List AV) → Prop
  | some (_, cs) => id < N ∧ cs ≠ [] ∧ bndP s l ∧ bndP s h ∧ (m = none ∨ (h.isSome = true ∧ boundOf s 0 m = some (bndV s len h))) ∧ bndV s 0 l ≤ bndV s len h ∧ bndV s len h ≤ len ∧
      K (.slc id (off + bndV s 0 l * es) es (bndV s len h - bndV s 0 l) (m.isSome || (full && h.isNone))) H N [id] []
  | none => False
def bSlice (P : Program) (t : TypeId) (s : Nat → AV) (l h m : Option Operand) (K : CK) (H : Heap) (N : Nat) : AV → Option (TypeId × Nat × Nat) → Prop
  | .lst nl fl xs, some (_, es, _) => okEls es xs ∧ bndP s l ∧ bndP s h ∧ (m = none ∨ (h.isSome = true ∧ boundOf s 0 m = some (bndV s xs.length h))) ∧ bndV s 0 l ≤ bndV s xs.length h ∧ bndV s xs.length h ≤ xs.length ∧
      K (.lst nl (m.isSome || (fl && h.isNone)) ((xs.take (bndV s xs.length h)).drop (bndV s 0 l))) H N [] []
  | .str b, _ => isSt P t = true ∧ m = none ∧ bndP s l ∧ bndP s h ∧ bndV s 0 l ≤ bndV s b.size h ∧ bndV s b.size h ≤ b.size ∧ K (.str (b.extract (bndV s 0 l) (bndV s b.size h))) H N [] []
  | .slc id off es len full, some (_, es', _) => es' = es ∧ bSlcP s l h m K H N id off es len full (oCs (H id))
  | _, _ => False
def bMake (K : CK) (H : Heap) (N : Nat) (x : AV) (y : List AV) (o : AObj) : Bool → Prop
  | true => K x (upd H N (some o)) (N + 1) [] [N]
  | false => K (.lst false true y) H N [] []
def bLit (s : Nat → AV) (n : Nat) (parts : List (Nat × Operand)) (mu : Bool) (K : CK) (H : Heap) (N : Nat) : Option (TypeId × Nat × Nat) → Prop
  | some (_, es, _) => consec 0 parts = true ∧ parts.length = n ∧ okEls es (parts.map fun p => ev s p.2) ∧ n * es ≤ 16777216 ∧ 0 < es ∧
      bMake K H N (.slc N 0 es n true) (parts.map fun p => ev s p.2) (.cells (flatA (parts.map fun p => ev s p.2))) mu
  | none => False
def bMakeS (P : Program) (mu : Bool) (K : CK) (H : Heap) (N : Nat) : AV → AV → Option (TypeId × Nat × Nat) → Prop
  | .int _ m, .int _ m', some (e, es, by_) => m' = m ∧ 0 ≤ m ∧ by_ * m.toNat ≤ 281474976710656 ∧ m.toNat ≤ maxLen ∧ (zeroEl P e).isSome = true ∧
      bMake K H N (.slc N 0 es m.toNat true) (List.replicate m.toNat ((zeroEl P e).getD .undef)) (.cells (flatA (List.replicate m.toNat ((zeroEl P e).getD .undef)))) mu
  | _, _, _ => False
def bBuild (K : CK) (H : Heap) (N : Nat) : Option (List AV) → Prop
  | some cs => K (.agg cs) H N [] []
  | none => False
def bConvI (n : Int) (K : CK) (H : Heap) (N : Nat) : Option IntKind → Prop
  | some k' => K (.int k' (k'.wrap n)) H N [] []
  | none => False
def bEs1 : Option (TypeId × Nat × Nat) → Prop
  | some (_, es, _) => es = 1
  | none => False
def srcQ (n : Nat) : Option (AObj × List AV) → Prop
  | some (_, cs) => n ≤ cs.length
  | none => False
theorem srcQ_spec {n : Nat} {x : Option (AObj × List AV)} (h : srcQ n x) : ∃ o cs, x = some (o, cs) ∧ n ≤ cs.length := by
  unfold srcQ at h; split at h
  · exact ⟨_, _, rfl, h⟩
  · exact h.elim
def srcP (H : Heap) (N : Nat) : AV → Prop
  | .lst _ _ _ | .str _ => True
  | .slc id off es len _ => es = 1 ∧ id < N ∧ srcQ (off + len) (oCs (H id))
  | _ => False
def srcT : AV → List Nat
  | .slc id _ _ _ _ => [id]
  | _ => []
def srcE (H : Heap) : AV → List AV
  | .lst _ _ ys => ys
  | .str b => bytes b.data.toList
  | .slc id off _ len _ => (((oCs (H id)).map (·.2)).getD []).drop off |>.take len
  | _ => []
theorem aSrc_of {H : Heap} {N : Nat} {X : AV} {k : List AV → List Nat → Prop} (h : srcP H N X) (hk : k (srcE H X) (srcT X)) : aSrc H N X k := by
  unfold srcP at h
  split at h
  · exact hk
  · exact hk
  · rename_i id off es len f
    obtain ⟨rfl, h1, hq⟩ := h
    obtain ⟨o, cs, h2, h3⟩ := srcQ_spec hq
    simp only [srcE, h2, Option.map_some, Option.getD_some, srcT] at hk
    unfold oCs at h2
    cases hh : H id with
    | none => simp [hh] at h2
    | some o' =>
      simp only [hh, Option.bind_some, Option.map_eq_some_iff, Prod.mk.injEq] at h2
      obtain ⟨cs', q1, rfl, rfl⟩ := h2
      simp only [aSrc, hh, q1]
      exact ⟨trivial, h1, h3, hk⟩
  · exact h.elim
def bConvS (K : CK) (H : Heap) (N : Nat) (b : ByteArray) : Bool → Prop
  | true => K (.slc N 0 1 b.size false) (upd H N (some (.cells (bytes b.data.toList)))) (N + 1) [] [N]
  | false => K (.lst false false (bytes b.data.toList)) H N [] []
def bConvO (P : Program) (src : TypeId) (K : CK) (H : Heap) (N id off es len : Nat) (full : Bool) : Option (AObj × List AV) → Prop
  | some (obj, cs) => id < N ∧ cs ≠ [] ∧ es = 1 ∧ isBy P src = true ∧ K (.slc id off es len full) (upd H id (some obj)) N [id] [id]
  | none => False
def bConvP (P : Program) (src dst : TypeId) (K : CK) (H : Heap) (N id off es len : Nat) (full : Bool) : Bool → Prop
  | true => src = dst ∧ bConvO P src K H N id off es len full (oCs (H id))
  | false => isBy P src = true ∧ isSt P dst = true ∧ srcP H N (.slc id off es len full) ∧ allU8 (srcE H (.slc id off es len full)) = true ∧ K (.str (sOf (srcE H (.slc id off es len full)))) H N (srcT (.slc id off es len full)) []
def bConv (P : Program) (mu : Bool) (src dst : TypeId) (K : CK) (H : Heap) (N : Nat) : AV → Prop
  | .int _ n => (P.underlying src).isSome = true ∧ bConvI n K H N (intTy P dst)
  | .str b => isSt P src = true ∧ isBy P dst = true ∧ bEs1 (slcElem P dst) ∧ bConvS K H N b mu
  | .slc id off es len full => bConvP P src dst K H N id off es len full (decide (src = dst))
  | X => isBy P src = true ∧ isSt P dst = true ∧ srcP H N X ∧ allU8 (srcE H X) = true ∧ K (.str (sOf (srcE H X))) H N (srcT X) []
def bApp (K : CK) (H : Heap) (N : Nat) (nl : Bool) (ys : List AV) (z : AV) : Option (TypeId × Nat × Nat) → Prop
  | some (_, es, by_) => okEls es ys ∧ srcP H N z ∧ okEls es (srcE H z) ∧ (srcT z ≠ [] → (srcE H z).all AV.one = true) ∧ ys.length + (srcE H z).length ≤ maxLen ∧ (ys.length + (srcE H z).length) * by_ ≤ 140737488355328 ∧
      K (.lst (nl && (srcE H z).isEmpty) false (ys ++ srcE H z)) H N (srcT z) []
  | none => False
def bAppP (K : CK) (H : Heap) (N id off es len : Nat) (z : AV) : Option (TypeId × Nat × Nat) → Option (AObj × List AV) → Prop
  | some (_, es', by_), some (obj, cs) => id < N ∧ es' = es ∧ 0 < es ∧ off + len * es = cs.length ∧ (off = 0 ∨ ∃ x, obj = .cells x) ∧ cs.all AV.one = true ∧ srcP H N z ∧ okEls es (srcE H z) ∧ (srcT z ≠ [] → (srcE H z).all AV.one = true) ∧
      len + (srcE H z).length ≤ maxLen ∧ (len + (srcE H z).length) * by_ ≤ 140737488355328 ∧
      K (.slc N 0 es (len + (srcE H z).length) false) (upd (upd H id none) N (some (obj.with (cs.drop off ++ flatA (srcE H z))))) (N + 1) (id :: srcT z) [id, N]
  | _, _ => False
def bAppN (K : CK) (H : Heap) (N : Nat) (z : AV) : Option (TypeId × Nat × Nat) → Prop
  | some (_, es, by_) => 0 < es ∧ srcP H N z ∧ okEls es (srcE H z) ∧ (srcT z ≠ [] → (srcE H z).all AV.one = true) ∧ (srcE H z).length ≤ maxLen ∧ (srcE H z).length * by_ ≤ 140737488355328 ∧
      K (.slc N 0 es (srcE H z).length false) (upd H N (some (.grow (flatA (srcE H z))))) (N + 1) (srcT z) [N]
  | none => False
def bAppF (K : CK) (H : Heap) (N : Nat) (ys : List AV) (z : AV) : Option (TypeId × Nat × Nat) → Prop
  | some (_, es, by_) => 0 < es ∧ okEls es ys ∧ srcP H N z ∧ srcE H z ≠ [] ∧ okEls es (srcE H z) ∧ (srcT z ≠ [] → (srcE H z).all AV.one = true) ∧ ys.length + (srcE H z).length ≤ maxLen ∧ (ys.length + (srcE H z).length) * by_ ≤ 140737488355328 ∧
      K (.slc N 0 es (ys.length + (srcE H z).length) false) (upd H N (some (.grow (flatA (ys ++ srcE H z))))) (N + 1) (srcT z) [N]
  | none => False
def inMf (mu : List Nat) (d : Option Nat) : Bool := match d with | some d => mu.contains (d + 1000000) | none => false
def bAppM (K : CK) (H : Heap) (N : Nat) (nl fl : Bool) (ys : List AV) (z : AV) (e : Option (TypeId × Nat × Nat)) : Bool → Prop
  | true => fl = true ∧ nl = false ∧ bAppF K H N ys z e
  | false => (nl = true ∨ (fl = true ∧ ys = [])) ∧ bAppN K H N z e
def bAppL (mf : Bool) (K : CK) (H : Heap) (N : Nat) (nl fl : Bool) (ys : List AV) (z : AV) (e : Option (TypeId × Nat × Nat)) : Bool → Prop
  | true => bAppM K H N nl fl ys z e mf
  | false => (fl = true ∨ nl = true) ∧ bApp K H N nl ys z e
def oMp : Option AObj → Option (List (AV × AV))
  | some (.mp es) => some es
  | _ => none
@[simp] theorem oMp_mp (es : List (AV × AV)) : oMp (some (.mp es)) = some es := rfl
theorem oMp_spec {o : Option AObj} {es : List (AV × AV)} (h : oMp o = some es) : o = some (.mp es) := by
  unfold oMp at h; split at h
  · simp only [Option.some.injEq] at h; rw [h]
  · cases h
def bClr2 (K : CK) (H : Heap) (N id off es len : Nat) (obj : AObj) (cs : List AV) : Option AV → Prop
  | some x => cs ≠ [] ∧ off + len * es ≤ cs.length ∧ x.cells.length = es ∧ x.cells.all AV.one = true ∧ K (.tup []) (upd H id (some (obj.with (setR cs off (flatA (List.replicate len x)))))) N [id] [id]
  | none => False
def bClr (P : Program) (K : CK) (H : Heap) (N id off es len : Nat) : Option (TypeId × Nat × Nat) → Option (AObj × List AV) → Prop
  | some (e, es', _), some (obj, cs) => id < N ∧ es' = es ∧ bClr2 K H N id off es len obj cs (zeroEl P e)
  | _, _ => False
def bCpy (K : CK) (H : Heap) (N id off es len : Nat) (z : AV) : Option (TypeId × Nat × Nat) → Option (AObj × List AV) → Prop
  | some (_, es', _), some (obj, cs) => id < N ∧ es' = es ∧ cs ≠ [] ∧ off + len * es ≤ cs.length ∧ srcP H N z ∧ okEls es (srcE H z) ∧ (srcT z ≠ [] → (srcE H z).all AV.one = true) ∧ (srcE H z).length ≤ len ∧
      K (.int .i64 (srcE H z).length) (upd H id (some (obj.with (setR cs off (flatA (srcE H z)))))) N (id :: srcT z) [id]
  | _, _ => False
def bDel (K : CK) (H : Heap) (N id : Nat) (z : AV) : Option (List (AV × AV)) → Option (SKind × AV) → Prop
  | some es, some (kd, _) => id < N ∧ kd.has z = true ∧ (es.all fun p => kd.has p.1) = true ∧ K (.tup []) (upd H id (some (.mp (mpDel es z)))) N [id] [id]
  | _, _ => False
def bBuiltin (P : Program) (mu mf : Bool) (K : CK) (H : Heap) (N : Nat) : Builtin → List TypeId → List AV → Prop
  | .len, [t], [.lst _ _ ys] => isSl P t = true ∧ K (.int .i64 ys.length) H N [] []
  | .len, [t], [.str b] => isSt P t = true ∧ K (.int .i64 b.size) H N [] []
  | .len, [t], [.slc id _ _ len _] => isSl P t = true ∧ id < N ∧ (∃ o, H id = some o) ∧ K (.int .i64 len) H N [id] []
  | .max, _, [.int k a, .int k' b] => k = k' ∧ K (maxV k a b) H N [] []
  | .min, _, [.int k a, .int k' b] => k = k' ∧ K (minV k a b) H N [] []
  | .append, [t, t'], [.lst nl fl ys, z] => strSlc P t' = true ∧ bAppL mf K H N nl fl ys z (slcElem P t) mu
  | .append, [t, t'], [.slc id off es len _, z] => strSlc P t' = true ∧ bAppP K H N id off es len z (slcElem P t) (oCs (H id))
  | .clear, [t], [.slc id off es len _] => bClr P K H N id off es len (slcElem P t) (oCs (H id))
  | .copy, [t, _], [.slc id off es len _, z] => bCpy K H N id off es len (cutTo len z) (slcElem P t) (oCs (H id))
  | .delete, [t, _], [.map id, z] => bDel K H N id z (oMp (H id)) (mapTy P t)
  | _, _, _ => False
def bCall (P : Program) (args : List AV) (K : CK) (H : Heap) (N : Nat) : AV → Prop
  | .fn f caps => aCall P f (args ++ caps) H N K
  | _ => False
def bBin (op : BinOp) (x y : AV) (K : CK) (H : Heap) (N : Nat) : Option AV → Prop
  | some r => binOk op x y ∧ K r H N [] []
  | none => False

def bField2 (K : CK) (H : Heap) (N : Nat) (q : Option (Nat × Option Nat)) : AV → Prop
  | .agg cs => bOpt K H N [] (selAV cs q)
  | _ => False
def bLookM (K : CK) (H : Heap) (N id : Nat) (z : AV) (ok : Bool) : Option (List (AV × AV)) → Option (SKind × AV) → Prop
  | some es, some (kd, zv) => id < N ∧ kd.has z = true ∧ (es.all fun p => kd.has p.1) = true ∧ K (lookAV zv (mpGet es z) ok) H N [id] []
  | _, _ => False
def bLook (K : CK) (H : Heap) (N : Nat) (z : AV) (ok : Bool) (q : Option (SKind × AV)) : AV → Prop
  | .map id => bLookM K H N id z ok (oMp (H id)) q
  | _ => False
def bMapUpM (K : CK) (H : Heap) (N id : Nat) (z v : AV) : Option (List (AV × AV)) → Option (SKind × AV) → Prop
  | some es, some (kd, _) => id < N ∧ kd.has z = true ∧ (es.all fun p => kd.has p.1) = true ∧ K .skip (upd H id (some (.mp (mpPut es z v)))) N [id] [id]
  | _, _ => False
def bMapUp (K : CK) (H : Heap) (N : Nat) (z v : AV) (q : Option (SKind × AV)) : AV → Prop
  | .map id => bMapUpM K H N id z v (oMp (H id)) q
  | _ => False

def bop (P : Program) (mu : List Nat) (d : Option Nat) (s : Nat → AV) (H : Heap) (N : Nat) (K : CK) : Op → Prop
  | .move y => K (ev s y) H N [] []
  | .assign y => K (ev s y) H N [] []
  | .pick t x y => bPick K H N (ev s x) (ev s y) (ev s t)
  | .binOp op xt x y _ => bBin op (ev s x) (ev s y) K H N (abin P op xt (ev s x) (ev s y))
  | .unOp op _ x => bOpt K H N [] (aun op (ev s x))
  | .load t y => bLoad P t K H N (ev s y)
  | .store t y z => bStore P t (ev s z) K H N (ev s y)
  | .box t y => (ev s y).fits P t = true ∧ K (.ptr N 0) (upd H N (some (.cells (ev s y).cells))) (N + 1) [] [N]
  | .alloc t => bAlloc K H N (tyZero P t)
  | .fieldAddr t y f => bField K H N (fldOff P t f) (ev s y)
  | .nilCheck y => bNil K H N (ev s y)
  | .indexAddr t y z => bIdx P t K H N (ev s y) (ev s z) (slcElem P t) (arrElem P t)
  | .index t y z => bIndex P t K H N (ev s y) (ev s z) (arrP P t)
  | .extract y i => bExtract i K H N (ev s y)
  | .makeFunc (.func f) first caps => first.size = 0 ∧ K (.fn f (caps.toList.map (ev s))) H N [] []
  | .slice t y l h m => bSlice P t s l h m K H N (ev s y) (slcElem P t)
  | .buildSlice t n parts => bLit s n parts.toList (inMu mu d) K H N (slcElem P t)
  | .makeSlice t y z => bMakeS P (inMu mu d) K H N (ev s y) (ev s z) (slcElem P t)
  | .build t parts => fieldsOk P t = true ∧ bBuild K H N (abuild P t (parts.toList.map fun p => (p.1, ev s p.2)))
  | .convert src dst y => bConv P (inMu mu d) src dst K H N (ev s y)
  | .field t y f => bField2 K H N (fldSel P t f) (ev s y)
  | .makeMap _ none => K (.map N) (upd H N (some (.mp []))) (N + 1) [] [N]
  | .lookup t y z ok => bLook K H N (ev s z) ok (mapTy P t) (ev s y)
  | .mapUpdate t y z v => bMapUp K H N (ev s z) (ev s v) (mapTy P t) (ev s y)
  | .insert t y z v => bMapUp K H N (ev s z) (ev s v) (mapTy P t) (ev s y)
  | .call { callee := .builtin b, args := as, argTypes := ts } => bBuiltin P (inMu mu d) (inMf mu d) K H N b ts.toList (as.toList.map (ev s))
  | .call { callee := .value g, args := as, argTypes := _ } => bCall P (as.toList.map (ev s)) K H N (ev s g)
  | _ => False

theorem bop_imp (h : bop P mu o.dst s H N K o.op) : aop P mu o s H N K := by
  generalize ho : o.op = p at h
  unfold aop
  rw [ho]
  unfold bop at h
  split at h
  · exact h
  · exact h
  · unfold bPick at h; split at h
    · rename_i hh; simp only [hh]; exact h
    · exact h.elim
  · unfold bBin at h; split at h
    · rename_i hh; simp only [hh]; exact h
    · exact h.elim
  · unfold bOpt at h; split at h
    · rename_i hh; simp only [hh]; exact h
    · exact h.elim
  · unfold bLoad at h; split at h
    · rename_i hh; simp only [hh]
      unfold bOpt at h; split at h
      · rename_i h2; simp only [h2]; exact h
      · exact h.elim
    · rename_i hh; simp only [hh]
      unfold bLoadP at h; split at h
      · rename_i h2
        refine withCs_of h2 h.1 ?_
        have h3 := h.2
        unfold bOpt at h3; split at h3
        · rename_i h4; simp only [h4]; exact h3
        · exact h3.elim
      · exact h.elim
    · exact h.elim
  · unfold bStore at h; split at h
    · rename_i hh; simp only [hh]
      unfold bStoreP at h; split at h
      · rename_i h2; exact withCs_of h2 h.1 h.2
      · exact h.elim
    · exact h.elim
  · exact h
  · unfold bAlloc at h; split at h
    · rename_i hh; simp only [hh]; exact h
    · exact h.elim
  · unfold bField at h; split at h
    · rename_i h1 h2; simp only [h1, h2]; exact h
    · rename_i h1 h2; simp only [h1, h2]
      unfold bKeepP at h; split at h
      · rename_i h3; exact withCs_of h3 h.1 h.2
      · exact h.elim
    · exact h.elim
  · unfold bNil at h; split at h
    · rename_i h1; simp only [h1]; exact h
    · rename_i h1; simp only [h1]; exact h
    · rename_i h1; simp only [h1]
      unfold bKeepP at h; split at h
      · rename_i h3; exact withCs_of h3 h.1 h.2
      · exact h.elim
    · exact h.elim
  · simp only []
    unfold aIdx
    unfold bIdx at h; split at h
    · rename_i h1 h2 h3; simp only [h1, h2, h3]; exact h
    · rename_i h1 h2 h3; simp only [h1, h2, h3]
      obtain ⟨q1, q2, q3, h⟩ := h
      unfold bKeepP at h; split at h
      · rename_i h4; exact withCs_of h4 h.1 ⟨h.2.1, q1, q2, q3, h.2.2⟩
      · exact h.elim
    · rename_i h1 h2 h3; simp only [h1, h2, h3]; exact h
    · rename_i h1 h2 h3; simp only [h1, h2, h3]
      obtain ⟨q2, q3, h⟩ := h
      unfold bKeepP at h; split at h
      · rename_i h4; exact withCs_of h4 h.1 ⟨h.2.1, q2, q3, h.2.2⟩
      · exact h.elim
    · exact h.elim
  · unfold bIndex at h; split at h
    · rename_i h1 h2; simp only [h1, h2]; exact h
    · rename_i h1 h2 h3; simp only [h1, h2, h3]; exact h
    · exact h.elim
  · unfold bExtract at h; split at h
    · rename_i h1; simp only [h1]
      unfold bOpt at h; split at h
      · rename_i h2; simp only [h2]; exact h
      · exact h.elim
    · exact h.elim
  · exact h
  · unfold bSlice at h; split at h
    · rename_i h1 h2; simp only [h1, h2]
      obtain ⟨q1, q2, q3, q4, q5, q6, h⟩ := h
      exact ⟨q1, bnd_of q2 (bnd_of q3 ⟨q4, q5, q6, h⟩)⟩
    · rename_i h1; simp only [h1]
      obtain ⟨q0, q1, q2, q3, q5, q6, h⟩ := h
      exact ⟨q0, q1, bnd_of q2 (bnd_of q3 ⟨q5, q6, h⟩)⟩
    · rename_i h1 h2; simp only [h1, h2]
      obtain ⟨q1, h⟩ := h
      unfold bSlcP at h; split at h
      · rename_i h3
        obtain ⟨q2, q3, q4, q5, q6, q7, q8, h⟩ := h
        exact withCs_of h3 q2 ⟨q3, q1, bnd_of q4 (bnd_of q5 ⟨q6, q7, q8, h⟩)⟩
      · exact h.elim
    · exact h.elim
  · unfold bLit at h; split at h
    · rename_i h1; simp only [h1]
      obtain ⟨q1, q2, q3, q4, q5, h⟩ := h
      refine ⟨q1, by simpa using q2, q3, q4, q5, ?_⟩
      unfold bMake at h
      split at h
      · rename_i h2; simp only [h2, if_true]; exact h
      · rename_i h2; simp only [h2, Bool.false_eq_true, if_false]; exact h
    · exact h.elim
  · unfold bMakeS at h; split at h
    · rename_i h1 h2 h3; simp only [h1, h2, h3]
      obtain ⟨q1, q2, q3, q4, q5, h⟩ := h
      obtain ⟨x, hx⟩ := Option.isSome_iff_exists.1 q5
      simp only [hx, Option.getD_some] at h ⊢
      refine ⟨q1, q2, q3, q4, ?_⟩
      unfold bMake at h
      split at h
      · rename_i h2; simp only [h2, if_true]; exact h
      · rename_i h2; simp only [h2, Bool.false_eq_true, if_false]; exact h
    · exact h.elim
  · refine ⟨h.1, ?_⟩
    have h2 := h.2
    unfold bBuild at h2; split at h2
    · rename_i h3; simp only [h3]; exact h2
    · exact h2.elim
  · unfold bConv at h; split at h
    · rename_i h1; simp only [h1]
      refine ⟨h.1, ?_⟩
      have h2 := h.2
      unfold bConvI at h2; split at h2
      · rename_i h3; simp only [h3]; exact h2
      · exact h2.elim
    · rename_i h1; simp only [h1]
      obtain ⟨q1, q2, q3, h⟩ := h
      refine ⟨q1, q2, ?_, ?_⟩
      · unfold bEs1 at q3; split at q3
        · rename_i h3; simp only [h3]; exact q3
        · exact q3.elim
      · unfold bConvS at h; split at h
        · rename_i h3; simp only [h3, if_true]; exact h
        · rename_i h3; simp only [h3, Bool.false_eq_true, if_false]; exact h
    · rename_i h1; simp only [h1]
      unfold bConvP at h; split at h
      · left
        obtain ⟨q0, h⟩ := h
        unfold bConvO at h; split at h
        · rename_i h3
          obtain ⟨r1, r2, r3, r4, h⟩ := h
          exact ⟨q0, r3, r4, withCs_of h3 r1 ⟨r2, h⟩⟩
        · exact h.elim
      · right
        obtain ⟨r1, r2, r3, r4, h⟩ := h
        exact ⟨r1, r2, aSrc_of r3 ⟨r4, h⟩⟩
    · rename_i n1 n2 n3
      obtain ⟨q1, q2, q3, q4, h⟩ := h
      simp only []
      exact ⟨q1, q2, aSrc_of q3 ⟨q4, h⟩⟩
  · unfold bField2 at h; split at h
    · rename_i h1; simp only [h1]
      unfold bOpt at h; split at h
      · rename_i h2; simp only [h2]; exact h
      · exact h.elim
    · exact h.elim
  · exact h
  · unfold bLook at h; split at h
    · rename_i h1; simp only [h1]
      unfold bLookM at h; split at h
      · rename_i h2 h3
        simp only [oMp_spec h2, h3]; exact h
      · exact h.elim
    · exact h.elim
  · unfold bMapUp at h; split at h
    · rename_i h1; simp only [h1]
      unfold bMapUpM at h; split at h
      · rename_i h2 h3
        simp only [oMp_spec h2, h3]; exact h
      · exact h.elim
    · exact h.elim
  · unfold bMapUp at h; split at h
    · rename_i h1; simp only [h1]
      unfold bMapUpM at h; split at h
      · rename_i h2 h3
        simp only [oMp_spec h2, h3]; exact h
      · exact h.elim
    · exact h.elim
  · rename_i b as ts
    simp only []
    generalize ts.toList = tl at h ⊢
    generalize as.toList.map (ev s) = xs at h ⊢
    unfold bBuiltin at h
    unfold aBuiltin
    split at h
    · exact h
    · exact h
    · exact h
    · exact h
    · exact h
    · rename_i t t' nl fl ys z
      obtain ⟨q2, h⟩ := h
      simp only []
      refine ⟨q2, ?_⟩
      unfold bAppL at h; split at h
      · rename_i hmu
        rw [if_pos hmu]
        have h : (fl = true ∧ nl = false ∧ bAppF K H N ys z (slcElem P t)) ∨ ((nl = true ∨ (fl = true ∧ ys = [])) ∧ bAppN K H N z (slcElem P t)) := by
          unfold bAppM at h; split at h
          · exact .inl h
          · exact .inr h
        rcases h with ⟨hf, hn, h⟩ | h
        · left
          refine ⟨hf, hn, ?_⟩
          unfold bAppF at h; split at h
          · rename_i h3; simp only [h3]
            obtain ⟨r1, r2, r3, r4, r5, r6, r7, r8, h⟩ := h
            exact ⟨r1, r2, aSrc_of r3 ⟨r4, r5, r6, r7, r8, h⟩⟩
          · exact h.elim
        right
        refine ⟨h.1, ?_⟩
        have h := h.2
        unfold bAppN at h; split at h
        · rename_i h3; simp only [h3]
          obtain ⟨r1, r2, r3, r4, r5, r6, h⟩ := h
          exact ⟨r1, aSrc_of r2 ⟨r3, r4, r5, r6, h⟩⟩
        · exact h.elim
      · rename_i hmu
        rw [if_neg (by simp [hmu])]
        refine ⟨h.1, ?_⟩
        have h := h.2
        unfold bApp at h; split at h
        · rename_i h3; simp only [h3]
          obtain ⟨r1, r2, r3, r4, r5, r6, h⟩ := h
          exact ⟨r1, aSrc_of r2 ⟨r3, r4, r5, r6, h⟩⟩
        · exact h.elim
    · obtain ⟨q2, h⟩ := h
      simp only []
      unfold bAppP at h; split at h
      · rename_i h3 h4; simp only [h3]
        obtain ⟨r0, r1, r2, r3, r4, r5, r6, r7, r8, r9, r10, h⟩ := h
        have h5 := withCs_of (k := fun obj' cs' => obj' = _ ∧ cs' = _) h4 r0 ⟨rfl, rfl⟩
        obtain ⟨_, o', cs', e1, e2, rfl, rfl⟩ := withCs_spec h5
        simp only [e1, e2]
        exact ⟨r0, q2, r1, r2, r3, r4, r5, aSrc_of r6 ⟨r7, r8, r9, r10, h⟩⟩
      · exact h.elim
    · rename_i t id off es len full
      simp only []
      unfold bClr at h; split at h
      · rename_i h3 h4; simp only [h3]
        obtain ⟨r0, r1, h⟩ := h
        unfold bClr2 at h; split at h
        · rename_i x h5; simp only [h5]
          obtain ⟨q0, q1, q2, q3, h⟩ := h
          exact withCs_of h4 r0 ⟨q0, r1, q1, q2, q3, h⟩
        · exact h.elim
      · exact h.elim
    · rename_i t t' id off es len full z
      simp only []
      unfold bCpy at h; split at h
      · rename_i h3 h4; simp only [h3]
        obtain ⟨r0, r1, q0, q1, r6, r7, r8, r9, h⟩ := h
        exact withCs_of h4 r0 ⟨q0, r1, q1, aSrc_of r6 ⟨r7, r8, r9, h⟩⟩
      · exact h.elim
    · rename_i t t' id z
      simp only []
      unfold bDel at h; split at h
      · rename_i h3 h4
        obtain ⟨r0, r1, r2, h⟩ := h
        have h5 := oMp_spec h3
        simp only [h5, h4]
        exact ⟨r0, r1, r2, h⟩
      · exact h.elim
    · exact h.elim
  · unfold bCall at h; split at h
    · rename_i h1; simp only [h1]; exact h
    · exact h.elim
  · exact h.elim

theorem bop_sound (hc : constsOk o = true) (h : bop P mu o.dst s H N K o.op) : Gives P o s H N K := aop_sound hc (bop_imp h)

/-- The slots that the guards look at. -/
def gdOk (ops : List Oper) : List Oper → List (Option (Nat × Bool)) → Bool
  | [], [] => true
  | o :: os, g :: gs => (match o.guard, g with
      | none, none => true
      | some (j, w), some (d, w') => (ops[j]?).bind (·.dst) == some d && w == w'
      | _, _ => false) && gdOk ops os gs
  | _, _ => false

def aops (P : Program) (mu : List Nat) : List Oper → List (Option (Nat × Bool)) → (Nat → AV) → Heap → Nat → Log → ((Nat → AV) → Heap → Nat → Log → Prop) → Prop
  | [], _, s, H, N, lg, K => K s H N lg.reverse
  | _ :: _, [], _, _, _, _, _ => False
  | o :: os, none :: gs, s, H, N, lg, K => bop P mu o.dst s H N (fun x H' N' T W => aops P mu os gs (putS s o.dst x) H' N' ((T, W) :: lg) K) o.op
  | o :: os, some (d, want) :: gs, s, H, N, lg, K => match s d with
    | .bool b => (b = want → bop P mu o.dst (upd s d (.bool want)) H N (fun x H' N' T W => aops P mu os gs (putS (upd s d (.bool want)) o.dst x) H' N' ((T, W) :: lg) K) o.op) ∧
        (b = !want → aops P mu os gs (putS (upd s d (.bool !want)) o.dst .skip) H N (([], []) :: lg) K)
    | .skip => aops P mu os gs (putS s o.dst .skip) H N (([], []) :: lg) K
    | _ => False

/-- What follows an operation; and what a guard leads to: names of their own, so that simp does not look ahead. -/
def kont (P : Program) (mu : List Nat) (os : List Oper) (gs : List (Option (Nat × Bool))) (s : Nat → AV) (d : Option Nat) (lg : Log) (K : (Nat → AV) → Heap → Nat → Log → Prop) : CK :=
  fun x H' N' T W => aops P mu os gs (putS s d x) H' N' ((T, W) :: lg) K
@[simp] theorem aops_nil {P : Program} {mu : List Nat} {gs : List (Option (Nat × Bool))} {s : Nat → AV} {H : Heap} {N : Nat} {lg : Log} {K : (Nat → AV) → Heap → Nat → Log → Prop} : aops P mu [] gs s H N lg K = K s H N lg.reverse := by unfold aops; rfl
@[simp] theorem aops_none {P : Program} {mu : List Nat} {d : Option Nat} {op : Op} {ty : TypeId} {pos : String} {af : Array Edge} {g : Option (Nat × Bool)} {os : List Oper} {gs : List (Option (Nat × Bool))} {s : Nat → AV} {H : Heap} {N : Nat} {lg : Log} {K : (Nat → AV) → Heap → Nat → Log → Prop} :
    aops P mu (⟨d, op, ty, pos, af, g⟩ :: os) (none :: gs) s H N lg K = bop P mu d s H N (kont P mu os gs s d lg K) op := by
  conv => lhs; unfold aops
  rfl
theorem upd_id {α : Type} {s : Nat → α} {j : Nat} {v : α} (h : s j = v) : upd s j v = s := by
  funext t
  by_cases e : t = j
  · subst e; rw [upd_same, h]
  · rw [upd_ne _ _ e]
theorem aops_some {P : Program} {mu : List Nat} {d : Option Nat} {op : Op} {ty : TypeId} {pos : String} {af : Array Edge} {g : Option (Nat × Bool)} {os : List Oper} {j : Nat} {gs : List (Option (Nat × Bool))} {s : Nat → AV} {H : Heap} {N : Nat} {lg : Log} {K : (Nat → AV) → Heap → Nat → Log → Prop} {want : Bool} :
    aops P mu (⟨d, op, ty, pos, af, g⟩ :: os) (some (j, want) :: gs) s H N lg K = match s j with
      | .bool b => (b = want → bop P mu d (upd s j (.bool want)) H N (kont P mu os gs (upd s j (.bool want)) d lg K) op) ∧ (b = !want → aops P mu os gs (putS (upd s j (.bool !want)) d .skip) H N (([], []) :: lg) K)
      | .skip => aops P mu os gs (putS s d .skip) H N (([], []) :: lg) K
      | _ => False := by
  conv => lhs; unfold aops
  cases s j <;> rfl
@[simp] theorem aops_tt {P : Program} {mu : List Nat} {d : Option Nat} {op : Op} {ty : TypeId} {pos : String} {af : Array Edge} {g : Option (Nat × Bool)} {os : List Oper} {j : Nat} {gs : List (Option (Nat × Bool))} {s : Nat → AV} {H : Heap} {N : Nat} {lg : Log} {K : (Nat → AV) → Heap → Nat → Log → Prop} (h : s j = .bool true) : aops P mu (⟨d, op, ty, pos, af, g⟩ :: os) (some (j, true) :: gs) s H N lg K = bop P mu d s H N (kont P mu os gs s d lg K) op := by
  rw [aops_some, h]; simp [upd_id h]
@[simp] theorem aops_ff {P : Program} {mu : List Nat} {d : Option Nat} {op : Op} {ty : TypeId} {pos : String} {af : Array Edge} {g : Option (Nat × Bool)} {os : List Oper} {j : Nat} {gs : List (Option (Nat × Bool))} {s : Nat → AV} {H : Heap} {N : Nat} {lg : Log} {K : (Nat → AV) → Heap → Nat → Log → Prop} (h : s j = .bool false) : aops P mu (⟨d, op, ty, pos, af, g⟩ :: os) (some (j, false) :: gs) s H N lg K = bop P mu d s H N (kont P mu os gs s d lg K) op := by
  rw [aops_some, h]; simp [upd_id h]
@[simp] theorem aops_tf {P : Program} {mu : List Nat} {d : Option Nat} {op : Op} {ty : TypeId} {pos : String} {af : Array Edge} {g : Option (Nat × Bool)} {os : List Oper} {j : Nat} {gs : List (Option (Nat × Bool))} {s : Nat → AV} {H : Heap} {N : Nat} {lg : Log} {K : (Nat → AV) → Heap → Nat → Log → Prop} (h : s j = .bool true) : aops P mu (⟨d, op, ty, pos, af, g⟩ :: os) (some (j, false) :: gs) s H N lg K = aops P mu os gs (putS s d .skip) H N (([], []) :: lg) K := by
  rw [aops_some, h]; simp [upd_id h]
@[simp] theorem aops_ft {P : Program} {mu : List Nat} {d : Option Nat} {op : Op} {ty : TypeId} {pos : String} {af : Array Edge} {g : Option (Nat × Bool)} {os : List Oper} {j : Nat} {gs : List (Option (Nat × Bool))} {s : Nat → AV} {H : Heap} {N : Nat} {lg : Log} {K : (Nat → AV) → Heap → Nat → Log → Prop} (h : s j = .bool false) : aops P mu (⟨d, op, ty, pos, af, g⟩ :: os) (some (j, true) :: gs) s H N lg K = aops P mu os gs (putS s d .skip) H N (([], []) :: lg) K := by
  rw [aops_some, h]; simp [upd_id h]
@[simp] theorem aops_sk {P : Program} {mu : List Nat} {d : Option Nat} {op : Op} {ty : TypeId} {pos : String} {af : Array Edge} {g : Option (Nat × Bool)} {os : List Oper} {j : Nat} {gs : List (Option (Nat × Bool))} {s : Nat → AV} {H : Heap} {N : Nat} {lg : Log} {K : (Nat → AV) → Heap → Nat → Log → Prop} {want : Bool} (h : s j = .skip) : aops P mu (⟨d, op, ty, pos, af, g⟩ :: os) (some (j, want) :: gs) s H N lg K = aops P mu os gs (putS s d .skip) H N (([], []) :: lg) K := by
  rw [aops_some, h]
/-- A guard of which it is not known what it says. -/
theorem aops_split {P : Program} {mu : List Nat} {d : Option Nat} {op : Op} {ty : TypeId} {pos : String} {af : Array Edge} {g : Option (Nat × Bool)} {os : List Oper} {j : Nat} {gs : List (Option (Nat × Bool))} {s : Nat → AV} {H : Heap} {N : Nat} {lg : Log} {K : (Nat → AV) → Heap → Nat → Log → Prop} {want : Bool} (b : Bool) (h : s j = .bool b) (h1 : b = want → bop P mu d (upd s j (.bool want)) H N (kont P mu os gs (upd s j (.bool want)) d lg K) op)
    (h2 : b = !want → aops P mu os gs (putS (upd s j (.bool !want)) d .skip) H N (([], []) :: lg) K) : aops P mu (⟨d, op, ty, pos, af, g⟩ :: os) (some (j, want) :: gs) s H N lg K := by
  rw [aops_some, h]; exact ⟨h1, h2⟩
@[simp] theorem kont_at {P : Program} {mu : List Nat} {os : List Oper} {gs : List (Option (Nat × Bool))} {s : Nat → AV} {d : Option Nat} {lg : Log} {K : (Nat → AV) → Heap → Nat → Log → Prop} {x : AV} {H : Heap} {N : Nat} {T W : List Nat} :
    kont P mu os gs s d lg K x H N T W = aops P mu os gs (putS s d x) H N ((T, W) :: lg) K := rfl
@[congr] theorem kont_congr {P : Program} {mu : List Nat} {os : List Oper} {gs : List (Option (Nat × Bool))} {s : Nat → AV} {d : Option Nat} {lg : Log} {K : (Nat → AV) → Heap → Nat → Log → Prop} : kont P mu os gs s d lg K = kont P mu os gs s d lg K := rfl
@[congr] theorem aops_congr {P : Program} {mu : List Nat} {os : List Oper} {gs : List (Option (Nat × Bool))} {s : Nat → AV} {H : Heap} {N : Nat} {lg : Log} {K : (Nat → AV) → Heap → Nat → Log → Prop} : aops P mu os gs s H N lg K = aops P mu os gs s H N lg K := rfl
@[congr] theorem bop_congr {P : Program} {mu : List Nat} {d : Option Nat} {op : Op} {s : Nat → AV} {H : Heap} {N : Nat} {K : CK} : bop P mu d s H N K op = bop P mu d s H N K op := rfl
@[congr] theorem aCall_congr {P : Program} {f : FuncId} {args args' : List AV} {H : Heap} {N : Nat} {K : CK} (h : args = args') : aCall P f args H N K = aCall P f args' H N K := by rw [h]
attribute [simp] bCpy cutTo bClr bClr2 bDel bop bPick bOpt bLoadP bLoad bStoreP bStore bAlloc bKeepP bField bNil bIdx bIndex bExtract bndP bndV bSlcP bSlice bMake bLit bMakeS bBuild bConvI bEs1 srcQ srcP srcT srcE bConv bApp bAppN bAppL bAppP bBuiltin bCall bBin bConvS bConvO bConvP bAppF bAppM bField2 bLookM bLook bMapUpM bMapUp lookAV selAV

theorem ne_bool {a b : Bool} (h : ¬ a = b) : a = !b := by cases a <;> cases b <;> simp_all

theorem aops_sound {ops : List Oper} {K : (Nat → AV) → Heap → Nat → Log → Prop} : ∀ (l : List Oper) (gs : List (Option (Nat × Bool))) (s : Nat → AV) (H : Heap) (N : Nat) (lg : Log), (∀ o ∈ l, constsOk o = true) → gdOk ops l gs = true →
    aops P mu l gs s H N lg K → ∃ st s' H' N', Tr P ops.toArray l s H N st s' H' N' ∧ K s' H' N' (lg.reverse ++ st.map fun t => (t.T, t.W))
  | [], gs, s, H, N, lg, _, _, h => ⟨[], s, H, N, ⟨rfl, rfl, rfl, rfl⟩, by simpa [aops] using h⟩
  | o :: os, [], s, H, N, lg, _, hg, _ => by simp [gdOk] at hg
  | o :: os, none :: gs, s, H, N, lg, hc, hg, h => by
    simp only [gdOk, Bool.and_eq_true] at hg
    have hgd : o.guard = none := by
      cases hh : o.guard with
      | none => rfl
      | some p => simp [hh] at hg
    unfold aops at h
    obtain ⟨x, H', N', T, W, h1, h2⟩ := bop_sound (hc o (by simp)) h
    obtain ⟨st, s'', H'', N'', k1, k2⟩ := aops_sound os gs _ _ _ _ (fun o ho => hc o (by simp [ho])) hg.2 h2
    exact ⟨⟨true, x, H', T, W, N'⟩ :: st, s'', H'', N'', ⟨_, _, rfl, by simp [guardSays, hgd], fun _ => ⟨h1.op, h1.rest⟩, fun h => (by cases h), h1.n, h1.tn, h1.wn, k1⟩, by simpa using k2⟩
  | o :: os, some (d, want) :: gs, s, H, N, lg, hc, hg, h => by
    simp only [gdOk, Bool.and_eq_true] at hg
    obtain ⟨j, hgd, hd⟩ : ∃ j, o.guard = some (j, want) ∧ (ops[j]?).bind (·.dst) = some d := by
      cases hh : o.guard with
      | none => simp [hh] at hg
      | some p =>
        obtain ⟨j, w⟩ := p
        simp only [hh, Bool.and_eq_true, beq_iff_eq] at hg
        exact ⟨j, by rw [hg.1.2], hg.1.1⟩
    have hd' : (ops.toArray[j]?).bind (·.dst) = some d := by simpa using hd
    have skipped : guardSays ops.toArray o s false → aops P mu os gs (putS s o.dst .skip) H N (([], []) :: lg) K → ∃ st s' H' N', Tr P ops.toArray (o :: os) s H N st s' H' N' ∧ K s' H' N' (lg.reverse ++ st.map fun t => (t.T, t.W)) := by
      intro hs h
      obtain ⟨st, s'', H'', N'', k1, k2⟩ := aops_sound os gs _ _ _ _ (fun o ho => hc o (by simp [ho])) hg.2 h
      exact ⟨⟨false, .skip, H, [], [], N⟩ :: st, s'', H'', N'', ⟨_, _, rfl, hs, fun h => (by cases h), fun _ => ⟨rfl, rfl, rfl, rfl⟩, Nat.le_refl _, by simp, by simp, k1⟩, by simpa using k2⟩
    unfold aops at h
    split at h
    · rename_i b hb
      have same : ∀ v, b = v → upd s d (.bool v) = s := by
        intro v hv
        funext t
        by_cases e : t = d
        · subst e; rw [upd_same, hb, hv]
        · rw [upd_ne _ _ e]
      by_cases hbw : b = want
      · have h' := h.1 hbw
        rw [same want hbw] at h'
        obtain ⟨x, H', N', T, W, h1, h2⟩ := bop_sound (hc o (by simp)) h'
        obtain ⟨st, s'', H'', N'', k1, k2⟩ := aops_sound os gs _ _ _ _ (fun o ho => hc o (by simp [ho])) hg.2 h2
        exact ⟨⟨true, x, H', T, W, N'⟩ :: st, s'', H'', N'', ⟨_, _, rfl, by simp only [guardSays, hgd]; exact ⟨d, hd', .inl ⟨b, hb, by simp [hbw]⟩⟩, fun _ => ⟨h1.op, h1.rest⟩, fun h => (by cases h), h1.n, h1.tn, h1.wn, k1⟩, by simpa using k2⟩
      · have hbw' : b = !want := ne_bool hbw
        have h' := h.2 hbw'
        rw [same _ hbw'] at h'
        refine skipped ?_ h'
        simp only [guardSays, hgd]
        exact ⟨d, hd', .inl ⟨b, hb, by simp [hbw]⟩⟩
    · rename_i hb
      refine skipped ?_ h
      simp only [guardSays, hgd]
      exact ⟨d, hd', .inr (by simp [hb])⟩
    · exact h.elim

def regOk (n : Nat) (ops : List Oper) (gs : List (Option (Nat × Bool))) : Bool :=
  slotsIn n ops && edgesBack ops && slotOrder ops && ops.all constsOk && gdOk ops ops gs

theorem St.draw {n : Nat} {c0 : Cx} {w0 : World} {a : Act} {w w' : World} (h : St n c0 w0 s H N a w) (e : w'.heap = w.heap) (h1 : w'.os = w.os) (h2 : w'.tape = w.tape) (h3 : w'.output = w.output) : St n c0 w0 s H N a w' := by
  obtain ⟨c, hr, hd, g, hu⟩ := h
  exact ⟨c, ⟨hr.hr.world e, hr.size, hr.slot⟩, hd, g.trans (Grow.world e h1 h2 h3), hu⟩

theorem AW.region {n : Nat} {c0 : Cx} {w0 : World} {Q : Post} {id : Nat} {ops : List Oper} {draw : Bool} (hm : P.follows .mixedOrders = true) (mu : List Nat) (gs : List (Option (Nat × Bool))) (hok : regOk n ops gs = true)
    (h : ∀ (G : Log → Prop) (K : (Nat → AV) → Heap → Nat → Prop), (∀ lg, (!draw || idOrder ops lg) = true → G lg) → (∀ s' H' N', Q .normal s' H' N' → K s' H' N') → aops P mu ops gs s H N [] (fun s' H' N' lg => G lg ∧ K s' H' N')) :
    AW P n c0 w0 (.region id ops.toArray draw) Q s H N := by
  simp only [regOk, Bool.and_eq_true] at hok
  obtain ⟨⟨⟨⟨h1, h2⟩, h3⟩, h4⟩, h5⟩ := hok
  obtain ⟨st, s', H', N', htr, hio, hq⟩ := aops_sound ops gs s H N [] (fun o ho => List.all_eq_true.1 h4 o ho) h5 (h (fun lg => (!draw || idOrder ops lg) = true) (fun s' H' N' => Q .normal s' H' N') (fun _ h => h) (fun _ _ _ h => h))
  simp only [List.reverse_nil, List.nil_append] at hio
  intro a w hst
  cases draw with
  | false =>
    obtain ⟨c, hr, hd, g, hu⟩ := hst
    refine wp_region_list (wpList_tr ops s H N st s' H' N' (slotsOk_of h1) htr ?_ c a w hr hd g hu)
    intro c' a' w' hr' hd' g' hu'
    exact ⟨s', H', N', hq, c', hr', hd', g', hu'⟩
  | true =>
    simp only [Bool.not_true, Bool.false_or] at hio
    obtain ⟨c, hr, hd, g, hu⟩ := hst.draw (w' := { w with drawn := w.drawn + 1 }) rfl rfl rfl rfl
    refine wp_region_any hm ?_
    simp only [List.size_toArray]
    have hE : ∀ k, k < ops.length → listedFn (Array.replicate ops.length false) k = false := by
      intro k hk; simp [listedFn, Array.getD, hk]
    have hcnt : ∀ m, m ≤ ops.length → cnt (listedFn (Array.replicate ops.length false)) m = 0 := by
      intro m
      induction m with
      | zero => intro _; rfl
      | succ m ih => intro hm; simp [cnt, ih (by omega), hE m (by omega)]
    obtain ⟨t1, t2, t3, t4, t5⟩ := tr_at ops s H N st s' H' N' htr
    have hNN := stN_mono t1 t5 0 ops.length (by omega) (Nat.le_refl _)
    rw [t4] at hNN
    refine wpAny_tr h1 h2 h3 hio htr (c0 := c0) (w0 := w0) (df := []) ?_ ops.length _ c a _ (by simp) (by rw [hcnt _ (Nat.le_refl _)]; omega) ?_
    · intro c' a' w' hr' hd' g' hu'
      exact ⟨s', H', N', hq, c', hr', hd', g', hu'⟩
    · refine ⟨?_, hd, g, ?_, fun i hi => hu i (by simp only [stN] at hNN; omega), ?_⟩
      · have e1 : (fun t => cont (s t) (fun k => (ops[k]?.bind (·.dst)) == some t) (fun k => (st[k]?.map (·.x)).getD .undef) (listedFn (Array.replicate ops.length false)) ops.length) = s := by
          funext t
          rw [cont_stay _ _ _ _ 0 ops.length (by omega) (fun k _ hk _ => hE k hk)]; rfl
        have e2 : (fun id => cont (H id) (fun k => ((st[k]?.map (·.W)).getD []).contains id) (fun k => stH st H (k + 1) id) (listedFn (Array.replicate ops.length false)) ops.length) = H := by
          funext t
          rw [cont_stay _ _ _ _ 0 ops.length (by omega) (fun k _ hk _ => hE k hk)]; rfl
        rw [e1, e2]; exact hr
      · intro i t ht hi id k1 k2
        have hil : i < ops.length := by have := (List.getElem?_eq_some_iff.1 ht).1; omega
        have A := (t5 i ops[i] t (by simp [hil]) ht).wn id k1
        have := stN_mono t1 t5 0 i (by omega) (by omega)
        simp only [stN] at this
        exact hu id (by have := A.2 k2; omega)
      · intro j o' hj hjE
        have hjl : j < ops.length := (List.getElem?_eq_some_iff.1 hj).1
        rw [hE j hjl] at hjE; cases hjE

end
end Go.Abs
