import Derived.Test.YtomgdcnbceiggaaSmtLay26
set_option linter.unusedVariables false
set_option linter.unusedSimpArgs false
namespace Go.Abs
def Atp (es : Nat) (ids : List Nat) (css : List (List AV)) : List AV:=List.zipWith (fun i c=>AV.slc i 0 es c.length false) ids css
def Ato (ids : List Nat) (css : List (List AV)) : List (Nat×Aan):=List.zipWith (fun i c=>(i,Aan.grow (AaM c))) ids css
def Atk (N m : Nat) : List Nat:=(List.range m).map (N + ·)
structure Fam (H : Aah) (ids : List Nat) (css : List (List AV)) : Prop where
 len : ids.length=css.length
 nd : ids.Nodup
 get : ∀ (j : Nat) (h1 : j<ids.length) (h2 : j<css.length),H ids[j]=some (.grow (AaM css[j]))
theorem Fam.congr {H H' : Aah} {ids : List Nat} {css : List (List AV)} (h : Fam H ids css) (e : ∀ i ∈ ids,H' i=H i) : Fam H' ids css :=
 ⟨h.len,h.nd,fun j h1 h2=>by rw [e _ (List.getElem_mem h1)]; exact h.get j h1 h2⟩
theorem Fam.put {H H' : Aah} {ids : List Nat} {css : List (List AV)} (h : Fam H ids css) {x M : Nat} {c : List AV} (hM : M ∉ ids) (hx : H' M=some (.grow (AaM c))) (e : ∀ i ∈ ids,(∀ h1 : x<ids.length,i≠ids[x])→H' i=H i) : Fam H' (ids.set x M) (css.set x c):=by
 refine ⟨by simp [h.len],?_,fun j h1 h2=>?_⟩
 ·have:=h.nd
  clear hx e
  rw [List.nodup_iff_pairwise_ne,List.pairwise_iff_getElem] at this ⊢
  intro a b ha hb hab
  rw [List.getElem_set,List.getElem_set]
  have ha' : a<ids.length:=by simpa using ha
  have hb' : b<ids.length:=by simpa using hb
  by_cases e1 : x=a
  ·rw [if_pos e1,if_neg (by omega)]; intro q; exact hM (q ▸ List.getElem_mem hb')
  ·rw [if_neg e1]
   by_cases e2 : x=b
   ·rw [if_pos e2]; intro q; exact hM (q ▸ List.getElem_mem ha')
   ·rw [if_neg e2]; exact this a b ha' hb' hab
 ·have j1 : j<ids.length:=by simpa using h1
  have j2 : j<css.length:=by simpa using h2
  rw [List.getElem_set,List.getElem_set]
  by_cases e1 : x=j
  ·rw [if_pos e1,if_pos e1]; exact hx
  ·rw [if_neg e1,if_neg e1,e _ (List.getElem_mem j1) (fun hx' q=>e1 ?_)]
   ·exact h.get j j1 j2
   ·have:=h.nd
    rw [List.nodup_iff_pairwise_ne,List.pairwise_iff_getElem] at this
    rcases Nat.lt_trichotomy x j with z | z | z
    ·exact absurd q.symm (this x j hx' j1 z)
    ·exact z
    ·exact absurd q (this j x j1 hx' z)
variable {P : Program} {n : Nat} {c0 : Cx} {w0 : World} {Q : Ac5} {x : Code}
theorem AjM.refl (id : Nat) (o : Aan) (cs : List AV) : ∀ xs,AjM id o cs xs xs
 | [] => .nil
 | x::xs => .cons (.same x) (AjM.refl id o cs xs)
@[simp] theorem Asq (σ : Nat→Nat) (k k2 : IntKind) (i v : Int) : Agr σ (.mp (AiC [] (.int k i) (.int k2 v))) = .mp (AiC [] (.int k i) (.int k2 v)):=rfl
theorem Can.shr {s : Nat→AV} {H : Aah} {N : Nat} {T : Act→World→Prop} {α : Type} (id m : Nat) {F : α→AV} {L : List α} (ho : H id=some (.grow (L.map F))) (hne : L.take m≠[]) (h : Can n c0 w0 s (upd H id (some (.grow ((L.take m).map F)))) N T) : Can n c0 w0 s H N T:=by
 intro a w ⟨cx,hr,hd,g,hu⟩
 have k5:=hr.hr.reobj id (.grow ((L.take m).map F)) (fun o ho' he=>by
  rw [ho] at ho'; cases ho'
  rw [Aan.grow.injEq,List.map_eq_nil_iff] at he
  exact absurd (by rw [he]; simp) hne) (by rw [ho]; rfl) (fun o b base sz ho' hl hor=>by
  rw [ho] at ho'; cases ho'
  obtain ⟨hn0,cur,T,fr,vs,h1,h2,h3,h4,h5,h6⟩:=hor
  refine ⟨by simpa using hne,cur,T,fr,vs.take m,h1,h2,h3,?_,by rw [List.map_take]; exact h5.take m,h6.take m⟩
  simp only [List.length_map,List.length_take] at h4 ⊢; omega)
 exact h a w ⟨cx,⟨k5,hr.size,hr.slot⟩,hd,g,hu⟩
theorem AW.shr {s : Nat→AV} {H : Aah} {N : Nat} {α : Type} (id m : Nat) {F : α→AV} {L : List α} (ho : H id=some (.grow (L.map F))) (hne : L.take m≠[]) (h : AW P n c0 w0 x Q s (upd H id (some (.grow ((L.take m).map F)))) N) : AW P n c0 w0 x Q s H N:=Can.shr id m ho hne h
end Go.Abs
