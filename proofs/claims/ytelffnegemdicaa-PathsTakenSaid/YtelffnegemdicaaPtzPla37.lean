import Derived.Test.YtelffnegemdicaaPtzPla36
set_option linter.unusedVariables false
set_option linter.unusedSimpArgs false
set_option maxRecDepth 100000
namespace Go.TF
open Go Go.Abs
theorem Am4.least {N : Nat} {A : List AaD} {f : List Int} (h : NV N A) (d : Am4 N A f) : Mf.Least (ar A) (Mf.val (ar A) f):=by
 obtain ⟨S,s0,s1,sc⟩:=d.side h
 exact Mf.least_of h.net d.fl S s0 s1 sc
theorem Am4.rng {N : Nat} {A : List AaD} {f : List Int} (h : NV N A) (d : Am4 N A f) : 0≤Mf.val (ar A) f∧Mf.val (ar A) f≤((A.length*1048576 : Nat) : Int):=by
 refine ⟨?_,Alj h f d.fl⟩
 obtain ⟨S,s0,s1,e⟩:=(d.least h).is
 rw [← e]
 exact Mf.capS_nonneg h.net.cap S
def AtM : List AaD→List AaD
 | []=>[]
 | a::l=>AtM l++[a,⟨0,1,0⟩]
def twF (A : List AaD) : List AaD:=A.map fun a=>⟨a.From,a.To,2*a.Cap⟩
def btF (s : Int) (i : Nat) : Bool:=decide (Ac6 .and .i64 (Int.fdiv s (2 ^ (min ((IntKind.wrap .u64 (i : Int)).toNat) 64))) 1=1)
def ofB (S : Nat→Bool) : Nat→Nat
 | 0=>0
 | n+1=>ofB S n+if S n then 2 ^ n else 0
theorem AmI (S : Nat→Bool) : ∀ n,ofB S n<2 ^ n
 | 0=>by simp [ofB]
 | n+1=>by have:=AmI S n; rw [ofB,Nat.pow_succ]; split <;> omega
theorem AmJ (S : Nat→Bool) : ∀ (n i : Nat),i<n→decide (ofB S n / 2 ^ i % 2=1)=S i
 | n+1,i,h=>by
  have lt:=AmI S n
  rw [ofB]
  by_cases e : i=n
  ·subst e
   cases S i with
   | true=>rw [if_pos rfl,Nat.add_div_right _ (Nat.two_pow_pos i),Nat.div_eq_of_lt lt]; rfl
   | false=>rw [if_neg (by simp),Nat.add_zero,Nat.div_eq_of_lt lt]; rfl
  ·rw [← AmJ S n i (by omega)]
   split
   ·have : 2 ^ n=2 ^ i*(2*2 ^ (n-i-1)):=by rw [← Nat.mul_assoc,← Nat.pow_succ,← Nat.pow_add]; congr 1; omega
    rw [this,Nat.add_mul_div_left _ _ (Nat.two_pow_pos i),Nat.add_mul_mod_self_left]
   ·rw [Nat.add_zero]
structure Sx (s : Int) (i : Nat) (a : List Int) : Prop where
 rng : ∀ x ∈ a,0≤x∧x<i
 mem : ∀ j : Nat,j<i→((j : Int) ∈ a↔btF s j=true)
 len : a.length≤i
def ldB (s : Int) (v : Int) : Bool:=btF s v.toNat
end Go.TF
set_option linter.unusedVariables false
set_option linter.unusedSimpArgs false
set_option maxRecDepth 100000
namespace Go.TF
open Go Go.Abs
theorem AiU {β : Type} (a b : Int) (v : β) (m : List (Int×β)) : mgI ((a,v)::m) b=if b=a then some 0 else (mgI m b).map (· + 1):=by
 unfold mgI
 rw [List.findIdx?_cons]
 by_cases e : b=a
 ·rw [if_pos e,if_pos (by simpa using e)]
 ·rw [if_neg e,if_neg (by simpa using e)]
theorem Afq {β : Type} (a b : Int) (v : β) (m : List (Int×β)) : Ab4 ((a,v)::m) b=if b=a then some v else Ab4 m b:=by
 unfold Ab4
 rw [AiU]
 by_cases e : b=a
 ·rw [if_pos e,if_pos e]; rfl
 ·rw [if_neg e,if_neg e]
  cases mgI m b with
  | none=>rfl
  | some j=>simp
theorem Ag6 {β : Type} (a b : Int) (v : β) (m : List (Int×β)) : Akr ((a,v)::m) b=if b=a then m else (a,v)::Akr m b:=by
 unfold Akr
 rw [AiU]
 by_cases e : b=a
 ·rw [if_pos e,if_pos e]; rfl
 ·rw [if_neg e,if_neg e]
  cases mgI m b with
  | none=>rfl
  | some j=>rfl
theorem AjG {β : Type} (a b : Int) (v w : β) (m : List (Int×β)) : AbC ((a,v)::m) b w=if b=a then (b,w)::m else (a,v)::AbC m b w:=by
 unfold AbC
 rw [AiU]
 by_cases e : b=a
 ·rw [if_pos e,if_pos e]; rfl
 ·rw [if_neg e,if_neg e]
  cases mgI m b with
  | none=>rfl
  | some j=>rfl
def KN {β : Type} (m : List (Int×β)) : Prop:=(m.map (·.1)).Nodup
theorem Akq {β : Type} (b : Int) : ∀ (m : List (Int×β)) (x : Int),x ∈ (Akr m b).map (·.1)→x ∈ m.map (·.1)
 | [],x,h=>h
 | (a,v)::m,x,h=>by
  rw [Ag6] at h
  split at h
  ·exact List.mem_cons_of_mem _ h
  ·rw [List.map_cons,List.mem_cons] at h
   rcases h with h | h
   ·rw [h]; exact List.mem_cons_self
   ·exact List.mem_cons_of_mem _ (Akq b m x h)
theorem Age {β : Type} (b : Int) (w : β) : ∀ (m : List (Int×β)) (x : Int),x ∈ (AbC m b w).map (·.1)→x ∈ m.map (·.1)∨x=b
 | [],x,h=>by
  have : AbC ([] : List (Int×β)) b w = [(b,w)]:=rfl
  rw [this] at h
  simp at h; exact .inr h
 | (a,v)::m,x,h=>by
  rw [AjG] at h
  split at h
  ·rename_i e; subst e; exact .inl h
  ·rw [List.map_cons,List.mem_cons] at h
   rcases h with h | h
   ·rw [h]; exact .inl List.mem_cons_self
   ·rcases Age b w m x h with z | z
    ·exact .inl (List.mem_cons_of_mem _ z)
    ·exact .inr z
theorem KN.del {β : Type} (b : Int) : ∀ {m : List (Int×β)},KN m→KN (Akr m b)
 | [],h=>h
 | (a,v)::m,h=>by
  unfold KN at h
  rw [List.map_cons,List.nodup_cons] at h
  rw [Ag6]
  split
  ·exact h.2
  ·unfold KN
   rw [List.map_cons,List.nodup_cons]
   exact ⟨fun z=>h.1 (Akq b m _ z),KN.del b h.2⟩
theorem KN.put {β : Type} (b : Int) (w : β) : ∀ {m : List (Int×β)},KN m→KN (AbC m b w)
 | [],h=>by
  have : AbC ([] : List (Int×β)) b w = [(b,w)]:=rfl
  rw [this]; simp [KN]
 | (a,v)::m,h=>by
  have h':=h
  unfold KN at h
  rw [List.map_cons,List.nodup_cons] at h
  rw [AjG]
  split
  ·rename_i e; subst e; exact h'
  ·rename_i e
   unfold KN
   rw [List.map_cons,List.nodup_cons]
   refine ⟨fun z=>?_,KN.put b w h.2⟩
   rcases Age b w m _ z with q | q
   ·exact h.1 q
   ·exact e q.symm
theorem AjI {β : Type} : ∀ {m : List (Int×β)} {b : Int},b ∉ m.map (·.1)→Ab4 m b=none
 | [],b,_=>rfl
 | (a,v)::m,b,h=>by
  rw [List.map_cons,List.mem_cons] at h
  rw [Afq,if_neg (fun e=>h (.inl e)),AjI fun e=>h (.inr e)]
theorem Akp {β : Type} : ∀ {m : List (Int×β)} (_ : KN m) (a b : Int),Ab4 (Akr m a) b=if b=a then none else Ab4 m b
 | [],_,a,b=>by split <;> rfl
 | (c,v)::m,h,a,b=>by
  unfold KN at h
  rw [List.map_cons,List.nodup_cons] at h
  rw [Ag6]
  by_cases e : a=c
  ·subst e
   rw [if_pos rfl,Afq]
   by_cases e2 : b=a
   ·subst e2
    rw [if_pos rfl]; exact AjI h.1
   ·rw [if_neg e2,if_neg e2]
  ·rw [if_neg e,Afq,Afq,Akp h.2 a b]
   by_cases e2 : b=c
   ·subst e2
    rw [if_pos rfl,if_neg (fun z=>e z.symm),if_pos rfl]
   ·rw [if_neg e2,if_neg e2]
theorem AjJ {β : Type} : ∀ (L : List Int) {m : List (Int×β)} (_ : KN m) (b : Int),KN (L.foldl Akr m)∧Ab4 (L.foldl Akr m) b=if b ∈ L then none else Ab4 m b
 | [],m,h,b=>⟨h,by simp⟩
 | a::L,m,h,b=>by
  have ih:=AjJ L (KN.del a h) b
  rw [List.foldl_cons]
  refine ⟨ih.1,?_⟩
  rw [ih.2,Akp h]
  by_cases e : b ∈ L
  ·rw [if_pos e,if_pos (List.mem_cons_of_mem _ e)]
  ·rw [if_neg e]
   by_cases e2 : b=a
   ·rw [if_pos e2,if_pos (e2 ▸ List.mem_cons_self)]
   ·rw [if_neg e2,if_neg (by rw [List.mem_cons]; rintro (z | z); exact e2 z; exact e z)]
def gA (A : List AaD) (a : Int) : AaD:=A.getD a.toNat ⟨0,0,0⟩
theorem Aqt {A : List AaD} {i : Nat} (h : i<A.length) : gA A (i : Int)=A[i]:=by
 unfold gA
 rw [show ((i : Int)).toNat=i by omega,List.getD_eq_getElem?_getD,List.getElem?_eq_getElem h]; rfl
def nds (A : List AaD) (W : List Int) : List Int:=0::W.map fun a=>(gA A a).To
theorem Aoy (A : List AaD) (W : List Int) : (nds A W).length=W.length+1:=by simp [nds]
theorem AiQ (A : List AaD) (W : List Int) (k : Nat) : nds A (W.take k)=(nds A W).take (k+1):=by simp [nds,List.map_take]
structure Wy (A : List AaD) (W : List Int) (t : Int) : Prop where
 rng : ∀ a ∈ W,0≤a∧a<A.length
 nd : (nds A W).Nodup
 fr : ∀ j : Nat,j<W.length→(gA A (W.getD j 0)).From=(nds A W).getD j 0
 last : (nds A W).getD W.length 0=t
theorem Wy.nil (A : List AaD) : Wy A [] 0:=⟨by simp,by simp [nds],fun j h=>absurd h (Nat.not_lt_zero _),rfl⟩
theorem Ahm {l l' : List Int} {a : Int} (h : a ∈ l) : (l++l').idxOf a=l.idxOf a:=by
 induction l with
 | nil=>cases h
 | cons b l ih =>
  rw [List.cons_append,List.idxOf_cons,List.idxOf_cons]
  by_cases e : b=a
  ·simp [e]
  ·rw [List.mem_cons] at h
   have e' : (b==a)=false:=by simpa using e
   rw [e',ih (h.resolve_left (fun z=>e z.symm))]
theorem AlW {l l' : List Int} {a : Int} (h : a ∉ l) : (l++l').idxOf a=l.length+l'.idxOf a:=by
 induction l with
 | nil=>simp
 | cons b l ih =>
  rw [List.mem_cons] at h
  have e' : (b==a)=false:=by simpa using fun z=>h (.inl z.symm)
  rw [List.cons_append,List.idxOf_cons,e',ih (fun z=>h (.inr z)),List.length_cons]
  simp; omega
theorem Ag9 {l : List Int} {k j : Nat} (h : j<k) : (l.take k).getD j 0=l.getD j 0:=by
 rw [List.getD_eq_getElem?_getD,List.getD_eq_getElem?_getD,List.getElem?_take,if_pos h]
theorem Wy.take {A : List AaD} {W : List Int} {t : Int} (hw : Wy A W t) {k : Nat} (hk : k≤W.length) : Wy A (W.take k) ((nds A W).getD k 0):=by
 have hl : (W.take k).length=k:=by rw [List.length_take]; omega
 refine ⟨fun a ha=>hw.rng a (List.mem_of_mem_take ha),?_,fun j hj=>?_,?_⟩
 ·rw [AiQ]; exact hw.nd.sublist (List.take_sublist _ _)
 ·rw [hl] at hj
  rw [AiQ,Ag9 hj,Ag9 (by omega)]
  exact hw.fr j (by omega)
 ·rw [hl,AiQ,Ag9 (by omega)]
theorem Wy.len {N : Nat} {A : List AaD} (nv : NV N A) {W : List Int} {t : Int} (hw : Wy A W t) : W.length+1≤N:=by
 have:=nodup_range N (nds A W) hw.nd fun x hx=>by
  have n2:=nv.two
  unfold nds at hx
  rw [List.mem_cons] at hx
  rcases hx with hx | hx
  ·omega
  ·obtain ⟨a,ha,rfl⟩:=List.mem_map.1 hx
   have r:=hw.rng a ha
   have e : a=((a.toNat : Nat) : Int):=by omega
   have ok:=nv.ok _ (List.getElem_mem (show a.toNat<A.length by omega))
   rw [e,Aqt (by omega)]; exact ⟨ok.2.2.1,ok.2.2.2.1⟩
 rw [Aoy] at this; exact this
def Mt (m : List (Int×Int)) (L : List Int) : Prop:=KN m∧∀ v,Ab4 m v=if v ∈ L then some ((L.idxOf v : Nat) : Int) else none
theorem Mt.cut {m : List (Int×Int)} {L : List Int} (h : Mt m L) (hn : L.Nodup) {k : Nat} (hk : k<L.length) : Mt (AbC ((L.drop (k+1)++[L.getD k 0]).foldl Akr m) (L.getD k 0) (k : Int)) (L.take (k+1)):=by
 have d:=fun v=>AjJ (L.drop (k+1)++[L.getD k 0]) h.1 v
 have gk : L.getD k 0=L[k]:=by rw [List.getD_eq_getElem?_getD,List.getElem?_eq_getElem hk]; rfl
 have et : L.take (k+1)=L.take k++[L[k]]:=List.take_succ_eq_append_getElem hk
 have sp : L=L.take (k+1)++L.drop (k+1):=(List.take_append_drop _ _).symm
 have nt : L[k] ∉ L.take k:=by
  have q:=hn
  rw [sp,et] at q
  rw [List.nodup_append] at q
  have q:=q.1
  rw [List.nodup_append] at q
  intro z
  exact q.2.2 _ z _ (List.mem_singleton.2 rfl) rfl
 refine ⟨KN.put _ _ (d 0).1,fun v=>?_⟩
 rw [Abq,(d v).2,h.2 v,gk,et]
 by_cases e : v=L[k]
 ·subst e
  rw [if_pos rfl,if_pos (List.mem_append_right _ (List.mem_singleton.2 rfl)),AlW nt]
  simp; omega
 ·rw [if_neg e]
  by_cases e1 : v ∈ L.take k
  ·have n1 : v ∉ L.drop (k+1):=by
    have q:=hn
    rw [sp,et,List.nodup_append] at q
    intro z
    exact q.2.2 v (List.mem_append_left _ e1) v z rfl
   rw [if_neg (by rw [List.mem_append,List.mem_singleton]; rintro (z | z); exact n1 z; exact e z),if_pos (List.mem_of_mem_take e1),if_pos (List.mem_append_left _ e1),Ahm e1]
   congr 2
   conv=>lhs; rw [sp,et,List.append_assoc]
   rw [Ahm e1]
  ·rw [if_neg (show ¬ v ∈ L.take k++[L[k]] by rw [List.mem_append,List.mem_singleton]; rintro (z | z); exact e1 z; exact e z)]
   by_cases e2 : v ∈ L.drop (k+1)
   ·rw [if_pos (List.mem_append_left _ e2)]
   ·rw [if_neg (by rw [List.mem_append,List.mem_singleton]; rintro (z | z); exact e2 z; exact e z),if_neg]
    intro z
    rw [sp,et,List.mem_append,List.mem_append,List.mem_singleton] at z
    rcases z with (z | z) | z
    ·exact e1 z
    ·exact e z
    ·exact e2 z
structure Lf (N : Nat) (A : List AaD) (f left W : List Int) (met : List (Int×Int)) (t r : Int) : Prop where
 len : left.length=A.length
 nn : ∀ (i : Nat) (h : i<left.length),0≤left[i]
 sur : ∀ v,Mf.sur (ar A) left v=r*(Mf.b2 (0=v)-Mf.b2 (1=v))-(Mf.b2 (0=v)-Mf.b2 (t=v))
 wy : Wy A W t
 mt : Mt met (nds A W)
 use : ∀ i : Nat,i<A.length→((W.count (i : Int) : Nat) : Int)+left.getD i 0≤f.getD i 0
def Arn (out : List (List Int)) (a : Int) : Nat:=out.flatten.count a
structure PW (A : List AaD) (f : List Int) (out : List (List Int)) (V : Int) : Prop where
 len : (out.length : Int)=V
 wy : ∀ W ∈ out,Wy A W 1
 use : ∀ j : Nat,j<A.length→((Arn out (j : Int) : Nat) : Int)≤f.getD j 0
theorem Ahx (out : List (List Int)) (i : Nat) (a : Int) : Arn (out.take i) a≤Arn out a:=by
 unfold Arn
 conv=>rhs; rw [← List.take_append_drop i out,List.flatten_append,List.count_append]
 omega
end Go.TF
set_option linter.unusedVariables false
set_option linter.unusedSimpArgs false
set_option maxRecDepth 100000
namespace Go.TF
open Go Go.Abs
def At5 (A : List AaD) (w : AaD→Int) : Int:=(A.map fun a=>w a*a.Cap).sum
end Go.TF
set_option linter.unusedVariables false
set_option linter.unusedSimpArgs false
namespace Go.TF
open Go Go.Abs
def Ajj (N lv a b : Int) : Bool:=decide (1≤lv∧lv≤3∧0≤a∧a<N∧0≤b∧b<N∧a≠b)
theorem Aim (k : Nat) (N : Int) (E : List AaA) (g : List Int) (lv a b : Int) (hN : -1000001≤N∧N≤1000001) : AcU k N E g lv a b=some (Ajj N lv a b):=by
 unfold AcU Ajj
 rw [Ahk,Aaa]
 by_cases h1 : 1≤lv∧lv≤3
 ·rw [if_pos (decide_eq_true h1),Ahk,Aaa,w64 (by omega) (by omega)]
  by_cases h2 : 0≤a∧a≤N-1
  ·rw [if_pos (decide_eq_true h2),Ahk,Aaa]
   by_cases h3 : 0≤b∧b≤N-1
   ·rw [if_pos (decide_eq_true h3)]
    congr 1
    by_cases h4 : a=b
    ·subst h4; simp
    ·rw [decide_eq_true (by omega)]; simpa using h4
   ·rw [if_neg (by simpa using h3),decide_eq_false (by omega)]
  ·rw [if_neg (by simpa using h2),decide_eq_false (by omega)]
 ·rw [if_neg (by simpa using h1),decide_eq_false (by omega)]
def ndA (a b : Int) (i : Nat) : List AaD:=((AhY i).filter fun x=>decide (x≠a∧x≠b)).map fun x=>⟨2+2*x,3+2*x,1⟩
def egP (lv a b : Int) (e : AaA) : Bool:=decide (lv≤e.Level∧e.To≠a∧e.From≠b)
def egM (a b : Int) (e : AaA) : AaD:=⟨if e.From=a then 0 else 3+2*e.From,if e.To=b then 1 else 2+2*e.To,1⟩
def egA (lv a b : Int) (E : List AaA) : List AaD:=(E.filter (egP lv a b)).map (egM a b)
def Agz (N : Nat) (E : List AaA) (lv a b : Int) : List AaD:=ndA a b N++egA lv a b E
theorem AjE (i : Nat) : AhY (i+1)=AhY i++[(i : Int)]:=by simp [AhY,List.range_succ]
theorem AnQ (a b : Int) (i : Nat) : ndA a b (i+1)=ndA a b i++if (i : Int)≠a∧(i : Int)≠b then [⟨2+2*(i : Int),3+2*(i : Int),1⟩] else []:=by
 unfold ndA
 rw [AjE,List.filter_append,List.map_append]
 congr 1
 rw [List.filter_cons]
 by_cases h : (i : Int)≠a∧(i : Int)≠b
 ·rw [if_pos h,if_pos (by simpa using h)]; rfl
 ·rw [if_neg h,if_neg (by simpa using h)]; rfl
theorem AiR (a b : Int) (i : Nat) : (ndA a b i).length≤i:=by
 unfold ndA; rw [List.length_map]; exact Nat.le_trans (List.length_filter_le _ _) (by rw [AiP]; exact Nat.le_refl _)
theorem Amc (lv a b : Int) (E : List AaA) : (egA lv a b E).length≤E.length:=by
 unfold egA; rw [List.length_map]; exact List.length_filter_le _ _
theorem Ani (lv a b : Int) (e : AaA) (E : List AaA) : egA lv a b (e::E)=(if egP lv a b e then [egM a b e] else [])++egA lv a b E:=by
 unfold egA; rw [List.filter_cons]; split <;> rfl
theorem Afm (k : Nat) (x : Int) (h : -100001≤x∧x≤100001) : AcG k x=some (2+2*x):=by
 unfold AcG; rw [w64 (n:=2*x) (by omega) (by omega),w64 (by omega) (by omega)]
theorem AqP (k : Nat) (E : List AaA) (lv a b M : Int) (h9 : E.length≤100001) (hE : ∀ e ∈ E,0≤e.From∧e.From≤100001∧0≤e.To∧e.To≤100001) : ∀ (m i n : Nat) (acc : List AaD),i+m=E.length→m<n→acc.length≤200002+i→AaP.L3 k E lv a b M n (i : Int) acc=some (M,acc++egA lv a b (E.drop i))
 | 0,i,n+1,acc,e,_,_=>by
  rw [AaP.L3,if_neg (by omega),List.drop_of_length_le (by omega)]; simp [egA]
 | m+1,i,n+1,acc,e,hn,ha=>by
  have hi : i<E.length:=by omega
  have ih:=fun acc'=>AqP k E lv a b M h9 hE m (i+1) n acc' (by omega) (by omega)
  have hr:=hE _ (List.getElem_mem hi)
  rw [AaP.L3,if_pos (by omega),Aa4 hi,List.drop_eq_getElem_cons hi,Ani]
  unfold AaP.J4
  simp only [Ad9 i (by omega)]
  by_cases q1 : E[i].Level<lv
  ·rw [if_pos q1,ih _ (by omega),if_neg (by unfold egP; rw [decide_eq_true_eq]; omega)]; rfl
  rw [if_neg q1]
  by_cases q2 : E[i].To=a
  ·rw [if_pos q2,ih _ (by omega),if_neg (by unfold egP; rw [decide_eq_true_eq]; omega)]; rfl
  rw [if_neg q2]
  by_cases q3 : E[i].From=b
  ·rw [if_pos q3,ih _ (by omega),if_neg (by unfold egP; rw [decide_eq_true_eq]; omega)]; rfl
  rw [if_neg q3,Afm k _ (by omega),Aaa,Afm k _ (by omega),Aaa,w64 (n:=2+2*E[i].From+1) (by omega) (by omega)]
  have key : ∀ u v : Int,egM a b E[i]=⟨u,v,1⟩→AaP.J6 k (i : Int) acc u (fun v14_ v15_=>AaP.L3 k E lv a b M n v14_ v15_) v=some (M,acc++((if egP lv a b E[i] then [egM a b E[i]] else [])++egA lv a b (E.drop (i+1)))):=by
   intro u v q
   unfold AaP.J6 AaP.J4
   rw [Aaq (by simp only [List.length_cons,List.length_nil]; omega)]
   simp only [Ad9 i (by omega)]
   rw [ih _ (by simp; omega),if_pos (by unfold egP; rw [decide_eq_true_eq]; omega),q,List.append_assoc]
  unfold AaP.J5
  by_cases q4 : E[i].From=a <;> by_cases q5 : E[i].To=b
  ·rw [if_pos q4,if_pos q5]; exact key _ _ (by unfold egM; rw [if_pos q4,if_pos q5])
  ·rw [if_pos q4,if_neg q5]; exact key _ _ (by unfold egM; rw [if_pos q4,if_neg q5])
  ·rw [if_neg q4,if_pos q5]; exact key _ _ (by unfold egM; rw [if_neg q4,if_pos q5]; congr 1; omega)
  ·rw [if_neg q4,if_neg q5]; exact key _ _ (by unfold egM; rw [if_neg q4,if_neg q5]; congr 1; omega)
theorem AqQ (k N : Nat) (E : List AaA) (lv a b M : Int) (hN : N≤1001) (h9 : E.length≤100001) (hk : E.length<k) (hE : ∀ e ∈ E,0≤e.From∧e.From≤100001∧0≤e.To∧e.To≤100001) : ∀ (m i n : Nat),i+m=N→m<n→AaP.L1 k (N : Int) E lv a b M n (i : Int) (ndA a b i)=some (M,Agz N E lv a b)
 | 0,i,n+1,e,_=>by
  have : i=N:=by omega
  subst this
  have hl:=AiR a b i
  have:=AqP k E lv a b M h9 hE E.length 0 k (ndA a b i) (by omega) hk (by omega)
  rw [AaP.L1,if_neg (by omega)]
  exact this
 | m+1,i,n+1,e,hn=>by
  have ih:=AqQ k N E lv a b M hN h9 hk hE m (i+1) n (by omega) (by omega)
  have hl:=AiR a b i
  rw [AaP.L1,if_pos (by omega)]
  unfold AaP.J2
  simp only [Ad9 i (by omega)]
  rw [AnQ] at ih
  by_cases q1 : (i : Int)≠a
  ·rw [if_pos q1]
   by_cases q2 : (i : Int)≠b
   ·rw [if_pos q2,Afm k _ (by omega),Aaa,Aaa,w64 (n:=2+2*(i : Int)+1) (by omega) (by omega),Aaq (by simp only [List.length_cons,List.length_nil]; omega)]
    rw [if_pos ⟨q1,q2⟩] at ih
    rw [show 2+2*(i : Int)+1=3+2*(i : Int) by omega]; exact ih
   ·rw [if_neg q2]; rw [if_neg (by omega),List.append_nil] at ih; exact ih
  ·rw [if_neg q1]; rw [if_neg (by omega),List.append_nil] at ih; exact ih
theorem Aj2 (k N : Nat) (E : List AaA) (g : List Int) (lv a b : Int) (hN : N≤1001) (h9 : E.length≤100001) (hk : E.length<k) (hk2 : N<k) (hE : ∀ e ∈ E,0≤e.From∧e.From≤100001∧0≤e.To∧e.To≤100001) : AaP k (N : Int) E g lv a b=some (((2+2*N : Nat) : Int),Agz N E lv a b):=by
 unfold AaP
 rw [Afm k _ (by omega),Aaa]
 have:=AqQ k N E lv a b (2+2*(N : Int)) hN h9 hk hE N 0 k (by omega) hk2
 rw [show ((2+2*N : Nat) : Int)=2+2*(N : Int) by omega]; exact this
theorem AmO {a b : Int} {i : Nat} {x : AaD} : x ∈ ndA a b i↔∃ v : Int,0≤v∧v<i∧v≠a∧v≠b∧x=⟨2+2*v,3+2*v,1⟩:=by
 unfold ndA
 simp only [List.mem_map,List.mem_filter,decide_eq_true_eq,AhY,List.mem_range]
 constructor
 ·rintro ⟨v,⟨⟨n,hn,rfl⟩,h1,h2⟩,rfl⟩; exact ⟨n,by omega,by omega,h1,h2,rfl⟩
 ·rintro ⟨v,h0,h1,h2,h3,rfl⟩; exact ⟨v,⟨⟨v.toNat,by omega,by omega⟩,h2,h3⟩,rfl⟩
theorem AmQ {lv a b : Int} {E : List AaA} {x : AaD} : x ∈ egA lv a b E↔∃ e ∈ E,lv≤e.Level∧e.To≠a∧e.From≠b∧x=egM a b e:=by
 unfold egA
 simp only [List.mem_map,List.mem_filter,egP,decide_eq_true_eq]
 constructor
 ·rintro ⟨e,⟨h,h1,h2,h3⟩,rfl⟩; exact ⟨e,h,h1,h2,h3,rfl⟩
 ·rintro ⟨e,h,h1,h2,h3,rfl⟩; exact ⟨e,⟨h,h1,h2,h3⟩,rfl⟩
theorem Aoi {N : Nat} {E : List AaA} {lv a b : Int} (hN : N≤64) (hE : inE N E) (h5 : E.length≤500) (hab : 0≤a∧a<N∧0≤b∧b<N∧a≠b) : NV (2+2*N) (Agz N E lv a b):=by
 have l1:=AiR a b N; have l2:=Amc lv a b E
 refine ⟨by omega,by omega,by unfold Agz; rw [List.length_append]; omega,fun x hx=>?_⟩
 unfold Agz at hx
 rcases List.mem_append.1 hx with hx | hx
 ·obtain ⟨v,h0,h1,h2,h3,rfl⟩:=AmO.1 hx
  simp only []; omega
 ·obtain ⟨e,he,h1,h2,h3,rfl⟩:=AmQ.1 hx
  have:=hE e he
  unfold egM
  simp only []
  split <;> split <;> omega
structure Ak5 (N : Nat) (E : List AaA) (lv a b v : Int) : Prop where
 no : Ajj N lv a b=false→v=0
 yes : Ajj N lv a b=true→Mf.Least (ar (Agz N E lv a b)) v
 r0 : 0≤v
 r1 : v≤1000001
theorem AqR {N : Nat} {E : List AaA} {lv a b : Int} : ∀ x ∈ Agz N E lv a b,x.Cap=1:=by
 intro x hx
 unfold Agz at hx
 rcases List.mem_append.1 hx with hx | hx
 ·obtain ⟨v,_,_,_,_,rfl⟩:=AmO.1 hx; rfl
 ·obtain ⟨e,_,_,_,_,rfl⟩:=AmQ.1 hx; rfl
theorem Amg : ∀ {A : List AaD} (S : Int→Bool),(∀ x ∈ A,x.Cap=1)→Mf.capS (ar A) S≤A.length
 | [],S,_=>by simp [ar,Mf.capS]
 | x::A,S,h=>by
  have ih:=Amg (A:=A) S fun y hy=>h y (by simp [hy])
  have hx:=h x (by simp)
  have e : Mf.capS (ar (x::A)) S=Mf.b2 (S x.From=true∧S x.To=false)*x.Cap+Mf.capS (ar A) S:=by simp [ar,Mf.capS]
  rw [e,hx]
  have : Mf.b2 (S x.From=true∧S x.To=false)≤1:=by unfold Mf.b2; split <;> omega
  simp only [List.length_cons]; omega
theorem Al0 {N : Nat} {E : List AaA} {lv a b : Int} (nv : NV (2+2*N) (Agz N E lv a b)) : ∀ g,Mf.Flow (2+2*N) (ar (Agz N E lv a b)) g→Mf.val (ar (Agz N E lv a b)) g≤((1200 : Nat) : Int):=by
 intro g hg
 have h1:=Mf.val_le nv.net hg (fun v=>decide (v=0)) (by simp) (by simp)
 have h2:=Amg (A:=Agz N E lv a b) (fun v=>decide (v=0)) AqR
 have:=nv.len
 omega
theorem Ak5.mk' {N : Nat} {E : List AaA} {lv a b v : Int} (h1 : Ajj N lv a b=false→v=0) (h2 : Ajj N lv a b=true→Mf.Least (ar (Agz N E lv a b)) v) (h3 : 0≤v) (h4 : v≤1000001) : Ak5 N E lv a b v:=⟨h1,h2,h3,h4⟩
theorem Ao2 {N : Nat} {E : List AaA} {lv a b : Int} (nv : NV (2+2*N) (Agz N E lv a b)) (ha : Ajj N lv a b=true) {f : List Int} (d : Am4 (2+2*N) (Agz N E lv a b) f) : Ak5 N E lv a b (Mf.val (ar (Agz N E lv a b)) f):=by
 have h1:=d.rng nv
 have h2:=Al0 nv f d.fl
 exact .mk' (fun h=>by rw [ha] at h; cases h) (fun _=>d.least nv) h1.1 (by omega)
theorem AnM (k N : Nat) (E : List AaA) (g : List Int) (lv a b : Int) (hN : N≤64) (hE : inE N E) (h5 : E.length≤500) (hk : 1300<k) : ∃ v,AdB k (N : Int) E g lv a b=some v∧Ak5 N E lv a b v:=by
 unfold AdB
 rw [Aim k _ _ _ _ _ _ (by omega),Aaa]
 cases ha : Ajj N lv a b with
 | false=>exact ⟨0,by simp,.mk' (fun _=>rfl) (fun h=>by rw [ha] at h; cases h) (by omega) (by omega)⟩
 | true =>
  have hq:=ha
  unfold Ajj at hq; rw [decide_eq_true_eq] at hq
  have nv:=Aoi (lv:=lv) hN hE h5 ⟨hq.2.2.1,hq.2.2.2.1,hq.2.2.2.2.1,hq.2.2.2.2.2.1,hq.2.2.2.2.2.2⟩
  have l1:=nv.len
  have l2 : (Agz N E lv a b).length≤564:=by
   have:=AiR a b N; have:=Amc lv a b E
   unfold Agz; rw [List.length_append]; omega
  obtain ⟨f,f1,f2⟩:=ApJ k (2+2*N) (Agz N E lv a b) nv (by omega) (by omega) 1200 (Al0 nv) (by omega)
  rw [if_neg (by simp),Aj2 k N E g lv a b (by omega) (by omega) (by omega) (by omega) (fun e he=>by have:=hE e he; omega),Abo,f1,Abo,AkQ k (2+2*N) _ f nv f2.fl (by omega),Aaa]
  exact ⟨_,rfl,Ao2 nv ha f2⟩
theorem Ald (x : AaD) (A : List AaD) (S : Int→Bool) : Mf.capS (ar (x::A)) S=Mf.b2 (S x.From=true∧S x.To=false)*x.Cap+Mf.capS (ar A) S:=by simp [ar,Mf.capS]
end Go.TF
set_option linter.unusedVariables false
set_option linter.unusedSimpArgs false
namespace Go.TF
open Go Go.Abs
theorem An7 (k N : Nat) (hN : N<k) (h9 : N≤1000000) (l : List Int) (hl : l.length=N) (hs : l.Pairwise (· < ·)) : ∀ (m i n : Nat),1≤i→i+m=N→m<n→AaM.L1 k 0 (N : Int) n (i : Int) l=some l
 | 0,i,n+1,_,h,_=>by rw [AaM.L1,if_neg (by omega)]
 | m+1,i,n+1,h1,h,hn=>by
  rw [AaM.L1,if_pos (by omega)]
  obtain ⟨j,rfl⟩ : ∃ j,i=j+1:=⟨i-1,by omega⟩
  obtain ⟨q,rfl⟩ : ∃ q,k=q+1:=⟨k-1,by omega⟩
  have hj : j<l.length:=by omega
  have hj1 : j+1<l.length:=by omega
  have hlt : l[j]<l[j+1]:=by
   rw [List.pairwise_iff_getElem] at hs; exact hs j (j+1) hj hj1 (by omega)
  rw [AaM.L3,if_pos (by omega),Aaq (by omega),Aa4 hj1,AqO j (by omega),Aaq (by omega),Aa4 hj,Ao7,Aaa,if_neg (by simp; omega)]
  unfold AaM.J2
  rw [Ad9 (j+1) (by omega)]
  exact An7 (q+1) N hN h9 l hl hs m (j+2) n (by omega) (by omega) (by omega)
theorem Aob (k : Nat) (l : List Int) (hl : l.length≤12) (hk : 20<k) (hs : l.Pairwise (· < ·)) : Ab0 k l=some l:=by
 unfold Ab0
 have h0 : AcY k (IntKind.wrap .u64 (l.length : Int))=AcY 0 (IntKind.wrap .u64 (l.length : Int)):=rfl
 have h1:=AsR ⟨l.length,by omega⟩
 obtain ⟨v,hv⟩:=Option.isSome_iff_exists.1 h1
 simp only at hv
 rw [h0,hv,Aaa]
 unfold Aax
 obtain ⟨q,rfl⟩ : ∃ q,k=q+1:=⟨k-1,by omega⟩
 rw [Aax.L1,w64 (by omega) (by omega),if_pos (by omega)]
 unfold AaM
 by_cases e : l.length=0
 ·rw [w64 (by omega) (by omega),AaM.L1,if_neg (by omega),Aaa,Aaq rfl,Aaa,Aaq rfl]
 ·have:=An7 (q+1) l.length (by omega) (by omega) l rfl hs (l.length-1) 1 (q+1) (by omega) (by omega) (by omega)
  rw [show IntKind.wrap .i64 ((0 : Int)+1)=((1 : Nat) : Int) from Ad9 0 (by omega),this,Aaa,Aaq rfl,Aaa,Aaq rfl]
theorem Ag2 (k : Nat) (E : List AaA) (x : Int) (h9 : E.length≤1000000) (ho : (outs E x).length≤12) (hs : (outs E x).Pairwise (· < ·)) (hk : 20<k) : ∀ (m i n : Nat) (acc : List Int),i+m=E.length→m<n→acc=outs (E.take i) x→AbE.L1 k E x n (i : Int) acc=some (outs E x)
 | 0,i,n+1,acc,h,_,ha=>by
  have : acc=outs E x:=by rw [ha,List.take_of_length_le (by omega)]
  subst this
  rw [AbE.L1,if_neg (by omega),Aob k _ ho hk hs,Aaa,Aaq rfl]
 | m+1,i,n+1,acc,h,hn,ha=>by
  have hi : i<E.length:=by omega
  have e : outs (E.take (i+1)) x=outs (E.take i) x++if E[i].From=x then [E[i].To] else []:=by
   rw [List.take_succ_eq_append_getElem hi]
   unfold outs
   rw [List.filter_append,List.map_append]
   congr 1
   rw [List.filter_cons]
   by_cases q : E[i].From=x
   ·rw [if_pos (by simpa using q),if_pos q]; rfl
   ·rw [if_neg (by simpa using q),if_neg q]; rfl
  have la : acc.length≤i:=by
   rw [ha]; unfold outs; rw [List.length_map]
   exact Nat.le_trans (List.length_filter_le _ _) (by rw [List.length_take]; omega)
  rw [AbE.L1,if_pos (by omega),Aa4 hi]
  unfold AbE.J2
  simp only [Ad9 i (by omega)]
  by_cases q : E[i].From=x
  ·rw [if_pos q,Aaq (by simp only [List.length_cons,List.length_nil]; omega)]
   exact Ag2 k E x h9 ho hs hk m (i+1) n _ (by omega) (by omega) (by rw [e,if_pos q,ha])
  ·rw [if_neg q]
   exact Ag2 k E x h9 ho hs hk m (i+1) n _ (by omega) (by omega) (by rw [e,if_neg q,ha,List.append_nil])
theorem Aop (k : Nat) (N : Int) (E : List AaA) (g : List Int) (x : Int) (h9 : E.length≤1000000) (hE : E.length<k) (ho : (outs E x).length≤12) (hs : (outs E x).Pairwise (· < ·)) (hk : 20<k) : AbE k N E g x=some (outs E x) :=
 Ag2 k E x h9 ho hs hk E.length 0 k [] (by omega) hE (by simp [outs])
def usB (m : List (Int×Bool)) (y : Int) : Bool:=(Ab4 m y).getD false
def stB (m : List (Int×Bool)) (a b : Int) (dr : Bool) (u y : Int) : Bool:=usB m y||(decide (u=a∧y=b)&&dr)
theorem An1 (k : Nat) (y N : Int) (E : List AaA) (g : List Int) (lv a b : Int) (m : List (Int×Bool)) (dr : Bool) (u : Int) : Abh k y N E g lv a b m dr u=some (stB m a b dr u y):=by
 unfold Abh stB usB AgG
 have e : (if u=a then if y=b then some dr else some false else some false)=some (decide (u=a∧y=b)&&dr):=by
  by_cases h1 : u=a <;> by_cases h2 : y=b <;> simp [h1,h2]
 rw [e]
 cases Ab4 m y with
 | none=>simp
 | some v=>cases v <;> simp
theorem AjR (k : Nat) (L : List Int) (N : Int) (E : List AaA) (g : List Int) (lv a b : Int) (mm : List (Int×Bool)) (dr : Bool) (u : Int) (h9 : L.length≤1000000) : ∀ (m i n : Nat),i+m=L.length→m<n→(∀ x ∈ L.take i,(!stB mm a b dr u x)=true)→∃ r,AaZ.L1 k L N E g lv a b mm dr u n (i : Int)=some r ∧
 ((r = -1∧∀ x ∈ L,(!stB mm a b dr u x)=true)∨∃ j : Nat,∃ h : j<L.length,r=(j : Int)∧(!stB mm a b dr u L[j])=false∧∀ x ∈ L.take j,(!stB mm a b dr u x)=true)
 | 0,i,n+1,e,_,ha=>by
  rw [AaZ.L1,if_neg (by omega)]
  exact ⟨-1,rfl,.inl ⟨rfl,fun x hx=>ha x (by rw [List.take_of_length_le (by omega)]; exact hx)⟩⟩
 | m+1,i,n+1,e,hn,ha=>by
  have hi : i<L.length:=by omega
  rw [AaZ.L1,if_pos (by omega),Aaq (by omega),Aa4 hi,An1,Aaa]
  by_cases q : stB mm a b dr u L[i]=true
  ·rw [if_pos q]; exact ⟨i,rfl,.inr ⟨i,hi,rfl,by simp [q],ha⟩⟩
  ·rw [if_neg q,Ad9 i (by omega)]
   refine AjR k L N E g lv a b mm dr u h9 m (i+1) n (by omega) (by omega) fun x hx=>?_
   rw [List.take_succ_eq_append_getElem hi,List.mem_append,List.mem_singleton] at hx
   rcases hx with hx | rfl
   ·exact ha x hx
   ·simpa using q
theorem AhC (k : Nat) (L : List Int) (N : Int) (E : List AaA) (g : List Int) (lv a b : Int) (mm : List (Int×Bool)) (dr : Bool) (u : Int) (h9 : L.length≤1000000) : ∀ (m j i n : Nat) (l : List Int),j+m=L.length→m<n→Del (fun x => !stB mm a b dr u x) L l i j→AaO.L1 k N E g lv a b mm dr u n (i : Int) (j : Int) l=some (L.filter fun x => !stB mm a b dr u x)
 | 0,j,i,n+1,l,e,_,D=>by
  have h1:=D.len; have h2:=D.lt; have h3:=D.le
  rw [AaO.L1,if_neg (by omega),Aaq (by omega),Aaq (by omega)]
  unfold Am8
  simp only []
  rw [show ((i : Int)).toNat=i by omega,Aaq (by simp; omega),Akb (by omega),D.kept,List.take_of_length_le (by omega)]
 | m+1,j,i,n+1,l,e,hn,D=>by
  have h1:=D.len; have h2:=D.lt; have h3:=D.le
  have hj : j<L.length:=by omega
  rw [AaO.L1,if_pos (by omega),Aaq (by omega),Aa4 (show j<l.length by omega),An1,Aaa,D.at (by omega)]
  unfold AaO.J2
  simp only [Ad9 j (by omega),Ad9 i (by omega)]
  by_cases q : (!stB mm a b dr u L[j])=true
  ·rw [if_pos q,Aaq (by omega),show ((i : Int)).toNat=i by omega]
   exact AhC k L N E g lv a b mm dr u h9 m (j+1) (i+1) n _ (by omega) (by omega) (D.keep hj q)
  ·rw [if_neg q]
   exact AhC k L N E g lv a b mm dr u h9 m (j+1) i n _ (by omega) (by omega) (D.pass hj (by simpa using q))
theorem ApL (k : Nat) (L : List Int) (N : Int) (E : List AaA) (g : List Int) (lv a b : Int) (mm : List (Int×Bool)) (dr : Bool) (u : Int) (hk : L.length<k) (h9 : L.length≤1000000) : AaO k L N E g lv a b mm dr u=some (L.filter fun x => !stB mm a b dr u x):=by
 unfold AaO AaZ
 obtain ⟨r,e1,h⟩:=AjR k L N E g lv a b mm dr u h9 L.length 0 k (by omega) hk (by simp)
 rw [show AaZ.L1 k L N E g lv a b mm dr u k 0=some r from e1,Aaa]
 rcases h with ⟨rfl,h⟩ | ⟨j,hj,rfl,h1,h2⟩
 ·rw [if_pos rfl,List.filter_eq_self.2 h]
 ·rw [if_neg (by omega),Ad9 j (by omega)]
  exact AhC k L N E g lv a b mm dr u h9 (L.length-(j+1)) (j+1) j k L (by omega) (by omega) (Del.first hj h2 h1)
def stp (E : List AaA) (lv a b : Int) (m : List (Int×Bool)) (dr : Bool) (u : Int) : List Int:=(outs (E.filter (lvE lv)) u).filter fun y => !stB m a b dr u y
theorem AnD (k : Nat) (N : Int) (E : List AaA) (g : List Int) (lv a b : Int) (m : List (Int×Bool)) (dr : Bool) (u : Int) (hE : E.length<k) (h9 : E.length≤1000000) (hg9 : g.length≤1000000) (ho : (outs (E.filter (lvE lv)) u).length≤12) (hs : (outs (E.filter (lvE lv)) u).Pairwise (· < ·)) (hk : 20<k) : AbN k N E g lv a b m dr u=some (stp E lv a b m dr u):=by
 have hl:=List.length_filter_le (lvE lv) E
 unfold AbN
 rw [AmV k N E g lv hE (by omega) hg9,AhG,Aop k N _ g u (by omega) (by omega) ho hs hk,Aaa,ApL k _ N E g lv a b m dr u (by omega) (by omega),Aaa]
 rfl
theorem Aoa {E : List AaA} {lv a b : Int} {m : List (Int×Bool)} {dr : Bool} {u : Int} (hE : E.Pairwise fun a b=>bef a b=true) : (stp E lv a b m dr u).Pairwise (· < ·):=(Agc _ u (hE.filter _)).filter _
theorem Ao5 {E : List AaA} {lv a b : Int} {m : List (Int×Bool)} {dr : Bool} {u y : Int} : y ∈ stp E lv a b m dr u↔(∃ e ∈ E,lv≤e.Level∧e.From=u∧e.To=y)∧usB m y=false∧¬ (u=a∧y=b∧dr=true):=by
 unfold stp stB
 rw [List.mem_filter,AeO]
 simp only [List.mem_filter,lvE,decide_eq_true_eq,Bool.not_or,Bool.and_eq_true,Bool.not_eq_true',Bool.and_eq_false_imp]
 constructor
 ·rintro ⟨⟨e,⟨he,h1⟩,h2,h3⟩,h4,h5⟩
  exact ⟨⟨e,he,h1,h2,h3⟩,h4,fun q=>by have:=h5 ⟨q.1,q.2.1⟩; rw [q.2.2] at this; cases this⟩
 ·rintro ⟨⟨e,he,h1,h2,h3⟩,h4,h5⟩
  refine ⟨⟨e,⟨he,h1⟩,h2,h3⟩,h4,fun q=>?_⟩
  cases dr with
  | false=>rfl
  | true=>exact absurd ⟨q.1,q.2,rfl⟩ h5
end Go.TF
set_option linter.unusedVariables false
set_option linter.unusedSimpArgs false
namespace Go.TF
open Go Go.Abs
structure BI (N a : Int) (Q : Int→Int→Prop) (D : List Int) (f : Int→Int) (fm : List (Int×Int)) (bm : List (Int×List Int)) : Prop where
 nd : D.Nodup
 rg : ∀ v ∈ D,0≤v∧v<N
 fg : ∀ v,Ab4 fm v=if v ∈ D then some (f v) else none
 a0 : a ∈ D∧f a=0
 pr : ∀ v ∈ D,v≠a→∃ w,Q w v∧f v=f w+1
 cl : ∀ w y,Q w y→w ∈ D∧y ∈ D∧f y≤f w+1
 so : D.Pairwise fun x y=>f x≤f y
 ix : ∀ (i : Nat) (h : i<D.length),0≤f D[i]∧f D[i]≤i
 be : ∀ w y,w ∈ (Ab4 bm y).getD []↔Q w y∧f y=f w+1
 bk : KN bm∧∀ x ∈ bm.map (·.1),x ∈ D
theorem BI.congr {N a : Int} {Q Q' : Int→Int→Prop} {D : List Int} {f : Int→Int} {fm : List (Int×Int)} {bm : List (Int×List Int)} (h : BI N a Q D f fm bm) (e : ∀ w z,Q w z↔Q' w z) : BI N a Q' D f fm bm:=by
 have : Q=Q':=funext fun w=>funext fun z=>propext (e w z)
 subst this; exact h
theorem BI.len {N : Nat} {a : Int} {Q : Int→Int→Prop} {D : List Int} {f : Int→Int} {fm : List (Int×Int)} {bm : List (Int×List Int)} (h : BI N a Q D f fm bm) : D.length≤N:=nodup_range N D h.nd h.rg
theorem BI.blen {N : Nat} {a : Int} {Q : Int→Int→Prop} {D : List Int} {f : Int→Int} {fm : List (Int×Int)} {bm : List (Int×List Int)} (h : BI N a Q D f fm bm) : bm.length≤N:=by
 have:=nodup_range N (bm.map fun p : Int×List Int=>p.1) (show (bm.map (·.1)).Nodup from h.bk.1) fun x hx=>h.rg x (h.bk.2 x hx)
 simpa using this
theorem BI.f0 {N : Nat} {a : Int} {Q : Int→Int→Prop} {D : List Int} {f : Int→Int} {fm : List (Int×Int)} {bm : List (Int×List Int)} (h : BI N a Q D f fm bm) {v : Int} (hv : v ∈ D) : 0≤f v∧f v<N:=by
 obtain ⟨i,hi,rfl⟩:=List.mem_iff_getElem.1 hv
 have:=h.ix i hi; have:=h.len; omega
theorem BI.add {N : Nat} {a : Int} {Q : Int→Int→Prop} {P W : List Int} {f : Int→Int} {fm : List (Int×Int)} {bm : List (Int×List Int)} {u y : Int} {r : List Int} (h : BI N a Q (P++W) f fm bm) (hW : W=u::r) (hw : ∀ v ∈ W,f v≤f u+1) (hy : y ∉ P++W) (yr : 0≤y∧y<N) :
 BI N a (fun w z=>Q w z∨(w=u∧z=y)) (P++(W++[y])) (fun v=>if v=y then f u+1 else f v) (AbC fm y (f u+1)) (AbC bm y ((Ab4 bm y).getD []++[u])):=by
 have hu : u ∈ P++W:=by rw [hW]; simp
 have huy : u≠y:=fun e=>hy (e ▸ hu)
 have ne : ∀ v,v ∈ P++W→v≠y:=fun v hv e=>hy (e ▸ hv)
 have hB : (Ab4 bm y).getD [] = []:=by
  rw [List.eq_nil_iff_forall_not_mem]
  intro w hw'
  exact hy (h.cl w y ((h.be w y).1 hw').1).2.1
 have le : ∀ x ∈ P++W,f x≤f u+1:=by
  intro x hx
  rcases List.mem_append.1 hx with hx | hx
  ·have so:=h.so
   rw [List.pairwise_append] at so
   have:=so.2.2 x hx u (by rw [hW]; simp)
   omega
  ·exact hw x hx
 rw [← List.append_assoc]
 refine ⟨?_,?_,?_,?_,?_,?_,?_,?_,?_,?_⟩
 ·rw [List.nodup_append]
  refine ⟨h.nd,by simp,fun x hx z hz=>?_⟩
  rw [List.mem_singleton] at hz
  subst hz; exact ne x hx
 ·intro v hv
  rcases List.mem_append.1 hv with hv | hv
  ·exact h.rg v hv
  ·rw [List.mem_singleton] at hv; subst hv; exact yr
 ·intro v
  rw [Abq,h.fg v]
  by_cases e : v=y
  ·subst e; simp
  ·rw [if_neg e]
   by_cases q : v ∈ P++W
   ·rw [if_pos q,if_pos (List.mem_append_left _ q),if_neg e]
   ·rw [if_neg q,if_neg (by rw [List.mem_append,List.mem_singleton]; exact fun z=>z.elim q e)]
 ·exact ⟨List.mem_append_left _ h.a0.1,by rw [if_neg (ne a h.a0.1)]; exact h.a0.2⟩
 ·intro v hv hva
  rcases List.mem_append.1 hv with hv | hv
  ·obtain ⟨w,q1,q2⟩:=h.pr v hv hva
   refine ⟨w,.inl q1,?_⟩
   rw [if_neg (ne v hv),if_neg (ne w (h.cl w v q1).1)]; exact q2
  ·rw [List.mem_singleton] at hv
   subst hv
   refine ⟨u,.inr ⟨rfl,rfl⟩,?_⟩
   rw [if_pos rfl,if_neg huy]
 ·rintro w z (q | ⟨rfl,rfl⟩)
  ·obtain ⟨c1,c2,c3⟩:=h.cl w z q
   refine ⟨List.mem_append_left _ c1,List.mem_append_left _ c2,?_⟩
   rw [if_neg (ne z c2),if_neg (ne w c1)]; exact c3
  ·refine ⟨List.mem_append_left _ hu,by simp,?_⟩
   rw [if_pos rfl,if_neg huy]; omega
 ·rw [List.pairwise_append]
  refine ⟨?_,by simp,fun x hx z hz=>?_⟩
  ·refine List.Pairwise.imp_of_mem (fun {x z} hx hz q=>?_) h.so
   rw [if_neg (ne x hx),if_neg (ne z hz)]; exact q
  ·rw [List.mem_singleton] at hz
   subst hz
   rw [if_neg (ne x hx),if_pos rfl]; exact le x hx
 ·intro i hi
  by_cases q : i<(P++W).length
  ·rw [List.getElem_append_left q,if_neg (ne _ (List.getElem_mem q))]
   exact h.ix i q
  ·have e : ((P++W)++[y])[i]=y:=by
    rw [List.getElem_append_right (by omega)]; simp
   rw [e,if_pos rfl]
   have hP : P.length<(P++W).length:=by rw [hW]; simp
   have hup : (P++W)[P.length]=u:=by
    rw [List.getElem_append_right (by omega)]; simp [hW]
   have:=h.ix P.length hP
   rw [hup] at this
   omega
 ·intro w z
  rw [Abq]
  by_cases e : z=y
  ·subst e
   rw [if_pos rfl,hB]
   simp only [Option.getD_some,List.nil_append,List.mem_singleton]
   constructor
   ·rintro rfl
    refine ⟨.inr (by simp),?_⟩
    rw [if_neg huy]; simp
   ·rintro ⟨q | q,_⟩
    ·exact absurd (h.cl w z q).2.1 hy
    ·exact q.1
  ·rw [if_neg e,h.be w z,if_neg e]
   constructor
   ·rintro ⟨q1,q2⟩
    exact ⟨.inl q1,by rw [if_neg (ne w (h.cl w z q1).1)]; exact q2⟩
   ·rintro ⟨q | q,q2⟩
    ·exact ⟨q,by rw [if_neg (ne w (h.cl w z q).1)] at q2; exact q2⟩
    ·exact absurd q.2 e
 ·refine ⟨h.bk.1.put _ _,fun x hx=>?_⟩
  rcases Age _ _ _ _ hx with q | q
  ·exact List.mem_append_left _ (h.bk.2 x q)
  ·subst q; simp
theorem BI.too {N : Nat} {a : Int} {Q : Int→Int→Prop} {P W : List Int} {f : Int→Int} {fm : List (Int×Int)} {bm : List (Int×List Int)} {u y : Int} {r : List Int} (h : BI N a Q (P++W) f fm bm) (hW : W=u::r) (hw : ∀ v ∈ W,f v≤f u+1) (hy : y ∈ P++W) :
 (f y=f u+1→BI N a (fun w z=>Q w z∨(w=u∧z=y)) (P++W) f fm (AbC bm y ((Ab4 bm y).getD []++[u])))∧(f y≠f u+1→BI N a (fun w z=>Q w z∨(w=u∧z=y)) (P++W) f fm bm):=by
 have hu : u ∈ P++W:=by rw [hW]; simp
 have le : ∀ x ∈ P++W,f x≤f u+1:=by
  intro x hx
  rcases List.mem_append.1 hx with hx | hx
  ·have so:=h.so
   rw [List.pairwise_append] at so
   have:=so.2.2 x hx u (by rw [hW]; simp)
   omega
  ·exact hw x hx
 have pr : ∀ v ∈ P++W,v≠a→∃ w,(Q w v∨(w=u∧v=y))∧f v=f w+1:=fun v hv hva=>by
  obtain ⟨w,q1,q2⟩:=h.pr v hv hva
  exact ⟨w,.inl q1,q2⟩
 have cl : ∀ w z,(Q w z∨(w=u∧z=y))→w ∈ P++W∧z ∈ P++W∧f z≤f w+1:=by
  rintro w z (q | ⟨rfl,rfl⟩)
  ·exact h.cl w z q
  ·exact ⟨hu,hy,le z hy⟩
 refine ⟨fun e=>⟨h.nd,h.rg,h.fg,h.a0,pr,cl,h.so,h.ix,fun w z=>?_,h.bk.1.put _ _,fun x hx=>?_⟩,fun e=>⟨h.nd,h.rg,h.fg,h.a0,pr,cl,h.so,h.ix,fun w z=>?_,h.bk⟩⟩
 ·rw [Abq]
  by_cases q : z=y
  ·subst q
   rw [if_pos rfl]
   simp only [Option.getD_some,List.mem_append,List.mem_singleton]
   rw [h.be w z]
   constructor
   ·rintro (⟨q1,q2⟩ | rfl)
    ·exact ⟨.inl q1,q2⟩
    ·exact ⟨.inr (by simp),e⟩
   ·rintro ⟨q1 | q1,q2⟩
    ·exact .inl ⟨q1,q2⟩
    ·exact .inr q1.1
  ·rw [if_neg q,h.be w z]
   constructor
   ·rintro ⟨q1,q2⟩; exact ⟨.inl q1,q2⟩
   ·rintro ⟨q1 | q1,q2⟩
    ·exact ⟨q1,q2⟩
    ·exact absurd q1.2 q
 ·rcases Age _ _ _ _ hx with q | q
  ·exact h.bk.2 x q
  ·exact q ▸ hy
 ·rw [h.be w z]
  constructor
  ·rintro ⟨q1,q2⟩; exact ⟨.inl q1,q2⟩
  ·rintro ⟨q1 | q1,q2⟩
   ·exact ⟨q1,q2⟩
   ·exfalso; apply e; rw [← q1.2,← q1.1]; exact q2
theorem Ak3 {bm : List (Int×List Int)} {c : Nat} {y u : Int} (hl : ∀ z,((Ab4 bm z).getD []).length≤c) : ∀ z,((Ab4 (AbC bm y ((Ab4 bm y).getD []++[u])) z).getD []).length≤c+1:=by
 intro z
 rw [Abq]
 have h1:=hl z; have h2:=hl y
 split
 ·simp only [Option.getD_some,List.length_append,List.length_cons,List.length_nil]; omega
 ·omega
theorem Aqa (k N : Nat) (hN : N≤64) (a u : Int) (S P : List Int) (hS : ∀ y ∈ S,0≤y∧y<N) (hS9 : S.length≤100001) (kb : Nat→(List (Int×Int))→(List (Int×(List Int)))→(List Int)→Option (List Int)) : ∀ (m i n o : Nat) (fm : List (Int×Int)) (bm : List (Int×List Int)) (q : List Int) (Q : Int→Int→Prop) (f : Int→Int) (r : List Int) (c : Nat),
 i+m=S.length→m<n→BI N a Q (P++q.drop o) f fm bm→q.drop o=u::r→(∀ v ∈ q.drop o,f v≤f u+1)→(∀ y,((Ab4 bm y).getD []).length≤c)→c+m≤1000000 →
 ∃ (o' : Nat) (fm' : List (Int×Int)) (bm' : List (Int×List Int)) (q' : List Int) (f' : Int→Int) (r' : List Int),AaC.L2 k u S kb n o (i : Int) fm bm q=kb (o'+1) fm' bm' q'∧BI N a (fun w z=>Q w z∨(w=u∧z ∈ S.drop i)) (P++q'.drop o') f' fm' bm'∧q'.drop o'=u::r'∧(∀ v ∈ q'.drop o',f' v≤f' u+1)∧(∀ y,((Ab4 bm' y).getD []).length≤c+m)
 | 0,i,n+1,o,fm,bm,q,Q,f,r,c,e,_,h,hq,hw,hl,hc=>by
  have l1 : o<q.length:=by
   have:=congrArg List.length hq
   rw [List.length_drop,List.length_cons] at this; omega
  rw [AaC.L2,if_neg (by omega),Aaq (by omega)]
  refine ⟨o,fm,bm,q,f,r,rfl,h.congr fun w z=>?_,hq,hw,hl⟩
  rw [List.drop_of_length_le (by omega)]; simp
 | m+1,i,n+1,o,fm,bm,q,Q,f,r,c,e,hn,h,hq,hw,hl,hc=>by
  have hi : i<S.length:=by omega
  have yr:=hS _ (List.getElem_mem hi)
  have l1 : o<q.length:=by
   have:=congrArg List.length hq
   rw [List.length_drop,List.length_cons] at this; omega
  have hu : u ∈ P++q.drop o:=by rw [hq]; simp
  have fu:=h.f0 hu
  have lD:=h.len
  have lW : (q.drop o).length≤64:=by rw [List.length_append] at lD; omega
  have bl:=h.blen
  have gu : Ab4 fm u=some (f u):=by rw [h.fg u,if_pos hu]
  have wu : IntKind.wrap .i64 (f u+1)=f u+1:=w64 (by omega) (by omega)
  have ih:=fun o fm bm q Q f r c=>Aqa k N hN a u S P hS hS9 kb m (i+1) n o fm bm q Q f r c (by omega) (by omega)
  rw [AaC.L2,if_pos (by omega),Aa4 hi]
  obtain ⟨y,hy⟩ : ∃ y,S[i]=y:=⟨_,rfl⟩
  rw [hy] at yr ⊢
  have hd : S.drop i=y::S.drop (i+1):=by rw [List.drop_eq_getElem_cons hi,hy]
  have fin : ∀ (o1 : Nat) (fm1 : List (Int×Int)) (bm1 : List (Int×List Int)) (q1 : List Int) (f1 : Int→Int) (r1 : List Int),BI N a (fun w z=>Q w z∨(w=u∧z=y)) (P++q1.drop o1) f1 fm1 bm1→q1.drop o1=u::r1→(∀ v ∈ q1.drop o1,f1 v≤f1 u+1)→(∀ y,((Ab4 bm1 y).getD []).length≤c+1) →
   ∃ (o' : Nat) (fm' : List (Int×Int)) (bm' : List (Int×List Int)) (q' : List Int) (f' : Int→Int) (r' : List Int),AaC.L2 k u S kb n o1 ((i+1 : Nat) : Int) fm1 bm1 q1=kb (o'+1) fm' bm' q'∧BI N a (fun w z=>Q w z∨(w=u∧z ∈ S.drop i)) (P++q'.drop o') f' fm' bm'∧q'.drop o'=u::r'∧(∀ v ∈ q'.drop o',f' v≤f' u+1)∧(∀ y,((Ab4 bm' y).getD []).length≤c+(m+1)):=by
   intro o1 fm1 bm1 q1 f1 r1 k1 k2 k3 k4
   obtain ⟨o',fm',bm',q',f',r',g1,g2,g3,g4,g5⟩:=ih o1 fm1 bm1 q1 _ f1 r1 (c+1) k1 k2 k3 k4 (by omega)
   refine ⟨o',fm',bm',q',f',r',g1,g2.congr fun w z=>?_,g3,g4,fun y=>by have:=g5 y; omega⟩
   rw [hd,List.mem_cons]
   constructor
   ·rintro ((z1 | z1) | z1)
    ·exact .inl z1
    ·exact .inr ⟨z1.1,.inl z1.2⟩
    ·exact .inr ⟨z1.1,.inr z1.2⟩
   ·rintro (z1 | ⟨z1,z2 | z2⟩)
    ·exact .inl (.inl z1)
    ·exact .inl (.inr ⟨z1,z2⟩)
    ·exact .inr ⟨z1,z2⟩
  have put : ∀ (fm1 : List (Int×Int)) (q1 : List Int) (o1 : Nat),AaC.J6 k u (i : Int) bm y fm1 q1 o1 (fun v16_ v17_ v18_ v19_ v20_=>AaC.L2 k u S kb n v16_ v17_ v18_ v19_ v20_) true=AaC.L2 k u S kb n o1 ((i+1 : Nat) : Int) fm1 (AbC bm y ((Ab4 bm y).getD []++[u])) q1:=by
   intro fm1 q1 o1
   unfold AaC.J6 AaC.J3
   have lb:=hl y
   rw [if_pos rfl,Aaq (by omega)]
   simp only [Ad9 i (by omega)]
   unfold AgG
   cases g : Ab4 bm y with
   | none=>simp only [Option.getD_none,List.nil_append]; rw [Aaq (by simp only [List.length_cons,List.length_nil]; omega)]
   | some l =>
    rw [g] at lb
    simp only [Option.getD_some] at lb ⊢
    rw [Aaq (by simp only [List.length_cons,List.length_nil]; omega)]
  by_cases hD : y ∈ P++q.drop o
  ·have gy : Ab4 fm y=some (f y):=by rw [h.fg y,if_pos hD]
   have T:=h.too hq hw hD
   rw [gy]
   show (∃ o' fm' bm' q' f' r',AaC.J4 k u o (i : Int) fm bm q y _ (f y) true=_∧_)
   unfold AaC.J4
   rw [if_neg (by simp)]
   unfold AaC.J5
   rw [gu]
   show (∃ o' fm' bm' q' f' r',AaC.J6 k u (i : Int) bm y fm q o _ (f y==IntKind.wrap .i64 (f u+1))=_∧_)
   rw [wu]
   by_cases z : f y=f u+1
   ·rw [show (f y==f u+1)=true by simpa using z,put]
    exact fin o fm _ q f r (T.1 z) hq hw (Ak3 hl)
   ·rw [show (f y==f u+1)=false by simpa using z]
    unfold AaC.J6 AaC.J3
    rw [if_neg (by simp),Ad9 i (by omega)]
    exact fin o fm bm q f r (T.2 z) hq hw (fun y=>by have:=hl y; omega)
  ·have gy : Ab4 fm y=none:=by rw [h.fg y,if_neg hD]
   have huy : u≠y:=fun e=>hD (e ▸ hu)
   rw [gy]
   show (∃ o' fm' bm' q' f' r',AaC.J4 k u o (i : Int) fm bm q y _ 0 false=_∧_)
   unfold AaC.J4
   rw [if_pos (by simp),gu]
   show (∃ o' fm' bm' q' f' r',AaC.J7 k u o (i : Int) bm q y _ (AbC fm y (IntKind.wrap .i64 (f u+1))) (IntKind.wrap .i64 (f u+1))=_∧_)
   rw [wu]
   unfold AaC.J7
   rw [Aaq ⟨by simp only [List.length_cons,List.length_nil]; omega,by omega⟩]
   unfold AaC.J5
   rw [Abq,if_neg huy,gu]
   show (∃ o' fm' bm' q' f' r',AaC.J6 k u (i : Int) bm y (AbC fm y (f u+1)) (q.drop o++[y]) 0 _ (f u+1==IntKind.wrap .i64 (f u+1))=_∧_)
   rw [wu,show (f u+1==f u+1)=true by simp,put]
   have A:=h.add hq hw hD yr
   refine fin 0 _ _ _ (fun v=>if v=y then f u+1 else f v) (r++[y]) (by rw [List.drop_zero]; exact A) (by rw [List.drop_zero,hq]; rfl) ?_ (Ak3 hl)
   intro v hv
   rw [List.drop_zero] at hv
   rw [if_neg huy]
   rcases List.mem_append.1 hv with hv | hv
   ·rw [if_neg (show ¬ v=y from fun e=>hD (e ▸ List.mem_append_right _ hv))]; exact hw v hv
   ·rw [List.mem_singleton] at hv; rw [if_pos hv]; omega
theorem Aqb (k N : Nat) (hN : N≤64) (E : List AaA) (g : List Int) (lv a b : Int) (mm : List (Int×Bool)) (dr : Bool) (len : Int) (st : Int→List Int) (hst : ∀ u : Int,0≤u→u<(N : Int)→AbN k (N : Int) E g lv a b mm dr u=some (st u)) (hr : ∀ u y : Int,y ∈ st u→0≤y∧y<(N : Int)) (hl : ∀ u,(st u).length≤100) (hk : 101<k) :
 ∀ (m n o : Nat) (fm : List (Int×Int)) (bm : List (Int×List Int)) (q : List Int) (Q : Int→Int→Prop) (f : Int→Int) (P : List Int),P.length+m=N+1→m<n→BI N a Q (P++q.drop o) f fm bm→(∀ u r,q.drop o=u::r→∀ v ∈ q.drop o,f v≤f u+1)→(∀ w z,Q w z↔w ∈ P∧z ∈ st w)→(∀ y,((Ab4 bm y).getD []).length≤101*P.length)→o≤q.length →
 ∃ (fm' : List (Int×Int)) (bm' : List (Int×List Int)) (D : List Int) (f' : Int→Int),AaC.L1 k (N : Int) E g lv a b mm dr len n o fm bm q=AgG (Ab4 fm' b) (fun d=>AaC.J8 k (N : Int) E g lv a b mm dr len bm' d true) (AaC.J8 k (N : Int) E g lv a b mm dr len bm' 0 false)∧BI N a (fun w z=>w ∈ D∧z ∈ st w) D f' fm' bm'∧(∀ y,((Ab4 bm' y).getD []).length≤101*65)
 | m,n+1,o,fm,bm,q,Q,f,P,e,hn,h,hw,hQ,hb,ho=>by
  have lD:=h.len
  have bl:=h.blen
  rw [List.length_append,List.length_drop] at lD
  rw [AaC.L1]
  by_cases z : 0<(((q.length-o : Nat)) : Int)
  ·have l1 : o<q.length:=by omega
   obtain ⟨m',rfl⟩ : ∃ m',m=m'+1:=⟨m-1,by omega⟩
   obtain ⟨u,hu⟩ : ∃ u,q[o]=u:=⟨_,rfl⟩
   have hq : q.drop o=u::q.drop (o+1):=by rw [List.drop_eq_getElem_cons l1,hu]
   have hmem : u ∈ P++q.drop o:=by rw [hq]; simp
   have ur:=h.rg u hmem
   rw [if_pos z,Aaq ⟨by omega,by omega,by omega⟩]
   have e0 : idx q (((o+(0 : Int).toNat : Nat)) : Int)=fun (F : Int→Option (List Int))=>F u:=by
    funext F
    rw [show o+(0 : Int).toNat=o by omega,Aa4 l1,hu]
   rw [e0]
   simp only []
   rw [hst u ur.1 ur.2,Aaa]
   obtain ⟨o',fm',bm',q',f',r',g1,g2,g3,g4,g5⟩:=Aqa k N hN a u (st u) P (hr u) (by have:=hl u; omega) (fun v10_ v11_ v12_ v13_=>AaC.L1 k (N : Int) E g lv a b mm dr len n v10_ v11_ v12_ v13_) (st u).length 0 k o fm bm q Q f (q.drop (o+1)) (101*P.length) (by omega) (by have:=hl u; omega) h hq (hw u _ hq) hb (by have:=hl u; omega)
   rw [show AaC.L2 k u (st u) (fun v10_ v11_ v12_ v13_=>AaC.L1 k (N : Int) E g lv a b mm dr len n v10_ v11_ v12_ v13_) k o 0 fm bm q=_ from g1]
   have ed : q'.drop (o'+1)=r':=by
    have:=congrArg (List.drop 1) g3
    rw [List.drop_drop] at this
    exact this
   have el : o'<q'.length:=by
    have:=congrArg List.length g3
    rw [List.length_drop,List.length_cons] at this; omega
   have eD : P++q'.drop o'=(P++[u])++q'.drop (o'+1):=by rw [ed,g3,List.append_assoc]; rfl
   rw [eD] at g2
   refine Aqb k N hN E g lv a b mm dr len st hst hr hl hk m' n (o'+1) fm' bm' q' _ f' (P++[u]) (by rw [List.length_append,List.length_singleton]; omega) (by omega) g2 ?_ ?_ ?_ (by omega)
   ·intro u2 r2 hu2 v hv
    have so:=g2.so
    rw [List.pairwise_append] at so
    have h1:=so.2.2 u (by simp) u2 (by rw [hu2]; simp)
    have h2:=g4 v (by rw [g3,← ed]; exact List.mem_cons_of_mem _ hv)
    omega
   ·intro w z
    rw [hQ w z,List.drop_zero,List.mem_append,List.mem_singleton]
    constructor
    ·rintro (⟨q1,q2⟩ | ⟨rfl,q2⟩)
     ·exact ⟨.inl q1,q2⟩
     ·exact ⟨.inr rfl,q2⟩
    ·rintro ⟨q1 | q1,q2⟩
     ·exact .inl ⟨q1,q2⟩
     ·subst q1; exact .inr ⟨rfl,q2⟩
   ·intro y
    have:=g5 y; have:=hl u
    rw [List.length_append,List.length_singleton]; omega
  ·have l1 : q.drop o = []:=List.drop_of_length_le (by omega)
   rw [if_neg z,Aaq (by omega)]
   rw [l1,List.append_nil] at h
   exact ⟨fm,bm,P,f,rfl,h.congr hQ,fun y=>by have:=hb y; omega⟩
structure Bf (st : Int→List Int) (a : Int) (D : List Int) (f : Int→Int) : Prop where
 a0 : a ∈ D∧f a=0
 f0 : ∀ v ∈ D,0≤f v
 pr : ∀ v ∈ D,v≠a→∃ w ∈ D,v ∈ st w∧f v=f w+1
 cl : ∀ w ∈ D,∀ y ∈ st w,y ∈ D∧f y≤f w+1
theorem Bf.le {st : Int→List Int} {a : Int} {D D' : List Int} {f f' : Int→Int} (h : Bf st a D f) (h' : Bf st a D' f') : ∀ (n : Nat) (v : Int),v ∈ D→f v=n→v ∈ D'∧f' v≤f v
 | 0,v,hv,e=>by
  by_cases q : v=a
  ·subst q; exact ⟨h'.a0.1,by rw [h'.a0.2,h.a0.2]; exact Int.le_refl _⟩
  ·obtain ⟨w,w1,w2,w3⟩:=h.pr v hv q
   have:=h.f0 w w1; omega
 | n+1,v,hv,e=>by
  by_cases q : v=a
  ·subst q; exact ⟨h'.a0.1,by rw [h'.a0.2,h.a0.2]; exact Int.le_refl _⟩
  ·obtain ⟨w,w1,w2,w3⟩:=h.pr v hv q
   obtain ⟨k1,k2⟩:=Bf.le h h' n w w1 (by omega)
   obtain ⟨k3,k4⟩:=h'.cl w k1 v w2
   exact ⟨k3,by omega⟩
theorem BI.bf {N : Nat} {a : Int} {st : Int→List Int} {D : List Int} {f : Int→Int} {fm : List (Int×Int)} {bm : List (Int×List Int)} (h : BI N a (fun w z=>w ∈ D∧z ∈ st w) D f fm bm) : Bf st a D f :=
 ⟨h.a0,fun v hv=>(h.f0 hv).1,fun v hv q=>by obtain ⟨w,w1,w2⟩:=h.pr v hv q; exact ⟨w,w1.1,w1.2,w2⟩,fun w hw y hy=>(h.cl w y ⟨hw,hy⟩).2⟩
inductive Sp (st : Int→List Int) (b : Int) (D : List Int) (f : Int→Int) : Int→Prop
 | b : Sp st b D f b
 | s {v w : Int} (hw : Sp st b D f w) (hv : v ∈ D) (h : w ∈ st v) (e : f w=f v+1) : Sp st b D f v
theorem Sp.in {st : Int→List Int} {b : Int} {D : List Int} {f : Int→Int} (hb : b ∈ D) {v : Int} (h : Sp st b D f v) : v ∈ D:=by
 cases h with
 | b=>exact hb
 | s _ hv _ _=>exact hv
theorem Bf.back {st : Int→List Int} {a b : Int} {D : List Int} {f : Int→Int} (h : Bf st a D f) (hb : b ∈ D) : ∀ (n : Nat) (v : Int),Sp st b D f v→f v=n→Sp st b D f a
 | 0,v,s,e=>by
  by_cases q : v=a
  ·exact q ▸ s
  ·obtain ⟨w,w1,w2,w3⟩:=h.pr v (s.in hb) q
   have:=h.f0 w w1; omega
 | n+1,v,s,e=>by
  by_cases q : v=a
  ·exact q ▸ s
  ·obtain ⟨w,w1,w2,w3⟩:=h.pr v (s.in hb) q
   exact Bf.back h hb n w (.s s w1 w2 w3) (by omega)
theorem Bf.start {st : Int→List Int} {a b : Int} {D : List Int} {f : Int→Int} (h : Bf st a D f) (hb : b ∈ D) : Sp st b D f a:=h.back hb _ b .b (Int.toNat_of_nonneg (h.f0 b hb)).symm
def Nx (st : Int→List Int) (b : Int) (D : List Int) (f : Int→Int) (u y : Int) : Prop:=(y ∈ st u∧Sp st b D f y∧f y=f u+1)∧∀ z ∈ st u,Sp st b D f z→f z=f u+1→y≤z
inductive IsW (st : Int→List Int) (b : Int) (D : List Int) (f : Int→Int) : Int→List Int→Prop
 | b : IsW st b D f b [b]
 | s {u y : Int} {l : List Int} (hu : u≠b) (hy : Nx st b D f u y) (h : IsW st b D f y l) : IsW st b D f u (u::l)
structure GI (N : Int) (G : List Int) (gm : List (Int×Bool)) : Prop where
 nd : G.Nodup
 rg : ∀ v ∈ G,0≤v∧v<N
 gg : ∀ v,Ab4 gm v=if v ∈ G then some true else none
theorem GI.add {N : Int} {G : List Int} {gm : List (Int×Bool)} (h : GI N G gm) {y : Int} (hy : y ∉ G) (yr : 0≤y∧y<N) : GI N (G++[y]) (AbC gm y true):=by
 refine ⟨?_,?_,fun v=>?_⟩
 ·rw [List.nodup_append]
  refine ⟨h.nd,by simp,fun x hx z hz=>?_⟩
  rw [List.mem_singleton] at hz
  subst hz; exact fun e=>hy (e ▸ hx)
 ·intro v hv
  rcases List.mem_append.1 hv with hv | hv
  ·exact h.rg v hv
  ·rw [List.mem_singleton] at hv; subst hv; exact yr
 ·rw [Abq,h.gg v]
  by_cases e : v=y
  ·subst e; simp
  ·rw [if_neg e]
   by_cases q : v ∈ G
   ·rw [if_pos q,if_pos (List.mem_append_left _ q)]
   ·rw [if_neg q,if_neg (by rw [List.mem_append,List.mem_singleton]; exact fun z=>z.elim q e)]
theorem An9 (k N : Nat) (hN : N≤64) (x : Int) (S P : List Int) (hS : ∀ y ∈ S,0≤y∧y<(N : Int)) (hS9 : S.length≤1000000) (kb : Nat→(List (Int×Bool))→(List Int)→Option (List Int)) : ∀ (m i n o : Nat) (gm : List (Int×Bool)) (q r : List Int),i+m=S.length→m<n→GI N (P++q.drop o) gm→q.drop o=x::r →
 ∃ (o' : Nat) (gm' : List (Int×Bool)) (q' r' : List Int),AaC.L11 k S (S.length : Int) kb n o (i : Int) gm q=kb (o'+1) gm' q'∧GI N (P++q'.drop o') gm'∧q'.drop o'=x::r'∧∀ v,v ∈ P++q'.drop o'↔v ∈ P++q.drop o∨v ∈ S.drop i
 | 0,i,n+1,o,gm,q,r,e,_,h,hq=>by
  have l1 : o<q.length:=by
   have:=congrArg List.length hq
   rw [List.length_drop,List.length_cons] at this; omega
  rw [AaC.L11,if_neg (by omega),Aaq (by omega)]
  refine ⟨o,gm,q,r,rfl,h,hq,fun v=>?_⟩
  rw [List.drop_of_length_le (show S.length≤i by omega)]; simp
 | m+1,i,n+1,o,gm,q,r,e,hn,h,hq=>by
  have hi : i<S.length:=by omega
  have yr:=hS _ (List.getElem_mem hi)
  have l1 : o<q.length:=by
   have:=congrArg List.length hq
   rw [List.length_drop,List.length_cons] at this; omega
  have lW:=nodup_range N _ h.nd h.rg
  rw [List.length_append] at lW
  have ih:=fun o gm q r=>An9 k N hN x S P hS hS9 kb m (i+1) n o gm q r (by omega) (by omega)
  rw [AaC.L11,if_pos (by omega),Aa4 hi]
  obtain ⟨y,hy⟩ : ∃ y,S[i]=y:=⟨_,rfl⟩
  rw [hy] at yr ⊢
  have hd : S.drop i=y::S.drop (i+1):=by rw [List.drop_eq_getElem_cons hi,hy]
  unfold AaC.J12
  simp only [Ad9 i (by omega)]
  by_cases hG : y ∈ P++q.drop o
  ·rw [h.gg y,if_pos hG]
   unfold AgG
   simp only [Bool.not_true,Bool.false_eq_true,if_false]
   obtain ⟨o',gm',q',r',g1,g2,g3,g4⟩:=ih o gm q r h hq
   refine ⟨o',gm',q',r',g1,g2,g3,fun v=>?_⟩
   rw [g4 v,hd,List.mem_cons]
   constructor
   ·rintro (z | z)
    ·exact .inl z
    ·exact .inr (.inr z)
   ·rintro (z | z | z)
    ·exact .inl z
    ·exact .inl (z ▸ hG)
    ·exact .inr z
  ·rw [h.gg y,if_neg hG]
   unfold AgG
   simp only []
   rw [Aaq ⟨by simp only [List.length_cons,List.length_nil]; omega,by omega⟩]
   have A:=h.add hG yr
   rw [List.append_assoc] at A
   obtain ⟨o',gm',q',r',g1,g2,g3,g4⟩:=ih 0 (AbC gm y true) (q.drop o++[y]) (r++[y]) (by rw [List.drop_zero]; exact A) (by rw [List.drop_zero,hq]; rfl)
   refine ⟨o',gm',q',r',g1,g2,g3,fun v=>?_⟩
   rw [g4 v,hd,List.mem_cons,List.drop_zero,← List.append_assoc,List.mem_append,List.mem_singleton]
   constructor
   ·rintro ((z | z) | z)
    ·exact .inl z
    ·exact .inr (.inl z)
    ·exact .inr (.inr z)
   ·rintro (z | z | z)
    ·exact .inl (.inl z)
    ·exact .inl (.inr z)
    ·exact .inr z
theorem Aqq (k N : Nat) (hN : N≤64) (E : List AaA) (g : List Int) (lv a b : Int) (mm : List (Int×Bool)) (dr : Bool) (st : Int→List Int) (D : List Int) (f : Int→Int) (fm : List (Int×Int)) (bm : List (Int×List Int)) (B : BI N a (fun w z=>w ∈ D∧z ∈ st w) D f fm bm) (hb : b ∈ D) (hbl : ∀ y,((Ab4 bm y).getD []).length≤101*65) (hk : 7001<k) :
 ∀ (m n o : Nat) (gm : List (Int×Bool)) (q P : List Int),P.length+m=N+1→m<n→GI N (P++q.drop o) gm→b ∈ P++q.drop o→(∀ v ∈ P++q.drop o,Sp st b D f v)→(∀ w ∈ P,∀ v ∈ (Ab4 bm w).getD [],v ∈ P++q.drop o) →
  ∃ gm' : List (Int×Bool),AaC.L9 k (N : Int) E g lv a b mm dr bm n o gm q=AaC.L13 k (N : Int) E g lv a b mm dr bm gm' k [a] a∧(∀ v,Sp st b D f v→Ab4 gm' v=some true)∧(∀ v,¬ Sp st b D f v→Ab4 gm' v=none)
 | m,n+1,o,gm,q,P,e,hn,h,b1,hs,hc=>by
  have lD:=nodup_range N _ h.nd h.rg
  rw [List.length_append,List.length_drop] at lD
  rw [AaC.L9]
  by_cases z : 0<(((q.length-o : Nat)) : Int)
  ·have l1 : o<q.length:=by omega
   obtain ⟨m',rfl⟩ : ∃ m',m=m'+1:=⟨m-1,by omega⟩
   obtain ⟨x,hx⟩ : ∃ x,q[o]=x:=⟨_,rfl⟩
   have hq : q.drop o=x::q.drop (o+1):=by rw [List.drop_eq_getElem_cons l1,hx]
   have hmem : x ∈ P++q.drop o:=by rw [hq]; simp
   have sx:=hs x hmem
   rw [if_pos z,Aaq ⟨by omega,by omega,by omega⟩]
   have e0 : idx q (((o+(0 : Int).toNat : Nat)) : Int)=fun (F : Int→Option (List Int))=>F x:=by
    funext F
    rw [show o+(0 : Int).toNat=o by omega,Aa4 l1,hx]
   rw [e0]
   simp only []
   have go : ∀ S : List Int,S=(Ab4 bm x).getD []→∃ gm' : List (Int×Bool),AaC.J10 k o gm q (fun v41_ v42_ v43_=>AaC.L9 k (N : Int) E g lv a b mm dr bm n v41_ v42_ v43_) S (S.length : Int)=AaC.L13 k (N : Int) E g lv a b mm dr bm gm' k [a] a∧(∀ v,Sp st b D f v→Ab4 gm' v=some true)∧(∀ v,¬ Sp st b D f v→Ab4 gm' v=none):=by
    intro S hS
    have sS : ∀ y ∈ S,Sp st b D f y:=fun y hy=>by
     have:=(B.be y x).1 (by rw [← hS]; exact hy)
     exact .s sx this.1.1 this.1.2 this.2
    have rS : ∀ y ∈ S,0≤y∧y<(N : Int):=fun y hy=>B.rg y ((sS y hy).in hb)
    have lS : S.length≤101*65:=by rw [hS]; exact hbl x
    unfold AaC.J10
    obtain ⟨o',gm',q',r',g1,g2,g3,g4⟩:=An9 k N hN x S P rS (by omega) (fun v41_ v42_ v43_=>AaC.L9 k (N : Int) E g lv a b mm dr bm n v41_ v42_ v43_) S.length 0 k o gm q (q.drop (o+1)) (by omega) (by omega) h hq
    rw [show AaC.L11 k S (S.length : Int) (fun v41_ v42_ v43_=>AaC.L9 k (N : Int) E g lv a b mm dr bm n v41_ v42_ v43_) k o 0 gm q=_ from g1]
    have ed : q'.drop (o'+1)=r':=by
     have:=congrArg (List.drop 1) g3
     rw [List.drop_drop] at this
     exact this
    have eD : P++q'.drop o'=(P++[x])++q'.drop (o'+1):=by rw [ed,g3,List.append_assoc]; rfl
    rw [eD] at g2 g4
    rw [List.drop_zero] at g4
    refine Aqq k N hN E g lv a b mm dr st D f fm bm B hb hbl hk m' n (o'+1) gm' q' (P++[x]) (by rw [List.length_append,List.length_singleton]; omega) (by omega) g2 ((g4 b).2 (.inl b1)) (fun v hv=>?_) (fun w hw v hv=>?_)
    ·rcases (g4 v).1 hv with z | z
     ·exact hs v z
     ·exact sS v z
    ·rw [List.mem_append,List.mem_singleton] at hw
     rcases hw with hw | rfl
     ·exact (g4 v).2 (.inl (hc w hw v hv))
     ·exact (g4 v).2 (.inr (by rw [hS]; exact hv))
   unfold AgG
   cases gx : Ab4 bm x with
   | none=>exact go [] (by rw [gx]; rfl)
   | some l=>exact go l (by rw [gx]; rfl)
  ·have l1 : q.drop o = []:=List.drop_of_length_le (by omega)
   rw [if_neg z]
   rw [l1,List.append_nil] at h b1 hs
   have all : ∀ v,Sp st b D f v→v ∈ P:=by
    intro v sv
    induction sv with
    | b=>exact b1
    | s hw hv h1 h2 ih =>
     rename_i v w
     have:=hc w ih v ((B.be v w).2 ⟨⟨hv,h1⟩,h2⟩)
     rw [l1,List.append_nil] at this; exact this
   refine ⟨gm,rfl,fun v sv=>by rw [h.gg v,if_pos (all v sv)],fun v sv=>by rw [h.gg v,if_neg (fun q=>sv (hs v q))]⟩
theorem Aqc (k : Nat) (y : Int) (gm : List (Int×Bool)) (bm : List (Int×List Int)) (u : Int) {p : Prop} [Decidable p] (h1 : p→Ab4 gm y=some true) (h2 : ¬ p→Ab4 gm y=none) (hl : ((Ab4 bm y).getD []).length≤1000000) (hk : ((Ab4 bm y).getD []).length<k) : Abe k y gm bm u=some (decide (p∧u ∈ (Ab4 bm y).getD [])):=by
 unfold Abe AgG
 by_cases q : p
 ·rw [h1 q]
  simp only [if_true]
  cases e : Ab4 bm y with
  | none=>simp only [Option.getD_none]; rw [AgR k [] u (by simp; omega) (by simp),Aaa]; simp
  | some l =>
   rw [e] at hl hk
   simp only [Option.getD_some] at hl hk ⊢
   rw [AgR k l u hk hl,Aaa]; simp [q]
 ·rw [h2 q]; simp [q]
theorem Akn (k : Nat) (L : List Int) (gm : List (Int×Bool)) (bm : List (Int×List Int)) (u : Int) (c : Int→Bool) (hc : ∀ y,Abe k y gm bm u=some (c y)) (h9 : L.length≤1000000) : ∀ (m i n : Nat),i+m=L.length→m<n→(∀ (j : Nat) (h : j<L.length),j<i→c L[j]=false)→(∃ y ∈ L,c y=true)→∃ (j : Nat) (h : j<L.length),Aaj.L1 k L gm bm u n (i : Int)=some (j : Int)∧c L[j]=true∧∀ (i : Nat) (h : i<L.length),i<j→c L[i]=false
 | 0,i,n+1,e,_,ha,hex=>by
  obtain ⟨y,hy,hcy⟩:=hex
  obtain ⟨j,hj,rfl⟩:=List.mem_iff_getElem.1 hy
  rw [ha j hj (by omega)] at hcy; cases hcy
 | m+1,i,n+1,e,hn,ha,hex=>by
  have hi : i<L.length:=by omega
  rw [Aaj.L1,if_pos (by omega),Aa4 hi,hc,Aaa]
  by_cases q : c L[i]=true
  ·rw [if_pos q]; exact ⟨i,hi,rfl,q,ha⟩
  ·rw [if_neg q,Ad9 i (by omega)]
   refine Akn k L gm bm u c hc h9 m (i+1) n (by omega) (by omega) (fun j hj hji=>?_) hex
   by_cases e : j=i
   ·subst e; simpa using q
   ·exact ha j hj (by omega)
theorem AoB (k N : Nat) (hN : N≤64) (E : List AaA) (g : List Int) (lv a b : Int) (mm : List (Int×Bool)) (dr : Bool) (st : Int→List Int) (hst : ∀ u : Int,0≤u→u<(N : Int)→AbN k (N : Int) E g lv a b mm dr u=some (st u)) (hasc : ∀ u,(st u).Pairwise (· < ·)) (hl : ∀ u,(st u).length≤100) (D : List Int) (f : Int→Int) (fm : List (Int×Int)) (bm : List (Int×List Int)) (B : BI N a (fun w z=>w ∈ D∧z ∈ st w) D f fm bm) (hb : b ∈ D) (hbl : ∀ y,((Ab4 bm y).getD []).length≤101*65) (hk : 7001<k) (gm : List (Int×Bool)) (s1 : ∀ v,Sp st b D f v→Ab4 gm v=some true) (s2 : ∀ v,¬ Sp st b D f v→Ab4 gm v=none) :
 ∀ (m n : Nat) (out : List Int) (u : Int),N-f u≤m→m<n→Sp st b D f u→out.length+m≤1000000→out≠[]→∃ l,AaC.L13 k (N : Int) E g lv a b mm dr bm gm n out u=some (out++l.tail)∧IsW st b D f u l
 | m,n+1,out,u,hm,hn,su,ho,hne=>by
  rw [AaC.L13]
  by_cases q : u=b
  ·rw [if_neg (by simp [q]),Aaq hne]
   subst q
   exact ⟨[u],by simp,.b⟩
  ·have hu:=su.in hb
   have ur:=B.rg u hu
   have fu:=B.f0 hu
   classical
   have hc : ∀ y,Abe k y gm bm u=some (decide (Sp st b D f y∧u ∈ (Ab4 bm y).getD [])):=fun y=>Aqc k y gm bm u (s1 y) (s2 y) (by have:=hbl y; omega) (by have:=hbl y; omega)
   have hce : ∀ y,(decide (Sp st b D f y∧u ∈ (Ab4 bm y).getD []))=true↔Sp st b D f y∧y ∈ st u∧f y=f u+1:=fun y=>by
    rw [decide_eq_true_eq,B.be u y]
    exact ⟨fun h=>⟨h.1,h.2.1.2,h.2.2⟩,fun h=>⟨h.1,⟨hu,h.2.1⟩,h.2.2⟩⟩
   have hex : ∃ y ∈ st u,(decide (Sp st b D f y∧u ∈ (Ab4 bm y).getD []))=true:=by
    cases su with
    | b=>exact absurd rfl q
    | s hw hv h1 h2=>rename_i w; exact ⟨w,h1,(hce w).2 ⟨hw,h1,h2⟩⟩
   obtain ⟨j,hj,g1,g2,g3⟩:=Akn k (st u) gm bm u _ hc (by have:=hl u; omega) (st u).length 0 k (by omega) (by have:=hl u; omega) (fun _ _ h=>absurd h (Nat.not_lt_zero _)) hex
   have g2':=(hce _).1 g2
   have fy:=B.f0 (g2'.1.in hb)
   have nx : Nx st b D f u (st u)[j]:=by
    refine ⟨⟨List.getElem_mem hj,g2'.1,g2'.2.2⟩,fun z hz sz fz=>?_⟩
    obtain ⟨i,hi,rfl⟩:=List.mem_iff_getElem.1 hz
    have hji : ¬ i<j:=fun h=>by
     have:=g3 i hi h
     rw [(hce _).2 ⟨sz,List.getElem_mem hi,fz⟩] at this; cases this
    by_cases e : i=j
    ·subst e; exact Int.le_refl _
    ·have:=hasc u
     rw [List.pairwise_iff_getElem] at this
     have:=this j i hj hi (by omega)
     omega
   rw [if_pos q,hst u ur.1 ur.2,Aaa]
   unfold Aaj
   rw [show Aaj.L1 k (st u) gm bm u k 0=some (j : Int) from g1,Aaa,Aa4 hj,Aaq (by simp only [List.length_cons,List.length_nil]; omega)]
   obtain ⟨m',rfl⟩ : ∃ m',m=m'+1:=⟨m-1,by omega⟩
   obtain ⟨l,e1,e2⟩:=AoB k N hN E g lv a b mm dr st hst hasc hl D f fm bm B hb hbl hk gm s1 s2 m' n (out++[(st u)[j]]) (st u)[j] (by omega) (by omega) g2'.1 (by rw [List.length_append,List.length_singleton]; omega) (by simp)
   refine ⟨u::l,?_,.s q nx e2⟩
   rw [e1,List.append_assoc]
   cases e2 <;> rfl
theorem IsW.ne {st : Int→List Int} {b : Int} {D : List Int} {f : Int→Int} {u : Int} {l : List Int} (h : IsW st b D f u l) : ∃ r,l=u::r:=by cases h <;> exact ⟨_,rfl⟩
theorem Aow (k N : Nat) (hN : N≤64) (E : List AaA) (g : List Int) (lv a b : Int) (mm : List (Int×Bool)) (dr : Bool) (len : Int) (st : Int→List Int) (hst : ∀ u : Int,0≤u→u<(N : Int)→AbN k (N : Int) E g lv a b mm dr u=some (st u)) (hr : ∀ u y : Int,y ∈ st u→0≤y∧y<(N : Int)) (hasc : ∀ u,(st u).Pairwise (· < ·)) (hl : ∀ u,(st u).length≤100) (hk : 7001<k) (ha : 0≤a∧a<(N : Int)) :
 ∃ (D : List Int) (f : Int→Int),Bf st a D f∧(∀ v ∈ D,0≤v∧v<(N : Int))∧D.Nodup∧((b ∉ D∨len<f b)→AaC k (N : Int) E g lv a b mm dr len=some [])∧(b ∈ D→¬ len<f b→∃ l,AaC k (N : Int) E g lv a b mm dr len=some l∧IsW st b D f a l):=by
 have B0 : BI N a (fun _ _=>False) ([]++[a].drop 0) (fun _=>0) (AbC [] a 0) []:=by
  refine ⟨by simp,by simpa using ha,fun v=>?_,by simp,?_,fun _ _ h=>h.elim,by simp,?_,fun w y=>by simp [Ab4,mgI],by simp [KN]⟩
  ·rw [Abq]
   by_cases e : v=a
   ·simp [e]
   ·simp [e,Ab4,mgI]
  ·intro v hv hne
   simp at hv; exact absurd hv hne
  ·intro i hi
   simp at hi ⊢
 obtain ⟨fm,bm,D,f,e1,B,hbl⟩:=Aqb k N hN E g lv a b mm dr len st hst hr hl (by omega) (N+1) k 0 (AbC [] a 0) [] [a] _ _ [] (by simp) (by omega) B0 (by
  intro u r hu v hv
  simp at hu hv
  omega) (by simp) (by simp [Ab4,mgI]) (by simp)
 refine ⟨D,f,B.bf,B.rg,B.nd,?_,?_⟩
 ·intro h
  unfold AaC
  rw [e1]
  unfold AgG
  by_cases q : b ∈ D
  ·rw [B.fg b,if_pos q]
   simp only []
   unfold AaC.J8
   rw [if_neg (by simp),if_pos (h.resolve_left (fun z=>z q))]
  ·rw [B.fg b,if_neg q]
   simp only []
   unfold AaC.J8
   rw [if_pos (by simp)]
 ·intro q h
  have G0 : GI N ([]++[b].drop 0) (AbC [] b true):=by
   refine ⟨by simp,by simpa using B.rg b q,fun v=>?_⟩
   rw [Abq]
   by_cases e : v=b
   ·simp [e]
   ·simp [e,Ab4,mgI]
  obtain ⟨gm,e2,s1,s2⟩:=Aqq k N hN E g lv a b mm dr st D f fm bm B q hbl hk (N+1) k 0 (AbC [] b true) [b] [] (by simp) (by omega) G0 (by simp) (by
   intro v hv
   simp at hv; subst hv; exact .b) (by simp)
  obtain ⟨l,e3,w⟩:=AoB k N hN E g lv a b mm dr st hst hasc hl D f fm bm B q hbl hk gm s1 s2 N k [a] a (by rw [B.a0.2]; omega) (by omega) (B.bf.start q) (by simp; omega) (by simp)
  refine ⟨l,?_,w⟩
  unfold AaC
  rw [e1]
  unfold AgG
  rw [B.fg b,if_pos q]
  simp only []
  unfold AaC.J8
  rw [if_neg (by simp),if_neg h,e2,e3]
  obtain ⟨r,rfl⟩:=w.ne
  rfl
end Go.TF
set_option linter.unusedVariables false
set_option linter.unusedSimpArgs false
namespace Go.TF
open Go Go.Abs
def inn (w : List Int) : List Int:=(w.drop 1).take (w.length-2)
def eg (E : List AaA) (lv u y : Int) : Prop:=∃ e ∈ E,lv≤e.Level∧e.From=u∧e.To=y
structure PW2 (E : List AaA) (lv a b : Int) (w : List Int) : Prop where
 two : 2≤w.length
 hd : w.head? = some a
 lt : w.getLast? = some b
 nd : w.Nodup
 ed : ∀ (i : Nat) (h : i+1<w.length),eg E lv w[i] w[i+1]
theorem IsW.mem {st : Int→List Int} {b : Int} {D : List Int} {f : Int→Int} : ∀ {u : Int} {l : List Int},IsW st b D f u l→∀ v ∈ l,f u≤f v∧(v=u∨(v≠u∧f u<f v∧∃ w,v ∈ st w))
 | _,_,.b,v,hv=>by
  rw [List.mem_singleton] at hv; subst hv; exact ⟨Int.le_refl _,.inl rfl⟩
 | u,_,.s (y:=y) hu hy h,v,hv=>by
  rcases List.mem_cons.1 hv with rfl | hv
  ·exact ⟨Int.le_refl _,.inl rfl⟩
  ·have ih:=h.mem v hv
   have e:=hy.1.2.2
   refine ⟨by omega,.inr ⟨fun q=>by subst q; omega,by omega,?_⟩⟩
   rcases ih.2 with rfl | ih
   ·exact ⟨u,hy.1.1⟩
   ·exact ih.2.2
theorem IsW.last {st : Int→List Int} {b : Int} {D : List Int} {f : Int→Int} : ∀ {u : Int} {l : List Int},IsW st b D f u l→l.getLast? = some b
 | _,_,.b=>rfl
 | _,_,.s hu hy h=>by
  have:=h.last
  obtain ⟨r,rfl⟩:=h.ne
  rw [List.getLast?_cons_cons]; exact this
theorem IsW.nd {st : Int→List Int} {b : Int} {D : List Int} {f : Int→Int} : ∀ {u : Int} {l : List Int},IsW st b D f u l→l.Nodup
 | _,_,.b=>by simp
 | u,_,.s hu hy h=>by
  rw [List.nodup_cons]
  refine ⟨fun q=>?_,h.nd⟩
  have:=(h.mem u q).1
  have:=hy.1.2.2; omega
theorem IsW.ed {st : Int→List Int} {b : Int} {D : List Int} {f : Int→Int} : ∀ {u : Int} {l : List Int},IsW st b D f u l→∀ (i : Nat) (h : i+1<l.length),l[i+1] ∈ st l[i]
 | _,_,.b,i,h=>by simp at h
 | u,_,.s hu hy h,0,hl=>by
  obtain ⟨r,rfl⟩:=h.ne
  exact hy.1.1
 | u,_,.s hu hy h,i+1,hl=>by
  have:=h.ed i (by simpa using hl)
  simpa using this
theorem IsW.len {st : Int→List Int} {b : Int} {D : List Int} {f : Int→Int} : ∀ {u : Int} {l : List Int},IsW st b D f u l→(l.length : Int)=f b-f u+1
 | _,_,.b=>by simp
 | u,_,.s hu hy h=>by
  have:=h.len
  have:=hy.1.2.2
  simp only [List.length_cons]; omega
theorem Aes {w : List Int} {v : Int} : v ∈ inn w↔∃ i,∃ h : i+2<w.length,w[i+1]=v:=by
 unfold inn
 constructor
 ·intro h
  obtain ⟨i,hi,rfl⟩:=List.mem_iff_getElem.1 h
  simp only [List.length_take,List.length_drop] at hi
  exact ⟨i,by omega,by rw [List.getElem_take,List.getElem_drop]; congr 1; omega⟩
 ·rintro ⟨i,h,rfl⟩
  refine List.mem_iff_getElem.2 ⟨i,by simp only [List.length_take,List.length_drop]; omega,?_⟩
  rw [List.getElem_take,List.getElem_drop]; congr 1; omega
structure Ap (N : Int) (E : List AaA) (lv a b : Int) (out : List (List Int)) (mm : List (Int×Bool)) (dr : Bool) : Prop where
 pw : ∀ w ∈ out,PW2 E lv a b w
 us : ∀ v,usB mm v=true↔∃ w ∈ out,v ∈ inn w
 dj : out.Pairwise fun w w'=>∀ v ∈ inn w,v ∉ inn w'
 dd : dr=true↔∃ w ∈ out,w.length=2
 d1 : out.Pairwise fun w w'=>¬ (w.length=2∧w'.length=2)
 rg : ∀ w ∈ out,∀ v ∈ w,0≤v∧v<N
theorem AjQ {E : List AaA} {lv a b : Int} {w : List Int} (h : PW2 E lv a b w) {v : Int} (hv : v ∈ inn w) : v≠a∧v≠b:=by
 obtain ⟨i,hi,rfl⟩:=Aes.1 hv
 have nd:=h.nd
 rw [List.nodup_iff_pairwise_ne,List.pairwise_iff_getElem] at nd
 have h0 : w[0]'(by omega)=a:=by
  have:=h.hd
  rw [List.head?_eq_getElem?,List.getElem?_eq_getElem (by omega)] at this
  exact Option.some.inj this
 have h1 : w[w.length-1]'(by omega)=b:=by
  have:=h.lt
  rw [List.getLast?_eq_getElem?,List.getElem?_eq_getElem (by omega)] at this
  exact Option.some.inj this
 refine ⟨fun e=>?_,fun e=>?_⟩
 ·exact nd 0 (i+1) (by omega) (by omega) (by omega) (by rw [h0,e])
 ·exact nd (i+1) (w.length-1) (by omega) (by omega) (by omega) (by rw [h1,e])
theorem Ap.len {N : Nat} {E : List AaA} {lv a b : Int} {out : List (List Int)} {mm : List (Int×Bool)} {dr : Bool} (h : Ap N E lv a b out mm dr) : out.length≤N:=by
 have key : (out.map fun w=>w.getD 1 0).Nodup:=by
  rw [List.nodup_iff_pairwise_ne,List.pairwise_map]
  have h2:=h.dj.and h.d1
  refine List.Pairwise.imp_of_mem (fun {w w'} hw hw' q e=>?_) h2
  have p:=h.pw w hw; have p':=h.pw w' hw'
  have t:=p.two; have t':=p'.two
  have g : ∀ {x : List Int},2<x.length→x.getD 1 0 ∈ inn x:=fun {x} hx=>Aes.2 ⟨0,by omega,by rw [List.getD_eq_getElem?_getD,List.getElem?_eq_getElem (by omega)]; rfl⟩
  have l : ∀ {x : List Int},PW2 E lv a b x→x.length=2→x.getD 1 0=b:=fun {x} px hx=>by
   have:=px.lt
   rw [List.getLast?_eq_getElem?,hx] at this
   rw [List.getD_eq_getElem?_getD,this]; rfl
  by_cases c : w.length=2 <;> by_cases c' : w'.length=2
  ·exact q.2 ⟨c,c'⟩
  ·have:=(AjQ p' (g (x:=w') (by omega))).2
   exact this (by rw [← e,l p c])
  ·have:=(AjQ p (g (x:=w) (by omega))).2
   exact this (by rw [e,l p' c'])
  ·exact q.1 _ (g (x:=w) (by omega)) (by rw [e]; exact g (x:=w') (by omega))
 have:=nodup_range N _ key fun x hx=>by
  obtain ⟨w,hw,rfl⟩:=List.mem_map.1 hx
  have p:=h.pw w hw
  have t:=p.two
  rw [List.getD_eq_getElem?_getD,List.getElem?_eq_getElem (by omega)]
  exact h.rg w hw _ (List.getElem_mem _)
 simpa using this
theorem Arv (k : Nat) (N : Int) (E : List AaA) (g : List Int) (lv a b len : Int) (w : List Int) (dr : Bool) (out : List (List Int)) (kb : (List Int)→Bool→(List (Int×Bool))→(List (List Int))→Option (List (List Int))) (h2 : 2≤w.length) (h9 : w.length≤1000000) :
 ∀ (m i n : Nat) (mm : List (Int×Bool)),i+m=(inn w).length→m<n→∃ mm',Aao.L3 k N E g lv a b len w dr out kb n (i : Int) mm=(if dr=true then Aao.J2 k N E g lv a b len w out kb mm' true else Aao.J2 k N E g lv a b len w out kb mm' ((w.length : Int)==2))∧∀ v,usB mm' v=true↔usB mm v=true∨v ∈ (inn w).drop i:=by
 have e : (w.take (IntKind.wrap .i64 ((w.length : Int)-1)).toNat).drop (1 : Int).toNat=inn w:=by
  unfold inn
  rw [w64 (by omega) (by omega),show ((w.length : Int)-1).toNat=w.length-1 by omega,show (1 : Int).toNat=1 from rfl,List.drop_take]
  congr 1
 intro m
 induction m with
 | zero =>
  intro i n mm hi hn
  obtain ⟨n,rfl⟩ : ∃ q,n=q+1:=⟨n-1,by omega⟩
  rw [Aao.L3,e,if_neg (by omega)]
  refine ⟨mm,rfl,fun v=>?_⟩
  rw [List.drop_of_length_le (by omega)]; simp
 | succ m ih =>
  intro i n mm hi hn
  obtain ⟨n,rfl⟩ : ∃ q,n=q+1:=⟨n-1,by omega⟩
  have hl : i<(inn w).length:=by omega
  have l2 : (inn w).length≤w.length:=by unfold inn; simp; omega
  rw [Aao.L3,e,if_pos (by omega),Aa4 hl,Ad9 i (by omega)]
  obtain ⟨mm',e1,e2⟩:=ih (i+1) n (AbC mm (inn w)[i] true) (by omega) (by omega)
  refine ⟨mm',e1,fun v=>?_⟩
  rw [e2 v,List.drop_eq_getElem_cons hl,List.mem_cons]
  unfold usB
  rw [Abq]
  by_cases q : v=(inn w)[i]
  ·rw [if_pos q]; simp [q]
  ·rw [if_neg q]; simp [q]
def stF (E : List AaA) (lv a b : Int) (U : Int→Bool) (dr : Bool) (u : Int) : List Int:=(outs (E.filter (lvE lv)) u).filter fun y => !(U y||(decide (u=a∧y=b)&&dr))
def unU (U : Int→Bool) (w : List Int) (v : Int) : Bool:=U v||decide (v ∈ inn w)
inductive SR (E : List AaA) (lv a b len : Int) : (Int→Bool)→Bool→List (List Int)→Prop
 | no {U : Int→Bool} {dr : Bool} {D : List Int} {f : Int→Int} (h : Bf (stF E lv a b U dr) a D f) (q : b ∉ D∨len<f b) : SR E lv a b len U dr []
 | go {U : Int→Bool} {dr : Bool} {D : List Int} {f : Int→Int} {w : List Int} {l : List (List Int)} (h : Bf (stF E lv a b U dr) a D f) (hb : b ∈ D) (q : ¬ len<f b) (hw : IsW (stF E lv a b U dr) b D f a w) (r : SR E lv a b len (unU U w) (dr||(w.length==2)) l) : SR E lv a b len U dr (w::l)
theorem Sp.congr {st : Int→List Int} {b : Int} {D D' : List Int} {f f' : Int→Int} (hb : b ∈ D) (hD : ∀ v,(v ∈ D↔v ∈ D')∧(v ∈ D→f v=f' v)) {v : Int} (h : Sp st b D f v) : Sp st b D' f' v:=by
 induction h with
 | b=>exact .b
 | s hw hv h1 h2 ih =>
  exact .s ih ((hD _).1.1 hv) h1 (by rw [← (hD _).2 hv,← (hD _).2 (hw.in hb)]; exact h2)
theorem IsW.congr {st : Int→List Int} {b : Int} {D D' : List Int} {f f' : Int→Int} (hb : b ∈ D) (hD : ∀ v,(v ∈ D↔v ∈ D')∧(v ∈ D→f v=f' v)) : ∀ {u : Int} {l : List Int},u ∈ D→IsW st b D f u l→IsW st b D' f' u l
 | _,_,_,.b => .b
 | u,_,hu,.s hub hy h=>by
  have hb':=(hD b).1.1 hb
  have hD' : ∀ v,(v ∈ D'↔v ∈ D)∧(v ∈ D'→f' v=f v):=fun v=>⟨(hD v).1.symm,fun q=>((hD v).2 ((hD v).1.2 q)).symm⟩
  have yD:=hy.1.2.1.in hb
  refine .s hub ⟨⟨hy.1.1,hy.1.2.1.congr hb hD,by rw [← (hD _).2 yD,← (hD _).2 hu]; exact hy.1.2.2⟩,fun z hz sz fz=>?_⟩ (IsW.congr hb hD yD h)
  have zD:=sz.in hb'
  refine hy.2 z hz (sz.congr hb' hD') ?_
  rw [(hD _).2 ((hD _).1.2 zD),(hD _).2 hu]; exact fz
structure GQ (N : Nat) (E : List AaA) (g : List Int) : Prop where
 le : N≤12
 ok : okG N E g=true
theorem GQ.gv {N : Nat} {E : List AaA} {g : List Int} (h : GQ N E g) {a : Int} (ha : 0≤a∧a<N) : GV N E g:=⟨by omega,h.le,h.ok⟩
theorem GQ.next (k N : Nat) (E : List AaA) (g : List Int) (G : GQ N E g) (lv a b len : Int) (hk : 7001<k) (ha : 0≤a∧a<(N : Int)) (mm : List (Int×Bool)) (dr : Bool) :
 ∃ (D : List Int) (f : Int→Int),Bf (stF E lv a b (usB mm) dr) a D f∧(∀ v ∈ D,0≤v∧v<(N : Int))∧D.Nodup∧((b ∉ D∨len<f b)→AaC k (N : Int) E g lv a b mm dr len=some [])∧(b ∈ D→¬ len<f b→∃ l,AaC k (N : Int) E g lv a b mm dr len=some l∧IsW (stF E lv a b (usB mm) dr) b D f a l):=by
 have V:=G.gv ha
 have h5:=V.len; have hg:=V.glen; have hN:=G.le
 have hs:=((AdC _ _ _).1 G.ok).2.2.2
 have o12 : ∀ u,(outs (E.filter (lvE lv)) u).length≤12:=fun u=>Nat.le_trans (Aj3 E _ u) (V.outs u)
 refine Aow k N (by omega) E g lv a b mm dr len (stp E lv a b mm dr) (fun u h0 h1=>AnD k N E g lv a b mm dr u (by omega) (by omega) (by omega) (o12 u) (Agc _ u (hs.filter _)) (by omega)) (fun u y hy=>?_) (fun u=>Aoa hs) (fun u=>?_) hk ha
 ·obtain ⟨⟨e,he,_,_,rfl⟩,_,_⟩:=Ao5.1 hy
  have:=V.inE e he; omega
 ·have:=o12 u
  have:=List.length_filter_le (fun y => !stB mm a b dr u y) (outs (E.filter (lvE lv)) u)
  unfold stp; omega
theorem Ag5 {E : List AaA} {lv a b : Int} {U : Int→Bool} {dr : Bool} {u y : Int} : y ∈ stF E lv a b U dr u↔eg E lv u y∧U y=false∧¬ (u=a∧y=b∧dr=true):=by
 unfold stF
 rw [List.mem_filter,AeO]
 simp only [List.mem_filter,lvE,decide_eq_true_eq,Bool.not_or,Bool.and_eq_true,Bool.not_eq_true',Bool.and_eq_false_imp]
 constructor
 ·rintro ⟨⟨e,⟨he,h1⟩,h2,h3⟩,h4,h5⟩
  exact ⟨⟨e,he,h1,h2,h3⟩,h4,fun q=>by have:=h5 ⟨q.1,q.2.1⟩; rw [q.2.2] at this; cases this⟩
 ·rintro ⟨⟨e,he,h1,h2,h3⟩,h4,h5⟩
  refine ⟨⟨e,⟨he,h1⟩,h2,h3⟩,h4,fun q=>?_⟩
  cases dr with
  | false=>rfl
  | true=>exact absurd ⟨q.1,q.2,rfl⟩ h5
theorem Bf.two {st : Int→List Int} {a b : Int} {D : List Int} {f : Int→Int} (h : Bf st a D f) (hb : b ∈ D) (hab : a≠b) : 1≤f b:=by
 obtain ⟨w,w1,w2,w3⟩:=h.pr b hb (fun e=>hab e.symm)
 have:=h.f0 w w1; omega
theorem IsW.pw {E : List AaA} {lv a b : Int} {U : Int→Bool} {dr : Bool} {D : List Int} {f : Int→Int} {w : List Int} (B : Bf (stF E lv a b U dr) a D f) (hb : b ∈ D) (hab : a≠b) (h : IsW (stF E lv a b U dr) b D f a w) : PW2 E lv a b w:=by
 have l:=h.len
 have:=B.two hb hab
 have a0:=B.a0.2
 obtain ⟨r,e⟩:=h.ne
 exact ⟨by omega,by rw [e]; rfl,h.last,h.nd,fun i hi=>(Ag5.1 (h.ed i hi)).1⟩
theorem Ap.add {N : Nat} {E : List AaA} {lv a b : Int} {out : List (List Int)} {mm mm' : List (Int×Bool)} {dr : Bool} {D : List Int} {f : Int→Int} {w : List Int} (A : Ap N E lv a b out mm dr) (B : Bf (stF E lv a b (usB mm) dr) a D f) (hb : b ∈ D) (hab : a≠b) (h : IsW (stF E lv a b (usB mm) dr) b D f a w) (hE : inE N E) (ha : 0≤a∧a<(N : Int)) (hm : ∀ v,usB mm' v=true↔usB mm v=true∨v ∈ inn w) : Ap N E lv a b (out++[w]) mm' (dr||(w.length==2)):=by
 have P:=h.pw B hb hab
 have fresh : ∀ v ∈ inn w,usB mm v=false:=by
  intro v hv
  have hvw : v ∈ w:=by
   obtain ⟨i,hi,rfl⟩:=Aes.1 hv
   exact List.getElem_mem _
  rcases (h.mem v hvw).2 with e | ⟨_,_,u,hu⟩
  ·exact absurd e (AjQ P hv).1
  ·exact (Ag5.1 hu).2.1
 have dir : w.length=2→dr=false:=by
  intro e
  have h1:=h.ed 0 (by omega)
  have e0 : w[0]'(by omega)=a:=by
   have:=P.hd
   rw [List.head?_eq_getElem?,List.getElem?_eq_getElem (by omega)] at this
   exact Option.some.inj this
  have e1 : w[1]'(by omega)=b:=by
   have:=P.lt
   rw [List.getLast?_eq_getElem?,e,List.getElem?_eq_getElem (by omega)] at this
   exact Option.some.inj this
  have:=(Ag5.1 h1).2.2
  cases hd : dr with
  | false=>rfl
  | true=>exact absurd ⟨e0,e1,hd⟩ this
 refine ⟨?_,?_,?_,?_,?_,?_⟩
 ·intro x hx
  rcases List.mem_append.1 hx with hx | hx
  ·exact A.pw x hx
  ·rw [List.mem_singleton] at hx; subst hx; exact P
 ·intro v
  rw [hm v,A.us v]
  constructor
  ·rintro (⟨x,hx,hv⟩ | hv)
   ·exact ⟨x,List.mem_append_left _ hx,hv⟩
   ·exact ⟨w,by simp,hv⟩
  ·rintro ⟨x,hx,hv⟩
   rcases List.mem_append.1 hx with hx | hx
   ·exact .inl ⟨x,hx,hv⟩
   ·rw [List.mem_singleton] at hx; subst hx; exact .inr hv
 ·rw [List.pairwise_append]
  refine ⟨A.dj,by simp,fun x hx y hy v hv hv'=>?_⟩
  rw [List.mem_singleton] at hy
  subst hy
  have:=(A.us v).2 ⟨x,hx,hv⟩
  rw [fresh v hv'] at this; cases this
 ·rw [Bool.or_eq_true,beq_iff_eq,A.dd]
  constructor
  ·rintro (⟨x,hx,e⟩ | e)
   ·exact ⟨x,List.mem_append_left _ hx,e⟩
   ·exact ⟨w,by simp,e⟩
  ·rintro ⟨x,hx,e⟩
   rcases List.mem_append.1 hx with hx | hx
   ·exact .inl ⟨x,hx,e⟩
   ·rw [List.mem_singleton] at hx; subst hx; exact .inr e
 ·rw [List.pairwise_append]
  refine ⟨A.d1,by simp,fun x hx y hy q=>?_⟩
  rw [List.mem_singleton] at hy
  subst hy
  have:=A.dd.2 ⟨x,hx,q.1⟩
  rw [dir q.2] at this; cases this
 ·intro x hx v hv
  rcases List.mem_append.1 hx with hx | hx
  ·exact A.rg x hx v hv
  ·rw [List.mem_singleton] at hx
   subst hx
   rcases (h.mem v hv).2 with e | ⟨_,_,u,hu⟩
   ·rw [e]; exact ha
   ·obtain ⟨e,he,_,_,rfl⟩:=(Ag5.1 hu).1
    have:=hE e he; omega
theorem AkY (v : Int) : ∀ (L : List Int) (mm : List (Int×Bool)),usB (L.foldl (fun z v=>AbC z v true) mm) v=true↔usB mm v=true∨v ∈ L
 | [],mm=>by simp
 | x::L,mm=>by
  rw [List.foldl_cons,AkY v L (AbC mm x true),List.mem_cons]
  unfold usB
  rw [Abq]
  by_cases z : v=x
  ·rw [if_pos z]; simp [z]
  ·rw [if_neg z]; simp [z]
theorem AoT {mm mm' : List (Int×Bool)} {w : List Int} (h : ∀ v,usB mm' v=true↔usB mm v=true∨v ∈ inn w) : usB mm'=unU (usB mm) w:=by
 funext v
 have:=h v
 unfold unU
 cases h1 : usB mm' v <;> cases h2 : usB mm v <;> simp_all
theorem AqN (k N : Nat) (E : List AaA) (g : List Int) (G : GQ N E g) (lv a b len : Int) (hk : 7001<k) (ha : 0≤a∧a<(N : Int)) (hab : a≠b) : ∀ (m n : Nat) (w : List Int) (dr : Bool) (mm : List (Int×Bool)) (out : List (List Int)),out.length+m=N+1→m<n→Ap N E lv a b out mm dr→AaC k (N : Int) E g lv a b mm dr len=some w →
 ∃ (l : List (List Int)) (mm' : List (Int×Bool)) (dr' : Bool),Aao.L1 k (N : Int) E g lv a b len n w dr mm out=some (out++l)∧SR E lv a b len (usB mm) dr l∧Ap N E lv a b (out++l) mm' dr'
 | m,n+1,w,dr,mm,out,e,hn,A,hw=>by
  have V:=G.gv ha
  have lo:=A.len
  have hN:=G.le
  obtain ⟨D,f,B,_,Dn,h1,h2⟩:=GQ.next k N E g G lv a b len hk ha mm dr
  by_cases q : b ∈ D∧¬ len<f b
  ·obtain ⟨w',e1,iw⟩:=h2 q.1 q.2
   rw [hw] at e1
   have e1:=Option.some.inj e1
   subst e1
   have P:=iw.pw B q.1 hab
   have two:=P.two
   have wl : w.length≤N:=nodup_range N w P.nd fun v hv=>by
    rcases (iw.mem v hv).2 with e | ⟨_,_,u,hu⟩
    ·rw [e]; exact ha
    ·obtain ⟨x,hx,_,_,rfl⟩:=(Ag5.1 hu).1
     have:=V.inE x hx; omega
   obtain ⟨m',rfl⟩ : ∃ m',m=m'+1:=by
    have A2:=A.add (mm':=(inn w).foldl (fun z v=>AbC z v true) mm) B q.1 hab iw V.inE ha (fun v=>AkY v (inn w) mm)
    have:=A2.len
    rw [List.length_append,List.length_singleton] at this
    exact ⟨m-1,by omega⟩
   obtain ⟨r,er⟩:=iw.ne
   rw [Aao.L1,if_pos (by rw [er]; rfl),Aaq (by simp only [List.length_cons,List.length_nil]; omega),w64 (by omega) (by omega),Aaq (by omega)]
   have li : (inn w).length≤w.length:=by unfold inn; simp; omega
   obtain ⟨mm',e3,hm⟩:=Arv k (N : Int) E g lv a b len w dr out (fun v10_ v11_ v12_ v13_=>Aao.L1 k (N : Int) E g lv a b len n v10_ v11_ v12_ v13_) two (by omega) (inn w).length 0 k mm (by omega) (by omega)
   rw [show Aao.L3 k (N : Int) E g lv a b len w dr out (fun v10_ v11_ v12_ v13_=>Aao.L1 k (N : Int) E g lv a b len n v10_ v11_ v12_ v13_) k 0 mm=_ from e3]
   have hm' : ∀ v,usB mm' v=true↔usB mm v=true∨v ∈ inn w:=fun v=>by rw [hm v,List.drop_zero]
   have A2:=A.add B q.1 hab iw V.inE ha hm'
   obtain ⟨D2,f2,B2,_,_,g1,g2⟩:=GQ.next k N E g G lv a b len hk ha mm' (dr||(w.length==2))
   have ex : ∃ w2,AaC k (N : Int) E g lv a b mm' (dr||(w.length==2)) len=some w2:=by
    by_cases z : b ∈ D2∧¬ len<f2 b
    ·obtain ⟨w2,z2,_⟩:=g2 z.1 z.2; exact ⟨w2,z2⟩
    ·exact ⟨[],g1 (by by_cases z1 : b ∈ D2 <;> by_cases z2 : len<f2 b <;> simp_all)⟩
   obtain ⟨w2,ew2⟩:=ex
   obtain ⟨l,mm3,dr3,k1,k2,k3⟩:=AqN k N E g G lv a b len hk ha hab m' n w2 (dr||(w.length==2)) mm' (out++[w]) (by rw [List.length_append,List.length_singleton]; omega) (by omega) A2 ew2
   have go : ∀ d2 : Bool,d2=(dr||(w.length==2))→Aao.J2 k (N : Int) E g lv a b len w out (fun v10_ v11_ v12_ v13_=>Aao.L1 k (N : Int) E g lv a b len n v10_ v11_ v12_ v13_) mm' d2=some (out++(w::l)):=by
    intro d2 hd
    unfold Aao.J2
    rw [hd,ew2,Aaa]
    show Aao.L1 k (N : Int) E g lv a b len n w2 (dr||(w.length==2)) mm' (out++[w])=_
    rw [k1,List.append_assoc]; rfl
   refine ⟨w::l,mm3,dr3,?_,.go B q.1 q.2 iw (AoT hm' ▸ k2),by rw [List.append_assoc] at k3; exact k3⟩
   cases dr with
   | true=>rw [if_pos rfl]; exact go true rfl
   | false =>
    rw [if_neg (by simp)]
    refine go _ ?_
    rw [Bool.false_or,Bool.eq_iff_iff,beq_iff_eq,beq_iff_eq]; omega
  ·have z : b ∉ D∨len<f b:=by by_cases z1 : b ∈ D <;> by_cases z2 : len<f b <;> simp_all
   have:=h1 z
   rw [hw] at this
   have:=Option.some.inj this
   subst this
   rw [Aao.L1,if_neg (by simp)]
   exact ⟨[],mm,dr,by simp,.no B z,by simpa using A⟩
theorem Al5 (k N : Nat) (E : List AaA) (g : List Int) (G : GQ N E g) (lv a b len : Int) (hk : 7001<k) : ∃ l,Aao k (N : Int) E g lv a b len=some l∧(Ajj N lv a b=false→l = [])∧(Ajj N lv a b=true→SR E lv a b len (fun _=>false) false l∧∃ mm dr,Ap N E lv a b l mm dr):=by
 have hN:=G.le
 unfold Aao
 rw [Aim _ _ _ _ _ _ _ (by omega),Aaa]
 cases hq : Ajj N lv a b with
 | false=>exact ⟨[],by simp,by simp,by simp⟩
 | true =>
  have hq':=hq
  unfold Ajj at hq'; rw [decide_eq_true_eq] at hq'
  have ha : 0≤a∧a<(N : Int):=⟨hq'.2.2.1,hq'.2.2.2.1⟩
  rw [if_neg (by simp)]
  have A0 : Ap N E lv a b [] [] false:=⟨by simp,fun v=>by simp [usB,Ab4,mgI],by simp,by simp,by simp,by simp⟩
  obtain ⟨D2,f2,B2,_,_,g1,g2⟩:=GQ.next k N E g G lv a b len hk ha [] false
  have ex : ∃ w2,AaC k (N : Int) E g lv a b [] false len=some w2:=by
   by_cases z : b ∈ D2∧¬ len<f2 b
   ·obtain ⟨w2,z2,_⟩:=g2 z.1 z.2; exact ⟨w2,z2⟩
   ·exact ⟨[],g1 (by by_cases z1 : b ∈ D2 <;> by_cases z2 : len<f2 b <;> simp_all)⟩
  obtain ⟨w,ew⟩:=ex
  obtain ⟨l,mm,dr,k1,k2,k3⟩:=AqN k N E g G lv a b len hk ha hq'.2.2.2.2.2.2 (N+1) k w false [] [] (by simp) (by omega) A0 ew
  have hu : usB []=fun _=>false:=by funext v; simp [usB,Ab4,mgI]
  rw [hu] at k2
  exact ⟨l,by rw [ew,Aaa,k1]; rfl,by simp,fun _=>⟨k2,mm,dr,by simpa using k3⟩⟩
end Go.TF
set_option linter.unusedVariables false
set_option linter.unusedSimpArgs false
namespace Go.TF
open Go Go.Abs
theorem AkU : AdD 1000000000=some true:=by decide +kernel
end Go.TF
set_option linter.unusedVariables false
set_option linter.unusedSimpArgs false
namespace Go.TF
open Go Go.Abs
inductive Rc (R : List AaA) (a : Int) : Int→Prop
 | z : Rc R a a
 | s {e : AaA} (h : Rc R a e.From) (he : e ∈ R) : Rc R a e.To
def AcT (S : Int→Bool) (a b : Int) (e : AaA) : Bool:=decide (S e.From=false∧S e.To=false∧(e.From=a→e.To≠b))
def Ajp (E : List AaA) (a b : Int) : Nat:=if b ∈ outs E a then 1 else 0
def Af2 (N : Nat) (S : Int→Bool) : Nat:=((AhY N).filter S).length
structure Sep (E : List AaA) (a b : Int) (S : Int→Bool) : Prop where
 a0 : S a=false
 b0 : S b=false
 no : ¬ Rc (E.filter (AcT S a b)) a b
def crs (T : Int→Bool) (x : AaD) : Bool:=decide (T x.From=true∧T x.To=false)
theorem Ak1 (T : Int→Bool) : ∀ {A : List AaD},(∀ x ∈ A,x.Cap=1)→Mf.capS (ar A) T=((A.filter (crs T)).length : Int)
 | [],_=>by simp [ar,Mf.capS]
 | x::A,h=>by
  have ih:=Ak1 T (A:=A) fun y hy=>h y (by simp [hy])
  have hx:=h x (by simp)
  rw [Ald,ih,hx,List.filter_cons]
  unfold Mf.b2 crs
  by_cases q : T x.From=true∧T x.To=false
  ·rw [if_pos q,if_pos (by simpa using q)]; simp only [List.length_cons]; omega
  ·rw [if_neg q,if_neg (by simpa using q)]; omega
theorem Aoz : ∀ {l m : List Int},l.Nodup→(∀ x ∈ l,x ∈ m)→l.length≤m.length
 | [],_,_,_=>by simp
 | x::l,m,h,hm=>by
  rw [List.nodup_cons] at h
  have hx:=hm x (by simp)
  have ih:=Aoz (l:=l) (m:=m.erase x) h.2 fun y hy=>(List.mem_erase_of_ne (fun e=>by subst e; exact h.1 hy)).2 (hm y (by simp [hy]))
  rw [List.length_erase_of_mem hx] at ih
  have : 0<m.length:=List.length_pos_of_mem hx
  simp only [List.length_cons]; omega
theorem Aou (N : Nat) : (AhY N).Nodup:=by
 unfold AhY
 rw [List.nodup_iff_pairwise_ne,List.pairwise_map]
 exact List.nodup_range.imp fun {x y} h e=>h (by omega)
theorem AoD {α : Type} (l : List α) (p q : α→Bool) (h : ∀ x ∈ l,p x=true→q x=true) : (l.filter p).length≤(l.filter q).length:=by
 rw [← List.countP_eq_length_filter,← List.countP_eq_length_filter]
 exact List.countP_mono_left h
theorem Agg {α : Type} (p d : α→Bool) : ∀ l : List α,(l.filter fun x=>p x&&d x).length+(l.filter fun x=>p x && !d x).length=(l.filter p).length
 | []=>rfl
 | x::l=>by
  have ih:=Agg p d l
  rw [List.filter_cons,List.filter_cons,List.filter_cons]
  cases p x <;> cases d x <;> simp <;> omega
def ndX (a b : Int) (T : Int→Bool) (v : Int) : Bool:=decide (v≠a∧v≠b)&&crs T ⟨2+2*v,3+2*v,1⟩
def egX (a b : Int) (T : Int→Bool) (e : AaA) : Bool:=egP 1 a b e&&crs T (egM a b e)
theorem Ak2 (N : Nat) (E : List AaA) (a b : Int) (T : Int→Bool) : Mf.capS (ar (Agz N E 1 a b)) T=((((AhY N).filter (ndX a b T)).length+(E.filter (egX a b T)).length : Nat) : Int):=by
 rw [Ak1 T AqR]
 unfold Agz
 rw [List.filter_append,List.length_append]
 unfold ndA egA
 rw [List.filter_map,List.filter_map,List.length_map,List.length_map,List.filter_filter,List.filter_filter]
 congr 2
 ·congr 1
  congr 1
  funext v
  unfold ndX
  rw [Bool.and_comm]; rfl
 ·congr 1
  congr 1
  funext e
  unfold egX
  rw [Bool.and_comm]; rfl
theorem ApK {E : List AaA} {a b : Int} (hs : E.Pairwise fun a b=>bef a b=true) (p : AaA→Bool) (hp : ∀ e ∈ E,p e=true→e.From=a∧e.To=b) : (E.filter p).length≤Ajp E a b:=by
 have h1:=hs.filter p
 have h2 : ∀ e ∈ E.filter p,e.From=a∧e.To=b:=fun e he=>hp e (List.mem_filter.1 he).1 (List.mem_filter.1 he).2
 have h3 : ∀ e ∈ E.filter p,e ∈ E:=fun e he=>(List.mem_filter.1 he).1
 unfold Ajp
 generalize E.filter p=L at h1 h2 h3
 match L with
 | []=>simp
 | [x] =>
  have:=h2 x (by simp)
  rw [if_pos (AeO.2 ⟨x,h3 x (by simp),this.1,this.2⟩)]; simp
 | x::y::r =>
  exfalso
  have q:=h2 x (by simp); have q':=h2 y (by simp)
  have:=(List.pairwise_cons.1 h1).1 y (by simp)
  unfold bef at this
  rw [q.1,q.2,q'.1,q'.2] at this
  simp at this
noncomputable def sdT (R : List AaA) (a : Int) (S : Int→Bool) (x : Int) : Bool:=by
 classical exact if x=0 then true else if x=1 then false else if x % 2=0 then decide (Rc R a ((x-2) / 2))||S ((x-2) / 2) else decide (Rc R a ((x-2) / 2))
theorem Alu (R : List AaA) (a : Int) (S : Int→Bool) {v : Int} (h : 0≤v) : (sdT R a S (2+2*v)=true↔Rc R a v∨S v=true)∧(sdT R a S (3+2*v)=true↔Rc R a v):=by
 unfold sdT
 constructor
 ·rw [if_neg (by omega),if_neg (by omega),if_pos (by omega),show (2+2*v-2) / 2=v by omega]; simp
 ·rw [if_neg (by omega),if_neg (by omega),if_neg (by omega),show (3+2*v-2) / 2=v by omega]; simp
theorem Rc.out {E : List AaA} {a b : Int} {S : Int→Bool} (h0 : S a=false) {v : Int} (h : Rc (E.filter (AcT S a b)) a v) : S v=false:=by
 cases h with
 | z=>exact h0
 | s h he =>
  have:=(List.mem_filter.1 he).2
  unfold AcT at this; rw [decide_eq_true_eq] at this; exact this.2.1
theorem An2 {N : Nat} {E : List AaA} {a b v : Int} (hs : E.Pairwise fun a b=>bef a b=true) (hE : inE N E) (ha : 0≤a∧a<N) (hb : 0≤b∧b<N) (hab : a≠b) (L : Mf.Least (ar (Agz N E 1 a b)) v) {S : Int→Bool} (h : Sep E a b S) : v≤((Af2 N S+Ajp E a b : Nat) : Int):=by
 have le:=L.le (sdT (E.filter (AcT S a b)) a S) (by simp [sdT]) (by simp [sdT])
 rw [Ak2] at le
 refine Int.le_trans le ?_
 have h1 : ((AhY N).filter (ndX a b (sdT (E.filter (AcT S a b)) a S))).length≤Af2 N S:=by
  unfold Af2
  refine AoD _ _ _ fun x hx q=>?_
  have hx:=Adw.1 hx
  unfold ndX crs at q
  rw [Bool.and_eq_true,decide_eq_true_eq,decide_eq_true_eq] at q
  have I:=Alu (E.filter (AcT S a b)) a S hx.1
  rcases I.1.1 q.2.1 with r | r
  ·have:=q.2.2
   simp only [] at this
   rw [I.2.2 r] at this; cases this
  ·exact r
 have h2 : (E.filter (egX a b (sdT (E.filter (AcT S a b)) a S))).length≤Ajp E a b:=by
  refine ApK hs _ fun e he q=>?_
  unfold egX egP crs at q
  rw [Bool.and_eq_true,decide_eq_true_eq,decide_eq_true_eq] at q
  have r:=hE e he
  have If:=Alu (E.filter (AcT S a b)) a S r.1
  have It:=Alu (E.filter (AcT S a b)) a S r.2.2.1
  have rf : Rc (E.filter (AcT S a b)) a e.From:=by
   by_cases z : e.From=a
   ·rw [z]; exact .z
   ·have:=q.2.1
    unfold egM at this
    simp only [if_neg z] at this
    exact If.2.1 this
  have nf:=rf.out h.a0
  by_cases z : e.From=a∧e.To=b
  ·exact z
  ·exfalso
   have step : S e.To=false→Rc (E.filter (AcT S a b)) a e.To:=fun st => .s rf (List.mem_filter.2 ⟨he,by unfold AcT; rw [decide_eq_true_eq]; exact ⟨nf,st,fun z1 z2=>z ⟨z1,z2⟩⟩⟩)
   by_cases zt : e.To=b
   ·have:=step (by rw [zt]; exact h.b0)
    rw [zt] at this; exact h.no this
   ·have:=q.2.2
    unfold egM at this
    simp only [if_neg zt] at this
    have n : ¬ (Rc (E.filter (AcT S a b)) a e.To∨S e.To=true):=fun y=>by rw [It.1.2 y] at this; cases this
    cases st : S e.To with
    | true=>exact n (.inr st)
    | false=>exact n (.inl (step st))
 omega
def kyE (b : Int) (e : AaA) : Int:=if e.To=b then e.From else e.To
def rim (N : Nat) (E : List AaA) (a b : Int) (T : Int→Bool) : List Int:=((AhY N).filter (ndX a b T))++((E.filter fun e=>egX a b T e && !(decide (e.From=a∧e.To=b))).map (kyE b))
theorem AqE {N : Nat} {E : List AaA} {a b v : Int} (hl : ∀ e ∈ E,1≤e.Level) (hE : inE N E) (ha : 0≤a∧a<N) (hb : 0≤b∧b<N) (hab : a≠b) (L : Mf.Least (ar (Agz N E 1 a b)) v) : ∃ S : Int→Bool,Sep E a b S∧((Af2 N S+Ajp E a b : Nat) : Int)≤v∧Af2 N S≤N:=by
 obtain ⟨T,t0,t1,rfl⟩:=L.is
 refine ⟨fun x=>decide (x ∈ rim N E a b T),?_,?_,?_⟩
 ·have ky : ∀ e ∈ E,(egX a b T e && !(decide (e.From=a∧e.To=b)))=true→kyE b e≠a∧kyE b e≠b:=by
   intro e he q
   rw [Bool.and_eq_true,Bool.not_eq_true',decide_eq_false_iff_not] at q
   obtain ⟨q1,q2⟩:=q
   unfold egX egP at q1
   rw [Bool.and_eq_true,decide_eq_true_eq] at q1
   unfold kyE
   split
   ·exact ⟨fun z=>q2 ⟨z,by assumption⟩,q1.1.2.2⟩
   ·exact ⟨q1.1.2.1,by assumption⟩
  have nn : ∀ x,x=a∨x=b→x ∉ rim N E a b T:=by
   intro x hx hm
   unfold rim at hm
   rcases List.mem_append.1 hm with hm | hm
   ·have:=(List.mem_filter.1 hm).2
    unfold ndX at this
    rw [Bool.and_eq_true,decide_eq_true_eq] at this
    rcases hx with hx | hx
    ·exact this.1.1 hx
    ·exact this.1.2 hx
   ·obtain ⟨e,he,rfl⟩:=List.mem_map.1 hm
    have:=ky e (List.mem_filter.1 he).1 (List.mem_filter.1 he).2
    rcases hx with hx | hx
    ·exact this.1 hx
    ·exact this.2 hx
  have key : ∀ x,Rc (E.filter (AcT (fun x=>decide (x ∈ rim N E a b T)) a b)) a x→x≠b∧(x≠a→T (3+2*x)=true):=by
   intro x hx
   induction hx with
   | z=>exact ⟨hab,fun z=>absurd rfl z⟩
   | s h he ih =>
    rename_i e
    obtain ⟨he,hr⟩:=List.mem_filter.1 he
    unfold AcT at hr
    simp only [decide_eq_true_eq,decide_eq_false_iff_not] at hr
    obtain ⟨r1,r2,r3⟩:=hr
    have rg:=hE e he
    by_cases ta : e.To=a
    ·exact ⟨fun z=>hab (ta.symm.trans z),fun z=>absurd ta z⟩
    have inx : T (egM a b e).To=false→egX a b T e=true:=by
     intro q
     unfold egX egP crs
     rw [Bool.and_eq_true,decide_eq_true_eq,decide_eq_true_eq]
     refine ⟨⟨hl e he,ta,ih.1⟩,?_,q⟩
     unfold egM
     simp only []
     split
     ·exact t0
     ·exact ih.2 (by assumption)
    have rimk : egX a b T e=true→¬ (e.From=a∧e.To=b)→kyE b e ∈ rim N E a b T:=fun q1 q2=>List.mem_append_right _ (List.mem_map.2 ⟨e,List.mem_filter.2 ⟨he,by rw [q1,decide_eq_false q2]; rfl⟩,rfl⟩)
    by_cases tb : e.To=b
    ·exfalso
     have q:=inx (by unfold egM; simp only [if_pos tb]; exact t1)
     have:=rimk q fun z=>r3 z.1 z.2
     unfold kyE at this
     rw [if_pos tb] at this; exact r1 this
    ·refine ⟨tb,fun _=>?_⟩
     have t2 : T (2+2*e.To)=true:=by
      cases q0 : T (2+2*e.To) with
      | true=>rfl
      | false =>
       have q:=inx (by unfold egM; simp only [if_neg tb]; exact q0)
       have:=rimk q fun z=>tb z.2
       unfold kyE at this
       rw [if_neg tb] at this; exact absurd this r2
     cases q0 : T (3+2*e.To) with
     | true=>rfl
     | false =>
      exfalso
      apply r2
      refine List.mem_append_left _ (List.mem_filter.2 ⟨Adw.2 ⟨rg.2.2.1,rg.2.2.2⟩,?_⟩)
      unfold ndX crs
      rw [Bool.and_eq_true,decide_eq_true_eq,decide_eq_true_eq]
      exact ⟨⟨ta,tb⟩,t2,q0⟩
  exact ⟨decide_eq_false (nn a (.inl rfl)),decide_eq_false (nn b (.inr rfl)),fun q=>(key b q).1 rfl⟩
 ·rw [Ak2]
  have h1 : Af2 N (fun x=>decide (x ∈ rim N E a b T))≤(rim N E a b T).length:=Aoz (List.Pairwise.filter _ (Aou N)) fun x hx=>by simpa using (List.mem_filter.1 hx).2
  have h2:=Agg (egX a b T) (fun e=>decide (e.From=a∧e.To=b)) E
  have h3 : Ajp E a b≤(E.filter fun x=>egX a b T x&&decide (x.From=a∧x.To=b)).length:=by
   unfold Ajp
   split
   ·rename_i hm
    obtain ⟨e,he,e1,e2⟩:=AeO.1 hm
    have : e ∈ E.filter fun x=>egX a b T x&&decide (x.From=a∧x.To=b):=List.mem_filter.2 ⟨he,by
     unfold egX egP crs
     simp only [Bool.and_eq_true,decide_eq_true_eq]
     refine ⟨⟨⟨hl e he,by rw [e2]; exact fun z=>hab z.symm,by rw [e1]; exact hab⟩,?_,?_⟩,e1,e2⟩
     ·unfold egM; simp only [if_pos e1]; exact t0
     ·unfold egM; simp only [if_pos e2]; exact t1⟩
    exact List.length_pos_of_mem this
   ·omega
  have hr : (rim N E a b T).length=((AhY N).filter (ndX a b T)).length+(E.filter fun e=>egX a b T e && !(decide (e.From=a∧e.To=b))).length:=by
   unfold rim; rw [List.length_append,List.length_map]
  omega
 ·unfold Af2
  exact Nat.le_trans (List.length_filter_le _ _) (by rw [AiP]; exact Nat.le_refl _)
theorem AoS {N : Nat} {E : List AaA} {lv a b : Int} {out : List (List Int)} {mm : List (Int×Bool)} {dr : Bool} (A : Ap N E lv a b out mm dr) {S : Int→Bool} (h : Sep E a b S) : out.length≤Af2 N S+Ajp E a b:=by
 have hit : ∀ w ∈ out,w.length≠2→∃ x ∈ inn w,S x=true:=by
  intro w hw hl
  apply Classical.byContradiction
  intro n
  have P:=A.pw w hw
  have two:=P.two
  have ns : ∀ x ∈ inn w,S x=false:=fun x hx=>by
   cases q : S x with
   | false=>rfl
   | true=>exact absurd ⟨x,hx,q⟩ n
  have h0 : w[0]'(by omega)=a:=by
   have:=P.hd
   rw [List.head?_eq_getElem?,List.getElem?_eq_getElem (by omega)] at this
   exact Option.some.inj this
  have h1 : w[w.length-1]'(by omega)=b:=by
   have:=P.lt
   rw [List.getLast?_eq_getElem?,List.getElem?_eq_getElem (by omega)] at this
   exact Option.some.inj this
  have sw : ∀ (i : Nat) (hi : i<w.length),S w[i]=false:=by
   intro i hi
   by_cases c0 : i=0
   ·subst c0; rw [h0]; exact h.a0
   by_cases c1 : i=w.length-1
   ·subst c1; rw [h1]; exact h.b0
   exact ns _ (Aes.2 ⟨i-1,by omega,by congr 1; omega⟩)
  have nd:=P.nd
  rw [List.nodup_iff_pairwise_ne,List.pairwise_iff_getElem] at nd
  have rc : ∀ (i : Nat) (hi : i<w.length),Rc (E.filter (AcT S a b)) a w[i]:=by
   intro i
   induction i with
   | zero=>intro hi; rw [h0]; exact .z
   | succ i ih =>
    intro hi
    obtain ⟨e,he,_,e1,e2⟩:=P.ed i hi
    rw [← e2]
    refine .s (by rw [e1]; exact ih (by omega)) (List.mem_filter.2 ⟨he,?_⟩)
    unfold AcT
    rw [decide_eq_true_eq,e1,e2]
    refine ⟨sw i (by omega),sw (i+1) hi,fun z1 z2=>?_⟩
    have i0 : i=0:=by
     apply Classical.byContradiction
     intro c
     exact nd 0 i (by omega) (by omega) (by omega) (by rw [h0,z1])
    have i1 : i+1=w.length-1:=by
     apply Classical.byContradiction
     intro c
     exact nd (i+1) (w.length-1) (by omega) (by omega) (by omega) (by rw [h1,z2])
    omega
  have:=rc (w.length-1) (by omega)
  rw [h1] at this
  exact h.no this
 have h2:=Agg (fun _ : List Int=>true) (fun w=>decide (w.length=2)) out
 have h2t : (out.filter fun _ : List Int=>true).length=out.length:=by rw [List.filter_eq_self.2 (fun _ _=>rfl)]
 rw [h2t] at h2
 simp only [Bool.true_and] at h2
 have d1 : (out.filter fun w=>decide (w.length=2)).length≤Ajp E a b:=by
  have p:=A.d1.filter (fun w=>decide (w.length=2))
  have q : ∀ w ∈ out.filter (fun w=>decide (w.length=2)),w ∈ out∧w.length=2:=fun w hw=>⟨(List.mem_filter.1 hw).1,by simpa using (List.mem_filter.1 hw).2⟩
  generalize out.filter (fun w=>decide (w.length=2))=M at p q
  match M with
  | []=>simp
  | [w] =>
   have:=q w (by simp)
   have P:=A.pw w this.1
   have hl:=this.2
   obtain ⟨e,he,_,e1,e2⟩:=P.ed 0 (by omega)
   have h0 : w[0]'(by omega)=a:=by
    have:=P.hd
    rw [List.head?_eq_getElem?,List.getElem?_eq_getElem (by omega)] at this
    exact Option.some.inj this
   have h1 : w[1]'(by omega)=b:=by
    have:=P.lt
    rw [List.getLast?_eq_getElem?,hl,List.getElem?_eq_getElem (by omega)] at this
    exact Option.some.inj this
   unfold Ajp
   rw [if_pos (AeO.2 ⟨e,he,by rw [e1,h0],by rw [e2]; exact h1⟩)]; simp
  | w::w'::r =>
   exfalso
   exact (List.pairwise_cons.1 p).1 w' (by simp) ⟨(q w (by simp)).2,(q w' (by simp)).2⟩
 have d2 : (out.filter fun w => !decide (w.length=2)).length≤Af2 N S:=by
  have f : ∀ w ∈ out.filter (fun w => !decide (w.length=2)),((inn w).find? S).getD 0 ∈ inn w∧S (((inn w).find? S).getD 0)=true:=by
   intro w hw
   obtain ⟨m1,m2⟩:=List.mem_filter.1 hw
   obtain ⟨x,hx,sx⟩:=hit w m1 (by simpa using m2)
   cases q : (inn w).find? S with
   | none=>exact absurd sx (by simpa using List.find?_eq_none.1 q x hx)
   | some y=>exact ⟨List.mem_of_find?_eq_some q,List.find?_some q⟩
  have nd : ((out.filter fun w => !decide (w.length=2)).map fun w=>((inn w).find? S).getD 0).Nodup:=by
   rw [List.nodup_iff_pairwise_ne,List.pairwise_map]
   refine List.Pairwise.imp_of_mem (fun {w w'} hw hw' q e=>?_) (A.dj.filter _)
   exact q _ (f w hw).1 (by rw [e]; exact (f w' hw').1)
  have:=Aoz nd (m:=(AhY N).filter S) fun x hx=>by
   obtain ⟨w,hw,rfl⟩:=List.mem_map.1 hx
   have hi:=(f w hw).1
   have ho:=(List.mem_filter.1 hw).1
   refine List.mem_filter.2 ⟨Adw.2 (A.rg w ho _ ?_),(f w hw).2⟩
   obtain ⟨i,h,e⟩:=Aes.1 hi
   rw [← e]; exact List.getElem_mem _
  rw [List.length_map] at this
  exact this
 omega
end Go.TF
