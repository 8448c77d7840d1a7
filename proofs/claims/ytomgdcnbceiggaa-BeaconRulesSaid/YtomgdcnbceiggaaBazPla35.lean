import Derived.Test.YtomgdcnbceiggaaBazPla34
import Derived.Test.YtomgdcnbceiggaaBazPla33
set_option linter.unusedVariables false
set_option linter.unusedSimpArgs false
set_option maxRecDepth 20000
namespace Go.TF
open Go Go.Abs
theorem Ame (h : fam0≠0) {t0 t1 lv se sp qu : Nat} (m_t0 : t0 ∈ ([5,9,3] : List Nat)) (m_t1 : t1 ∈ ([3,2,1] : List Nat)) (m_lv : lv ∈ ([1,2] : List Nat)) (m_se : se ∈ ([3,1,4,5,2] : List Nat)) (m_sp : sp ∈ ([10,20,5,1] : List Nat)) (m_qu : qu ∈ ([1,2,0,5] : List Nat)) :
 ∃ a b c d e f g h : Nat,B8 a b c d e f g h∧AbJ 2 (cI (Amq++Alu t0 t1 lv se sp qu)) Adh=lN a b c d e f g h∧dk a=Abz 0 t0 t1 lv se sp qu:=by
 unfold fam0 at h
 obtain ⟨a1,b1,c1,d1,e1,f1,g1,h1,B1,q1,k1⟩:=AcR (l:=Amq) rfl (by decide) B0
 rw [k1] at h
 have h:=AaP h m_t0
 have h:=AaP h m_t1
 have h:=AaP h m_lv
 have h:=AaP h m_se
 have h:=AaP h m_sp
 have h:=AaP h m_qu
 obtain ⟨a2,b2,c2,d2,e2,f2,g2,h2,B2,q2,k2⟩:=AcR (l:=Alu t0 t1 lv se sp qu) rfl (by have b1:=AaU (n:=256) m_t0 (by decide); have b2:=AaU (n:=256) m_t1 (by decide); have b3:=AaU (n:=256) m_lv (by decide); have b4:=AaU (n:=256) m_se (by decide); have b5:=AaU (n:=256) m_sp (by decide); have b6:=AaU (n:=256) m_qu (by decide); simp [Alu]; omega) B1
 rw [k2] at h
 refine ⟨a2,b2,c2,d2,e2,f2,g2,h2,B2,?_,Abt h⟩
 rw [AcP,AbB (by rfl)]
 show AbJ 1 _ (AcJ (lN 1779033703 3144134277 1013904242 2773480762 1359893119 2600822924 528734635 1541459225) _ KK)=_
 rw [q1]
 rw [Abu (by rfl)]
 rw [q2]
def m0 (t0 t1 lv se sp qu : Nat) : List Nat:=[116,114,117,115,116,102,108,111,119,0,0,0,0,0,0,0,2,0,0,0,0,0,0,0,0,0,0,0,0,0,0,0,1,0,0,0,0,0,0,0,1,0,0,0,0,0,0,0,0,0,0,0,0,0,0,0,2,0,0,0,0,0,0,0,t0,0,0,0,0,0,0,0,t1,0,0,0,0,0,0,0,4,0,0,0,0,0,0,0,lv,0,0,0,0,0,0,0,se,0,0,0,0,0,0,0,sp,0,0,0,0,0,0,0,qu]
theorem ArN (t0 t1 lv se sp qu : Nat) : fill (Adf ((cI (m0 t0 t1 lv se sp qu)).length+1)) (cI (m0 t0 t1 lv se sp qu)++[128])++lens (cI (m0 t0 t1 lv se sp qu)).length=cI ((Amq++Alu t0 t1 lv se sp qu)):=by
 have e : (cI (m0 t0 t1 lv se sp qu)).length=113:=by rfl
 rw [e,show Adf (113+1)=6 from by rfl,show lens 113 = [0,0,0,0,0,0,3,136] from by rfl,Abm]
 exact congrArg cI (show m0 t0 t1 lv se sp qu++[128]++List.replicate 6 0++[0,0,0,0,0,0,3,136]=(Amq++Alu t0 t1 lv se sp qu) from by rfl)
theorem ArB (ok : fam0≠0) {t0 t1 lv se sp qu : Nat} (m_t0 : t0 ∈ ([5,9,3] : List Nat)) (m_t1 : t1 ∈ ([3,2,1] : List Nat)) (m_lv : lv ∈ ([1,2] : List Nat)) (m_se : se ∈ ([3,1,4,5,2] : List Nat)) (m_sp : sp ∈ ([10,20,5,1] : List Nat)) (m_qu : qu ∈ ([1,2,0,5] : List Nat)) : Dig (m0 t0 t1 lv se sp qu) (Abz 0 t0 t1 lv se sp qu):=by
 obtain ⟨a,b,c,d,e,f,g,h,B,q,r⟩:=Ame ok m_t0 m_t1 m_lv m_se m_sp m_qu
 refine ⟨a,b,c,d,e,f,g,h,B,?_,r⟩
 have l : (cI ((Amq++Alu t0 t1 lv se sp qu))).length=128:=by rfl
 unfold Aeg
 rw [ArN]
 show AeH (AbJ ((cI ((Amq++Alu t0 t1 lv se sp qu))).length / 64) _ _)=_
 rw [l]
 exact congrArg AeH q
theorem Amc (h : fam1≠0) {t0 t1 lv se sp qu : Nat} (m_t0 : t0 ∈ ([5,9,3] : List Nat)) (m_t1 : t1 ∈ ([3,2,1] : List Nat)) (m_lv : lv ∈ ([1,2] : List Nat)) (m_se : se ∈ ([3,1,4,5,2] : List Nat)) (m_sp : sp ∈ ([10,20,5,1] : List Nat)) (m_qu : qu ∈ ([1,2,0,5] : List Nat)) :
 ∃ a b c d e f g h : Nat,B8 a b c d e f g h∧AbJ 3 (cI (Amp++(Alt t0 t1 lv se sp qu++Amo))) Adh=lN a b c d e f g h∧dk a=Abz 1 t0 t1 lv se sp qu:=by
 unfold fam1 at h
 obtain ⟨a1,b1,c1,d1,e1,f1,g1,h1,B1,q1,k1⟩:=AcR (l:=Amp) rfl (by decide) B0
 rw [k1] at h
 have h:=AaP h m_t0
 have h:=AaP h m_t1
 have h:=AaP h m_lv
 have h:=AaP h m_se
 have h:=AaP h m_sp
 have h:=AaP h m_qu
 obtain ⟨a2,b2,c2,d2,e2,f2,g2,h2,B2,q2,k2⟩:=AcR (l:=Alt t0 t1 lv se sp qu) rfl (by have b1:=AaU (n:=256) m_t0 (by decide); have b2:=AaU (n:=256) m_t1 (by decide); have b3:=AaU (n:=256) m_lv (by decide); have b4:=AaU (n:=256) m_se (by decide); have b5:=AaU (n:=256) m_sp (by decide); have b6:=AaU (n:=256) m_qu (by decide); simp [Alt]; omega) B1
 rw [k2] at h
 obtain ⟨a3,b3,c3,d3,e3,f3,g3,h3,B3,q3,k3⟩:=AcR (l:=Amo) rfl (by decide) B2
 rw [k3] at h
 refine ⟨a3,b3,c3,d3,e3,f3,g3,h3,B3,?_,Abt h⟩
 rw [AcP,AbB (by rfl)]
 show AbJ 2 _ (AcJ (lN 1779033703 3144134277 1013904242 2773480762 1359893119 2600822924 528734635 1541459225) _ KK)=_
 rw [q1]
 rw [AcP,AbB (by rfl)]
 rw [q2]
 rw [Abu (by rfl)]
 rw [q3]
def m1 (t0 t1 lv se sp qu : Nat) : List Nat:=[116,114,117,115,116,102,108,111,119,0,0,0,0,0,0,0,2,0,0,0,0,0,0,0,0,0,0,0,0,0,0,0,1,0,0,0,0,0,0,0,2,0,0,0,0,0,0,0,0,0,0,0,0,0,0,0,1,0,0,0,0,0,0,0,2,0,0,0,0,0,0,0,t0,0,0,0,0,0,0,0,t1,0,0,0,0,0,0,0,4,0,0,0,0,0,0,0,lv,0,0,0,0,0,0,0,se,0,0,0,0,0,0,0,sp,0,0,0,0,0,0,0,qu]
theorem ArM (t0 t1 lv se sp qu : Nat) : fill (Adf ((cI (m1 t0 t1 lv se sp qu)).length+1)) (cI (m1 t0 t1 lv se sp qu)++[128])++lens (cI (m1 t0 t1 lv se sp qu)).length=cI ((Amp++(Alt t0 t1 lv se sp qu++Amo))):=by
 have e : (cI (m1 t0 t1 lv se sp qu)).length=121:=by rfl
 rw [e,show Adf (121+1)=62 from by rfl,show lens 121 = [0,0,0,0,0,0,3,200] from by rfl,Abm]
 exact congrArg cI (show m1 t0 t1 lv se sp qu++[128]++List.replicate 62 0++[0,0,0,0,0,0,3,200]=(Amp++(Alt t0 t1 lv se sp qu++Amo)) from by rfl)
theorem ArA (ok : fam1≠0) {t0 t1 lv se sp qu : Nat} (m_t0 : t0 ∈ ([5,9,3] : List Nat)) (m_t1 : t1 ∈ ([3,2,1] : List Nat)) (m_lv : lv ∈ ([1,2] : List Nat)) (m_se : se ∈ ([3,1,4,5,2] : List Nat)) (m_sp : sp ∈ ([10,20,5,1] : List Nat)) (m_qu : qu ∈ ([1,2,0,5] : List Nat)) : Dig (m1 t0 t1 lv se sp qu) (Abz 1 t0 t1 lv se sp qu):=by
 obtain ⟨a,b,c,d,e,f,g,h,B,q,r⟩:=Amc ok m_t0 m_t1 m_lv m_se m_sp m_qu
 refine ⟨a,b,c,d,e,f,g,h,B,?_,r⟩
 have l : (cI ((Amp++(Alt t0 t1 lv se sp qu++Amo)))).length=192:=by rfl
 unfold Aeg
 rw [ArM]
 show AeH (AbJ ((cI ((Amp++(Alt t0 t1 lv se sp qu++Amo)))).length / 64) _ _)=_
 rw [l]
 exact congrArg AeH q
theorem Ama (h : fam2≠0) {t0 t1 lv se sp qu : Nat} (m_t0 : t0 ∈ ([5,9,3] : List Nat)) (m_t1 : t1 ∈ ([3,2,1] : List Nat)) (m_lv : lv ∈ ([1,2] : List Nat)) (m_se : se ∈ ([3,1,4,5,2] : List Nat)) (m_sp : sp ∈ ([10,20,5,1] : List Nat)) (m_qu : qu ∈ ([1,2,0,5] : List Nat)) :
 ∃ a b c d e f g h : Nat,B8 a b c d e f g h∧AbJ 3 (cI (Amn++(Als t0 t1 lv se sp qu++Amm))) Adh=lN a b c d e f g h∧dk a=Abz 2 t0 t1 lv se sp qu:=by
 unfold fam2 at h
 obtain ⟨a1,b1,c1,d1,e1,f1,g1,h1,B1,q1,k1⟩:=AcR (l:=Amn) rfl (by decide) B0
 rw [k1] at h
 have h:=AaP h m_t0
 have h:=AaP h m_t1
 have h:=AaP h m_lv
 have h:=AaP h m_se
 have h:=AaP h m_sp
 have h:=AaP h m_qu
 obtain ⟨a2,b2,c2,d2,e2,f2,g2,h2,B2,q2,k2⟩:=AcR (l:=Als t0 t1 lv se sp qu) rfl (by have b1:=AaU (n:=256) m_t0 (by decide); have b2:=AaU (n:=256) m_t1 (by decide); have b3:=AaU (n:=256) m_lv (by decide); have b4:=AaU (n:=256) m_se (by decide); have b5:=AaU (n:=256) m_sp (by decide); have b6:=AaU (n:=256) m_qu (by decide); simp [Als]; omega) B1
 rw [k2] at h
 obtain ⟨a3,b3,c3,d3,e3,f3,g3,h3,B3,q3,k3⟩:=AcR (l:=Amm) rfl (by decide) B2
 rw [k3] at h
 refine ⟨a3,b3,c3,d3,e3,f3,g3,h3,B3,?_,Abt h⟩
 rw [AcP,AbB (by rfl)]
 show AbJ 2 _ (AcJ (lN 1779033703 3144134277 1013904242 2773480762 1359893119 2600822924 528734635 1541459225) _ KK)=_
 rw [q1]
 rw [AcP,AbB (by rfl)]
 rw [q2]
 rw [Abu (by rfl)]
 rw [q3]
def m2 (t0 t1 lv se sp qu : Nat) : List Nat:=[116,114,117,115,116,102,108,111,119,0,0,0,0,0,0,0,3,0,0,0,0,0,0,0,0,0,0,0,0,0,0,0,1,0,0,0,0,0,0,0,2,0,0,0,0,0,0,0,1,0,0,0,0,0,0,0,0,0,0,0,0,0,0,0,2,0,0,0,0,0,0,0,t0,0,0,0,0,0,0,0,t1,0,0,0,0,0,0,0,4,0,0,0,0,0,0,0,lv,0,0,0,0,0,0,0,se,0,0,0,0,0,0,0,sp,0,0,0,0,0,0,0,qu]
theorem ArL (t0 t1 lv se sp qu : Nat) : fill (Adf ((cI (m2 t0 t1 lv se sp qu)).length+1)) (cI (m2 t0 t1 lv se sp qu)++[128])++lens (cI (m2 t0 t1 lv se sp qu)).length=cI ((Amn++(Als t0 t1 lv se sp qu++Amm))):=by
 have e : (cI (m2 t0 t1 lv se sp qu)).length=121:=by rfl
 rw [e,show Adf (121+1)=62 from by rfl,show lens 121 = [0,0,0,0,0,0,3,200] from by rfl,Abm]
 exact congrArg cI (show m2 t0 t1 lv se sp qu++[128]++List.replicate 62 0++[0,0,0,0,0,0,3,200]=(Amn++(Als t0 t1 lv se sp qu++Amm)) from by rfl)
theorem Aq9 (ok : fam2≠0) {t0 t1 lv se sp qu : Nat} (m_t0 : t0 ∈ ([5,9,3] : List Nat)) (m_t1 : t1 ∈ ([3,2,1] : List Nat)) (m_lv : lv ∈ ([1,2] : List Nat)) (m_se : se ∈ ([3,1,4,5,2] : List Nat)) (m_sp : sp ∈ ([10,20,5,1] : List Nat)) (m_qu : qu ∈ ([1,2,0,5] : List Nat)) : Dig (m2 t0 t1 lv se sp qu) (Abz 2 t0 t1 lv se sp qu):=by
 obtain ⟨a,b,c,d,e,f,g,h,B,q,r⟩:=Ama ok m_t0 m_t1 m_lv m_se m_sp m_qu
 refine ⟨a,b,c,d,e,f,g,h,B,?_,r⟩
 have l : (cI ((Amn++(Als t0 t1 lv se sp qu++Amm)))).length=192:=by rfl
 unfold Aeg
 rw [ArL]
 show AeH (AbJ ((cI ((Amn++(Als t0 t1 lv se sp qu++Amm)))).length / 64) _ _)=_
 rw [l]
 exact congrArg AeH q
theorem AmY (h : fam3≠0) {t0 t1 lv se sp qu : Nat} (m_t0 : t0 ∈ ([5,9,3] : List Nat)) (m_t1 : t1 ∈ ([3,2,1] : List Nat)) (m_lv : lv ∈ ([1,2] : List Nat)) (m_se : se ∈ ([3,1,4,5,2] : List Nat)) (m_sp : sp ∈ ([10,20,5,1] : List Nat)) (m_qu : qu ∈ ([1,2,0,5] : List Nat)) :
 ∃ a b c d e f g h : Nat,B8 a b c d e f g h∧AbJ 3 (cI (Aml++(Alr t0 t1 lv se sp++Alq qu))) Adh=lN a b c d e f g h∧dk a=Abz 3 t0 t1 lv se sp qu:=by
 unfold fam3 at h
 obtain ⟨a1,b1,c1,d1,e1,f1,g1,h1,B1,q1,k1⟩:=AcR (l:=Aml) rfl (by decide) B0
 rw [k1] at h
 have h:=AaP h m_t0
 have h:=AaP h m_t1
 have h:=AaP h m_lv
 have h:=AaP h m_se
 have h:=AaP h m_sp
 obtain ⟨a2,b2,c2,d2,e2,f2,g2,h2,B2,q2,k2⟩:=AcR (l:=Alr t0 t1 lv se sp) rfl (by have b1:=AaU (n:=256) m_t0 (by decide); have b2:=AaU (n:=256) m_t1 (by decide); have b3:=AaU (n:=256) m_lv (by decide); have b4:=AaU (n:=256) m_se (by decide); have b5:=AaU (n:=256) m_sp (by decide); have b6:=AaU (n:=256) m_qu (by decide); simp [Alr]; omega) B1
 rw [k2] at h
 have h:=AaP h m_qu
 obtain ⟨a3,b3,c3,d3,e3,f3,g3,h3,B3,q3,k3⟩:=AcR (l:=Alq qu) rfl (by have b1:=AaU (n:=256) m_t0 (by decide); have b2:=AaU (n:=256) m_t1 (by decide); have b3:=AaU (n:=256) m_lv (by decide); have b4:=AaU (n:=256) m_se (by decide); have b5:=AaU (n:=256) m_sp (by decide); have b6:=AaU (n:=256) m_qu (by decide); simp [Alq]; omega) B2
 rw [k3] at h
 refine ⟨a3,b3,c3,d3,e3,f3,g3,h3,B3,?_,Abt h⟩
 rw [AcP,AbB (by rfl)]
 show AbJ 2 _ (AcJ (lN 1779033703 3144134277 1013904242 2773480762 1359893119 2600822924 528734635 1541459225) _ KK)=_
 rw [q1]
 rw [AcP,AbB (by rfl)]
 rw [q2]
 rw [Abu (by rfl)]
 rw [q3]
def m3 (t0 t1 lv se sp qu : Nat) : List Nat:=[116,114,117,115,116,102,108,111,119,0,0,0,0,0,0,0,3,0,0,0,0,0,0,0,0,0,0,0,0,0,0,0,1,0,0,0,0,0,0,0,2,0,0,0,0,0,0,0,2,0,0,0,0,0,0,0,0,0,0,0,0,0,0,0,1,0,0,0,0,0,0,0,2,0,0,0,0,0,0,0,t0,0,0,0,0,0,0,0,t1,0,0,0,0,0,0,0,4,0,0,0,0,0,0,0,lv,0,0,0,0,0,0,0,se,0,0,0,0,0,0,0,sp,0,0,0,0,0,0,0,qu]
theorem ArK (t0 t1 lv se sp qu : Nat) : fill (Adf ((cI (m3 t0 t1 lv se sp qu)).length+1)) (cI (m3 t0 t1 lv se sp qu)++[128])++lens (cI (m3 t0 t1 lv se sp qu)).length=cI ((Aml++(Alr t0 t1 lv se sp++Alq qu))):=by
 have e : (cI (m3 t0 t1 lv se sp qu)).length=129:=by rfl
 rw [e,show Adf (129+1)=54 from by rfl,show lens 129 = [0,0,0,0,0,0,4,8] from by rfl,Abm]
 exact congrArg cI (show m3 t0 t1 lv se sp qu++[128]++List.replicate 54 0++[0,0,0,0,0,0,4,8]=(Aml++(Alr t0 t1 lv se sp++Alq qu)) from by rfl)
theorem Aq8 (ok : fam3≠0) {t0 t1 lv se sp qu : Nat} (m_t0 : t0 ∈ ([5,9,3] : List Nat)) (m_t1 : t1 ∈ ([3,2,1] : List Nat)) (m_lv : lv ∈ ([1,2] : List Nat)) (m_se : se ∈ ([3,1,4,5,2] : List Nat)) (m_sp : sp ∈ ([10,20,5,1] : List Nat)) (m_qu : qu ∈ ([1,2,0,5] : List Nat)) : Dig (m3 t0 t1 lv se sp qu) (Abz 3 t0 t1 lv se sp qu):=by
 obtain ⟨a,b,c,d,e,f,g,h,B,q,r⟩:=AmY ok m_t0 m_t1 m_lv m_se m_sp m_qu
 refine ⟨a,b,c,d,e,f,g,h,B,?_,r⟩
 have l : (cI ((Aml++(Alr t0 t1 lv se sp++Alq qu)))).length=192:=by rfl
 unfold Aeg
 rw [ArK]
 show AeH (AbJ ((cI ((Aml++(Alr t0 t1 lv se sp++Alq qu)))).length / 64) _ _)=_
 rw [l]
 exact congrArg AeH q
theorem AmW (h : fam4≠0) {t0 t1 lv se sp qu : Nat} (m_t0 : t0 ∈ ([5,9,3] : List Nat)) (m_t1 : t1 ∈ ([3,2,1] : List Nat)) (m_lv : lv ∈ ([1,2] : List Nat)) (m_se : se ∈ ([3,1,4,5,2] : List Nat)) (m_sp : sp ∈ ([10,20,5,1] : List Nat)) (m_qu : qu ∈ ([1,2,0,5] : List Nat)) :
 ∃ a b c d e f g h : Nat,B8 a b c d e f g h∧AbJ 3 (cI (Amk++(Alp t0 t1 lv se sp++Alo qu))) Adh=lN a b c d e f g h∧dk a=Abz 4 t0 t1 lv se sp qu:=by
 unfold fam4 at h
 obtain ⟨a1,b1,c1,d1,e1,f1,g1,h1,B1,q1,k1⟩:=AcR (l:=Amk) rfl (by decide) B0
 rw [k1] at h
 have h:=AaP h m_t0
 have h:=AaP h m_t1
 have h:=AaP h m_lv
 have h:=AaP h m_se
 have h:=AaP h m_sp
 obtain ⟨a2,b2,c2,d2,e2,f2,g2,h2,B2,q2,k2⟩:=AcR (l:=Alp t0 t1 lv se sp) rfl (by have b1:=AaU (n:=256) m_t0 (by decide); have b2:=AaU (n:=256) m_t1 (by decide); have b3:=AaU (n:=256) m_lv (by decide); have b4:=AaU (n:=256) m_se (by decide); have b5:=AaU (n:=256) m_sp (by decide); have b6:=AaU (n:=256) m_qu (by decide); simp [Alp]; omega) B1
 rw [k2] at h
 have h:=AaP h m_qu
 obtain ⟨a3,b3,c3,d3,e3,f3,g3,h3,B3,q3,k3⟩:=AcR (l:=Alo qu) rfl (by have b1:=AaU (n:=256) m_t0 (by decide); have b2:=AaU (n:=256) m_t1 (by decide); have b3:=AaU (n:=256) m_lv (by decide); have b4:=AaU (n:=256) m_se (by decide); have b5:=AaU (n:=256) m_sp (by decide); have b6:=AaU (n:=256) m_qu (by decide); simp [Alo]; omega) B2
 rw [k3] at h
 refine ⟨a3,b3,c3,d3,e3,f3,g3,h3,B3,?_,Abt h⟩
 rw [AcP,AbB (by rfl)]
 show AbJ 2 _ (AcJ (lN 1779033703 3144134277 1013904242 2773480762 1359893119 2600822924 528734635 1541459225) _ KK)=_
 rw [q1]
 rw [AcP,AbB (by rfl)]
 rw [q2]
 rw [Abu (by rfl)]
 rw [q3]
def m4 (t0 t1 lv se sp qu : Nat) : List Nat:=[116,114,117,115,116,102,108,111,119,0,0,0,0,0,0,0,4,0,0,0,0,0,0,0,0,0,0,0,0,0,0,0,1,0,0,0,0,0,0,0,2,0,0,0,0,0,0,0,3,0,0,0,0,0,0,0,1,0,0,0,0,0,0,0,0,0,0,0,0,0,0,0,2,0,0,0,0,0,0,0,t0,0,0,0,0,0,0,0,t1,0,0,0,0,0,0,0,4,0,0,0,0,0,0,0,lv,0,0,0,0,0,0,0,se,0,0,0,0,0,0,0,sp,0,0,0,0,0,0,0,qu]
theorem ArJ (t0 t1 lv se sp qu : Nat) : fill (Adf ((cI (m4 t0 t1 lv se sp qu)).length+1)) (cI (m4 t0 t1 lv se sp qu)++[128])++lens (cI (m4 t0 t1 lv se sp qu)).length=cI ((Amk++(Alp t0 t1 lv se sp++Alo qu))):=by
 have e : (cI (m4 t0 t1 lv se sp qu)).length=129:=by rfl
 rw [e,show Adf (129+1)=54 from by rfl,show lens 129 = [0,0,0,0,0,0,4,8] from by rfl,Abm]
 exact congrArg cI (show m4 t0 t1 lv se sp qu++[128]++List.replicate 54 0++[0,0,0,0,0,0,4,8]=(Amk++(Alp t0 t1 lv se sp++Alo qu)) from by rfl)
theorem Aq7 (ok : fam4≠0) {t0 t1 lv se sp qu : Nat} (m_t0 : t0 ∈ ([5,9,3] : List Nat)) (m_t1 : t1 ∈ ([3,2,1] : List Nat)) (m_lv : lv ∈ ([1,2] : List Nat)) (m_se : se ∈ ([3,1,4,5,2] : List Nat)) (m_sp : sp ∈ ([10,20,5,1] : List Nat)) (m_qu : qu ∈ ([1,2,0,5] : List Nat)) : Dig (m4 t0 t1 lv se sp qu) (Abz 4 t0 t1 lv se sp qu):=by
 obtain ⟨a,b,c,d,e,f,g,h,B,q,r⟩:=AmW ok m_t0 m_t1 m_lv m_se m_sp m_qu
 refine ⟨a,b,c,d,e,f,g,h,B,?_,r⟩
 have l : (cI ((Amk++(Alp t0 t1 lv se sp++Alo qu)))).length=192:=by rfl
 unfold Aeg
 rw [ArJ]
 show AeH (AbJ ((cI ((Amk++(Alp t0 t1 lv se sp++Alo qu)))).length / 64) _ _)=_
 rw [l]
 exact congrArg AeH q
theorem AmU (h : fam5≠0) {t0 t1 lv se sp qu : Nat} (m_t0 : t0 ∈ ([5,9,3] : List Nat)) (m_t1 : t1 ∈ ([3,2,1] : List Nat)) (m_lv : lv ∈ ([1,2] : List Nat)) (m_se : se ∈ ([3,1,4,5,2] : List Nat)) (m_sp : sp ∈ ([10,20,5,1] : List Nat)) (m_qu : qu ∈ ([1,2,0,5] : List Nat)) :
 ∃ a b c d e f g h : Nat,B8 a b c d e f g h∧AbJ 3 (cI (Amj++(Aln t0 t1 lv se++Alm sp qu))) Adh=lN a b c d e f g h∧dk a=Abz 5 t0 t1 lv se sp qu:=by
 unfold fam5 at h
 obtain ⟨a1,b1,c1,d1,e1,f1,g1,h1,B1,q1,k1⟩:=AcR (l:=Amj) rfl (by decide) B0
 rw [k1] at h
 have h:=AaP h m_t0
 have h:=AaP h m_t1
 have h:=AaP h m_lv
 have h:=AaP h m_se
 obtain ⟨a2,b2,c2,d2,e2,f2,g2,h2,B2,q2,k2⟩:=AcR (l:=Aln t0 t1 lv se) rfl (by have b1:=AaU (n:=256) m_t0 (by decide); have b2:=AaU (n:=256) m_t1 (by decide); have b3:=AaU (n:=256) m_lv (by decide); have b4:=AaU (n:=256) m_se (by decide); have b5:=AaU (n:=256) m_sp (by decide); have b6:=AaU (n:=256) m_qu (by decide); simp [Aln]; omega) B1
 rw [k2] at h
 have h:=AaP h m_sp
 have h:=AaP h m_qu
 obtain ⟨a3,b3,c3,d3,e3,f3,g3,h3,B3,q3,k3⟩:=AcR (l:=Alm sp qu) rfl (by have b1:=AaU (n:=256) m_t0 (by decide); have b2:=AaU (n:=256) m_t1 (by decide); have b3:=AaU (n:=256) m_lv (by decide); have b4:=AaU (n:=256) m_se (by decide); have b5:=AaU (n:=256) m_sp (by decide); have b6:=AaU (n:=256) m_qu (by decide); simp [Alm]; omega) B2
 rw [k3] at h
 refine ⟨a3,b3,c3,d3,e3,f3,g3,h3,B3,?_,Abt h⟩
 rw [AcP,AbB (by rfl)]
 show AbJ 2 _ (AcJ (lN 1779033703 3144134277 1013904242 2773480762 1359893119 2600822924 528734635 1541459225) _ KK)=_
 rw [q1]
 rw [AcP,AbB (by rfl)]
 rw [q2]
 rw [Abu (by rfl)]
 rw [q3]
def m5 (t0 t1 lv se sp qu : Nat) : List Nat:=[116,114,117,115,116,102,108,111,119,0,0,0,0,0,0,0,4,0,0,0,0,0,0,0,0,0,0,0,0,0,0,0,1,0,0,0,0,0,0,0,2,0,0,0,0,0,0,0,3,0,0,0,0,0,0,0,2,0,0,0,0,0,0,0,0,0,0,0,0,0,0,0,1,0,0,0,0,0,0,0,2,0,0,0,0,0,0,0,t0,0,0,0,0,0,0,0,t1,0,0,0,0,0,0,0,4,0,0,0,0,0,0,0,lv,0,0,0,0,0,0,0,se,0,0,0,0,0,0,0,sp,0,0,0,0,0,0,0,qu]
theorem ArI (t0 t1 lv se sp qu : Nat) : fill (Adf ((cI (m5 t0 t1 lv se sp qu)).length+1)) (cI (m5 t0 t1 lv se sp qu)++[128])++lens (cI (m5 t0 t1 lv se sp qu)).length=cI ((Amj++(Aln t0 t1 lv se++Alm sp qu))):=by
 have e : (cI (m5 t0 t1 lv se sp qu)).length=137:=by rfl
 rw [e,show Adf (137+1)=46 from by rfl,show lens 137 = [0,0,0,0,0,0,4,72] from by rfl,Abm]
 exact congrArg cI (show m5 t0 t1 lv se sp qu++[128]++List.replicate 46 0++[0,0,0,0,0,0,4,72]=(Amj++(Aln t0 t1 lv se++Alm sp qu)) from by rfl)
theorem Aq6 (ok : fam5≠0) {t0 t1 lv se sp qu : Nat} (m_t0 : t0 ∈ ([5,9,3] : List Nat)) (m_t1 : t1 ∈ ([3,2,1] : List Nat)) (m_lv : lv ∈ ([1,2] : List Nat)) (m_se : se ∈ ([3,1,4,5,2] : List Nat)) (m_sp : sp ∈ ([10,20,5,1] : List Nat)) (m_qu : qu ∈ ([1,2,0,5] : List Nat)) : Dig (m5 t0 t1 lv se sp qu) (Abz 5 t0 t1 lv se sp qu):=by
 obtain ⟨a,b,c,d,e,f,g,h,B,q,r⟩:=AmU ok m_t0 m_t1 m_lv m_se m_sp m_qu
 refine ⟨a,b,c,d,e,f,g,h,B,?_,r⟩
 have l : (cI ((Amj++(Aln t0 t1 lv se++Alm sp qu)))).length=192:=by rfl
 unfold Aeg
 rw [ArI]
 show AeH (AbJ ((cI ((Amj++(Aln t0 t1 lv se++Alm sp qu)))).length / 64) _ _)=_
 rw [l]
 exact congrArg AeH q
theorem AmS (h : fam6≠0) {t0 t1 lv se sp qu : Nat} (m_t0 : t0 ∈ ([5,9,3] : List Nat)) (m_t1 : t1 ∈ ([3,2,1] : List Nat)) (m_lv : lv ∈ ([1,2] : List Nat)) (m_se : se ∈ ([3,1,4,5,2] : List Nat)) (m_sp : sp ∈ ([10,20,5,1] : List Nat)) (m_qu : qu ∈ ([1,2,0,5] : List Nat)) :
 ∃ a b c d e f g h : Nat,B8 a b c d e f g h∧AbJ 3 (cI (Ami++(Alk t0 t1 lv se++Alj sp qu))) Adh=lN a b c d e f g h∧dk a=Abz 6 t0 t1 lv se sp qu:=by
 unfold fam6 at h
 obtain ⟨a1,b1,c1,d1,e1,f1,g1,h1,B1,q1,k1⟩:=AcR (l:=Ami) rfl (by decide) B0
 rw [k1] at h
 have h:=AaP h m_t0
 have h:=AaP h m_t1
 have h:=AaP h m_lv
 have h:=AaP h m_se
 obtain ⟨a2,b2,c2,d2,e2,f2,g2,h2,B2,q2,k2⟩:=AcR (l:=Alk t0 t1 lv se) rfl (by have b1:=AaU (n:=256) m_t0 (by decide); have b2:=AaU (n:=256) m_t1 (by decide); have b3:=AaU (n:=256) m_lv (by decide); have b4:=AaU (n:=256) m_se (by decide); have b5:=AaU (n:=256) m_sp (by decide); have b6:=AaU (n:=256) m_qu (by decide); simp [Alk]; omega) B1
 rw [k2] at h
 have h:=AaP h m_sp
 have h:=AaP h m_qu
 obtain ⟨a3,b3,c3,d3,e3,f3,g3,h3,B3,q3,k3⟩:=AcR (l:=Alj sp qu) rfl (by have b1:=AaU (n:=256) m_t0 (by decide); have b2:=AaU (n:=256) m_t1 (by decide); have b3:=AaU (n:=256) m_lv (by decide); have b4:=AaU (n:=256) m_se (by decide); have b5:=AaU (n:=256) m_sp (by decide); have b6:=AaU (n:=256) m_qu (by decide); simp [Alj]; omega) B2
 rw [k3] at h
 refine ⟨a3,b3,c3,d3,e3,f3,g3,h3,B3,?_,Abt h⟩
 rw [AcP,AbB (by rfl)]
 show AbJ 2 _ (AcJ (lN 1779033703 3144134277 1013904242 2773480762 1359893119 2600822924 528734635 1541459225) _ KK)=_
 rw [q1]
 rw [AcP,AbB (by rfl)]
 rw [q2]
 rw [Abu (by rfl)]
 rw [q3]
def m6 (t0 t1 lv se sp qu : Nat) : List Nat:=[116,114,117,115,116,102,108,111,119,0,0,0,0,0,0,0,5,0,0,0,0,0,0,0,0,0,0,0,0,0,0,0,1,0,0,0,0,0,0,0,2,0,0,0,0,0,0,0,3,0,0,0,0,0,0,0,4,0,0,0,0,0,0,0,1,0,0,0,0,0,0,0,0,0,0,0,0,0,0,0,2,0,0,0,0,0,0,0,t0,0,0,0,0,0,0,0,t1,0,0,0,0,0,0,0,4,0,0,0,0,0,0,0,lv,0,0,0,0,0,0,0,se,0,0,0,0,0,0,0,sp,0,0,0,0,0,0,0,qu]
theorem ArH (t0 t1 lv se sp qu : Nat) : fill (Adf ((cI (m6 t0 t1 lv se sp qu)).length+1)) (cI (m6 t0 t1 lv se sp qu)++[128])++lens (cI (m6 t0 t1 lv se sp qu)).length=cI ((Ami++(Alk t0 t1 lv se++Alj sp qu))):=by
 have e : (cI (m6 t0 t1 lv se sp qu)).length=137:=by rfl
 rw [e,show Adf (137+1)=46 from by rfl,show lens 137 = [0,0,0,0,0,0,4,72] from by rfl,Abm]
 exact congrArg cI (show m6 t0 t1 lv se sp qu++[128]++List.replicate 46 0++[0,0,0,0,0,0,4,72]=(Ami++(Alk t0 t1 lv se++Alj sp qu)) from by rfl)
theorem Aq5 (ok : fam6≠0) {t0 t1 lv se sp qu : Nat} (m_t0 : t0 ∈ ([5,9,3] : List Nat)) (m_t1 : t1 ∈ ([3,2,1] : List Nat)) (m_lv : lv ∈ ([1,2] : List Nat)) (m_se : se ∈ ([3,1,4,5,2] : List Nat)) (m_sp : sp ∈ ([10,20,5,1] : List Nat)) (m_qu : qu ∈ ([1,2,0,5] : List Nat)) : Dig (m6 t0 t1 lv se sp qu) (Abz 6 t0 t1 lv se sp qu):=by
 obtain ⟨a,b,c,d,e,f,g,h,B,q,r⟩:=AmS ok m_t0 m_t1 m_lv m_se m_sp m_qu
 refine ⟨a,b,c,d,e,f,g,h,B,?_,r⟩
 have l : (cI ((Ami++(Alk t0 t1 lv se++Alj sp qu)))).length=192:=by rfl
 unfold Aeg
 rw [ArH]
 show AeH (AbJ ((cI ((Ami++(Alk t0 t1 lv se++Alj sp qu)))).length / 64) _ _)=_
 rw [l]
 exact congrArg AeH q
theorem AmQ (h : fam7≠0) {t0 t1 lv se sp qu : Nat} (m_t0 : t0 ∈ ([5,9,3] : List Nat)) (m_t1 : t1 ∈ ([3,2,1] : List Nat)) (m_lv : lv ∈ ([1,2] : List Nat)) (m_se : se ∈ ([3,1,4,5,2] : List Nat)) (m_sp : sp ∈ ([10,20,5,1] : List Nat)) (m_qu : qu ∈ ([1,2,0,5] : List Nat)) :
 ∃ a b c d e f g h : Nat,B8 a b c d e f g h∧AbJ 3 (cI (Amh++(Ali t0 t1 lv++Alh se sp qu))) Adh=lN a b c d e f g h∧dk a=Abz 7 t0 t1 lv se sp qu:=by
 unfold fam7 at h
 obtain ⟨a1,b1,c1,d1,e1,f1,g1,h1,B1,q1,k1⟩:=AcR (l:=Amh) rfl (by decide) B0
 rw [k1] at h
 have h:=AaP h m_t0
 have h:=AaP h m_t1
 have h:=AaP h m_lv
 obtain ⟨a2,b2,c2,d2,e2,f2,g2,h2,B2,q2,k2⟩:=AcR (l:=Ali t0 t1 lv) rfl (by have b1:=AaU (n:=256) m_t0 (by decide); have b2:=AaU (n:=256) m_t1 (by decide); have b3:=AaU (n:=256) m_lv (by decide); have b4:=AaU (n:=256) m_se (by decide); have b5:=AaU (n:=256) m_sp (by decide); have b6:=AaU (n:=256) m_qu (by decide); simp [Ali]; omega) B1
 rw [k2] at h
 have h:=AaP h m_se
 have h:=AaP h m_sp
 have h:=AaP h m_qu
 obtain ⟨a3,b3,c3,d3,e3,f3,g3,h3,B3,q3,k3⟩:=AcR (l:=Alh se sp qu) rfl (by have b1:=AaU (n:=256) m_t0 (by decide); have b2:=AaU (n:=256) m_t1 (by decide); have b3:=AaU (n:=256) m_lv (by decide); have b4:=AaU (n:=256) m_se (by decide); have b5:=AaU (n:=256) m_sp (by decide); have b6:=AaU (n:=256) m_qu (by decide); simp [Alh]; omega) B2
 rw [k3] at h
 refine ⟨a3,b3,c3,d3,e3,f3,g3,h3,B3,?_,Abt h⟩
 rw [AcP,AbB (by rfl)]
 show AbJ 2 _ (AcJ (lN 1779033703 3144134277 1013904242 2773480762 1359893119 2600822924 528734635 1541459225) _ KK)=_
 rw [q1]
 rw [AcP,AbB (by rfl)]
 rw [q2]
 rw [Abu (by rfl)]
 rw [q3]
def m7 (t0 t1 lv se sp qu : Nat) : List Nat:=[116,114,117,115,116,102,108,111,119,0,0,0,0,0,0,0,5,0,0,0,0,0,0,0,0,0,0,0,0,0,0,0,1,0,0,0,0,0,0,0,2,0,0,0,0,0,0,0,3,0,0,0,0,0,0,0,4,0,0,0,0,0,0,0,2,0,0,0,0,0,0,0,0,0,0,0,0,0,0,0,1,0,0,0,0,0,0,0,2,0,0,0,0,0,0,0,t0,0,0,0,0,0,0,0,t1,0,0,0,0,0,0,0,4,0,0,0,0,0,0,0,lv,0,0,0,0,0,0,0,se,0,0,0,0,0,0,0,sp,0,0,0,0,0,0,0,qu]
theorem ArG (t0 t1 lv se sp qu : Nat) : fill (Adf ((cI (m7 t0 t1 lv se sp qu)).length+1)) (cI (m7 t0 t1 lv se sp qu)++[128])++lens (cI (m7 t0 t1 lv se sp qu)).length=cI ((Amh++(Ali t0 t1 lv++Alh se sp qu))):=by
 have e : (cI (m7 t0 t1 lv se sp qu)).length=145:=by rfl
 rw [e,show Adf (145+1)=38 from by rfl,show lens 145 = [0,0,0,0,0,0,4,136] from by rfl,Abm]
 exact congrArg cI (show m7 t0 t1 lv se sp qu++[128]++List.replicate 38 0++[0,0,0,0,0,0,4,136]=(Amh++(Ali t0 t1 lv++Alh se sp qu)) from by rfl)
theorem Aq4 (ok : fam7≠0) {t0 t1 lv se sp qu : Nat} (m_t0 : t0 ∈ ([5,9,3] : List Nat)) (m_t1 : t1 ∈ ([3,2,1] : List Nat)) (m_lv : lv ∈ ([1,2] : List Nat)) (m_se : se ∈ ([3,1,4,5,2] : List Nat)) (m_sp : sp ∈ ([10,20,5,1] : List Nat)) (m_qu : qu ∈ ([1,2,0,5] : List Nat)) : Dig (m7 t0 t1 lv se sp qu) (Abz 7 t0 t1 lv se sp qu):=by
 obtain ⟨a,b,c,d,e,f,g,h,B,q,r⟩:=AmQ ok m_t0 m_t1 m_lv m_se m_sp m_qu
 refine ⟨a,b,c,d,e,f,g,h,B,?_,r⟩
 have l : (cI ((Amh++(Ali t0 t1 lv++Alh se sp qu)))).length=192:=by rfl
 unfold Aeg
 rw [ArG]
 show AeH (AbJ ((cI ((Amh++(Ali t0 t1 lv++Alh se sp qu)))).length / 64) _ _)=_
 rw [l]
 exact congrArg AeH q
theorem AmO (h : fam8≠0) {t0 t1 lv se sp qu : Nat} (m_t0 : t0 ∈ ([5,9,3] : List Nat)) (m_t1 : t1 ∈ ([3,2,1] : List Nat)) (m_lv : lv ∈ ([1,2] : List Nat)) (m_se : se ∈ ([3,1,4,5,2] : List Nat)) (m_sp : sp ∈ ([10,20,5,1] : List Nat)) (m_qu : qu ∈ ([1,2,0,5] : List Nat)) :
 ∃ a b c d e f g h : Nat,B8 a b c d e f g h∧AbJ 3 (cI (Amg++(Alg t0 t1 lv++Alf se sp qu))) Adh=lN a b c d e f g h∧dk a=Abz 8 t0 t1 lv se sp qu:=by
 unfold fam8 at h
 obtain ⟨a1,b1,c1,d1,e1,f1,g1,h1,B1,q1,k1⟩:=AcR (l:=Amg) rfl (by decide) B0
 rw [k1] at h
 have h:=AaP h m_t0
 have h:=AaP h m_t1
 have h:=AaP h m_lv
 obtain ⟨a2,b2,c2,d2,e2,f2,g2,h2,B2,q2,k2⟩:=AcR (l:=Alg t0 t1 lv) rfl (by have b1:=AaU (n:=256) m_t0 (by decide); have b2:=AaU (n:=256) m_t1 (by decide); have b3:=AaU (n:=256) m_lv (by decide); have b4:=AaU (n:=256) m_se (by decide); have b5:=AaU (n:=256) m_sp (by decide); have b6:=AaU (n:=256) m_qu (by decide); simp [Alg]; omega) B1
 rw [k2] at h
 have h:=AaP h m_se
 have h:=AaP h m_sp
 have h:=AaP h m_qu
 obtain ⟨a3,b3,c3,d3,e3,f3,g3,h3,B3,q3,k3⟩:=AcR (l:=Alf se sp qu) rfl (by have b1:=AaU (n:=256) m_t0 (by decide); have b2:=AaU (n:=256) m_t1 (by decide); have b3:=AaU (n:=256) m_lv (by decide); have b4:=AaU (n:=256) m_se (by decide); have b5:=AaU (n:=256) m_sp (by decide); have b6:=AaU (n:=256) m_qu (by decide); simp [Alf]; omega) B2
 rw [k3] at h
 refine ⟨a3,b3,c3,d3,e3,f3,g3,h3,B3,?_,Abt h⟩
 rw [AcP,AbB (by rfl)]
 show AbJ 2 _ (AcJ (lN 1779033703 3144134277 1013904242 2773480762 1359893119 2600822924 528734635 1541459225) _ KK)=_
 rw [q1]
 rw [AcP,AbB (by rfl)]
 rw [q2]
 rw [Abu (by rfl)]
 rw [q3]
def m8 (t0 t1 lv se sp qu : Nat) : List Nat:=[116,114,117,115,116,102,108,111,119,0,0,0,0,0,0,0,6,0,0,0,0,0,0,0,0,0,0,0,0,0,0,0,1,0,0,0,0,0,0,0,2,0,0,0,0,0,0,0,3,0,0,0,0,0,0,0,4,0,0,0,0,0,0,0,5,0,0,0,0,0,0,0,1,0,0,0,0,0,0,0,0,0,0,0,0,0,0,0,2,0,0,0,0,0,0,0,t0,0,0,0,0,0,0,0,t1,0,0,0,0,0,0,0,4,0,0,0,0,0,0,0,lv,0,0,0,0,0,0,0,se,0,0,0,0,0,0,0,sp,0,0,0,0,0,0,0,qu]
theorem ArF (t0 t1 lv se sp qu : Nat) : fill (Adf ((cI (m8 t0 t1 lv se sp qu)).length+1)) (cI (m8 t0 t1 lv se sp qu)++[128])++lens (cI (m8 t0 t1 lv se sp qu)).length=cI ((Amg++(Alg t0 t1 lv++Alf se sp qu))):=by
 have e : (cI (m8 t0 t1 lv se sp qu)).length=145:=by rfl
 rw [e,show Adf (145+1)=38 from by rfl,show lens 145 = [0,0,0,0,0,0,4,136] from by rfl,Abm]
 exact congrArg cI (show m8 t0 t1 lv se sp qu++[128]++List.replicate 38 0++[0,0,0,0,0,0,4,136]=(Amg++(Alg t0 t1 lv++Alf se sp qu)) from by rfl)
theorem Aq3 (ok : fam8≠0) {t0 t1 lv se sp qu : Nat} (m_t0 : t0 ∈ ([5,9,3] : List Nat)) (m_t1 : t1 ∈ ([3,2,1] : List Nat)) (m_lv : lv ∈ ([1,2] : List Nat)) (m_se : se ∈ ([3,1,4,5,2] : List Nat)) (m_sp : sp ∈ ([10,20,5,1] : List Nat)) (m_qu : qu ∈ ([1,2,0,5] : List Nat)) : Dig (m8 t0 t1 lv se sp qu) (Abz 8 t0 t1 lv se sp qu):=by
 obtain ⟨a,b,c,d,e,f,g,h,B,q,r⟩:=AmO ok m_t0 m_t1 m_lv m_se m_sp m_qu
 refine ⟨a,b,c,d,e,f,g,h,B,?_,r⟩
 have l : (cI ((Amg++(Alg t0 t1 lv++Alf se sp qu)))).length=192:=by rfl
 unfold Aeg
 rw [ArF]
 show AeH (AbJ ((cI ((Amg++(Alg t0 t1 lv++Alf se sp qu)))).length / 64) _ _)=_
 rw [l]
 exact congrArg AeH q
theorem AmM (h : fam9≠0) {t0 t1 lv se sp qu : Nat} (m_t0 : t0 ∈ ([5,9,3] : List Nat)) (m_t1 : t1 ∈ ([3,2,1] : List Nat)) (m_lv : lv ∈ ([1,2] : List Nat)) (m_se : se ∈ ([3,1,4,5,2] : List Nat)) (m_sp : sp ∈ ([10,20,5,1] : List Nat)) (m_qu : qu ∈ ([1,2,0,5] : List Nat)) :
 ∃ a b c d e f g h : Nat,B8 a b c d e f g h∧AbJ 3 (cI (Amf++(Ale t0 t1++Ald lv se sp qu))) Adh=lN a b c d e f g h∧dk a=Abz 9 t0 t1 lv se sp qu:=by
 unfold fam9 at h
 obtain ⟨a1,b1,c1,d1,e1,f1,g1,h1,B1,q1,k1⟩:=AcR (l:=Amf) rfl (by decide) B0
 rw [k1] at h
 have h:=AaP h m_t0
 have h:=AaP h m_t1
 obtain ⟨a2,b2,c2,d2,e2,f2,g2,h2,B2,q2,k2⟩:=AcR (l:=Ale t0 t1) rfl (by have b1:=AaU (n:=256) m_t0 (by decide); have b2:=AaU (n:=256) m_t1 (by decide); have b3:=AaU (n:=256) m_lv (by decide); have b4:=AaU (n:=256) m_se (by decide); have b5:=AaU (n:=256) m_sp (by decide); have b6:=AaU (n:=256) m_qu (by decide); simp [Ale]; omega) B1
 rw [k2] at h
 have h:=AaP h m_lv
 have h:=AaP h m_se
 have h:=AaP h m_sp
 have h:=AaP h m_qu
 obtain ⟨a3,b3,c3,d3,e3,f3,g3,h3,B3,q3,k3⟩:=AcR (l:=Ald lv se sp qu) rfl (by have b1:=AaU (n:=256) m_t0 (by decide); have b2:=AaU (n:=256) m_t1 (by decide); have b3:=AaU (n:=256) m_lv (by decide); have b4:=AaU (n:=256) m_se (by decide); have b5:=AaU (n:=256) m_sp (by decide); have b6:=AaU (n:=256) m_qu (by decide); simp [Ald]; omega) B2
 rw [k3] at h
 refine ⟨a3,b3,c3,d3,e3,f3,g3,h3,B3,?_,Abt h⟩
 rw [AcP,AbB (by rfl)]
 show AbJ 2 _ (AcJ (lN 1779033703 3144134277 1013904242 2773480762 1359893119 2600822924 528734635 1541459225) _ KK)=_
 rw [q1]
 rw [AcP,AbB (by rfl)]
 rw [q2]
 rw [Abu (by rfl)]
 rw [q3]
def m9 (t0 t1 lv se sp qu : Nat) : List Nat:=[116,114,117,115,116,102,108,111,119,0,0,0,0,0,0,0,6,0,0,0,0,0,0,0,0,0,0,0,0,0,0,0,1,0,0,0,0,0,0,0,2,0,0,0,0,0,0,0,3,0,0,0,0,0,0,0,4,0,0,0,0,0,0,0,5,0,0,0,0,0,0,0,2,0,0,0,0,0,0,0,0,0,0,0,0,0,0,0,1,0,0,0,0,0,0,0,2,0,0,0,0,0,0,0,t0,0,0,0,0,0,0,0,t1,0,0,0,0,0,0,0,4,0,0,0,0,0,0,0,lv,0,0,0,0,0,0,0,se,0,0,0,0,0,0,0,sp,0,0,0,0,0,0,0,qu]
theorem ArE (t0 t1 lv se sp qu : Nat) : fill (Adf ((cI (m9 t0 t1 lv se sp qu)).length+1)) (cI (m9 t0 t1 lv se sp qu)++[128])++lens (cI (m9 t0 t1 lv se sp qu)).length=cI ((Amf++(Ale t0 t1++Ald lv se sp qu))):=by
 have e : (cI (m9 t0 t1 lv se sp qu)).length=153:=by rfl
 rw [e,show Adf (153+1)=30 from by rfl,show lens 153 = [0,0,0,0,0,0,4,200] from by rfl,Abm]
 exact congrArg cI (show m9 t0 t1 lv se sp qu++[128]++List.replicate 30 0++[0,0,0,0,0,0,4,200]=(Amf++(Ale t0 t1++Ald lv se sp qu)) from by rfl)
theorem Aq2 (ok : fam9≠0) {t0 t1 lv se sp qu : Nat} (m_t0 : t0 ∈ ([5,9,3] : List Nat)) (m_t1 : t1 ∈ ([3,2,1] : List Nat)) (m_lv : lv ∈ ([1,2] : List Nat)) (m_se : se ∈ ([3,1,4,5,2] : List Nat)) (m_sp : sp ∈ ([10,20,5,1] : List Nat)) (m_qu : qu ∈ ([1,2,0,5] : List Nat)) : Dig (m9 t0 t1 lv se sp qu) (Abz 9 t0 t1 lv se sp qu):=by
 obtain ⟨a,b,c,d,e,f,g,h,B,q,r⟩:=AmM ok m_t0 m_t1 m_lv m_se m_sp m_qu
 refine ⟨a,b,c,d,e,f,g,h,B,?_,r⟩
 have l : (cI ((Amf++(Ale t0 t1++Ald lv se sp qu)))).length=192:=by rfl
 unfold Aeg
 rw [ArE]
 show AeH (AbJ ((cI ((Amf++(Ale t0 t1++Ald lv se sp qu)))).length / 64) _ _)=_
 rw [l]
 exact congrArg AeH q
end Go.TF
set_option linter.unusedVariables false
set_option linter.unusedSimpArgs false
set_option maxRecDepth 20000
namespace Go.TF
open Go Go.Abs
theorem Amd : fam0≠0:=by decide +kernel
theorem Amb : fam1≠0:=by decide +kernel
theorem AmZ : fam2≠0:=by decide +kernel
end Go.TF
set_option linter.unusedVariables false
set_option linter.unusedSimpArgs false
set_option maxRecDepth 20000
namespace Go.TF
open Go Go.Abs
theorem AmX : fam3≠0:=by decide +kernel
theorem AmV : fam4≠0:=by decide +kernel
theorem AmT : fam5≠0:=by decide +kernel
end Go.TF
set_option linter.unusedVariables false
set_option linter.unusedSimpArgs false
set_option maxRecDepth 20000
namespace Go.TF
open Go Go.Abs
theorem AmR : fam6≠0:=by decide +kernel
theorem AmP : fam7≠0:=by decide +kernel
theorem AmN : fam8≠0:=by decide +kernel
theorem AmL : fam9≠0:=by decide +kernel
end Go.TF
set_option linter.unusedVariables false
set_option linter.unusedSimpArgs false
set_option maxRecDepth 20000
namespace Go.TF
open Go Go.Abs
theorem bc2 (k : Nat) (v3 v5 : Int) (kb : Int→List Int→Option (List Int)) : ∀ (j n : Nat) (acc : List Int),j≤8→j<n→acc.length+j≤200000 →
 AaX.L2 k v3 v5 kb n (8*(j : Int)-8) acc=kb (IntKind.wrap .i64 (v3+1)) (acc++AkA v5 j)
 | 0,n+1,acc,_,_,_=>by rw [AaX.L2,if_neg (by omega)]; simp [AkA]
 | j+1,n+1,acc,hj,hn,ha=>by
  rw [AaX.L2,if_pos (by omega),AaS (by omega),Apj j (by omega),at8,Aqq j (by omega),Aok v5 j (by omega),AaS (by simp; omega),bc2 k v3 v5 kb j n _ (by omega) (by omega) (by simp; omega)]
  simp [AkA]
theorem bc1 (k : Nat) (hk : 8<k) (l : List Int) (hl : l.length≤1000) : ∀ (m i n : Nat) (acc : List Int),i+m=l.length→m<n→acc.length+8*m≤100000 →
 AaX.L1 k l n (i : Int) acc=some (acc++(l.drop i).flatMap enc)
 | 0,i,n+1,acc,h,_,_=>by rw [AaX.L1,if_neg (by omega),List.drop_of_length_le (by omega)]; simp
 | m+1,i,n+1,acc,h,hn,ha=>by
  have h1 : i<l.length:=by omega
  rw [AaX.L1,if_pos (by omega),Abj h1,show (56 : Int)=8*((8 : Nat) : Int)-8 by omega,bc2 k _ _ _ 8 k acc (by omega) hk (by omega),Ab8 _ (by omega),bc1 k hk l hl m (i+1) n _ (by omega) (by omega) (by rw [List.length_append,AeW]; omega),List.drop_eq_getElem_cons h1,List.flatMap_cons,List.append_assoc]
  rfl
theorem Ahm (k : Nat) (hk : 8<k) (b l : List Int) (hb : b.length≤10000) (hl : l.length≤1000) (hlk : l.length<k) : AaX k b l=some (b++l.flatMap enc):=by
 unfold AaX
 exact bc1 k hk l hl l.length 0 k b (by omega) hlk (by omega)
def AgT (l : List Int) : List Int:=enc l.length++l.flatMap enc
theorem Ab2 (l : List Int) : (AgT l).length=8+8*l.length:=by unfold AgT; rw [List.length_append,AdS,Aj9]
theorem AfX (k : Nat) (hk : 8<k) (b l : List Int) (hb : b.length≤9000) (hl : l.length≤1000) (hlk : l.length<k) : AcA k b l=some (b++AgT l):=by
 unfold AcA AgT
 rw [Ahm k hk b _ (by omega) (by simp only [List.length_cons,List.length_nil]; omega) (by simp only [List.length_cons,List.length_nil]; omega),AaK,AmA,Ahm k hk _ l (by rw [List.length_append,AdS]; omega) hl hlk,AaK,List.append_assoc]
def tfI : List Int:=[116,114,117,115,116,102,108,111,119]
def Ady (g s t : List Int) (lv se sp qu : Int) : List Int:=tfI++AgT g++AgT s++AgT t++AgT [lv,se,sp,qu]
def AlH (g s t : List Int) (lv se sp qu : Int) : ByteArray×Int :=
 if Af8 g s t lv se sp qu≠0 then ((ByteArray.mk #[]),Af8 g s t lv se sp qu) else (Aeg (Ady g s t lv se sp qu),0)
theorem Aiq (g s t : List Int) (lv se sp qu : Int) (hg : g.length≤10) (hs : s.length≤10) (ht : t.length≤10) : (Ady g s t lv se sp qu).length≤400:=by
 unfold Ady
 simp only [List.length_append,Ab2]
 have : tfI.length=9:=rfl
 simp only [List.length_cons,List.length_nil]
 omega
theorem Ag8 (k : Nat) (hk : 900<k) (g s t : List Int) (lv se sp qu : Int) (hg : g.length≤10) (hs : s.length≤10) (ht : t.length≤10) : Aay k g s t lv se sp qu=some (AlH g s t lv se sp qu):=by
 unfold Aay AlH
 rw [AjW k g s t lv se sp qu (by omega) (by omega) (by omega) (by omega) (by omega) (by omega),AaK]
 by_cases h : Af8 g s t lv se sp qu≠0
 ·rw [if_pos h,if_pos h]
 rw [if_neg h,if_neg h]
 rw [AaS (by decide),AaS (by decide),AaS (by decide),AaS (by decide),AaS (by decide),AaS (by decide),AaS (by decide),AaS (by decide),AaS (by decide)]
 show Aay.L1 k g s t lv se sp qu k 0 tfI=_
 have q0 : tfI.length=9:=rfl
 obtain ⟨n,rfl⟩ : ∃ n,k=n+5:=⟨k-5,by omega⟩
 have ix0 : ∀ f : List Int→Option (ByteArray×Int),idx ([g,s,t,([lv,se,sp,qu] : List Int)] : List (List Int)) 0 f=f g:=fun f=>by simp [idx]
 have ix1 : ∀ f : List Int→Option (ByteArray×Int),idx ([g,s,t,([lv,se,sp,qu] : List Int)] : List (List Int)) 1 f=f s:=fun f=>by simp [idx]
 have ix2 : ∀ f : List Int→Option (ByteArray×Int),idx ([g,s,t,([lv,se,sp,qu] : List Int)] : List (List Int)) 2 f=f t:=fun f=>by simp [idx]
 have ix3 : ∀ f : List Int→Option (ByteArray×Int),idx ([g,s,t,([lv,se,sp,qu] : List Int)] : List (List Int)) 3 f=f [lv,se,sp,qu]:=fun f=>by simp [idx]
 have ln : (([g,s,t,([lv,se,sp,qu] : List Int)] : List (List Int)).length : Int)=4:=rfl
 have s1 : IntKind.wrap .i64 ((0 : Int)+1)=1:=by decide
 have s2 : IntKind.wrap .i64 ((1 : Int)+1)=2:=by decide
 have s3 : IntKind.wrap .i64 ((2 : Int)+1)=3:=by decide
 have s4 : IntKind.wrap .i64 ((3 : Int)+1)=4:=by decide
 have hm:=Aiq g s t lv se sp qu hg hs ht
 rw [Aay.L1,ln,if_pos (by omega),ix0,AfX _ (by omega) _ _ (by omega) (by omega) (by omega),AaK,s1,
  Aay.L1,ln,if_pos (by omega),ix1,AfX _ (by omega) _ _ (by rw [List.length_append,Ab2]; omega) (by omega) (by omega),AaK,s2,
  Aay.L1,ln,if_pos (by omega),ix2,AfX _ (by omega) _ _ (by rw [List.length_append,List.length_append,Ab2,Ab2]; omega) (by omega) (by omega),AaK,s3,
  Aay.L1,ln,if_pos (by omega),ix3,AfX _ (by omega) _ _ (by rw [List.length_append,List.length_append,List.length_append,Ab2,Ab2,Ab2]; omega) (by simp only [List.length_cons,List.length_nil]; omega) (by simp only [List.length_cons,List.length_nil]; omega),AaK,s4,
  Aay.L1,ln,if_neg (by omega)]
 show Aba (AaW (n+5) (Ady g s t lv se sp qu)) _=_
 rw [Aqd _ _ (by omega) (by omega) (by omega),AaK]
theorem Aih (k : Nat) (hk : 8<k) (b l : List Int) (hb : b.length≤9000) (hl : l.length≤1000) (hlk : l.length<k) : AbE k b l=some (b++AgT l):=by
 rw [Akx k hk b l hb hl hlk]; unfold AgT; rw [List.append_assoc]
theorem Afo (k : Nat) (hk : 900<k) (g s t : List Int) (lv se sp qu : Int) (hg : g.length≤10) (hs : s.length≤10) (ht : t.length≤10) : AcW k g s t lv se sp qu=some (AlH g s t lv se sp qu):=by
 unfold AcW AlH
 rw [Agv k g s t lv se sp qu (by omega) (by omega) (by omega) (by omega) (by omega) (by omega),AaK]
 by_cases h : Af8 g s t lv se sp qu≠0
 ·rw [if_pos h,if_pos h]
 rw [if_neg h,if_neg h,show bI (ByteArray.mk #[116,114,117,115,116,102,108,111,119])=tfI from rfl]
 have q0 : tfI.length=9:=rfl
 have hm:=Aiq g s t lv se sp qu hg hs ht
 rw [AaS (by decide),Aih _ (by omega) _ _ (by omega) (by omega) (by omega),AaK,Aih _ (by omega) _ _ (by rw [List.length_append,Ab2]; omega) (by omega) (by omega),AaK,
  Aih _ (by omega) _ _ (by rw [List.length_append,List.length_append,Ab2,Ab2]; omega) (by omega) (by omega),AaK,
  Aih _ (by omega) _ _ (by rw [List.length_append,List.length_append,List.length_append,Ab2,Ab2,Ab2]; omega) (by simp only [List.length_cons,List.length_nil]; omega) (by simp only [List.length_cons,List.length_nil]; omega),AaK]
 show Aba (Aac k (Ady g s t lv se sp qu)) _=_
 rw [Aqc _ _ (by omega) (by omega) (by omega),AaK]
theorem AaQ (x : Nat) (h : x<256) : enc (x : Int) = [0,0,0,0,0,0,0,(x : Int)]:=by
 simp only [enc,AkA]
 refine List.cons_eq_cons.2 ⟨by omega,List.cons_eq_cons.2 ⟨by omega,List.cons_eq_cons.2 ⟨by omega,List.cons_eq_cons.2 ⟨by omega,List.cons_eq_cons.2 ⟨by omega,List.cons_eq_cons.2 ⟨by omega,List.cons_eq_cons.2 ⟨by omega,List.cons_eq_cons.2 ⟨by omega,rfl⟩⟩⟩⟩⟩⟩⟩⟩
theorem AnR {x : Int} {l : List Nat} (h : x ∈ l.map fun (n : Nat)=>(n : Int)) : ∃ n : Nat,n ∈ l∧x=(n : Int):=by
 obtain ⟨n,h1,h2⟩:=List.mem_map.1 h; exact ⟨n,h1,h2.symm⟩
theorem Arh (t0 t1 v e p q : Nat) (b0 : t0<256) (b1 : t1<256) (b2 : v<256) (b3 : e<256) (b4 : p<256) (b5 : q<256) : Ady [0,1] [0] [(t0 : Int),(t1 : Int)] v e p q=cI (m0 t0 t1 v e p q):=by
 have i0 : enc 0 = [0,0,0,0,0,0,0,0]:=by decide
 have i1 : enc 1 = [0,0,0,0,0,0,0,1]:=by decide
 have i2 : enc 2 = [0,0,0,0,0,0,0,2]:=by decide
 have i3 : enc 3 = [0,0,0,0,0,0,0,3]:=by decide
 have i4 : enc 4 = [0,0,0,0,0,0,0,4]:=by decide
 have i5 : enc 5 = [0,0,0,0,0,0,0,5]:=by decide
 have i6 : enc 6 = [0,0,0,0,0,0,0,6]:=by decide
 unfold Ady AgT
 simp only [List.length_cons,List.length_nil,Nat.zero_add,Nat.reduceAdd,Int.cast_ofNat_Int,List.flatMap_cons,List.flatMap_nil,List.append_nil,i0,i1,i2,i3,i4,i5,i6,AaQ t0 b0,AaQ t1 b1,AaQ v b2,AaQ e b3,AaQ p b4,AaQ q b5]
 rfl
theorem Arg (t0 t1 v e p q : Nat) (b0 : t0<256) (b1 : t1<256) (b2 : v<256) (b3 : e<256) (b4 : p<256) (b5 : q<256) : Ady [0,1] [0,1] [(t0 : Int),(t1 : Int)] v e p q=cI (m1 t0 t1 v e p q):=by
 have i0 : enc 0 = [0,0,0,0,0,0,0,0]:=by decide
 have i1 : enc 1 = [0,0,0,0,0,0,0,1]:=by decide
 have i2 : enc 2 = [0,0,0,0,0,0,0,2]:=by decide
 have i3 : enc 3 = [0,0,0,0,0,0,0,3]:=by decide
 have i4 : enc 4 = [0,0,0,0,0,0,0,4]:=by decide
 have i5 : enc 5 = [0,0,0,0,0,0,0,5]:=by decide
 have i6 : enc 6 = [0,0,0,0,0,0,0,6]:=by decide
 unfold Ady AgT
 simp only [List.length_cons,List.length_nil,Nat.zero_add,Nat.reduceAdd,Int.cast_ofNat_Int,List.flatMap_cons,List.flatMap_nil,List.append_nil,i0,i1,i2,i3,i4,i5,i6,AaQ t0 b0,AaQ t1 b1,AaQ v b2,AaQ e b3,AaQ p b4,AaQ q b5]
 rfl
theorem Arf (t0 t1 v e p q : Nat) (b0 : t0<256) (b1 : t1<256) (b2 : v<256) (b3 : e<256) (b4 : p<256) (b5 : q<256) : Ady [0,1,2] [0] [(t0 : Int),(t1 : Int)] v e p q=cI (m2 t0 t1 v e p q):=by
 have i0 : enc 0 = [0,0,0,0,0,0,0,0]:=by decide
 have i1 : enc 1 = [0,0,0,0,0,0,0,1]:=by decide
 have i2 : enc 2 = [0,0,0,0,0,0,0,2]:=by decide
 have i3 : enc 3 = [0,0,0,0,0,0,0,3]:=by decide
 have i4 : enc 4 = [0,0,0,0,0,0,0,4]:=by decide
 have i5 : enc 5 = [0,0,0,0,0,0,0,5]:=by decide
 have i6 : enc 6 = [0,0,0,0,0,0,0,6]:=by decide
 unfold Ady AgT
 simp only [List.length_cons,List.length_nil,Nat.zero_add,Nat.reduceAdd,Int.cast_ofNat_Int,List.flatMap_cons,List.flatMap_nil,List.append_nil,i0,i1,i2,i3,i4,i5,i6,AaQ t0 b0,AaQ t1 b1,AaQ v b2,AaQ e b3,AaQ p b4,AaQ q b5]
 rfl
theorem Are (t0 t1 v e p q : Nat) (b0 : t0<256) (b1 : t1<256) (b2 : v<256) (b3 : e<256) (b4 : p<256) (b5 : q<256) : Ady [0,1,2] [0,1] [(t0 : Int),(t1 : Int)] v e p q=cI (m3 t0 t1 v e p q):=by
 have i0 : enc 0 = [0,0,0,0,0,0,0,0]:=by decide
 have i1 : enc 1 = [0,0,0,0,0,0,0,1]:=by decide
 have i2 : enc 2 = [0,0,0,0,0,0,0,2]:=by decide
 have i3 : enc 3 = [0,0,0,0,0,0,0,3]:=by decide
 have i4 : enc 4 = [0,0,0,0,0,0,0,4]:=by decide
 have i5 : enc 5 = [0,0,0,0,0,0,0,5]:=by decide
 have i6 : enc 6 = [0,0,0,0,0,0,0,6]:=by decide
 unfold Ady AgT
 simp only [List.length_cons,List.length_nil,Nat.zero_add,Nat.reduceAdd,Int.cast_ofNat_Int,List.flatMap_cons,List.flatMap_nil,List.append_nil,i0,i1,i2,i3,i4,i5,i6,AaQ t0 b0,AaQ t1 b1,AaQ v b2,AaQ e b3,AaQ p b4,AaQ q b5]
 rfl
theorem Ard (t0 t1 v e p q : Nat) (b0 : t0<256) (b1 : t1<256) (b2 : v<256) (b3 : e<256) (b4 : p<256) (b5 : q<256) : Ady [0,1,2,3] [0] [(t0 : Int),(t1 : Int)] v e p q=cI (m4 t0 t1 v e p q):=by
 have i0 : enc 0 = [0,0,0,0,0,0,0,0]:=by decide
 have i1 : enc 1 = [0,0,0,0,0,0,0,1]:=by decide
 have i2 : enc 2 = [0,0,0,0,0,0,0,2]:=by decide
 have i3 : enc 3 = [0,0,0,0,0,0,0,3]:=by decide
 have i4 : enc 4 = [0,0,0,0,0,0,0,4]:=by decide
 have i5 : enc 5 = [0,0,0,0,0,0,0,5]:=by decide
 have i6 : enc 6 = [0,0,0,0,0,0,0,6]:=by decide
 unfold Ady AgT
 simp only [List.length_cons,List.length_nil,Nat.zero_add,Nat.reduceAdd,Int.cast_ofNat_Int,List.flatMap_cons,List.flatMap_nil,List.append_nil,i0,i1,i2,i3,i4,i5,i6,AaQ t0 b0,AaQ t1 b1,AaQ v b2,AaQ e b3,AaQ p b4,AaQ q b5]
 rfl
theorem Arc (t0 t1 v e p q : Nat) (b0 : t0<256) (b1 : t1<256) (b2 : v<256) (b3 : e<256) (b4 : p<256) (b5 : q<256) : Ady [0,1,2,3] [0,1] [(t0 : Int),(t1 : Int)] v e p q=cI (m5 t0 t1 v e p q):=by
 have i0 : enc 0 = [0,0,0,0,0,0,0,0]:=by decide
 have i1 : enc 1 = [0,0,0,0,0,0,0,1]:=by decide
 have i2 : enc 2 = [0,0,0,0,0,0,0,2]:=by decide
 have i3 : enc 3 = [0,0,0,0,0,0,0,3]:=by decide
 have i4 : enc 4 = [0,0,0,0,0,0,0,4]:=by decide
 have i5 : enc 5 = [0,0,0,0,0,0,0,5]:=by decide
 have i6 : enc 6 = [0,0,0,0,0,0,0,6]:=by decide
 unfold Ady AgT
 simp only [List.length_cons,List.length_nil,Nat.zero_add,Nat.reduceAdd,Int.cast_ofNat_Int,List.flatMap_cons,List.flatMap_nil,List.append_nil,i0,i1,i2,i3,i4,i5,i6,AaQ t0 b0,AaQ t1 b1,AaQ v b2,AaQ e b3,AaQ p b4,AaQ q b5]
 rfl
theorem Arb (t0 t1 v e p q : Nat) (b0 : t0<256) (b1 : t1<256) (b2 : v<256) (b3 : e<256) (b4 : p<256) (b5 : q<256) : Ady [0,1,2,3,4] [0] [(t0 : Int),(t1 : Int)] v e p q=cI (m6 t0 t1 v e p q):=by
 have i0 : enc 0 = [0,0,0,0,0,0,0,0]:=by decide
 have i1 : enc 1 = [0,0,0,0,0,0,0,1]:=by decide
 have i2 : enc 2 = [0,0,0,0,0,0,0,2]:=by decide
 have i3 : enc 3 = [0,0,0,0,0,0,0,3]:=by decide
 have i4 : enc 4 = [0,0,0,0,0,0,0,4]:=by decide
 have i5 : enc 5 = [0,0,0,0,0,0,0,5]:=by decide
 have i6 : enc 6 = [0,0,0,0,0,0,0,6]:=by decide
 unfold Ady AgT
 simp only [List.length_cons,List.length_nil,Nat.zero_add,Nat.reduceAdd,Int.cast_ofNat_Int,List.flatMap_cons,List.flatMap_nil,List.append_nil,i0,i1,i2,i3,i4,i5,i6,AaQ t0 b0,AaQ t1 b1,AaQ v b2,AaQ e b3,AaQ p b4,AaQ q b5]
 rfl
theorem Ara (t0 t1 v e p q : Nat) (b0 : t0<256) (b1 : t1<256) (b2 : v<256) (b3 : e<256) (b4 : p<256) (b5 : q<256) : Ady [0,1,2,3,4] [0,1] [(t0 : Int),(t1 : Int)] v e p q=cI (m7 t0 t1 v e p q):=by
 have i0 : enc 0 = [0,0,0,0,0,0,0,0]:=by decide
 have i1 : enc 1 = [0,0,0,0,0,0,0,1]:=by decide
 have i2 : enc 2 = [0,0,0,0,0,0,0,2]:=by decide
 have i3 : enc 3 = [0,0,0,0,0,0,0,3]:=by decide
 have i4 : enc 4 = [0,0,0,0,0,0,0,4]:=by decide
 have i5 : enc 5 = [0,0,0,0,0,0,0,5]:=by decide
 have i6 : enc 6 = [0,0,0,0,0,0,0,6]:=by decide
 unfold Ady AgT
 simp only [List.length_cons,List.length_nil,Nat.zero_add,Nat.reduceAdd,Int.cast_ofNat_Int,List.flatMap_cons,List.flatMap_nil,List.append_nil,i0,i1,i2,i3,i4,i5,i6,AaQ t0 b0,AaQ t1 b1,AaQ v b2,AaQ e b3,AaQ p b4,AaQ q b5]
 rfl
theorem ArZ (t0 t1 v e p q : Nat) (b0 : t0<256) (b1 : t1<256) (b2 : v<256) (b3 : e<256) (b4 : p<256) (b5 : q<256) : Ady [0,1,2,3,4,5] [0] [(t0 : Int),(t1 : Int)] v e p q=cI (m8 t0 t1 v e p q):=by
 have i0 : enc 0 = [0,0,0,0,0,0,0,0]:=by decide
 have i1 : enc 1 = [0,0,0,0,0,0,0,1]:=by decide
 have i2 : enc 2 = [0,0,0,0,0,0,0,2]:=by decide
 have i3 : enc 3 = [0,0,0,0,0,0,0,3]:=by decide
 have i4 : enc 4 = [0,0,0,0,0,0,0,4]:=by decide
 have i5 : enc 5 = [0,0,0,0,0,0,0,5]:=by decide
 have i6 : enc 6 = [0,0,0,0,0,0,0,6]:=by decide
 unfold Ady AgT
 simp only [List.length_cons,List.length_nil,Nat.zero_add,Nat.reduceAdd,Int.cast_ofNat_Int,List.flatMap_cons,List.flatMap_nil,List.append_nil,i0,i1,i2,i3,i4,i5,i6,AaQ t0 b0,AaQ t1 b1,AaQ v b2,AaQ e b3,AaQ p b4,AaQ q b5]
 rfl
theorem ArY (t0 t1 v e p q : Nat) (b0 : t0<256) (b1 : t1<256) (b2 : v<256) (b3 : e<256) (b4 : p<256) (b5 : q<256) : Ady [0,1,2,3,4,5] [0,1] [(t0 : Int),(t1 : Int)] v e p q=cI (m9 t0 t1 v e p q):=by
 have i0 : enc 0 = [0,0,0,0,0,0,0,0]:=by decide
 have i1 : enc 1 = [0,0,0,0,0,0,0,1]:=by decide
 have i2 : enc 2 = [0,0,0,0,0,0,0,2]:=by decide
 have i3 : enc 3 = [0,0,0,0,0,0,0,3]:=by decide
 have i4 : enc 4 = [0,0,0,0,0,0,0,4]:=by decide
 have i5 : enc 5 = [0,0,0,0,0,0,0,5]:=by decide
 have i6 : enc 6 = [0,0,0,0,0,0,0,6]:=by decide
 unfold Ady AgT
 simp only [List.length_cons,List.length_nil,Nat.zero_add,Nat.reduceAdd,Int.cast_ofNat_Int,List.flatMap_cons,List.flatMap_nil,List.append_nil,i0,i1,i2,i3,i4,i5,i6,AaQ t0 b0,AaQ t1 b1,AaQ v b2,AaQ e b3,AaQ p b4,AaQ q b5]
 rfl
def Ao0 (g s t : List Int) (lv se sp qu : Int) : Prop:=∃ (F : Nat) (t0 t1 v e p q : Nat),F<10∧t0<10∧t1<4∧v<3∧e<6∧p<21∧q<6∧g=([0,1,2,3,4,5,6] : List Int).take (F / 2+2)∧s=([0,1] : List Int).take (F % 2+1)∧t = [(t0 : Int),(t1 : Int)]∧lv=v∧se=e∧sp=p∧qu=q ∧
 ∃ a b c d e' f g' h : Nat,B8 a b c d e' f g' h∧Aeg (Ady g s t lv se sp qu)=AeH (lN a b c d e' f g' h)∧dk a=Abz F t0 t1 v e p q
theorem Aiv (g s t : List Int) (lv se sp qu : Int) (G : AiY g s t lv se sp qu) : Ao0 g s t lv se sp qu:=by
 obtain ⟨n,n1,n2,hg⟩:=G.gg
 obtain ⟨a,b,ht,ha,hb⟩:=G.tw
 obtain ⟨t0,m0,rfl⟩:=AnR (l:=[5,9,3]) ha
 obtain ⟨t1,m1,rfl⟩:=AnR (l:=[3,2,1]) hb
 obtain ⟨v,m2,rfl⟩:=AnR (l:=[1,2]) (show lv ∈ _ by have:=G.lv; simp at this ⊢; exact this)
 obtain ⟨e,m3,rfl⟩:=AnR (l:=[3,1,4,5,2]) G.seats
 obtain ⟨p,m4,rfl⟩:=AnR (l:=[10,20,5,1]) G.span
 obtain ⟨q,m5,rfl⟩:=AnR (l:=[1,2,0,5]) G.quota
 subst ht
 have b0 : t0<10:=AaU (n:=10) m0 (by decide)
 have b1 : t1<4:=AaU (n:=4) m1 (by decide)
 have b2 : v<3:=AaU (n:=3) m2 (by decide)
 have b3 : e<6:=AaU (n:=6) m3 (by decide)
 have b4 : p<21:=AaU (n:=21) m4 (by decide)
 have b5 : q<6:=AaU (n:=6) m5 (by decide)
 have fin : ∀ F,F<10→g=([0,1,2,3,4,5,6] : List Int).take (F / 2+2)→s=([0,1] : List Int).take (F % 2+1) →
  (∃ a b c d e' f g' h : Nat,B8 a b c d e' f g' h∧Aeg (Ady g s [(t0 : Int),(t1 : Int)] v e p q)=AeH (lN a b c d e' f g' h)∧dk a=Abz F t0 t1 v e p q)→Ao0 g s [(t0 : Int),(t1 : Int)] v e p q :=
  fun F h1 h2 h3 h4=>⟨F,t0,t1,v,e,p,q,h1,b0,b1,b2,b3,b4,b5,h2,h3,rfl,rfl,rfl,rfl,rfl,h4⟩
 obtain rfl | rfl | rfl | rfl | rfl : n=2∨n=3∨n=4∨n=5∨n=6:=by omega
 all_goals rcases G.ss with hs | hs
 ·subst hs; subst hg
  refine fin 0 (by omega) rfl rfl ?_
  have h:=ArB Amd m0 m1 m2 m3 m4 m5
  unfold Dig at h
  rw [← Arh t0 t1 v e p q (by omega) (by omega) (by omega) (by omega) (by omega) (by omega)] at h
  exact h
 ·subst hs; subst hg
  refine fin 1 (by omega) rfl rfl ?_
  have h:=ArA Amb m0 m1 m2 m3 m4 m5
  unfold Dig at h
  rw [← Arg t0 t1 v e p q (by omega) (by omega) (by omega) (by omega) (by omega) (by omega)] at h
  exact h
 ·subst hs; subst hg
  refine fin 2 (by omega) rfl rfl ?_
  have h:=Aq9 AmZ m0 m1 m2 m3 m4 m5
  unfold Dig at h
  rw [← Arf t0 t1 v e p q (by omega) (by omega) (by omega) (by omega) (by omega) (by omega)] at h
  exact h
 ·subst hs; subst hg
  refine fin 3 (by omega) rfl rfl ?_
  have h:=Aq8 AmX m0 m1 m2 m3 m4 m5
  unfold Dig at h
  rw [← Are t0 t1 v e p q (by omega) (by omega) (by omega) (by omega) (by omega) (by omega)] at h
  exact h
 ·subst hs; subst hg
  refine fin 4 (by omega) rfl rfl ?_
  have h:=Aq7 AmV m0 m1 m2 m3 m4 m5
  unfold Dig at h
  rw [← Ard t0 t1 v e p q (by omega) (by omega) (by omega) (by omega) (by omega) (by omega)] at h
  exact h
 ·subst hs; subst hg
  refine fin 5 (by omega) rfl rfl ?_
  have h:=Aq6 AmT m0 m1 m2 m3 m4 m5
  unfold Dig at h
  rw [← Arc t0 t1 v e p q (by omega) (by omega) (by omega) (by omega) (by omega) (by omega)] at h
  exact h
 ·subst hs; subst hg
  refine fin 6 (by omega) rfl rfl ?_
  have h:=Aq5 AmR m0 m1 m2 m3 m4 m5
  unfold Dig at h
  rw [← Arb t0 t1 v e p q (by omega) (by omega) (by omega) (by omega) (by omega) (by omega)] at h
  exact h
 ·subst hs; subst hg
  refine fin 7 (by omega) rfl rfl ?_
  have h:=Aq4 AmP m0 m1 m2 m3 m4 m5
  unfold Dig at h
  rw [← Ara t0 t1 v e p q (by omega) (by omega) (by omega) (by omega) (by omega) (by omega)] at h
  exact h
 ·subst hs; subst hg
  refine fin 8 (by omega) rfl rfl ?_
  have h:=Aq3 AmN m0 m1 m2 m3 m4 m5
  unfold Dig at h
  rw [← ArZ t0 t1 v e p q (by omega) (by omega) (by omega) (by omega) (by omega) (by omega)] at h
  exact h
 ·subst hs; subst hg
  refine fin 9 (by omega) rfl rfl ?_
  have h:=Aq2 AmL m0 m1 m2 m3 m4 m5
  unfold Dig at h
  rw [← ArY t0 t1 v e p q (by omega) (by omega) (by omega) (by omega) (by omega) (by omega)] at h
  exact h
theorem Aj1 {a b c d e f g h a' b' c' d' e' f' g' h' : Nat} (B : B8 a b c d e f g h) (B' : B8 a' b' c' d' e' f' g' h') (q : AeH (lN a b c d e f g h)=AeH (lN a' b' c' d' e' f' g' h')) : a=a':=by
 have e:=congrArg bI q
 have r : ∀ l : List Int,∀ x ∈ l.flatMap Ak3,0≤x∧x≤255:=by
  intro l x hx
  obtain ⟨y,_,hy⟩:=List.mem_flatMap.1 hx
  simp only [Ak3,List.mem_cons,List.not_mem_nil,or_false] at hy
  rcases hy with rfl | rfl | rfl | rfl <;> exact Ako _
 unfold AeH at e
 rw [AkP _ (r _),AkP _ (r _)] at e
 have e4 : Ak3 (a : Int)=Ak3 (a' : Int):=by
  have:=congrArg (List.take 4) e
  simpa [lN,Ak3] using this
 have h1 : a<4294967296:=B.1
 have h2 : a'<4294967296:=B'.1
 simp only [Ak3,List.cons.injEq,Ahy,and_true] at e4
 have f : ∀ (n : Nat) (x : Nat),Int.fdiv (x : Int) (2 ^ n)=((x / 2 ^ n : Nat) : Int):=by
  intro n x
  rw [Int.fdiv_eq_ediv_of_nonneg _ (Int.le_of_lt (Int.pow_pos (by omega))),Int.natCast_ediv,Int.natCast_pow]; rfl
 rw [f,f,f,f,f,f] at e4
 omega
theorem AkB {F t0 t1 v e p q F' t0' t1' v' e' p' q' : Nat} (h1 : F<10) (a0 : t0<10) (a1 : t1<4) (a2 : v<3) (a3 : e<6) (a4 : p<21) (a5 : q<6) (h1' : F'<10) (c0 : t0'<10) (c1 : t1'<4) (c2 : v'<3) (c3 : e'<6) (c4 : p'<21) (c5 : q'<6)
 (h : Abz F t0 t1 v e p q=Abz F' t0' t1' v' e' p' q') : F=F'∧t0=t0'∧t1=t1'∧v=v'∧e=e'∧p=p'∧q=q':=by
 unfold Abz at h; omega
theorem AmK (g s t g' s' t' : List Int) (lv se sp qu lv' se' sp' qu' : Int) (G : AiY g s t lv se sp qu) (G' : AiY g' s' t' lv' se' sp' qu') (h : Aeg (Ady g' s' t' lv' se' sp' qu')=Aeg (Ady g s t lv se sp qu)) :
 g=g'∧s=s'∧t=t'∧lv=lv'∧se=se'∧sp=sp'∧qu=qu':=by
 obtain ⟨F,t0,t1,v,e,p,q,x1,x2,x3,x4,x5,x6,x7,rfl,rfl,rfl,rfl,rfl,rfl,rfl,a,b,c,d,e1,f,g1,h1,B,y1,y2⟩:=Aiv _ _ _ _ _ _ _ G
 obtain ⟨F',t0',t1',v',e',p',q',z1,z2,z3,z4,z5,z6,z7,rfl,rfl,rfl,rfl,rfl,rfl,rfl,a',b',c',d',e1',f',g1',h1',B',y1',y2'⟩:=Aiv _ _ _ _ _ _ _ G'
 rw [y1,y1'] at h
 have ea:=Aj1 B' B h
 rw [ea,y2] at y2'
 obtain ⟨rfl,rfl,rfl,rfl,rfl,rfl,rfl⟩:=AkB x1 x2 x3 x4 x5 x6 x7 z1 z2 z3 z4 z5 z6 z7 y2'
 exact ⟨rfl,rfl,rfl,rfl,rfl,rfl,rfl⟩
theorem Amw (k : Nat) (hA : AcF k=some true) (a : ByteArray) (e : Int) (b : ByteArray) (f : Int) (w : ByteArray) (x : Bool) (h : Acj w a=x) : Aah.J1 k a e a e b f b f w 0 x=some true:=by
 unfold Aah.J1
 rw [if_pos rfl,if_pos (Ae8 _),if_pos rfl,if_pos (Ae8 _),if_pos rfl,if_pos (by rw [h]; simp),hA]
 rfl
theorem AfS (v0 : List Int) (h0 : Fit (.lst false false (v0.map (.int .i64)))) : Aah 1000 v0=some true:=by
 have aw : AcF 1000=some true:=AnB
 unfold Aah
 rw [Aj2,AaK]
 by_cases hb : (v0.length : Int)≤400
 case neg=>rw [if_pos (by simp [hb]),aw]; rfl
 rw [if_neg (by simp [hb])]
 have hl : v0.length≤1000:=by omega
 obtain ⟨g,s,t,lv,se,sp,qu,q,e1,q1,G⟩:=Ai2 1000 v0 0 hl ⟨by omega,by omega⟩
 obtain ⟨g2,s2,t2,lv2,se2,sp2,qu2,q2,e2,q2',G2⟩:=Ai2 1000 v0 q hl q1
 obtain ⟨b1,b2,b3⟩:=G.lens
 obtain ⟨c1,c2,c3⟩:=G2.lens
 obtain ⟨g3,s3,t3,lv3,se3,sp3,qu3,q3,e3,q3',d1,d2,d3⟩:=Aoy 1000 v0 q2 g s t lv se sp qu hl q2' b1 b2 b3
 rw [Ak9,AbI]
 simp only [Aom,e1,e2,e3]
 rw [Ag8 1000 (by omega) g s t lv se sp qu b1 b2 b3,Afo 1000 (by omega) g s t lv se sp qu b1 b2 b3,Ag8 1000 (by omega) g3 s3 t3 lv3 se3 sp3 qu3 d1 d2 d3,Afo 1000 (by omega) g3 s3 t3 lv3 se3 sp3 qu3 d1 d2 d3,Ag8 1000 (by omega) g2 s2 t2 lv2 se2 sp2 qu2 c1 c2 c3,
  Afj 1000 g g2 (by omega) (by omega),Afj 1000 s s2 (by omega) (by omega),Afj 1000 t t2 (by omega) (by omega)]
 have k1 : AlH g s t lv se sp qu=(Aeg (Ady g s t lv se sp qu),0):=by unfold AlH; rw [G.ok,if_neg (by simp)]
 have k2 : AlH g2 s2 t2 lv2 se2 sp2 qu2=(Aeg (Ady g2 s2 t2 lv2 se2 sp2 qu2),0):=by unfold AlH; rw [G2.ok,if_neg (by simp)]
 obtain ⟨⟨m,n⟩,hmn⟩ : ∃ z,AlH g3 s3 t3 lv3 se3 sp3 qu3=z:=⟨_,rfl⟩
 rw [k1,k2,hmn]
 simp only [AbI,AaK]
 have diff : ¬ (g=g2∧s=s2∧t=t2∧lv=lv2∧se=se2∧sp=sp2∧qu=qu2)→Acj (Aeg (Ady g2 s2 t2 lv2 se2 sp2 qu2)) (Aeg (Ady g s t lv se sp qu))=false:=by
  intro h
  cases e : Acj (Aeg (Ady g2 s2 t2 lv2 se2 sp2 qu2)) (Aeg (Ady g s t lv se sp qu)) with
  | false=>rfl
  | true=>exact absurd (AmK _ _ _ _ _ _ _ _ _ _ _ _ _ _ G G2 ((Ajf _ _).1 e)) h
 by_cases n1 : g=g2
 case neg=>rw [if_neg (by simp [n1])]; exact Amw 1000 aw _ _ _ _ _ _ (diff fun h=>n1 h.1)
 rw [if_pos (by simp [n1])]
 by_cases n2 : s=s2
 case neg=>rw [if_neg (by simp [n2])]; exact Amw 1000 aw _ _ _ _ _ _ (diff fun h=>n2 h.2.1)
 rw [if_pos (by simp [n2])]
 by_cases n3 : t=t2
 case neg=>rw [if_neg (by simp [n3])]; exact Amw 1000 aw _ _ _ _ _ _ (diff fun h=>n3 h.2.2.1)
 rw [if_pos (by simp [n3])]
 by_cases n4 : lv=lv2
 case neg=>rw [if_neg n4]; exact Amw 1000 aw _ _ _ _ _ _ (diff fun h=>n4 h.2.2.2.1)
 rw [if_pos n4]
 by_cases n5 : se=se2
 case neg=>rw [if_neg n5]; exact Amw 1000 aw _ _ _ _ _ _ (diff fun h=>n5 h.2.2.2.2.1)
 rw [if_pos n5]
 by_cases n6 : sp=sp2
 case neg=>rw [if_neg n6]; exact Amw 1000 aw _ _ _ _ _ _ (diff fun h=>n6 h.2.2.2.2.2.1)
 rw [if_pos n6]
 refine Amw 1000 aw _ _ _ _ _ _ ?_
 by_cases n7 : qu=qu2
 ·subst n1; subst n2; subst n3; subst n4; subst n5; subst n6; subst n7
  rw [Ae8]; simp
 ·rw [diff fun h=>n7 h.2.2.2.2.2.2]; simp [n7]
end Go.TF
