import Derived.Test.YthiodjlppahmkaaGreatExtPla31
import Derived.Test.YthiodjlppahmkaaGreatExtWal32
import Derived.Test.YthiodjlppahmkaaGreatExtPla30
import Derived.KernelRfl
set_option maxRecDepth 1000000
namespace Go.TF
open Go Go.Abs
theorem Aw3 : AbY 1000 [0,0,0,0,0,0,0,0,0,0,0,0,0,0,0,0,0,0,0,0,0,0,0,0,0,0,0,0,0,0,0,3,0,0,0,0,0,0,0,1,0,0,0,0,0,0,0,1,0,0,0,0,0,0,0,2,0,0,0,0,0,0,0,50,0,0,0,0,0,0,0,0,0,0,0,0,0,0,0,0,0,0,0,0,0,0,0,0]=some ⟨#[213,198,61,43,39,42,223,69,70,191,239,110,180,234,7,102,6,64,221,248,206,23,103,233,176,201,1,219,69,186,162,102]⟩:=by kernel_rfl
theorem Aw2 : AbY 1000 [213,198,61,43,39,42,223,69,70,191,239,110,180,234,7,102,6,64,221,248,206,23,103,233,176,201,1,219,69,186,162,102]=some ⟨#[20,86,241,102,118,78,164,105,164,56,183,37,79,168,72,75,251,238,191,68,242,178,205,94,61,43,86,238,51,152,162,224]⟩:=by kernel_rfl
end Go.TF
namespace Go.Abs
open Go Go.Proofs
theorem Ab4 : Tryz.prog.follows .mixedOrders=true:=by kernel_rfl
def AgS (f : FuncId) : Pol:=⟨!([46,130,211,41,183,82,69].contains f),f !=68,f==70⟩
noncomputable section
def Ayi : Abw Tryz.prog:=⟨140,_,_,Go.TF.Ahr _ _ _ Go.TF.Aw3⟩
def Ayh : Abw Tryz.prog:=⟨140,_,_,Go.TF.Ahr _ _ _ Go.TF.Aw2⟩
theorem AsQ {l : List Int} (h : l.Pairwise (· ≤ ·)) (hl : l.length*8≤140737488351232) : Aab Tryz.prog 67 [.lst false false (l.map iA)] [] (.lst false false (l.map iA)) []:=by
  have:=AkW false false l hl
  rwa [List.mergeSort_of_pairwise (h.imp (by simp))] at this
def Ayk : Abw Tryz.prog:=⟨67,_,_,AsQ (l:=[0]) (by simp) (by simp)⟩
def Ayj : Abw Tryz.prog:=⟨67,_,_,AsQ (l:=[0,1]) (by simp) (by simp)⟩
theorem Abb (T : List (Abw Tryz.prog)) : AeQ Tryz.prog (AtK (Abw.orc (Ayi::Ayk::Ayj::T)) Ayh.orcS):=Arb (Abw.orc_ok _) (Abw.orcS_ok _)
end
end Go.Abs
