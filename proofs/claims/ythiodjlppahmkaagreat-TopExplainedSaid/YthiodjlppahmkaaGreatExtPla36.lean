import Derived.Test.YthiodjlppahmkaaGreatExtPla35
set_option maxRecDepth 1000000
namespace Go.Abs
open Go Go.Proofs
noncomputable section
def AlG : Abw Tryz.prog:=⟨19,[.agg [.int .i64 0,.lst false false [.agg [.int .i64 0,.int .i64 0,.str ⟨#[]⟩,.int .i64 3,.int .i64 1,.int .i64 1,.int .i64 2,.int .i64 50,.lst true true [],.lst true true [],.str ⟨#[]⟩,.int .i64 0,.str ⟨#[213,198,61,43,39,42,223,69,70,191,239,110,180,234,7,102,6,64,221,248,206,23,103,233,176,201,1,219,69,186,162,102]⟩]]],.agg [.int .i64 1,.lst true true []]],.tup [.agg [.int .i64 0,.lst false false [.agg [.int .i64 0,.int .i64 0,.str ⟨#[]⟩,.int .i64 3,.int .i64 1,.int .i64 1,.int .i64 2,.int .i64 50,.lst true true [],.lst true true [],.str ⟨#[]⟩,.int .i64 0,.str ⟨#[213,198,61,43,39,42,223,69,70,191,239,110,180,234,7,102,6,64,221,248,206,23,103,233,176,201,1,219,69,186,162,102]⟩]]],.agg [.int .i64 1,.lst false false [.agg [.int .i64 0,.int .i64 0,.str ⟨#[]⟩,.int .i64 3,.int .i64 1,.int .i64 1,.int .i64 2,.int .i64 50,.lst true true [],.lst true true [],.str ⟨#[]⟩,.int .i64 0,.str ⟨#[213,198,61,43,39,42,223,69,70,191,239,110,180,234,7,102,6,64,221,248,206,23,103,233,176,201,1,219,69,186,162,102]⟩]]],.int .i64 0],Acz Ab4 (Abb [kn0,kn1,kn2,kn3,kn4,kn5,kn6,kn7,kn8,kn9,AjZ,Ajr,Akv]) (pol:=AgS) (K:=100000) (d:=100) (by kernel_rfl)⟩
end
end Go.Abs
set_option maxRecDepth 1000000
namespace Go.Abs
open Go Go.Proofs
noncomputable section
def Al5 : Abw Tryz.prog:=⟨21,[.agg [.lst false false [.agg [.int .i64 0,.int .i64 0,.str ⟨#[]⟩,.int .i64 3,.int .i64 1,.int .i64 1,.int .i64 2,.int .i64 50,.lst true true [],.lst true true [],.str ⟨#[]⟩,.int .i64 0,.str ⟨#[213,198,61,43,39,42,223,69,70,191,239,110,180,234,7,102,6,64,221,248,206,23,103,233,176,201,1,219,69,186,162,102]⟩]]]],.lst false false [.agg [.int .i64 0,.int .i64 0,.str ⟨#[]⟩,.int .i64 3,.int .i64 1,.int .i64 1,.int .i64 2,.int .i64 50,.lst true true [],.lst true true [],.str ⟨#[]⟩,.int .i64 0,.str ⟨#[213,198,61,43,39,42,223,69,70,191,239,110,180,234,7,102,6,64,221,248,206,23,103,233,176,201,1,219,69,186,162,102]⟩]],Acz Ab4 (Abb [kn0,kn1,kn2,kn3,kn4,kn5,kn6,kn7,kn8,kn9,AjZ,Ajr,Akv,AlG]) (pol:=AgS) (K:=100000) (d:=100) (by kernel_rfl)⟩
end
end Go.Abs
set_option maxRecDepth 1000000
namespace Go.Abs
open Go Go.Proofs
noncomputable section
def Amh : Abw Tryz.prog:=⟨20,[.lst false false [.agg [.int .i64 0,.int .i64 0,.str ⟨#[]⟩,.int .i64 3,.int .i64 1,.int .i64 1,.int .i64 2,.int .i64 50,.lst true true [],.lst true true [],.str ⟨#[]⟩,.int .i64 0,.str ⟨#[213,198,61,43,39,42,223,69,70,191,239,110,180,234,7,102,6,64,221,248,206,23,103,233,176,201,1,219,69,186,162,102]⟩]],.int .i64 5,.int .i64 1],.tup [.agg [.int .i64 64,.lst false false [.agg [.int .i64 0,.int .i64 1,.int .i64 2]],.lst true true []],.int .i64 0],Acz Ab4 (Abb [kn0,kn1,kn2,kn3,kn4,kn5,kn6,kn7,kn8,kn9,AjZ,Ajr,Akv,AlG,Al5]) (pol:=AgS) (K:=100000) (d:=100) (by kernel_rfl)⟩
def AnE : Abw Tryz.prog:=⟨66,[.agg [.int .i64 64,.lst false false [.agg [.int .i64 0,.int .i64 1,.int .i64 2]],.lst true true []],.lst false true [.int .i64 0]],.lst false false [.int .i64 0,.int .i64 1],Acz Ab4 (Abb [kn0,kn1,kn2,kn3,kn4,kn5,kn6,kn7,kn8,kn9,AjZ,Ajr,Akv,AlG,Al5,Amh]) (pol:=AgS) (K:=100000) (d:=100) (by kernel_rfl)⟩
def An3 : Abw Tryz.prog:=⟨29,[.agg [.int .i64 64,.lst false false [.agg [.int .i64 0,.int .i64 1,.int .i64 2]],.lst true true []],.agg [.lst false true [.int .i64 0],.lst false true [.int .i64 5,.int .i64 3,.int .i64 2],.int .i64 1]],.lst false false [.int .i64 0,.int .i64 1],Acz Ab4 (Abb [kn0,kn1,kn2,kn3,kn4,kn5,kn6,kn7,kn8,kn9,AjZ,Ajr,Akv,AlG,Al5,Amh,AnE]) (pol:=AgS) (K:=100000) (d:=100) (by kernel_rfl)⟩
end
end Go.Abs
