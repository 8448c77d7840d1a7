import Derived.Test.YthiodjlppahmkaaGreatExtPla34
set_option maxRecDepth 1000000
namespace Go.Abs
open Go Go.Proofs
noncomputable section
def kn4 : Abw Tryz.prog:=⟨151,[.agg [.lst true true []],.lst false false [.agg [.int .i64 0,.int .i64 1,.str ⟨#[213,198,61,43,39,42,223,69,70,191,239,110,180,234,7,102,6,64,221,248,206,23,103,233,176,201,1,219,69,186,162,102]⟩,.bool false,.str ⟨#[20,86,241,102,118,78,164,105,164,56,183,37,79,168,72,75,251,238,191,68,242,178,205,94,61,43,86,238,51,152,162,224]⟩]]],.tup [.lst true true [],.int .i64 0],Acz Ab4 (Abb [kn0,kn1,kn2,kn3]) (pol:=AgS) (K:=100000) (d:=100) (by kernel_rfl)⟩
def kn5 : Abw Tryz.prog:=⟨101,[.agg [.int .i64 1,.lst true true []],.agg [.int .i64 0,.int .i64 1,.int .i64 1,.lst false false [.agg [.int .i64 0,.int .i64 1,.str ⟨#[213,198,61,43,39,42,223,69,70,191,239,110,180,234,7,102,6,64,221,248,206,23,103,233,176,201,1,219,69,186,162,102]⟩,.bool false,.str ⟨#[20,86,241,102,118,78,164,105,164,56,183,37,79,168,72,75,251,238,191,68,242,178,205,94,61,43,86,238,51,152,162,224]⟩]],.lst true true []]],.tup [.agg [.int .i64 1,.lst true true []],.lst true true [],.int .i64 0],Acz Ab4 (Abb [kn0,kn1,kn2,kn3,kn4]) (pol:=AgS) (K:=100000) (d:=100) (by kernel_rfl)⟩
def kn6 : Abw Tryz.prog:=⟨54,[.agg [.int .i64 0,.lst false false [.agg [.int .i64 0,.int .i64 0,.str ⟨#[]⟩,.int .i64 3,.int .i64 1,.int .i64 1,.int .i64 2,.int .i64 50,.lst true true [],.lst true true [],.str ⟨#[]⟩,.int .i64 0,.str ⟨#[213,198,61,43,39,42,223,69,70,191,239,110,180,234,7,102,6,64,221,248,206,23,103,233,176,201,1,219,69,186,162,102]⟩]]],.agg [.int .i64 1,.lst true true []]],.agg [.int .i64 0,.lst false false [.agg [.int .i64 0,.int .i64 0,.str ⟨#[]⟩,.int .i64 3,.int .i64 1,.int .i64 1,.int .i64 2,.int .i64 50,.lst true true [],.lst true true [],.str ⟨#[]⟩,.int .i64 0,.str ⟨#[213,198,61,43,39,42,223,69,70,191,239,110,180,234,7,102,6,64,221,248,206,23,103,233,176,201,1,219,69,186,162,102]⟩]]],Acz Ab4 (Abb [kn0,kn1,kn2,kn3,kn4,kn5]) (pol:=AgS) (K:=100000) (d:=100) (by kernel_rfl)⟩
end
end Go.Abs
set_option maxRecDepth 1000000
namespace Go.Abs
open Go Go.Proofs
noncomputable section
def kn7 : Abw Tryz.prog:=⟨149,[.agg [.lst true true []]],.lst true true [],Acz Ab4 (Abb [kn0,kn1,kn2,kn3,kn4,kn5,kn6]) (pol:=AgS) (K:=100000) (d:=100) (by kernel_rfl)⟩
def kn8 : Abw Tryz.prog:=⟨100,[.agg [.int .i64 1,.lst true true []],.int .i64 0],.tup [.agg [.int .i64 1,.int .i64 0,.int .i64 1,.lst true true [],.lst true true []],.int .i64 0],Acz Ab4 (Abb [kn0,kn1,kn2,kn3,kn4,kn5,kn6,kn7]) (pol:=AgS) (K:=100000) (d:=100) (by kernel_rfl)⟩
end
end Go.Abs
set_option maxRecDepth 1000000
namespace Go.Abs
open Go Go.Proofs
noncomputable section
def kn9 : Abw Tryz.prog:=⟨151,[.agg [.lst false false [.agg [.int .i64 0,.int .i64 0,.str ⟨#[]⟩,.int .i64 3,.int .i64 1,.int .i64 1,.int .i64 2,.int .i64 50,.lst true true [],.lst true true [],.str ⟨#[]⟩,.int .i64 0,.str ⟨#[213,198,61,43,39,42,223,69,70,191,239,110,180,234,7,102,6,64,221,248,206,23,103,233,176,201,1,219,69,186,162,102]⟩]]],.lst true true []],.tup [.lst false false [.agg [.int .i64 0,.int .i64 0,.str ⟨#[]⟩,.int .i64 3,.int .i64 1,.int .i64 1,.int .i64 2,.int .i64 50,.lst true true [],.lst true true [],.str ⟨#[]⟩,.int .i64 0,.str ⟨#[213,198,61,43,39,42,223,69,70,191,239,110,180,234,7,102,6,64,221,248,206,23,103,233,176,201,1,219,69,186,162,102]⟩]],.int .i64 0],Acz Ab4 (Abb [kn0,kn1,kn2,kn3,kn4,kn5,kn6,kn7,kn8]) (pol:=AgS) (K:=100000) (d:=100) (by kernel_rfl)⟩
end
end Go.Abs
set_option maxRecDepth 1000000
namespace Go.Abs
open Go Go.Proofs
noncomputable section
def AjZ : Abw Tryz.prog:=⟨101,[.agg [.int .i64 0,.lst false false [.agg [.int .i64 0,.int .i64 0,.str ⟨#[]⟩,.int .i64 3,.int .i64 1,.int .i64 1,.int .i64 2,.int .i64 50,.lst true true [],.lst true true [],.str ⟨#[]⟩,.int .i64 0,.str ⟨#[213,198,61,43,39,42,223,69,70,191,239,110,180,234,7,102,6,64,221,248,206,23,103,233,176,201,1,219,69,186,162,102]⟩]]],.agg [.int .i64 1,.int .i64 0,.int .i64 1,.lst true true [],.lst true true []]],.tup [.agg [.int .i64 0,.lst false false [.agg [.int .i64 0,.int .i64 0,.str ⟨#[]⟩,.int .i64 3,.int .i64 1,.int .i64 1,.int .i64 2,.int .i64 50,.lst true true [],.lst true true [],.str ⟨#[]⟩,.int .i64 0,.str ⟨#[213,198,61,43,39,42,223,69,70,191,239,110,180,234,7,102,6,64,221,248,206,23,103,233,176,201,1,219,69,186,162,102]⟩]]],.lst false true [.agg [.int .i64 0,.int .i64 1,.int .i64 2,.lst true true [],.lst false false [.agg [.int .i64 0,.int .i64 0,.str ⟨#[]⟩,.int .i64 3,.int .i64 1,.int .i64 1,.int .i64 2,.int .i64 50,.lst true true [],.lst true true [],.str ⟨#[]⟩,.int .i64 0,.str ⟨#[213,198,61,43,39,42,223,69,70,191,239,110,180,234,7,102,6,64,221,248,206,23,103,233,176,201,1,219,69,186,162,102]⟩]]]],.int .i64 0],Acz Ab4 (Abb [kn0,kn1,kn2,kn3,kn4,kn5,kn6,kn7,kn8,kn9]) (pol:=AgS) (K:=100000) (d:=100) (by kernel_rfl)⟩
def Ajr : Abw Tryz.prog:=⟨101,[.agg [.int .i64 1,.lst true true []],.agg [.int .i64 0,.int .i64 1,.int .i64 2,.lst true true [],.lst false false [.agg [.int .i64 0,.int .i64 0,.str ⟨#[]⟩,.int .i64 3,.int .i64 1,.int .i64 1,.int .i64 2,.int .i64 50,.lst true true [],.lst true true [],.str ⟨#[]⟩,.int .i64 0,.str ⟨#[213,198,61,43,39,42,223,69,70,191,239,110,180,234,7,102,6,64,221,248,206,23,103,233,176,201,1,219,69,186,162,102]⟩]]]],.tup [.agg [.int .i64 1,.lst false false [.agg [.int .i64 0,.int .i64 0,.str ⟨#[]⟩,.int .i64 3,.int .i64 1,.int .i64 1,.int .i64 2,.int .i64 50,.lst true true [],.lst true true [],.str ⟨#[]⟩,.int .i64 0,.str ⟨#[213,198,61,43,39,42,223,69,70,191,239,110,180,234,7,102,6,64,221,248,206,23,103,233,176,201,1,219,69,186,162,102]⟩]]],.lst true true [],.int .i64 0],Acz Ab4 (Abb [kn0,kn1,kn2,kn3,kn4,kn5,kn6,kn7,kn8,kn9,AjZ]) (pol:=AgS) (K:=100000) (d:=100) (by kernel_rfl)⟩
def Akv : Abw Tryz.prog:=⟨54,[.agg [.int .i64 1,.lst true true []],.agg [.int .i64 0,.lst false false [.agg [.int .i64 0,.int .i64 0,.str ⟨#[]⟩,.int .i64 3,.int .i64 1,.int .i64 1,.int .i64 2,.int .i64 50,.lst true true [],.lst true true [],.str ⟨#[]⟩,.int .i64 0,.str ⟨#[213,198,61,43,39,42,223,69,70,191,239,110,180,234,7,102,6,64,221,248,206,23,103,233,176,201,1,219,69,186,162,102]⟩]]]],.agg [.int .i64 1,.lst false false [.agg [.int .i64 0,.int .i64 0,.str ⟨#[]⟩,.int .i64 3,.int .i64 1,.int .i64 1,.int .i64 2,.int .i64 50,.lst true true [],.lst true true [],.str ⟨#[]⟩,.int .i64 0,.str ⟨#[213,198,61,43,39,42,223,69,70,191,239,110,180,234,7,102,6,64,221,248,206,23,103,233,176,201,1,219,69,186,162,102]⟩]]],Acz Ab4 (Abb [kn0,kn1,kn2,kn3,kn4,kn5,kn6,kn7,kn8,kn9,AjZ,Ajr]) (pol:=AgS) (K:=100000) (d:=100) (by kernel_rfl)⟩
end
end Go.Abs
