/- Facts about types and functions of the seat's program. -/
import Derived.Test.YtocmgnljgemjkaaAbsV
import Derived.Test.YtocmgnljgemjkaaProg
import Derived.KernelRfl
set_option maxRecDepth 100000
namespace Go.Proofs.YtocmgnljgemjkaaT
open Go Go.Abs Go.Proofs
theorem mixed : Try.prog.follows .mixedOrders = true := by kernel_rfl
@[simp] theorem t0 : tyAgg Try.prog 0 = some false := by kernel_rfl
@[simp] theorem t1 : tySize Try.prog 0 = some 1 := by kernel_rfl
@[simp] theorem t2 : (Try.prog.underlying 0).isSome = true := by kernel_rfl
@[simp] theorem t3 : tyAgg Try.prog 1 = some false := by kernel_rfl
@[simp] theorem t4 : tySize Try.prog 1 = some 1 := by kernel_rfl
@[simp] theorem t5 : tyZero Try.prog 1 = some [Go.Abs.AV.nilfn] := by kernel_rfl
@[simp] theorem t6 : zeroEl Try.prog 1 = some Go.Abs.AV.nilfn := by kernel_rfl
@[simp] theorem t7 : (Try.prog.underlying 1).isSome = true := by kernel_rfl
@[simp] theorem t8 : tyAgg Try.prog 2 = some false := by kernel_rfl
@[simp] theorem t9 : tySize Try.prog 2 = some 1 := by kernel_rfl
@[simp] theorem t10 : tyZero Try.prog 2 = some [Go.Abs.AV.int Go.IntKind.i64 (0)] := by kernel_rfl
@[simp] theorem t11 : zeroEl Try.prog 2 = some (Go.Abs.AV.int Go.IntKind.i64 (0)) := by kernel_rfl
@[simp] theorem t12 : intTy Try.prog 2 = some Go.IntKind.i64 := by kernel_rfl
@[simp] theorem t13 : (Try.prog.underlying 2).isSome = true := by kernel_rfl
@[simp] theorem t14 : tyAgg Try.prog 3 = some false := by kernel_rfl
@[simp] theorem t15 : tySize Try.prog 3 = some 1 := by kernel_rfl
@[simp] theorem t16 : tyZero Try.prog 3 = some [Go.Abs.AV.int Go.IntKind.i64 (0)] := by kernel_rfl
@[simp] theorem t17 : zeroEl Try.prog 3 = some (Go.Abs.AV.int Go.IntKind.i64 (0)) := by kernel_rfl
@[simp] theorem t18 : intTy Try.prog 3 = some Go.IntKind.i64 := by kernel_rfl
@[simp] theorem t19 : (Try.prog.underlying 3).isSome = true := by kernel_rfl
@[simp] theorem t20 : tyAgg Try.prog 4 = some false := by kernel_rfl
@[simp] theorem t21 : tySize Try.prog 4 = some 1 := by kernel_rfl
@[simp] theorem t22 : tyZero Try.prog 4 = some [Go.Abs.AV.bool false] := by kernel_rfl
@[simp] theorem t23 : zeroEl Try.prog 4 = some (Go.Abs.AV.bool false) := by kernel_rfl
@[simp] theorem t24 : (Try.prog.underlying 4).isSome = true := by kernel_rfl
@[simp] theorem t25 : Try.prog.underlying 4 = some Go.TypeDesc.bool := by kernel_rfl
@[simp] theorem t26 : tyAgg Try.prog 5 = some false := by kernel_rfl
@[simp] theorem t27 : tySize Try.prog 5 = some 1 := by kernel_rfl
@[simp] theorem t28 : tyZero Try.prog 5 = some [Go.Abs.AV.int Go.IntKind.u8 (0)] := by kernel_rfl
@[simp] theorem t29 : zeroEl Try.prog 5 = some (Go.Abs.AV.int Go.IntKind.u8 (0)) := by kernel_rfl
@[simp] theorem t30 : intTy Try.prog 5 = some Go.IntKind.u8 := by kernel_rfl
@[simp] theorem t31 : (Try.prog.underlying 5).isSome = true := by kernel_rfl
@[simp] theorem t32 : tyAgg Try.prog 6 = some false := by kernel_rfl
@[simp] theorem t33 : tySize Try.prog 6 = some 1 := by kernel_rfl
@[simp] theorem t34 : tyZero Try.prog 6 = some [Go.Abs.AV.int Go.IntKind.u8 (0)] := by kernel_rfl
@[simp] theorem t35 : zeroEl Try.prog 6 = some (Go.Abs.AV.int Go.IntKind.u8 (0)) := by kernel_rfl
@[simp] theorem t36 : intTy Try.prog 6 = some Go.IntKind.u8 := by kernel_rfl
@[simp] theorem t37 : (Try.prog.underlying 6).isSome = true := by kernel_rfl
@[simp] theorem t38 : tyAgg Try.prog 7 = some true := by kernel_rfl
@[simp] theorem t39 : tySize Try.prog 7 = some 4 := by kernel_rfl
@[simp] theorem t40 : tyZero Try.prog 7 = some [Go.Abs.AV.int Go.IntKind.i64 (0), Go.Abs.AV.int Go.IntKind.i64 (0), Go.Abs.AV.bool false, Go.Abs.AV.int Go.IntKind.u8 (0)] := by kernel_rfl
@[simp] theorem t41 : zeroEl Try.prog 7 = some (Go.Abs.AV.agg [Go.Abs.AV.int Go.IntKind.i64 (0), Go.Abs.AV.int Go.IntKind.i64 (0), Go.Abs.AV.bool false, Go.Abs.AV.int Go.IntKind.u8 (0)]) := by kernel_rfl
@[simp] theorem t42 : fieldsOk Try.prog 7 = true := by kernel_rfl
@[simp] theorem t43 : (Try.prog.underlying 7).isSome = true := by kernel_rfl
@[simp] theorem t44 : tyAgg Try.prog 8 = some true := by kernel_rfl
@[simp] theorem t45 : tySize Try.prog 8 = some 4 := by kernel_rfl
@[simp] theorem t46 : tyZero Try.prog 8 = some [Go.Abs.AV.int Go.IntKind.i64 (0), Go.Abs.AV.int Go.IntKind.i64 (0), Go.Abs.AV.bool false, Go.Abs.AV.int Go.IntKind.u8 (0)] := by kernel_rfl
@[simp] theorem t47 : zeroEl Try.prog 8 = some (Go.Abs.AV.agg [Go.Abs.AV.int Go.IntKind.i64 (0), Go.Abs.AV.int Go.IntKind.i64 (0), Go.Abs.AV.bool false, Go.Abs.AV.int Go.IntKind.u8 (0)]) := by kernel_rfl
@[simp] theorem t48 : fieldsOk Try.prog 8 = true := by kernel_rfl
@[simp] theorem t49 : (Try.prog.underlying 8).isSome = true := by kernel_rfl
@[simp] theorem t50 : isSt Try.prog 9 = true := by kernel_rfl
@[simp] theorem t51 : tyAgg Try.prog 9 = some false := by kernel_rfl
@[simp] theorem t52 : tySize Try.prog 9 = some 1 := by kernel_rfl
@[simp] theorem t53 : tyZero Try.prog 9 = some [Go.Abs.AV.str { data := { toList := [] } }] := by kernel_rfl
@[simp] theorem t54 : zeroEl Try.prog 9 = some (Go.Abs.AV.str { data := { toList := [] } }) := by kernel_rfl
@[simp] theorem t55 : strSlc Try.prog 9 = true := by kernel_rfl
@[simp] theorem t56 : (Try.prog.underlying 9).isSome = true := by kernel_rfl
@[simp] theorem t57 : isSt Try.prog 10 = true := by kernel_rfl
@[simp] theorem t58 : tyAgg Try.prog 10 = some false := by kernel_rfl
@[simp] theorem t59 : tySize Try.prog 10 = some 1 := by kernel_rfl
@[simp] theorem t60 : tyZero Try.prog 10 = some [Go.Abs.AV.str { data := { toList := [] } }] := by kernel_rfl
@[simp] theorem t61 : zeroEl Try.prog 10 = some (Go.Abs.AV.str { data := { toList := [] } }) := by kernel_rfl
@[simp] theorem t62 : strSlc Try.prog 10 = true := by kernel_rfl
@[simp] theorem t63 : (Try.prog.underlying 10).isSome = true := by kernel_rfl
@[simp] theorem t64 : isSt Try.prog 11 = true := by kernel_rfl
@[simp] theorem t65 : tyAgg Try.prog 11 = some false := by kernel_rfl
@[simp] theorem t66 : tySize Try.prog 11 = some 1 := by kernel_rfl
@[simp] theorem t67 : tyZero Try.prog 11 = some [Go.Abs.AV.str { data := { toList := [] } }] := by kernel_rfl
@[simp] theorem t68 : zeroEl Try.prog 11 = some (Go.Abs.AV.str { data := { toList := [] } }) := by kernel_rfl
@[simp] theorem t69 : strSlc Try.prog 11 = true := by kernel_rfl
@[simp] theorem t70 : (Try.prog.underlying 11).isSome = true := by kernel_rfl
@[simp] theorem t71 : tyAgg Try.prog 12 = some false := by kernel_rfl
@[simp] theorem t72 : tySize Try.prog 12 = some 1 := by kernel_rfl
@[simp] theorem t73 : tyZero Try.prog 12 = some [Go.Abs.AV.int Go.IntKind.u64 (0)] := by kernel_rfl
@[simp] theorem t74 : zeroEl Try.prog 12 = some (Go.Abs.AV.int Go.IntKind.u64 (0)) := by kernel_rfl
@[simp] theorem t75 : intTy Try.prog 12 = some Go.IntKind.u64 := by kernel_rfl
@[simp] theorem t76 : (Try.prog.underlying 12).isSome = true := by kernel_rfl
@[simp] theorem t77 : tyAgg Try.prog 13 = some true := by kernel_rfl
@[simp] theorem t78 : tySize Try.prog 13 = some 2 := by kernel_rfl
@[simp] theorem t79 : tyZero Try.prog 13 = some [Go.Abs.AV.str { data := { toList := [] } }, Go.Abs.AV.int Go.IntKind.u64 (0)] := by kernel_rfl
@[simp] theorem t80 : zeroEl Try.prog 13 = some (Go.Abs.AV.agg [Go.Abs.AV.str { data := { toList := [] } }, Go.Abs.AV.int Go.IntKind.u64 (0)]) := by kernel_rfl
@[simp] theorem t81 : fieldsOk Try.prog 13 = true := by kernel_rfl
@[simp] theorem t82 : (Try.prog.underlying 13).isSome = true := by kernel_rfl
@[simp] theorem t83 : tyAgg Try.prog 14 = some true := by kernel_rfl
@[simp] theorem t84 : tySize Try.prog 14 = some 2 := by kernel_rfl
@[simp] theorem t85 : tyZero Try.prog 14 = some [Go.Abs.AV.str { data := { toList := [] } }, Go.Abs.AV.int Go.IntKind.u64 (0)] := by kernel_rfl
@[simp] theorem t86 : zeroEl Try.prog 14 = some (Go.Abs.AV.agg [Go.Abs.AV.str { data := { toList := [] } }, Go.Abs.AV.int Go.IntKind.u64 (0)]) := by kernel_rfl
@[simp] theorem t87 : fieldsOk Try.prog 14 = true := by kernel_rfl
@[simp] theorem t88 : (Try.prog.underlying 14).isSome = true := by kernel_rfl
@[simp] theorem t89 : tyAgg Try.prog 15 = some false := by kernel_rfl
@[simp] theorem t90 : tySize Try.prog 15 = some 1 := by kernel_rfl
@[simp] theorem t91 : tyZero Try.prog 15 = some [Go.Abs.AV.nilptr] := by kernel_rfl
@[simp] theorem t92 : zeroEl Try.prog 15 = some Go.Abs.AV.nilptr := by kernel_rfl
@[simp] theorem t93 : (Try.prog.underlying 15).isSome = true := by kernel_rfl
@[simp] theorem t94 : tyAgg Try.prog 16 = some false := by kernel_rfl
@[simp] theorem t95 : tySize Try.prog 16 = some 1 := by kernel_rfl
@[simp] theorem t96 : tyZero Try.prog 16 = some [Go.Abs.AV.nilptr] := by kernel_rfl
@[simp] theorem t97 : zeroEl Try.prog 16 = some Go.Abs.AV.nilptr := by kernel_rfl
@[simp] theorem t98 : (Try.prog.underlying 16).isSome = true := by kernel_rfl
@[simp] theorem t99 : tyAgg Try.prog 17 = some false := by kernel_rfl
@[simp] theorem t100 : tySize Try.prog 17 = some 1 := by kernel_rfl
@[simp] theorem t101 : tyZero Try.prog 17 = some [Go.Abs.AV.nilptr] := by kernel_rfl
@[simp] theorem t102 : zeroEl Try.prog 17 = some Go.Abs.AV.nilptr := by kernel_rfl
@[simp] theorem t103 : (Try.prog.underlying 17).isSome = true := by kernel_rfl
@[simp] theorem t104 : tyAgg Try.prog 18 = some true := by kernel_rfl
@[simp] theorem t105 : tySize Try.prog 18 = some 1 := by kernel_rfl
@[simp] theorem t106 : tyZero Try.prog 18 = some [Go.Abs.AV.nilptr] := by kernel_rfl
@[simp] theorem t107 : zeroEl Try.prog 18 = some (Go.Abs.AV.agg [Go.Abs.AV.nilptr]) := by kernel_rfl
@[simp] theorem t108 : fieldsOk Try.prog 18 = true := by kernel_rfl
@[simp] theorem t109 : (Try.prog.underlying 18).isSome = true := by kernel_rfl
@[simp] theorem t110 : tyAgg Try.prog 19 = some true := by kernel_rfl
@[simp] theorem t111 : tySize Try.prog 19 = some 1 := by kernel_rfl
@[simp] theorem t112 : tyZero Try.prog 19 = some [Go.Abs.AV.nilptr] := by kernel_rfl
@[simp] theorem t113 : zeroEl Try.prog 19 = some (Go.Abs.AV.agg [Go.Abs.AV.nilptr]) := by kernel_rfl
@[simp] theorem t114 : fieldsOk Try.prog 19 = true := by kernel_rfl
@[simp] theorem t115 : (Try.prog.underlying 19).isSome = true := by kernel_rfl
@[simp] theorem t116 : tyAgg Try.prog 20 = some false := by kernel_rfl
@[simp] theorem t117 : tySize Try.prog 20 = some 1 := by kernel_rfl
@[simp] theorem t118 : tyZero Try.prog 20 = some [Go.Abs.AV.nilifc] := by kernel_rfl
@[simp] theorem t119 : zeroEl Try.prog 20 = some Go.Abs.AV.nilifc := by kernel_rfl
@[simp] theorem t120 : (Try.prog.underlying 20).isSome = true := by kernel_rfl
@[simp] theorem t121 : tyAgg Try.prog 21 = some false := by kernel_rfl
@[simp] theorem t122 : tySize Try.prog 21 = some 1 := by kernel_rfl
@[simp] theorem t123 : tyZero Try.prog 21 = some [Go.Abs.AV.int Go.IntKind.i32 (0)] := by kernel_rfl
@[simp] theorem t124 : zeroEl Try.prog 21 = some (Go.Abs.AV.int Go.IntKind.i32 (0)) := by kernel_rfl
@[simp] theorem t125 : intTy Try.prog 21 = some Go.IntKind.i32 := by kernel_rfl
@[simp] theorem t126 : (Try.prog.underlying 21).isSome = true := by kernel_rfl
@[simp] theorem t127 : slcElem Try.prog 22 = some (3, 1, 8) := by kernel_rfl
@[simp] theorem t128 : isSl Try.prog 22 = true := by kernel_rfl
@[simp] theorem t129 : tyAgg Try.prog 22 = some false := by kernel_rfl
@[simp] theorem t130 : tySize Try.prog 22 = some 1 := by kernel_rfl
@[simp] theorem t131 : tyZero Try.prog 22 = some [Go.Abs.AV.lst true true []] := by kernel_rfl
@[simp] theorem t132 : zeroEl Try.prog 22 = some (Go.Abs.AV.lst true true []) := by kernel_rfl
@[simp] theorem t133 : strSlc Try.prog 22 = true := by kernel_rfl
@[simp] theorem t134 : (Try.prog.underlying 22).isSome = true := by kernel_rfl
@[simp] theorem t135 : Try.prog.underlying 22 = some (Go.TypeDesc.slice 3) := by kernel_rfl
@[simp] theorem t136 : tyAgg Try.prog 23 = some false := by kernel_rfl
@[simp] theorem t137 : tySize Try.prog 23 = some 1 := by kernel_rfl
@[simp] theorem t138 : tyZero Try.prog 23 = some [Go.Abs.AV.nilfn] := by kernel_rfl
@[simp] theorem t139 : zeroEl Try.prog 23 = some Go.Abs.AV.nilfn := by kernel_rfl
@[simp] theorem t140 : (Try.prog.underlying 23).isSome = true := by kernel_rfl
@[simp] theorem t141 : tyAgg Try.prog 24 = some false := by kernel_rfl
@[simp] theorem t142 : tySize Try.prog 24 = some 1 := by kernel_rfl
@[simp] theorem t143 : tyZero Try.prog 24 = some [Go.Abs.AV.nilfn] := by kernel_rfl
@[simp] theorem t144 : zeroEl Try.prog 24 = some Go.Abs.AV.nilfn := by kernel_rfl
@[simp] theorem t145 : (Try.prog.underlying 24).isSome = true := by kernel_rfl
@[simp] theorem t146 : tyAgg Try.prog 25 = some false := by kernel_rfl
@[simp] theorem t147 : tySize Try.prog 25 = some 1 := by kernel_rfl
@[simp] theorem t148 : tyZero Try.prog 25 = some [Go.Abs.AV.nilptr] := by kernel_rfl
@[simp] theorem t149 : zeroEl Try.prog 25 = some Go.Abs.AV.nilptr := by kernel_rfl
@[simp] theorem t150 : (Try.prog.underlying 25).isSome = true := by kernel_rfl
@[simp] theorem t151 : tyAgg Try.prog 26 = some false := by kernel_rfl
@[simp] theorem t152 : tySize Try.prog 26 = some 1 := by kernel_rfl
@[simp] theorem t153 : tyZero Try.prog 26 = some [Go.Abs.AV.nilfn] := by kernel_rfl
@[simp] theorem t154 : zeroEl Try.prog 26 = some Go.Abs.AV.nilfn := by kernel_rfl
@[simp] theorem t155 : (Try.prog.underlying 26).isSome = true := by kernel_rfl
@[simp] theorem t156 : tyAgg Try.prog 27 = some false := by kernel_rfl
@[simp] theorem t157 : tySize Try.prog 27 = some 1 := by kernel_rfl
@[simp] theorem t158 : tyZero Try.prog 27 = some [Go.Abs.AV.nilfn] := by kernel_rfl
@[simp] theorem t159 : zeroEl Try.prog 27 = some Go.Abs.AV.nilfn := by kernel_rfl
@[simp] theorem t160 : (Try.prog.underlying 27).isSome = true := by kernel_rfl
@[simp] theorem t161 : tyAgg Try.prog 28 = some true := by kernel_rfl
@[simp] theorem t162 : tySize Try.prog 28 = some 3 := by kernel_rfl
@[simp] theorem t163 : tyZero Try.prog 28 = some [Go.Abs.AV.int Go.IntKind.i64 (0), Go.Abs.AV.int Go.IntKind.i64 (0), Go.Abs.AV.lst true true []] := by kernel_rfl
@[simp] theorem t164 : zeroEl Try.prog 28 = some (Go.Abs.AV.agg [Go.Abs.AV.int Go.IntKind.i64 (0), Go.Abs.AV.int Go.IntKind.i64 (0), Go.Abs.AV.lst true true []]) := by kernel_rfl
@[simp] theorem t165 : fieldsOk Try.prog 28 = true := by kernel_rfl
@[simp] theorem t166 : (Try.prog.underlying 28).isSome = true := by kernel_rfl
@[simp] theorem t167 : tyAgg Try.prog 29 = some true := by kernel_rfl
@[simp] theorem t168 : tySize Try.prog 29 = some 3 := by kernel_rfl
@[simp] theorem t169 : tyZero Try.prog 29 = some [Go.Abs.AV.int Go.IntKind.i64 (0), Go.Abs.AV.int Go.IntKind.i64 (0), Go.Abs.AV.lst true true []] := by kernel_rfl
@[simp] theorem t170 : zeroEl Try.prog 29 = some (Go.Abs.AV.agg [Go.Abs.AV.int Go.IntKind.i64 (0), Go.Abs.AV.int Go.IntKind.i64 (0), Go.Abs.AV.lst true true []]) := by kernel_rfl
@[simp] theorem t171 : fieldsOk Try.prog 29 = true := by kernel_rfl
@[simp] theorem t172 : (Try.prog.underlying 29).isSome = true := by kernel_rfl
@[simp] theorem t173 : tyAgg Try.prog 30 = some false := by kernel_rfl
@[simp] theorem t174 : tySize Try.prog 30 = some 1 := by kernel_rfl
@[simp] theorem t175 : tyZero Try.prog 30 = some [Go.Abs.AV.nilfn] := by kernel_rfl
@[simp] theorem t176 : zeroEl Try.prog 30 = some Go.Abs.AV.nilfn := by kernel_rfl
@[simp] theorem t177 : (Try.prog.underlying 30).isSome = true := by kernel_rfl
@[simp] theorem t178 : tyAgg Try.prog 31 = some false := by kernel_rfl
@[simp] theorem t179 : tySize Try.prog 31 = some 1 := by kernel_rfl
@[simp] theorem t180 : tyZero Try.prog 31 = some [Go.Abs.AV.nilfn] := by kernel_rfl
@[simp] theorem t181 : zeroEl Try.prog 31 = some Go.Abs.AV.nilfn := by kernel_rfl
@[simp] theorem t182 : (Try.prog.underlying 31).isSome = true := by kernel_rfl
@[simp] theorem t183 : tyAgg Try.prog 32 = some false := by kernel_rfl
@[simp] theorem t184 : tySize Try.prog 32 = some 1 := by kernel_rfl
@[simp] theorem t185 : tyZero Try.prog 32 = some [Go.Abs.AV.nilfn] := by kernel_rfl
@[simp] theorem t186 : zeroEl Try.prog 32 = some Go.Abs.AV.nilfn := by kernel_rfl
@[simp] theorem t187 : (Try.prog.underlying 32).isSome = true := by kernel_rfl
@[simp] theorem t188 : tyAgg Try.prog 33 = some false := by kernel_rfl
@[simp] theorem t189 : tySize Try.prog 33 = some 1 := by kernel_rfl
@[simp] theorem t190 : tyZero Try.prog 33 = some [Go.Abs.AV.nilfn] := by kernel_rfl
@[simp] theorem t191 : zeroEl Try.prog 33 = some Go.Abs.AV.nilfn := by kernel_rfl
@[simp] theorem t192 : (Try.prog.underlying 33).isSome = true := by kernel_rfl
@[simp] theorem t193 : slcElem Try.prog 34 = some (5, 1, 1) := by kernel_rfl
@[simp] theorem t194 : isSl Try.prog 34 = true := by kernel_rfl
@[simp] theorem t195 : tyAgg Try.prog 34 = some false := by kernel_rfl
@[simp] theorem t196 : tySize Try.prog 34 = some 1 := by kernel_rfl
@[simp] theorem t197 : tyZero Try.prog 34 = some [Go.Abs.AV.lst true true []] := by kernel_rfl
@[simp] theorem t198 : zeroEl Try.prog 34 = some (Go.Abs.AV.lst true true []) := by kernel_rfl
@[simp] theorem t199 : isBy Try.prog 34 = true := by kernel_rfl
@[simp] theorem t200 : strSlc Try.prog 34 = true := by kernel_rfl
@[simp] theorem t201 : (Try.prog.underlying 34).isSome = true := by kernel_rfl
@[simp] theorem t202 : Try.prog.underlying 34 = some (Go.TypeDesc.slice 5) := by kernel_rfl
@[simp] theorem t203 : tyAgg Try.prog 35 = some false := by kernel_rfl
@[simp] theorem t204 : tySize Try.prog 35 = some 1 := by kernel_rfl
@[simp] theorem t205 : tyZero Try.prog 35 = some [Go.Abs.AV.nilfn] := by kernel_rfl
@[simp] theorem t206 : zeroEl Try.prog 35 = some Go.Abs.AV.nilfn := by kernel_rfl
@[simp] theorem t207 : (Try.prog.underlying 35).isSome = true := by kernel_rfl
@[simp] theorem t208 : tyAgg Try.prog 36 = some false := by kernel_rfl
@[simp] theorem t209 : tySize Try.prog 36 = some 1 := by kernel_rfl
@[simp] theorem t210 : tyZero Try.prog 36 = some [Go.Abs.AV.nilfn] := by kernel_rfl
@[simp] theorem t211 : zeroEl Try.prog 36 = some Go.Abs.AV.nilfn := by kernel_rfl
@[simp] theorem t212 : (Try.prog.underlying 36).isSome = true := by kernel_rfl
@[simp] theorem t213 : tyAgg Try.prog 37 = some false := by kernel_rfl
@[simp] theorem t214 : tySize Try.prog 37 = some 1 := by kernel_rfl
@[simp] theorem t215 : tyZero Try.prog 37 = some [Go.Abs.AV.nilfn] := by kernel_rfl
@[simp] theorem t216 : zeroEl Try.prog 37 = some Go.Abs.AV.nilfn := by kernel_rfl
@[simp] theorem t217 : (Try.prog.underlying 37).isSome = true := by kernel_rfl
@[simp] theorem t218 : tyAgg Try.prog 38 = some false := by kernel_rfl
@[simp] theorem t219 : tySize Try.prog 38 = some 1 := by kernel_rfl
@[simp] theorem t220 : tyZero Try.prog 38 = some [Go.Abs.AV.nilfn] := by kernel_rfl
@[simp] theorem t221 : zeroEl Try.prog 38 = some Go.Abs.AV.nilfn := by kernel_rfl
@[simp] theorem t222 : (Try.prog.underlying 38).isSome = true := by kernel_rfl
@[simp] theorem t223 : tyAgg Try.prog 39 = some false := by kernel_rfl
@[simp] theorem t224 : tySize Try.prog 39 = some 1 := by kernel_rfl
@[simp] theorem t225 : tyZero Try.prog 39 = some [Go.Abs.AV.nilfn] := by kernel_rfl
@[simp] theorem t226 : zeroEl Try.prog 39 = some Go.Abs.AV.nilfn := by kernel_rfl
@[simp] theorem t227 : (Try.prog.underlying 39).isSome = true := by kernel_rfl
@[simp] theorem t228 : tyAgg Try.prog 40 = some false := by kernel_rfl
@[simp] theorem t229 : tySize Try.prog 40 = some 1 := by kernel_rfl
@[simp] theorem t230 : tyZero Try.prog 40 = some [Go.Abs.AV.nilfn] := by kernel_rfl
@[simp] theorem t231 : zeroEl Try.prog 40 = some Go.Abs.AV.nilfn := by kernel_rfl
@[simp] theorem t232 : (Try.prog.underlying 40).isSome = true := by kernel_rfl
@[simp] theorem t233 : tyAgg Try.prog 41 = some false := by kernel_rfl
@[simp] theorem t234 : tySize Try.prog 41 = some 1 := by kernel_rfl
@[simp] theorem t235 : tyZero Try.prog 41 = some [Go.Abs.AV.nilfn] := by kernel_rfl
@[simp] theorem t236 : zeroEl Try.prog 41 = some Go.Abs.AV.nilfn := by kernel_rfl
@[simp] theorem t237 : (Try.prog.underlying 41).isSome = true := by kernel_rfl
@[simp] theorem t238 : tyAgg Try.prog 42 = some false := by kernel_rfl
@[simp] theorem t239 : tySize Try.prog 42 = some 1 := by kernel_rfl
@[simp] theorem t240 : tyZero Try.prog 42 = some [Go.Abs.AV.nilfn] := by kernel_rfl
@[simp] theorem t241 : zeroEl Try.prog 42 = some Go.Abs.AV.nilfn := by kernel_rfl
@[simp] theorem t242 : (Try.prog.underlying 42).isSome = true := by kernel_rfl
@[simp] theorem t243 : slcElem Try.prog 43 = some (105, 3, 32) := by kernel_rfl
@[simp] theorem t244 : isSl Try.prog 43 = true := by kernel_rfl
@[simp] theorem t245 : tyAgg Try.prog 43 = some false := by kernel_rfl
@[simp] theorem t246 : tySize Try.prog 43 = some 1 := by kernel_rfl
@[simp] theorem t247 : tyZero Try.prog 43 = some [Go.Abs.AV.lst true true []] := by kernel_rfl
@[simp] theorem t248 : zeroEl Try.prog 43 = some (Go.Abs.AV.lst true true []) := by kernel_rfl
@[simp] theorem t249 : strSlc Try.prog 43 = true := by kernel_rfl
@[simp] theorem t250 : (Try.prog.underlying 43).isSome = true := by kernel_rfl
@[simp] theorem t251 : Try.prog.underlying 43 = some (Go.TypeDesc.slice 105) := by kernel_rfl
@[simp] theorem t252 : tyAgg Try.prog 44 = some true := by kernel_rfl
@[simp] theorem t253 : tySize Try.prog 44 = some 6 := by kernel_rfl
@[simp] theorem t254 : tyZero Try.prog 44 = some [Go.Abs.AV.int Go.IntKind.i64 (0), Go.Abs.AV.int Go.IntKind.i64 (0), Go.Abs.AV.int Go.IntKind.i64 (0), Go.Abs.AV.int Go.IntKind.i64 (0), Go.Abs.AV.lst true true [], Go.Abs.AV.lst true true []] := by kernel_rfl
@[simp] theorem t255 : zeroEl Try.prog 44 = some (Go.Abs.AV.agg [Go.Abs.AV.int Go.IntKind.i64 (0), Go.Abs.AV.int Go.IntKind.i64 (0), Go.Abs.AV.int Go.IntKind.i64 (0), Go.Abs.AV.int Go.IntKind.i64 (0), Go.Abs.AV.lst true true [], Go.Abs.AV.lst true true []]) := by kernel_rfl
@[simp] theorem t256 : fieldsOk Try.prog 44 = true := by kernel_rfl
@[simp] theorem t257 : (Try.prog.underlying 44).isSome = true := by kernel_rfl
@[simp] theorem t258 : tyAgg Try.prog 45 = some true := by kernel_rfl
@[simp] theorem t259 : tySize Try.prog 45 = some 6 := by kernel_rfl
@[simp] theorem t260 : tyZero Try.prog 45 = some [Go.Abs.AV.int Go.IntKind.i64 (0), Go.Abs.AV.int Go.IntKind.i64 (0), Go.Abs.AV.int Go.IntKind.i64 (0), Go.Abs.AV.int Go.IntKind.i64 (0), Go.Abs.AV.lst true true [], Go.Abs.AV.lst true true []] := by kernel_rfl
@[simp] theorem t261 : zeroEl Try.prog 45 = some (Go.Abs.AV.agg [Go.Abs.AV.int Go.IntKind.i64 (0), Go.Abs.AV.int Go.IntKind.i64 (0), Go.Abs.AV.int Go.IntKind.i64 (0), Go.Abs.AV.int Go.IntKind.i64 (0), Go.Abs.AV.lst true true [], Go.Abs.AV.lst true true []]) := by kernel_rfl
@[simp] theorem t262 : fieldsOk Try.prog 45 = true := by kernel_rfl
@[simp] theorem t263 : (Try.prog.underlying 45).isSome = true := by kernel_rfl
@[simp] theorem t264 : tyAgg Try.prog 46 = some false := by kernel_rfl
@[simp] theorem t265 : tySize Try.prog 46 = some 1 := by kernel_rfl
@[simp] theorem t266 : tyZero Try.prog 46 = some [Go.Abs.AV.int Go.IntKind.i64 (0)] := by kernel_rfl
@[simp] theorem t267 : zeroEl Try.prog 46 = some (Go.Abs.AV.int Go.IntKind.i64 (0)) := by kernel_rfl
@[simp] theorem t268 : intTy Try.prog 46 = some Go.IntKind.i64 := by kernel_rfl
@[simp] theorem t269 : (Try.prog.underlying 46).isSome = true := by kernel_rfl
@[simp] theorem t270 : tyAgg Try.prog 47 = some false := by kernel_rfl
@[simp] theorem t271 : tySize Try.prog 47 = some 1 := by kernel_rfl
@[simp] theorem t272 : (Try.prog.underlying 47).isSome = true := by kernel_rfl
@[simp] theorem t273 : tyAgg Try.prog 48 = some false := by kernel_rfl
@[simp] theorem t274 : tySize Try.prog 48 = some 1 := by kernel_rfl
@[simp] theorem t275 : tyZero Try.prog 48 = some [Go.Abs.AV.nilfn] := by kernel_rfl
@[simp] theorem t276 : zeroEl Try.prog 48 = some Go.Abs.AV.nilfn := by kernel_rfl
@[simp] theorem t277 : (Try.prog.underlying 48).isSome = true := by kernel_rfl
@[simp] theorem t278 : tyAgg Try.prog 49 = some false := by kernel_rfl
@[simp] theorem t279 : tySize Try.prog 49 = some 1 := by kernel_rfl
@[simp] theorem t280 : tyZero Try.prog 49 = some [Go.Abs.AV.nilfn] := by kernel_rfl
@[simp] theorem t281 : zeroEl Try.prog 49 = some Go.Abs.AV.nilfn := by kernel_rfl
@[simp] theorem t282 : (Try.prog.underlying 49).isSome = true := by kernel_rfl
@[simp] theorem t283 : tyAgg Try.prog 50 = some false := by kernel_rfl
@[simp] theorem t284 : tySize Try.prog 50 = some 1 := by kernel_rfl
@[simp] theorem t285 : tyZero Try.prog 50 = some [Go.Abs.AV.nilfn] := by kernel_rfl
@[simp] theorem t286 : zeroEl Try.prog 50 = some Go.Abs.AV.nilfn := by kernel_rfl
@[simp] theorem t287 : (Try.prog.underlying 50).isSome = true := by kernel_rfl
@[simp] theorem t288 : tyAgg Try.prog 51 = some false := by kernel_rfl
@[simp] theorem t289 : tySize Try.prog 51 = some 1 := by kernel_rfl
@[simp] theorem t290 : tyZero Try.prog 51 = some [Go.Abs.AV.nilfn] := by kernel_rfl
@[simp] theorem t291 : zeroEl Try.prog 51 = some Go.Abs.AV.nilfn := by kernel_rfl
@[simp] theorem t292 : (Try.prog.underlying 51).isSome = true := by kernel_rfl
@[simp] theorem t293 : tyAgg Try.prog 52 = some false := by kernel_rfl
@[simp] theorem t294 : tySize Try.prog 52 = some 1 := by kernel_rfl
@[simp] theorem t295 : tyZero Try.prog 52 = some [Go.Abs.AV.nilfn] := by kernel_rfl
@[simp] theorem t296 : zeroEl Try.prog 52 = some Go.Abs.AV.nilfn := by kernel_rfl
@[simp] theorem t297 : (Try.prog.underlying 52).isSome = true := by kernel_rfl
@[simp] theorem t298 : tyAgg Try.prog 53 = some false := by kernel_rfl
@[simp] theorem t299 : tySize Try.prog 53 = some 1 := by kernel_rfl
@[simp] theorem t300 : tyZero Try.prog 53 = some [Go.Abs.AV.nilfn] := by kernel_rfl
@[simp] theorem t301 : zeroEl Try.prog 53 = some Go.Abs.AV.nilfn := by kernel_rfl
@[simp] theorem t302 : (Try.prog.underlying 53).isSome = true := by kernel_rfl
@[simp] theorem t303 : tyAgg Try.prog 54 = some false := by kernel_rfl
@[simp] theorem t304 : tySize Try.prog 54 = some 1 := by kernel_rfl
@[simp] theorem t305 : tyZero Try.prog 54 = some [Go.Abs.AV.int Go.IntKind.u32 (0)] := by kernel_rfl
@[simp] theorem t306 : zeroEl Try.prog 54 = some (Go.Abs.AV.int Go.IntKind.u32 (0)) := by kernel_rfl
@[simp] theorem t307 : intTy Try.prog 54 = some Go.IntKind.u32 := by kernel_rfl
@[simp] theorem t308 : (Try.prog.underlying 54).isSome = true := by kernel_rfl
@[simp] theorem t309 : tyAgg Try.prog 55 = some false := by kernel_rfl
@[simp] theorem t310 : tySize Try.prog 55 = some 1 := by kernel_rfl
@[simp] theorem t311 : (Try.prog.underlying 55).isSome = true := by kernel_rfl
@[simp] theorem t312 : tyAgg Try.prog 56 = some false := by kernel_rfl
@[simp] theorem t313 : tySize Try.prog 56 = some 1 := by kernel_rfl
@[simp] theorem t314 : tyZero Try.prog 56 = some [Go.Abs.AV.nilfn] := by kernel_rfl
@[simp] theorem t315 : zeroEl Try.prog 56 = some Go.Abs.AV.nilfn := by kernel_rfl
@[simp] theorem t316 : (Try.prog.underlying 56).isSome = true := by kernel_rfl
@[simp] theorem t317 : tyAgg Try.prog 57 = some false := by kernel_rfl
@[simp] theorem t318 : tySize Try.prog 57 = some 1 := by kernel_rfl
@[simp] theorem t319 : tyZero Try.prog 57 = some [Go.Abs.AV.nilfn] := by kernel_rfl
@[simp] theorem t320 : zeroEl Try.prog 57 = some Go.Abs.AV.nilfn := by kernel_rfl
@[simp] theorem t321 : (Try.prog.underlying 57).isSome = true := by kernel_rfl
@[simp] theorem t322 : tyAgg Try.prog 58 = some false := by kernel_rfl
@[simp] theorem t323 : tySize Try.prog 58 = some 1 := by kernel_rfl
@[simp] theorem t324 : tyZero Try.prog 58 = some [Go.Abs.AV.nilfn] := by kernel_rfl
@[simp] theorem t325 : zeroEl Try.prog 58 = some Go.Abs.AV.nilfn := by kernel_rfl
@[simp] theorem t326 : (Try.prog.underlying 58).isSome = true := by kernel_rfl
@[simp] theorem t327 : tyAgg Try.prog 59 = some false := by kernel_rfl
@[simp] theorem t328 : tySize Try.prog 59 = some 1 := by kernel_rfl
@[simp] theorem t329 : tyZero Try.prog 59 = some [Go.Abs.AV.nilfn] := by kernel_rfl
@[simp] theorem t330 : zeroEl Try.prog 59 = some Go.Abs.AV.nilfn := by kernel_rfl
@[simp] theorem t331 : (Try.prog.underlying 59).isSome = true := by kernel_rfl
@[simp] theorem t332 : tyAgg Try.prog 60 = some false := by kernel_rfl
@[simp] theorem t333 : tySize Try.prog 60 = some 1 := by kernel_rfl
@[simp] theorem t334 : tyZero Try.prog 60 = some [Go.Abs.AV.nilfn] := by kernel_rfl
@[simp] theorem t335 : zeroEl Try.prog 60 = some Go.Abs.AV.nilfn := by kernel_rfl
@[simp] theorem t336 : (Try.prog.underlying 60).isSome = true := by kernel_rfl
@[simp] theorem t337 : tyAgg Try.prog 61 = some false := by kernel_rfl
@[simp] theorem t338 : tySize Try.prog 61 = some 1 := by kernel_rfl
@[simp] theorem t339 : tyZero Try.prog 61 = some [Go.Abs.AV.nilfn] := by kernel_rfl
@[simp] theorem t340 : zeroEl Try.prog 61 = some Go.Abs.AV.nilfn := by kernel_rfl
@[simp] theorem t341 : (Try.prog.underlying 61).isSome = true := by kernel_rfl
@[simp] theorem t342 : tyAgg Try.prog 62 = some false := by kernel_rfl
@[simp] theorem t343 : tySize Try.prog 62 = some 1 := by kernel_rfl
@[simp] theorem t344 : (Try.prog.underlying 62).isSome = true := by kernel_rfl
@[simp] theorem t345 : tyAgg Try.prog 63 = some false := by kernel_rfl
@[simp] theorem t346 : tySize Try.prog 63 = some 1 := by kernel_rfl
@[simp] theorem t347 : tyZero Try.prog 63 = some [Go.Abs.AV.nilfn] := by kernel_rfl
@[simp] theorem t348 : zeroEl Try.prog 63 = some Go.Abs.AV.nilfn := by kernel_rfl
@[simp] theorem t349 : (Try.prog.underlying 63).isSome = true := by kernel_rfl
@[simp] theorem t350 : tyAgg Try.prog 64 = some false := by kernel_rfl
@[simp] theorem t351 : tySize Try.prog 64 = some 1 := by kernel_rfl
@[simp] theorem t352 : (Try.prog.underlying 64).isSome = true := by kernel_rfl
@[simp] theorem t353 : tyAgg Try.prog 65 = some false := by kernel_rfl
@[simp] theorem t354 : tySize Try.prog 65 = some 1 := by kernel_rfl
@[simp] theorem t355 : tyZero Try.prog 65 = some [Go.Abs.AV.nilfn] := by kernel_rfl
@[simp] theorem t356 : zeroEl Try.prog 65 = some Go.Abs.AV.nilfn := by kernel_rfl
@[simp] theorem t357 : (Try.prog.underlying 65).isSome = true := by kernel_rfl
@[simp] theorem t358 : tyAgg Try.prog 66 = some false := by kernel_rfl
@[simp] theorem t359 : tySize Try.prog 66 = some 1 := by kernel_rfl
@[simp] theorem t360 : (Try.prog.underlying 66).isSome = true := by kernel_rfl
@[simp] theorem t361 : tyAgg Try.prog 67 = some false := by kernel_rfl
@[simp] theorem t362 : tySize Try.prog 67 = some 1 := by kernel_rfl
@[simp] theorem t363 : tyZero Try.prog 67 = some [Go.Abs.AV.nilfn] := by kernel_rfl
@[simp] theorem t364 : zeroEl Try.prog 67 = some Go.Abs.AV.nilfn := by kernel_rfl
@[simp] theorem t365 : (Try.prog.underlying 67).isSome = true := by kernel_rfl
@[simp] theorem t366 : tyAgg Try.prog 68 = some false := by kernel_rfl
@[simp] theorem t367 : tySize Try.prog 68 = some 1 := by kernel_rfl
@[simp] theorem t368 : tyZero Try.prog 68 = some [Go.Abs.AV.nilfn] := by kernel_rfl
@[simp] theorem t369 : zeroEl Try.prog 68 = some Go.Abs.AV.nilfn := by kernel_rfl
@[simp] theorem t370 : (Try.prog.underlying 68).isSome = true := by kernel_rfl
@[simp] theorem t371 : tyAgg Try.prog 69 = some false := by kernel_rfl
@[simp] theorem t372 : tySize Try.prog 69 = some 1 := by kernel_rfl
@[simp] theorem t373 : tyZero Try.prog 69 = some [Go.Abs.AV.nilfn] := by kernel_rfl
@[simp] theorem t374 : zeroEl Try.prog 69 = some Go.Abs.AV.nilfn := by kernel_rfl
@[simp] theorem t375 : (Try.prog.underlying 69).isSome = true := by kernel_rfl
@[simp] theorem t376 : tyAgg Try.prog 70 = some false := by kernel_rfl
@[simp] theorem t377 : tySize Try.prog 70 = some 1 := by kernel_rfl
@[simp] theorem t378 : tyZero Try.prog 70 = some [Go.Abs.AV.nilfn] := by kernel_rfl
@[simp] theorem t379 : zeroEl Try.prog 70 = some Go.Abs.AV.nilfn := by kernel_rfl
@[simp] theorem t380 : (Try.prog.underlying 70).isSome = true := by kernel_rfl
@[simp] theorem t381 : tyAgg Try.prog 71 = some false := by kernel_rfl
@[simp] theorem t382 : tySize Try.prog 71 = some 1 := by kernel_rfl
@[simp] theorem t383 : tyZero Try.prog 71 = some [Go.Abs.AV.nilfn] := by kernel_rfl
@[simp] theorem t384 : zeroEl Try.prog 71 = some Go.Abs.AV.nilfn := by kernel_rfl
@[simp] theorem t385 : (Try.prog.underlying 71).isSome = true := by kernel_rfl
@[simp] theorem t386 : tyAgg Try.prog 72 = some false := by kernel_rfl
@[simp] theorem t387 : tySize Try.prog 72 = some 1 := by kernel_rfl
@[simp] theorem t388 : tyZero Try.prog 72 = some [Go.Abs.AV.nilfn] := by kernel_rfl
@[simp] theorem t389 : zeroEl Try.prog 72 = some Go.Abs.AV.nilfn := by kernel_rfl
@[simp] theorem t390 : (Try.prog.underlying 72).isSome = true := by kernel_rfl
@[simp] theorem t391 : tyAgg Try.prog 73 = some false := by kernel_rfl
@[simp] theorem t392 : tySize Try.prog 73 = some 1 := by kernel_rfl
@[simp] theorem t393 : tyZero Try.prog 73 = some [Go.Abs.AV.nilfn] := by kernel_rfl
@[simp] theorem t394 : zeroEl Try.prog 73 = some Go.Abs.AV.nilfn := by kernel_rfl
@[simp] theorem t395 : (Try.prog.underlying 73).isSome = true := by kernel_rfl
@[simp] theorem t396 : tyAgg Try.prog 74 = some false := by kernel_rfl
@[simp] theorem t397 : tySize Try.prog 74 = some 1 := by kernel_rfl
@[simp] theorem t398 : tyZero Try.prog 74 = some [Go.Abs.AV.nilfn] := by kernel_rfl
@[simp] theorem t399 : zeroEl Try.prog 74 = some Go.Abs.AV.nilfn := by kernel_rfl
@[simp] theorem t400 : (Try.prog.underlying 74).isSome = true := by kernel_rfl
@[simp] theorem t401 : tyAgg Try.prog 75 = some false := by kernel_rfl
@[simp] theorem t402 : tySize Try.prog 75 = some 1 := by kernel_rfl
@[simp] theorem t403 : tyZero Try.prog 75 = some [Go.Abs.AV.nilfn] := by kernel_rfl
@[simp] theorem t404 : zeroEl Try.prog 75 = some Go.Abs.AV.nilfn := by kernel_rfl
@[simp] theorem t405 : (Try.prog.underlying 75).isSome = true := by kernel_rfl
@[simp] theorem t406 : tyAgg Try.prog 76 = some false := by kernel_rfl
@[simp] theorem t407 : tySize Try.prog 76 = some 1 := by kernel_rfl
@[simp] theorem t408 : tyZero Try.prog 76 = some [Go.Abs.AV.int Go.IntKind.u64 (0)] := by kernel_rfl
@[simp] theorem t409 : zeroEl Try.prog 76 = some (Go.Abs.AV.int Go.IntKind.u64 (0)) := by kernel_rfl
@[simp] theorem t410 : intTy Try.prog 76 = some Go.IntKind.u64 := by kernel_rfl
@[simp] theorem t411 : (Try.prog.underlying 76).isSome = true := by kernel_rfl
@[simp] theorem t412 : tyAgg Try.prog 77 = some false := by kernel_rfl
@[simp] theorem t413 : tySize Try.prog 77 = some 1 := by kernel_rfl
@[simp] theorem t414 : tyZero Try.prog 77 = some [Go.Abs.AV.int Go.IntKind.u64 (0)] := by kernel_rfl
@[simp] theorem t415 : zeroEl Try.prog 77 = some (Go.Abs.AV.int Go.IntKind.u64 (0)) := by kernel_rfl
@[simp] theorem t416 : intTy Try.prog 77 = some Go.IntKind.u64 := by kernel_rfl
@[simp] theorem t417 : (Try.prog.underlying 77).isSome = true := by kernel_rfl
@[simp] theorem t418 : tyAgg Try.prog 78 = some false := by kernel_rfl
@[simp] theorem t419 : tySize Try.prog 78 = some 1 := by kernel_rfl
@[simp] theorem t420 : tyZero Try.prog 78 = some [Go.Abs.AV.nilfn] := by kernel_rfl
@[simp] theorem t421 : zeroEl Try.prog 78 = some Go.Abs.AV.nilfn := by kernel_rfl
@[simp] theorem t422 : (Try.prog.underlying 78).isSome = true := by kernel_rfl
@[simp] theorem t423 : tyAgg Try.prog 79 = some false := by kernel_rfl
@[simp] theorem t424 : tySize Try.prog 79 = some 1 := by kernel_rfl
@[simp] theorem t425 : tyZero Try.prog 79 = some [Go.Abs.AV.nilfn] := by kernel_rfl
@[simp] theorem t426 : zeroEl Try.prog 79 = some Go.Abs.AV.nilfn := by kernel_rfl
@[simp] theorem t427 : (Try.prog.underlying 79).isSome = true := by kernel_rfl
@[simp] theorem t428 : tyAgg Try.prog 80 = some false := by kernel_rfl
@[simp] theorem t429 : tySize Try.prog 80 = some 1 := by kernel_rfl
@[simp] theorem t430 : tyZero Try.prog 80 = some [Go.Abs.AV.nilfn] := by kernel_rfl
@[simp] theorem t431 : zeroEl Try.prog 80 = some Go.Abs.AV.nilfn := by kernel_rfl
@[simp] theorem t432 : (Try.prog.underlying 80).isSome = true := by kernel_rfl
@[simp] theorem t433 : tyAgg Try.prog 81 = some true := by kernel_rfl
@[simp] theorem t434 : tySize Try.prog 81 = some 2 := by kernel_rfl
@[simp] theorem t435 : tyZero Try.prog 81 = some [Go.Abs.AV.lst true true [], Go.Abs.AV.int Go.IntKind.i64 (0)] := by kernel_rfl
@[simp] theorem t436 : zeroEl Try.prog 81 = some (Go.Abs.AV.agg [Go.Abs.AV.lst true true [], Go.Abs.AV.int Go.IntKind.i64 (0)]) := by kernel_rfl
@[simp] theorem t437 : fieldsOk Try.prog 81 = true := by kernel_rfl
@[simp] theorem t438 : (Try.prog.underlying 81).isSome = true := by kernel_rfl
@[simp] theorem t439 : tyAgg Try.prog 82 = some true := by kernel_rfl
@[simp] theorem t440 : tySize Try.prog 82 = some 2 := by kernel_rfl
@[simp] theorem t441 : tyZero Try.prog 82 = some [Go.Abs.AV.lst true true [], Go.Abs.AV.int Go.IntKind.i64 (0)] := by kernel_rfl
@[simp] theorem t442 : zeroEl Try.prog 82 = some (Go.Abs.AV.agg [Go.Abs.AV.lst true true [], Go.Abs.AV.int Go.IntKind.i64 (0)]) := by kernel_rfl
@[simp] theorem t443 : fieldsOk Try.prog 82 = true := by kernel_rfl
@[simp] theorem t444 : (Try.prog.underlying 82).isSome = true := by kernel_rfl
@[simp] theorem t445 : tyAgg Try.prog 83 = some false := by kernel_rfl
@[simp] theorem t446 : tySize Try.prog 83 = some 1 := by kernel_rfl
@[simp] theorem t447 : tyZero Try.prog 83 = some [Go.Abs.AV.nilfn] := by kernel_rfl
@[simp] theorem t448 : zeroEl Try.prog 83 = some Go.Abs.AV.nilfn := by kernel_rfl
@[simp] theorem t449 : (Try.prog.underlying 83).isSome = true := by kernel_rfl
@[simp] theorem t450 : tyAgg Try.prog 84 = some false := by kernel_rfl
@[simp] theorem t451 : tySize Try.prog 84 = some 1 := by kernel_rfl
@[simp] theorem t452 : tyZero Try.prog 84 = some [Go.Abs.AV.nilfn] := by kernel_rfl
@[simp] theorem t453 : zeroEl Try.prog 84 = some Go.Abs.AV.nilfn := by kernel_rfl
@[simp] theorem t454 : (Try.prog.underlying 84).isSome = true := by kernel_rfl
@[simp] theorem t455 : tyAgg Try.prog 85 = some false := by kernel_rfl
@[simp] theorem t456 : tySize Try.prog 85 = some 1 := by kernel_rfl
@[simp] theorem t457 : tyZero Try.prog 85 = some [Go.Abs.AV.nilfn] := by kernel_rfl
@[simp] theorem t458 : zeroEl Try.prog 85 = some Go.Abs.AV.nilfn := by kernel_rfl
@[simp] theorem t459 : (Try.prog.underlying 85).isSome = true := by kernel_rfl
@[simp] theorem t460 : tyAgg Try.prog 86 = some true := by kernel_rfl
@[simp] theorem t461 : tySize Try.prog 86 = some 2 := by kernel_rfl
@[simp] theorem t462 : tyZero Try.prog 86 = some [Go.Abs.AV.lst true true [], Go.Abs.AV.lst true true []] := by kernel_rfl
@[simp] theorem t463 : zeroEl Try.prog 86 = some (Go.Abs.AV.agg [Go.Abs.AV.lst true true [], Go.Abs.AV.lst true true []]) := by kernel_rfl
@[simp] theorem t464 : fieldsOk Try.prog 86 = true := by kernel_rfl
@[simp] theorem t465 : (Try.prog.underlying 86).isSome = true := by kernel_rfl
@[simp] theorem t466 : tyAgg Try.prog 87 = some true := by kernel_rfl
@[simp] theorem t467 : tySize Try.prog 87 = some 2 := by kernel_rfl
@[simp] theorem t468 : tyZero Try.prog 87 = some [Go.Abs.AV.lst true true [], Go.Abs.AV.lst true true []] := by kernel_rfl
@[simp] theorem t469 : zeroEl Try.prog 87 = some (Go.Abs.AV.agg [Go.Abs.AV.lst true true [], Go.Abs.AV.lst true true []]) := by kernel_rfl
@[simp] theorem t470 : fieldsOk Try.prog 87 = true := by kernel_rfl
@[simp] theorem t471 : (Try.prog.underlying 87).isSome = true := by kernel_rfl
@[simp] theorem t472 : tyAgg Try.prog 88 = some false := by kernel_rfl
@[simp] theorem t473 : tySize Try.prog 88 = some 1 := by kernel_rfl
@[simp] theorem t474 : tyZero Try.prog 88 = some [Go.Abs.AV.nilfn] := by kernel_rfl
@[simp] theorem t475 : zeroEl Try.prog 88 = some Go.Abs.AV.nilfn := by kernel_rfl
@[simp] theorem t476 : (Try.prog.underlying 88).isSome = true := by kernel_rfl
@[simp] theorem t477 : tyAgg Try.prog 89 = some false := by kernel_rfl
@[simp] theorem t478 : tySize Try.prog 89 = some 1 := by kernel_rfl
@[simp] theorem t479 : tyZero Try.prog 89 = some [Go.Abs.AV.nilfn] := by kernel_rfl
@[simp] theorem t480 : zeroEl Try.prog 89 = some Go.Abs.AV.nilfn := by kernel_rfl
@[simp] theorem t481 : (Try.prog.underlying 89).isSome = true := by kernel_rfl
@[simp] theorem t482 : tyAgg Try.prog 90 = some true := by kernel_rfl
@[simp] theorem t483 : tySize Try.prog 90 = some 64 := by kernel_rfl
@[simp] theorem t484 : tyZero Try.prog 90 = some [Go.Abs.AV.bool false, Go.Abs.AV.bool false, Go.Abs.AV.bool false, Go.Abs.AV.bool false, Go.Abs.AV.bool false, Go.Abs.AV.bool false, Go.Abs.AV.bool false, Go.Abs.AV.bool false, Go.Abs.AV.bool false, Go.Abs.AV.bool false, Go.Abs.AV.bool false, Go.Abs.AV.bool false, Go.Abs.AV.bool false, Go.Abs.AV.bool false, Go.Abs.AV.bool false, Go.Abs.AV.bool false, Go.Abs.AV.bool false, Go.Abs.AV.bool false, Go.Abs.AV.bool false, Go.Abs.AV.bool false, Go.Abs.AV.bool false, Go.Abs.AV.bool false, Go.Abs.AV.bool false, Go.Abs.AV.bool false, Go.Abs.AV.bool false, Go.Abs.AV.bool false, Go.Abs.AV.bool false, Go.Abs.AV.bool false, Go.Abs.AV.bool false, Go.Abs.AV.bool false, Go.Abs.AV.bool false, Go.Abs.AV.bool false, Go.Abs.AV.bool false, Go.Abs.AV.bool false, Go.Abs.AV.bool false, Go.Abs.AV.bool false, Go.Abs.AV.bool false, Go.Abs.AV.bool false, Go.Abs.AV.bool false, Go.Abs.AV.bool false, Go.Abs.AV.bool false, Go.Abs.AV.bool false, Go.Abs.AV.bool false, Go.Abs.AV.bool false, Go.Abs.AV.bool false, Go.Abs.AV.bool false, Go.Abs.AV.bool false, Go.Abs.AV.bool false, Go.Abs.AV.bool false, Go.Abs.AV.bool false, Go.Abs.AV.bool false, Go.Abs.AV.bool false, Go.Abs.AV.bool false, Go.Abs.AV.bool false, Go.Abs.AV.bool false, Go.Abs.AV.bool false, Go.Abs.AV.bool false, Go.Abs.AV.bool false, Go.Abs.AV.bool false, Go.Abs.AV.bool false, Go.Abs.AV.bool false, Go.Abs.AV.bool false, Go.Abs.AV.bool false, Go.Abs.AV.bool false] := by kernel_rfl
@[simp] theorem t485 : arrElem Try.prog 90 = some (64, 1) := by kernel_rfl
@[simp] theorem t486 : zeroEl Try.prog 90 = some (Go.Abs.AV.agg [Go.Abs.AV.bool false, Go.Abs.AV.bool false, Go.Abs.AV.bool false, Go.Abs.AV.bool false, Go.Abs.AV.bool false, Go.Abs.AV.bool false, Go.Abs.AV.bool false, Go.Abs.AV.bool false, Go.Abs.AV.bool false, Go.Abs.AV.bool false, Go.Abs.AV.bool false, Go.Abs.AV.bool false, Go.Abs.AV.bool false, Go.Abs.AV.bool false, Go.Abs.AV.bool false, Go.Abs.AV.bool false, Go.Abs.AV.bool false, Go.Abs.AV.bool false, Go.Abs.AV.bool false, Go.Abs.AV.bool false, Go.Abs.AV.bool false, Go.Abs.AV.bool false, Go.Abs.AV.bool false, Go.Abs.AV.bool false, Go.Abs.AV.bool false, Go.Abs.AV.bool false, Go.Abs.AV.bool false, Go.Abs.AV.bool false, Go.Abs.AV.bool false, Go.Abs.AV.bool false, Go.Abs.AV.bool false, Go.Abs.AV.bool false, Go.Abs.AV.bool false, Go.Abs.AV.bool false, Go.Abs.AV.bool false, Go.Abs.AV.bool false, Go.Abs.AV.bool false, Go.Abs.AV.bool false, Go.Abs.AV.bool false, Go.Abs.AV.bool false, Go.Abs.AV.bool false, Go.Abs.AV.bool false, Go.Abs.AV.bool false, Go.Abs.AV.bool false, Go.Abs.AV.bool false, Go.Abs.AV.bool false, Go.Abs.AV.bool false, Go.Abs.AV.bool false, Go.Abs.AV.bool false, Go.Abs.AV.bool false, Go.Abs.AV.bool false, Go.Abs.AV.bool false, Go.Abs.AV.bool false, Go.Abs.AV.bool false, Go.Abs.AV.bool false, Go.Abs.AV.bool false, Go.Abs.AV.bool false, Go.Abs.AV.bool false, Go.Abs.AV.bool false, Go.Abs.AV.bool false, Go.Abs.AV.bool false, Go.Abs.AV.bool false, Go.Abs.AV.bool false, Go.Abs.AV.bool false]) := by kernel_rfl
@[simp] theorem t487 : fieldsOk Try.prog 90 = true := by kernel_rfl
@[simp] theorem t488 : arrP Try.prog 90 = some (64, Go.Abs.SKind.bool) := by kernel_rfl
@[simp] theorem t489 : (Try.prog.underlying 90).isSome = true := by kernel_rfl
@[simp] theorem t490 : tyAgg Try.prog 91 = some true := by kernel_rfl
@[simp] theorem t491 : tySize Try.prog 91 = some 64 := by kernel_rfl
@[simp] theorem t492 : tyZero Try.prog 91 = some [Go.Abs.AV.bool false, Go.Abs.AV.bool false, Go.Abs.AV.bool false, Go.Abs.AV.bool false, Go.Abs.AV.bool false, Go.Abs.AV.bool false, Go.Abs.AV.bool false, Go.Abs.AV.bool false, Go.Abs.AV.bool false, Go.Abs.AV.bool false, Go.Abs.AV.bool false, Go.Abs.AV.bool false, Go.Abs.AV.bool false, Go.Abs.AV.bool false, Go.Abs.AV.bool false, Go.Abs.AV.bool false, Go.Abs.AV.bool false, Go.Abs.AV.bool false, Go.Abs.AV.bool false, Go.Abs.AV.bool false, Go.Abs.AV.bool false, Go.Abs.AV.bool false, Go.Abs.AV.bool false, Go.Abs.AV.bool false, Go.Abs.AV.bool false, Go.Abs.AV.bool false, Go.Abs.AV.bool false, Go.Abs.AV.bool false, Go.Abs.AV.bool false, Go.Abs.AV.bool false, Go.Abs.AV.bool false, Go.Abs.AV.bool false, Go.Abs.AV.bool false, Go.Abs.AV.bool false, Go.Abs.AV.bool false, Go.Abs.AV.bool false, Go.Abs.AV.bool false, Go.Abs.AV.bool false, Go.Abs.AV.bool false, Go.Abs.AV.bool false, Go.Abs.AV.bool false, Go.Abs.AV.bool false, Go.Abs.AV.bool false, Go.Abs.AV.bool false, Go.Abs.AV.bool false, Go.Abs.AV.bool false, Go.Abs.AV.bool false, Go.Abs.AV.bool false, Go.Abs.AV.bool false, Go.Abs.AV.bool false, Go.Abs.AV.bool false, Go.Abs.AV.bool false, Go.Abs.AV.bool false, Go.Abs.AV.bool false, Go.Abs.AV.bool false, Go.Abs.AV.bool false, Go.Abs.AV.bool false, Go.Abs.AV.bool false, Go.Abs.AV.bool false, Go.Abs.AV.bool false, Go.Abs.AV.bool false, Go.Abs.AV.bool false, Go.Abs.AV.bool false, Go.Abs.AV.bool false] := by kernel_rfl
@[simp] theorem t493 : arrElem Try.prog 91 = some (64, 1) := by kernel_rfl
@[simp] theorem t494 : zeroEl Try.prog 91 = some (Go.Abs.AV.agg [Go.Abs.AV.bool false, Go.Abs.AV.bool false, Go.Abs.AV.bool false, Go.Abs.AV.bool false, Go.Abs.AV.bool false, Go.Abs.AV.bool false, Go.Abs.AV.bool false, Go.Abs.AV.bool false, Go.Abs.AV.bool false, Go.Abs.AV.bool false, Go.Abs.AV.bool false, Go.Abs.AV.bool false, Go.Abs.AV.bool false, Go.Abs.AV.bool false, Go.Abs.AV.bool false, Go.Abs.AV.bool false, Go.Abs.AV.bool false, Go.Abs.AV.bool false, Go.Abs.AV.bool false, Go.Abs.AV.bool false, Go.Abs.AV.bool false, Go.Abs.AV.bool false, Go.Abs.AV.bool false, Go.Abs.AV.bool false, Go.Abs.AV.bool false, Go.Abs.AV.bool false, Go.Abs.AV.bool false, Go.Abs.AV.bool false, Go.Abs.AV.bool false, Go.Abs.AV.bool false, Go.Abs.AV.bool false, Go.Abs.AV.bool false, Go.Abs.AV.bool false, Go.Abs.AV.bool false, Go.Abs.AV.bool false, Go.Abs.AV.bool false, Go.Abs.AV.bool false, Go.Abs.AV.bool false, Go.Abs.AV.bool false, Go.Abs.AV.bool false, Go.Abs.AV.bool false, Go.Abs.AV.bool false, Go.Abs.AV.bool false, Go.Abs.AV.bool false, Go.Abs.AV.bool false, Go.Abs.AV.bool false, Go.Abs.AV.bool false, Go.Abs.AV.bool false, Go.Abs.AV.bool false, Go.Abs.AV.bool false, Go.Abs.AV.bool false, Go.Abs.AV.bool false, Go.Abs.AV.bool false, Go.Abs.AV.bool false, Go.Abs.AV.bool false, Go.Abs.AV.bool false, Go.Abs.AV.bool false, Go.Abs.AV.bool false, Go.Abs.AV.bool false, Go.Abs.AV.bool false, Go.Abs.AV.bool false, Go.Abs.AV.bool false, Go.Abs.AV.bool false, Go.Abs.AV.bool false]) := by kernel_rfl
@[simp] theorem t495 : fieldsOk Try.prog 91 = true := by kernel_rfl
@[simp] theorem t496 : arrP Try.prog 91 = some (64, Go.Abs.SKind.bool) := by kernel_rfl
@[simp] theorem t497 : (Try.prog.underlying 91).isSome = true := by kernel_rfl
@[simp] theorem t498 : tyAgg Try.prog 92 = some false := by kernel_rfl
@[simp] theorem t499 : tySize Try.prog 92 = some 1 := by kernel_rfl
@[simp] theorem t500 : tyZero Try.prog 92 = some [Go.Abs.AV.nilfn] := by kernel_rfl
@[simp] theorem t501 : zeroEl Try.prog 92 = some Go.Abs.AV.nilfn := by kernel_rfl
@[simp] theorem t502 : (Try.prog.underlying 92).isSome = true := by kernel_rfl
@[simp] theorem t503 : tyAgg Try.prog 93 = some false := by kernel_rfl
@[simp] theorem t504 : tySize Try.prog 93 = some 1 := by kernel_rfl
@[simp] theorem t505 : tyZero Try.prog 93 = some [Go.Abs.AV.nilfn] := by kernel_rfl
@[simp] theorem t506 : zeroEl Try.prog 93 = some Go.Abs.AV.nilfn := by kernel_rfl
@[simp] theorem t507 : (Try.prog.underlying 93).isSome = true := by kernel_rfl
@[simp] theorem t508 : tyAgg Try.prog 94 = some true := by kernel_rfl
@[simp] theorem t509 : tySize Try.prog 94 = some 8 := by kernel_rfl
@[simp] theorem t510 : tyZero Try.prog 94 = some [Go.Abs.AV.int Go.IntKind.u32 (0), Go.Abs.AV.int Go.IntKind.u32 (0), Go.Abs.AV.int Go.IntKind.u32 (0), Go.Abs.AV.int Go.IntKind.u32 (0), Go.Abs.AV.int Go.IntKind.u32 (0), Go.Abs.AV.int Go.IntKind.u32 (0), Go.Abs.AV.int Go.IntKind.u32 (0), Go.Abs.AV.int Go.IntKind.u32 (0)] := by kernel_rfl
@[simp] theorem t511 : arrElem Try.prog 94 = some (8, 1) := by kernel_rfl
@[simp] theorem t512 : zeroEl Try.prog 94 = some (Go.Abs.AV.agg [Go.Abs.AV.int Go.IntKind.u32 (0), Go.Abs.AV.int Go.IntKind.u32 (0), Go.Abs.AV.int Go.IntKind.u32 (0), Go.Abs.AV.int Go.IntKind.u32 (0), Go.Abs.AV.int Go.IntKind.u32 (0), Go.Abs.AV.int Go.IntKind.u32 (0), Go.Abs.AV.int Go.IntKind.u32 (0), Go.Abs.AV.int Go.IntKind.u32 (0)]) := by kernel_rfl
@[simp] theorem t513 : fieldsOk Try.prog 94 = true := by kernel_rfl
@[simp] theorem t514 : arrP Try.prog 94 = some (8, Go.Abs.SKind.int Go.IntKind.u32) := by kernel_rfl
@[simp] theorem t515 : (Try.prog.underlying 94).isSome = true := by kernel_rfl
@[simp] theorem t516 : tyAgg Try.prog 95 = some true := by kernel_rfl
@[simp] theorem t517 : tySize Try.prog 95 = some 8 := by kernel_rfl
@[simp] theorem t518 : tyZero Try.prog 95 = some [Go.Abs.AV.int Go.IntKind.u32 (0), Go.Abs.AV.int Go.IntKind.u32 (0), Go.Abs.AV.int Go.IntKind.u32 (0), Go.Abs.AV.int Go.IntKind.u32 (0), Go.Abs.AV.int Go.IntKind.u32 (0), Go.Abs.AV.int Go.IntKind.u32 (0), Go.Abs.AV.int Go.IntKind.u32 (0), Go.Abs.AV.int Go.IntKind.u32 (0)] := by kernel_rfl
@[simp] theorem t519 : arrElem Try.prog 95 = some (8, 1) := by kernel_rfl
@[simp] theorem t520 : zeroEl Try.prog 95 = some (Go.Abs.AV.agg [Go.Abs.AV.int Go.IntKind.u32 (0), Go.Abs.AV.int Go.IntKind.u32 (0), Go.Abs.AV.int Go.IntKind.u32 (0), Go.Abs.AV.int Go.IntKind.u32 (0), Go.Abs.AV.int Go.IntKind.u32 (0), Go.Abs.AV.int Go.IntKind.u32 (0), Go.Abs.AV.int Go.IntKind.u32 (0), Go.Abs.AV.int Go.IntKind.u32 (0)]) := by kernel_rfl
@[simp] theorem t521 : fieldsOk Try.prog 95 = true := by kernel_rfl
@[simp] theorem t522 : arrP Try.prog 95 = some (8, Go.Abs.SKind.int Go.IntKind.u32) := by kernel_rfl
@[simp] theorem t523 : (Try.prog.underlying 95).isSome = true := by kernel_rfl
@[simp] theorem t524 : tyAgg Try.prog 96 = some true := by kernel_rfl
@[simp] theorem t525 : tySize Try.prog 96 = some 64 := by kernel_rfl
@[simp] theorem t526 : tyZero Try.prog 96 = some [Go.Abs.AV.int Go.IntKind.u32 (0), Go.Abs.AV.int Go.IntKind.u32 (0), Go.Abs.AV.int Go.IntKind.u32 (0), Go.Abs.AV.int Go.IntKind.u32 (0), Go.Abs.AV.int Go.IntKind.u32 (0), Go.Abs.AV.int Go.IntKind.u32 (0), Go.Abs.AV.int Go.IntKind.u32 (0), Go.Abs.AV.int Go.IntKind.u32 (0), Go.Abs.AV.int Go.IntKind.u32 (0), Go.Abs.AV.int Go.IntKind.u32 (0), Go.Abs.AV.int Go.IntKind.u32 (0), Go.Abs.AV.int Go.IntKind.u32 (0), Go.Abs.AV.int Go.IntKind.u32 (0), Go.Abs.AV.int Go.IntKind.u32 (0), Go.Abs.AV.int Go.IntKind.u32 (0), Go.Abs.AV.int Go.IntKind.u32 (0), Go.Abs.AV.int Go.IntKind.u32 (0), Go.Abs.AV.int Go.IntKind.u32 (0), Go.Abs.AV.int Go.IntKind.u32 (0), Go.Abs.AV.int Go.IntKind.u32 (0), Go.Abs.AV.int Go.IntKind.u32 (0), Go.Abs.AV.int Go.IntKind.u32 (0), Go.Abs.AV.int Go.IntKind.u32 (0), Go.Abs.AV.int Go.IntKind.u32 (0), Go.Abs.AV.int Go.IntKind.u32 (0), Go.Abs.AV.int Go.IntKind.u32 (0), Go.Abs.AV.int Go.IntKind.u32 (0), Go.Abs.AV.int Go.IntKind.u32 (0), Go.Abs.AV.int Go.IntKind.u32 (0), Go.Abs.AV.int Go.IntKind.u32 (0), Go.Abs.AV.int Go.IntKind.u32 (0), Go.Abs.AV.int Go.IntKind.u32 (0), Go.Abs.AV.int Go.IntKind.u32 (0), Go.Abs.AV.int Go.IntKind.u32 (0), Go.Abs.AV.int Go.IntKind.u32 (0), Go.Abs.AV.int Go.IntKind.u32 (0), Go.Abs.AV.int Go.IntKind.u32 (0), Go.Abs.AV.int Go.IntKind.u32 (0), Go.Abs.AV.int Go.IntKind.u32 (0), Go.Abs.AV.int Go.IntKind.u32 (0), Go.Abs.AV.int Go.IntKind.u32 (0), Go.Abs.AV.int Go.IntKind.u32 (0), Go.Abs.AV.int Go.IntKind.u32 (0), Go.Abs.AV.int Go.IntKind.u32 (0), Go.Abs.AV.int Go.IntKind.u32 (0), Go.Abs.AV.int Go.IntKind.u32 (0), Go.Abs.AV.int Go.IntKind.u32 (0), Go.Abs.AV.int Go.IntKind.u32 (0), Go.Abs.AV.int Go.IntKind.u32 (0), Go.Abs.AV.int Go.IntKind.u32 (0), Go.Abs.AV.int Go.IntKind.u32 (0), Go.Abs.AV.int Go.IntKind.u32 (0), Go.Abs.AV.int Go.IntKind.u32 (0), Go.Abs.AV.int Go.IntKind.u32 (0), Go.Abs.AV.int Go.IntKind.u32 (0), Go.Abs.AV.int Go.IntKind.u32 (0), Go.Abs.AV.int Go.IntKind.u32 (0), Go.Abs.AV.int Go.IntKind.u32 (0), Go.Abs.AV.int Go.IntKind.u32 (0), Go.Abs.AV.int Go.IntKind.u32 (0), Go.Abs.AV.int Go.IntKind.u32 (0), Go.Abs.AV.int Go.IntKind.u32 (0), Go.Abs.AV.int Go.IntKind.u32 (0), Go.Abs.AV.int Go.IntKind.u32 (0)] := by kernel_rfl
@[simp] theorem t527 : arrElem Try.prog 96 = some (64, 1) := by kernel_rfl
@[simp] theorem t528 : zeroEl Try.prog 96 = some (Go.Abs.AV.agg [Go.Abs.AV.int Go.IntKind.u32 (0), Go.Abs.AV.int Go.IntKind.u32 (0), Go.Abs.AV.int Go.IntKind.u32 (0), Go.Abs.AV.int Go.IntKind.u32 (0), Go.Abs.AV.int Go.IntKind.u32 (0), Go.Abs.AV.int Go.IntKind.u32 (0), Go.Abs.AV.int Go.IntKind.u32 (0), Go.Abs.AV.int Go.IntKind.u32 (0), Go.Abs.AV.int Go.IntKind.u32 (0), Go.Abs.AV.int Go.IntKind.u32 (0), Go.Abs.AV.int Go.IntKind.u32 (0), Go.Abs.AV.int Go.IntKind.u32 (0), Go.Abs.AV.int Go.IntKind.u32 (0), Go.Abs.AV.int Go.IntKind.u32 (0), Go.Abs.AV.int Go.IntKind.u32 (0), Go.Abs.AV.int Go.IntKind.u32 (0), Go.Abs.AV.int Go.IntKind.u32 (0), Go.Abs.AV.int Go.IntKind.u32 (0), Go.Abs.AV.int Go.IntKind.u32 (0), Go.Abs.AV.int Go.IntKind.u32 (0), Go.Abs.AV.int Go.IntKind.u32 (0), Go.Abs.AV.int Go.IntKind.u32 (0), Go.Abs.AV.int Go.IntKind.u32 (0), Go.Abs.AV.int Go.IntKind.u32 (0), Go.Abs.AV.int Go.IntKind.u32 (0), Go.Abs.AV.int Go.IntKind.u32 (0), Go.Abs.AV.int Go.IntKind.u32 (0), Go.Abs.AV.int Go.IntKind.u32 (0), Go.Abs.AV.int Go.IntKind.u32 (0), Go.Abs.AV.int Go.IntKind.u32 (0), Go.Abs.AV.int Go.IntKind.u32 (0), Go.Abs.AV.int Go.IntKind.u32 (0), Go.Abs.AV.int Go.IntKind.u32 (0), Go.Abs.AV.int Go.IntKind.u32 (0), Go.Abs.AV.int Go.IntKind.u32 (0), Go.Abs.AV.int Go.IntKind.u32 (0), Go.Abs.AV.int Go.IntKind.u32 (0), Go.Abs.AV.int Go.IntKind.u32 (0), Go.Abs.AV.int Go.IntKind.u32 (0), Go.Abs.AV.int Go.IntKind.u32 (0), Go.Abs.AV.int Go.IntKind.u32 (0), Go.Abs.AV.int Go.IntKind.u32 (0), Go.Abs.AV.int Go.IntKind.u32 (0), Go.Abs.AV.int Go.IntKind.u32 (0), Go.Abs.AV.int Go.IntKind.u32 (0), Go.Abs.AV.int Go.IntKind.u32 (0), Go.Abs.AV.int Go.IntKind.u32 (0), Go.Abs.AV.int Go.IntKind.u32 (0), Go.Abs.AV.int Go.IntKind.u32 (0), Go.Abs.AV.int Go.IntKind.u32 (0), Go.Abs.AV.int Go.IntKind.u32 (0), Go.Abs.AV.int Go.IntKind.u32 (0), Go.Abs.AV.int Go.IntKind.u32 (0), Go.Abs.AV.int Go.IntKind.u32 (0), Go.Abs.AV.int Go.IntKind.u32 (0), Go.Abs.AV.int Go.IntKind.u32 (0), Go.Abs.AV.int Go.IntKind.u32 (0), Go.Abs.AV.int Go.IntKind.u32 (0), Go.Abs.AV.int Go.IntKind.u32 (0), Go.Abs.AV.int Go.IntKind.u32 (0), Go.Abs.AV.int Go.IntKind.u32 (0), Go.Abs.AV.int Go.IntKind.u32 (0), Go.Abs.AV.int Go.IntKind.u32 (0), Go.Abs.AV.int Go.IntKind.u32 (0)]) := by kernel_rfl
@[simp] theorem t529 : fieldsOk Try.prog 96 = true := by kernel_rfl
@[simp] theorem t530 : arrP Try.prog 96 = some (64, Go.Abs.SKind.int Go.IntKind.u32) := by kernel_rfl
@[simp] theorem t531 : (Try.prog.underlying 96).isSome = true := by kernel_rfl
@[simp] theorem t532 : tyAgg Try.prog 97 = some false := by kernel_rfl
@[simp] theorem t533 : tySize Try.prog 97 = some 1 := by kernel_rfl
@[simp] theorem t534 : tyZero Try.prog 97 = some [Go.Abs.AV.nilfn] := by kernel_rfl
@[simp] theorem t535 : zeroEl Try.prog 97 = some Go.Abs.AV.nilfn := by kernel_rfl
@[simp] theorem t536 : (Try.prog.underlying 97).isSome = true := by kernel_rfl
@[simp] theorem t537 : tyAgg Try.prog 98 = some false := by kernel_rfl
@[simp] theorem t538 : tySize Try.prog 98 = some 1 := by kernel_rfl
@[simp] theorem t539 : tyZero Try.prog 98 = some [Go.Abs.AV.nilfn] := by kernel_rfl
@[simp] theorem t540 : zeroEl Try.prog 98 = some Go.Abs.AV.nilfn := by kernel_rfl
@[simp] theorem t541 : (Try.prog.underlying 98).isSome = true := by kernel_rfl
@[simp] theorem t542 : tyAgg Try.prog 99 = some false := by kernel_rfl
@[simp] theorem t543 : tySize Try.prog 99 = some 1 := by kernel_rfl
@[simp] theorem t544 : tyZero Try.prog 99 = some [Go.Abs.AV.nilptr] := by kernel_rfl
@[simp] theorem t545 : zeroEl Try.prog 99 = some Go.Abs.AV.nilptr := by kernel_rfl
@[simp] theorem t546 : (Try.prog.underlying 99).isSome = true := by kernel_rfl
@[simp] theorem t547 : slcElem Try.prog 100 = some (54, 1, 4) := by kernel_rfl
@[simp] theorem t548 : isSl Try.prog 100 = true := by kernel_rfl
@[simp] theorem t549 : tyAgg Try.prog 100 = some false := by kernel_rfl
@[simp] theorem t550 : tySize Try.prog 100 = some 1 := by kernel_rfl
@[simp] theorem t551 : tyZero Try.prog 100 = some [Go.Abs.AV.lst true true []] := by kernel_rfl
@[simp] theorem t552 : zeroEl Try.prog 100 = some (Go.Abs.AV.lst true true []) := by kernel_rfl
@[simp] theorem t553 : strSlc Try.prog 100 = true := by kernel_rfl
@[simp] theorem t554 : (Try.prog.underlying 100).isSome = true := by kernel_rfl
@[simp] theorem t555 : Try.prog.underlying 100 = some (Go.TypeDesc.slice 54) := by kernel_rfl
@[simp] theorem t556 : tyAgg Try.prog 101 = some false := by kernel_rfl
@[simp] theorem t557 : tySize Try.prog 101 = some 1 := by kernel_rfl
@[simp] theorem t558 : tyZero Try.prog 101 = some [Go.Abs.AV.nilfn] := by kernel_rfl
@[simp] theorem t559 : zeroEl Try.prog 101 = some Go.Abs.AV.nilfn := by kernel_rfl
@[simp] theorem t560 : (Try.prog.underlying 101).isSome = true := by kernel_rfl
@[simp] theorem t561 : tyAgg Try.prog 102 = some false := by kernel_rfl
@[simp] theorem t562 : tySize Try.prog 102 = some 1 := by kernel_rfl
@[simp] theorem t563 : tyZero Try.prog 102 = some [Go.Abs.AV.nilfn] := by kernel_rfl
@[simp] theorem t564 : zeroEl Try.prog 102 = some Go.Abs.AV.nilfn := by kernel_rfl
@[simp] theorem t565 : (Try.prog.underlying 102).isSome = true := by kernel_rfl
@[simp] theorem t566 : tyAgg Try.prog 103 = some false := by kernel_rfl
@[simp] theorem t567 : tySize Try.prog 103 = some 1 := by kernel_rfl
@[simp] theorem t568 : tyZero Try.prog 103 = some [Go.Abs.AV.nilfn] := by kernel_rfl
@[simp] theorem t569 : zeroEl Try.prog 103 = some Go.Abs.AV.nilfn := by kernel_rfl
@[simp] theorem t570 : (Try.prog.underlying 103).isSome = true := by kernel_rfl
@[simp] theorem t571 : tyAgg Try.prog 104 = some true := by kernel_rfl
@[simp] theorem t572 : tySize Try.prog 104 = some 3 := by kernel_rfl
@[simp] theorem t573 : tyZero Try.prog 104 = some [Go.Abs.AV.int Go.IntKind.i64 (0), Go.Abs.AV.int Go.IntKind.i64 (0), Go.Abs.AV.str { data := { toList := [] } }] := by kernel_rfl
@[simp] theorem t574 : zeroEl Try.prog 104 = some (Go.Abs.AV.agg [Go.Abs.AV.int Go.IntKind.i64 (0), Go.Abs.AV.int Go.IntKind.i64 (0), Go.Abs.AV.str { data := { toList := [] } }]) := by kernel_rfl
@[simp] theorem t575 : fieldsOk Try.prog 104 = true := by kernel_rfl
@[simp] theorem t576 : (Try.prog.underlying 104).isSome = true := by kernel_rfl
@[simp] theorem t577 : tyAgg Try.prog 105 = some true := by kernel_rfl
@[simp] theorem t578 : tySize Try.prog 105 = some 3 := by kernel_rfl
@[simp] theorem t579 : tyZero Try.prog 105 = some [Go.Abs.AV.int Go.IntKind.i64 (0), Go.Abs.AV.int Go.IntKind.i64 (0), Go.Abs.AV.str { data := { toList := [] } }] := by kernel_rfl
@[simp] theorem t580 : zeroEl Try.prog 105 = some (Go.Abs.AV.agg [Go.Abs.AV.int Go.IntKind.i64 (0), Go.Abs.AV.int Go.IntKind.i64 (0), Go.Abs.AV.str { data := { toList := [] } }]) := by kernel_rfl
@[simp] theorem t581 : fieldsOk Try.prog 105 = true := by kernel_rfl
@[simp] theorem t582 : (Try.prog.underlying 105).isSome = true := by kernel_rfl
@[simp] theorem t583 : tyAgg Try.prog 106 = some false := by kernel_rfl
@[simp] theorem t584 : tySize Try.prog 106 = some 1 := by kernel_rfl
@[simp] theorem t585 : tyZero Try.prog 106 = some [Go.Abs.AV.nilfn] := by kernel_rfl
@[simp] theorem t586 : zeroEl Try.prog 106 = some Go.Abs.AV.nilfn := by kernel_rfl
@[simp] theorem t587 : (Try.prog.underlying 106).isSome = true := by kernel_rfl
@[simp] theorem t588 : tyAgg Try.prog 107 = some false := by kernel_rfl
@[simp] theorem t589 : tySize Try.prog 107 = some 1 := by kernel_rfl
@[simp] theorem t590 : tyZero Try.prog 107 = some [Go.Abs.AV.nilptr] := by kernel_rfl
@[simp] theorem t591 : zeroEl Try.prog 107 = some Go.Abs.AV.nilptr := by kernel_rfl
@[simp] theorem t592 : (Try.prog.underlying 107).isSome = true := by kernel_rfl
@[simp] theorem t593 : tyAgg Try.prog 108 = some false := by kernel_rfl
@[simp] theorem t594 : tySize Try.prog 108 = some 1 := by kernel_rfl
@[simp] theorem t595 : tyZero Try.prog 108 = some [Go.Abs.AV.nilfn] := by kernel_rfl
@[simp] theorem t596 : zeroEl Try.prog 108 = some Go.Abs.AV.nilfn := by kernel_rfl
@[simp] theorem t597 : (Try.prog.underlying 108).isSome = true := by kernel_rfl
@[simp] theorem t598 : tyAgg Try.prog 109 = some false := by kernel_rfl
@[simp] theorem t599 : tySize Try.prog 109 = some 1 := by kernel_rfl
@[simp] theorem t600 : tyZero Try.prog 109 = some [Go.Abs.AV.nilfn] := by kernel_rfl
@[simp] theorem t601 : zeroEl Try.prog 109 = some Go.Abs.AV.nilfn := by kernel_rfl
@[simp] theorem t602 : (Try.prog.underlying 109).isSome = true := by kernel_rfl
@[simp] theorem t603 : tyAgg Try.prog 110 = some false := by kernel_rfl
@[simp] theorem t604 : tySize Try.prog 110 = some 1 := by kernel_rfl
@[simp] theorem t605 : tyZero Try.prog 110 = some [Go.Abs.AV.nilfn] := by kernel_rfl
@[simp] theorem t606 : zeroEl Try.prog 110 = some Go.Abs.AV.nilfn := by kernel_rfl
@[simp] theorem t607 : (Try.prog.underlying 110).isSome = true := by kernel_rfl
@[simp] theorem t608 : tyAgg Try.prog 111 = some false := by kernel_rfl
@[simp] theorem t609 : tySize Try.prog 111 = some 1 := by kernel_rfl
@[simp] theorem t610 : tyZero Try.prog 111 = some [Go.Abs.AV.nilfn] := by kernel_rfl
@[simp] theorem t611 : zeroEl Try.prog 111 = some Go.Abs.AV.nilfn := by kernel_rfl
@[simp] theorem t612 : (Try.prog.underlying 111).isSome = true := by kernel_rfl
@[simp] theorem t613 : tyAgg Try.prog 112 = some true := by kernel_rfl
@[simp] theorem t614 : tySize Try.prog 112 = some 4 := by kernel_rfl
@[simp] theorem t615 : tyZero Try.prog 112 = some [Go.Abs.AV.nilptr, Go.Abs.AV.nilptr, Go.Abs.AV.nilptr, Go.Abs.AV.str { data := { toList := [] } }] := by kernel_rfl
@[simp] theorem t616 : zeroEl Try.prog 112 = some (Go.Abs.AV.agg [Go.Abs.AV.nilptr, Go.Abs.AV.nilptr, Go.Abs.AV.nilptr, Go.Abs.AV.str { data := { toList := [] } }]) := by kernel_rfl
@[simp] theorem t617 : fieldsOk Try.prog 112 = true := by kernel_rfl
@[simp] theorem t618 : (Try.prog.underlying 112).isSome = true := by kernel_rfl
@[simp] theorem t619 : tyAgg Try.prog 113 = some true := by kernel_rfl
@[simp] theorem t620 : tySize Try.prog 113 = some 4 := by kernel_rfl
@[simp] theorem t621 : tyZero Try.prog 113 = some [Go.Abs.AV.nilptr, Go.Abs.AV.nilptr, Go.Abs.AV.nilptr, Go.Abs.AV.str { data := { toList := [] } }] := by kernel_rfl
@[simp] theorem t622 : zeroEl Try.prog 113 = some (Go.Abs.AV.agg [Go.Abs.AV.nilptr, Go.Abs.AV.nilptr, Go.Abs.AV.nilptr, Go.Abs.AV.str { data := { toList := [] } }]) := by kernel_rfl
@[simp] theorem t623 : fieldsOk Try.prog 113 = true := by kernel_rfl
@[simp] theorem t624 : (Try.prog.underlying 113).isSome = true := by kernel_rfl
@[simp] theorem t625 : tyAgg Try.prog 114 = some true := by kernel_rfl
@[simp] theorem t626 : tySize Try.prog 114 = some 0 := by kernel_rfl
@[simp] theorem t627 : tyZero Try.prog 114 = some [] := by kernel_rfl
@[simp] theorem t628 : arrElem Try.prog 114 = some (0, 1) := by kernel_rfl
@[simp] theorem t629 : zeroEl Try.prog 114 = some (Go.Abs.AV.agg []) := by kernel_rfl
@[simp] theorem t630 : fieldsOk Try.prog 114 = true := by kernel_rfl
@[simp] theorem t631 : (Try.prog.underlying 114).isSome = true := by kernel_rfl
@[simp] theorem t632 : tyAgg Try.prog 115 = some true := by kernel_rfl
@[simp] theorem t633 : tySize Try.prog 115 = some 0 := by kernel_rfl
@[simp] theorem t634 : tyZero Try.prog 115 = some [] := by kernel_rfl
@[simp] theorem t635 : zeroEl Try.prog 115 = some (Go.Abs.AV.agg []) := by kernel_rfl
@[simp] theorem t636 : fieldsOk Try.prog 115 = true := by kernel_rfl
@[simp] theorem t637 : (Try.prog.underlying 115).isSome = true := by kernel_rfl
@[simp] theorem t638 : tyAgg Try.prog 116 = some true := by kernel_rfl
@[simp] theorem t639 : tySize Try.prog 116 = some 0 := by kernel_rfl
@[simp] theorem t640 : tyZero Try.prog 116 = some [] := by kernel_rfl
@[simp] theorem t641 : zeroEl Try.prog 116 = some (Go.Abs.AV.agg []) := by kernel_rfl
@[simp] theorem t642 : fieldsOk Try.prog 116 = true := by kernel_rfl
@[simp] theorem t643 : (Try.prog.underlying 116).isSome = true := by kernel_rfl
@[simp] theorem t644 : tyAgg Try.prog 117 = some false := by kernel_rfl
@[simp] theorem t645 : tySize Try.prog 117 = some 1 := by kernel_rfl
@[simp] theorem t646 : tyZero Try.prog 117 = some [Go.Abs.AV.nilfn] := by kernel_rfl
@[simp] theorem t647 : zeroEl Try.prog 117 = some Go.Abs.AV.nilfn := by kernel_rfl
@[simp] theorem t648 : (Try.prog.underlying 117).isSome = true := by kernel_rfl
@[simp] theorem t649 : tyAgg Try.prog 118 = some false := by kernel_rfl
@[simp] theorem t650 : tySize Try.prog 118 = some 1 := by kernel_rfl
@[simp] theorem t651 : tyZero Try.prog 118 = some [Go.Abs.AV.int Go.IntKind.u8 (0)] := by kernel_rfl
@[simp] theorem t652 : zeroEl Try.prog 118 = some (Go.Abs.AV.int Go.IntKind.u8 (0)) := by kernel_rfl
@[simp] theorem t653 : intTy Try.prog 118 = some Go.IntKind.u8 := by kernel_rfl
@[simp] theorem t654 : (Try.prog.underlying 118).isSome = true := by kernel_rfl
@[simp] theorem t655 : tyAgg Try.prog 119 = some false := by kernel_rfl
@[simp] theorem t656 : tySize Try.prog 119 = some 1 := by kernel_rfl
@[simp] theorem t657 : tyZero Try.prog 119 = some [Go.Abs.AV.int Go.IntKind.u8 (0)] := by kernel_rfl
@[simp] theorem t658 : zeroEl Try.prog 119 = some (Go.Abs.AV.int Go.IntKind.u8 (0)) := by kernel_rfl
@[simp] theorem t659 : intTy Try.prog 119 = some Go.IntKind.u8 := by kernel_rfl
@[simp] theorem t660 : (Try.prog.underlying 119).isSome = true := by kernel_rfl
@[simp] theorem t661 : tyAgg Try.prog 120 = some false := by kernel_rfl
@[simp] theorem t662 : tySize Try.prog 120 = some 1 := by kernel_rfl
@[simp] theorem t663 : tyZero Try.prog 120 = some [Go.Abs.AV.nilfn] := by kernel_rfl
@[simp] theorem t664 : zeroEl Try.prog 120 = some Go.Abs.AV.nilfn := by kernel_rfl
@[simp] theorem t665 : (Try.prog.underlying 120).isSome = true := by kernel_rfl
@[simp] theorem t666 : tyAgg Try.prog 121 = some false := by kernel_rfl
@[simp] theorem t667 : tySize Try.prog 121 = some 1 := by kernel_rfl
@[simp] theorem t668 : tyZero Try.prog 121 = some [Go.Abs.AV.nilptr] := by kernel_rfl
@[simp] theorem t669 : zeroEl Try.prog 121 = some Go.Abs.AV.nilptr := by kernel_rfl
@[simp] theorem t670 : (Try.prog.underlying 121).isSome = true := by kernel_rfl
@[simp] theorem t671 : tyAgg Try.prog 122 = some false := by kernel_rfl
@[simp] theorem t672 : tySize Try.prog 122 = some 1 := by kernel_rfl
@[simp] theorem t673 : tyZero Try.prog 122 = some [Go.Abs.AV.int Go.IntKind.i32 (0)] := by kernel_rfl
@[simp] theorem t674 : zeroEl Try.prog 122 = some (Go.Abs.AV.int Go.IntKind.i32 (0)) := by kernel_rfl
@[simp] theorem t675 : intTy Try.prog 122 = some Go.IntKind.i32 := by kernel_rfl
@[simp] theorem t676 : (Try.prog.underlying 122).isSome = true := by kernel_rfl
@[simp] theorem t677 : tyAgg Try.prog 123 = some false := by kernel_rfl
@[simp] theorem t678 : tySize Try.prog 123 = some 1 := by kernel_rfl
@[simp] theorem t679 : tyZero Try.prog 123 = some [Go.Abs.AV.int Go.IntKind.i32 (0)] := by kernel_rfl
@[simp] theorem t680 : zeroEl Try.prog 123 = some (Go.Abs.AV.int Go.IntKind.i32 (0)) := by kernel_rfl
@[simp] theorem t681 : intTy Try.prog 123 = some Go.IntKind.i32 := by kernel_rfl
@[simp] theorem t682 : (Try.prog.underlying 123).isSome = true := by kernel_rfl
@[simp] theorem t683 : tyAgg Try.prog 124 = some true := by kernel_rfl
@[simp] theorem t684 : tySize Try.prog 124 = some 11 := by kernel_rfl
@[simp] theorem t685 : tyZero Try.prog 124 = some [Go.Abs.AV.int Go.IntKind.u64 (0), Go.Abs.AV.int Go.IntKind.u64 (0), Go.Abs.AV.int Go.IntKind.u32 (0), Go.Abs.AV.int Go.IntKind.u8 (0), Go.Abs.AV.int Go.IntKind.u8 (0), Go.Abs.AV.int Go.IntKind.u8 (0), Go.Abs.AV.int Go.IntKind.u8 (0), Go.Abs.AV.nilfn, Go.Abs.AV.nilptr, Go.Abs.AV.int Go.IntKind.i32 (0), Go.Abs.AV.int Go.IntKind.i32 (0)] := by kernel_rfl
@[simp] theorem t686 : zeroEl Try.prog 124 = some (Go.Abs.AV.agg [Go.Abs.AV.int Go.IntKind.u64 (0), Go.Abs.AV.int Go.IntKind.u64 (0), Go.Abs.AV.int Go.IntKind.u32 (0), Go.Abs.AV.int Go.IntKind.u8 (0), Go.Abs.AV.int Go.IntKind.u8 (0), Go.Abs.AV.int Go.IntKind.u8 (0), Go.Abs.AV.int Go.IntKind.u8 (0), Go.Abs.AV.nilfn, Go.Abs.AV.nilptr, Go.Abs.AV.int Go.IntKind.i32 (0), Go.Abs.AV.int Go.IntKind.i32 (0)]) := by kernel_rfl
@[simp] theorem t687 : fieldsOk Try.prog 124 = true := by kernel_rfl
@[simp] theorem t688 : (Try.prog.underlying 124).isSome = true := by kernel_rfl
@[simp] theorem t689 : tyAgg Try.prog 125 = some true := by kernel_rfl
@[simp] theorem t690 : tySize Try.prog 125 = some 11 := by kernel_rfl
@[simp] theorem t691 : tyZero Try.prog 125 = some [Go.Abs.AV.int Go.IntKind.u64 (0), Go.Abs.AV.int Go.IntKind.u64 (0), Go.Abs.AV.int Go.IntKind.u32 (0), Go.Abs.AV.int Go.IntKind.u8 (0), Go.Abs.AV.int Go.IntKind.u8 (0), Go.Abs.AV.int Go.IntKind.u8 (0), Go.Abs.AV.int Go.IntKind.u8 (0), Go.Abs.AV.nilfn, Go.Abs.AV.nilptr, Go.Abs.AV.int Go.IntKind.i32 (0), Go.Abs.AV.int Go.IntKind.i32 (0)] := by kernel_rfl
@[simp] theorem t692 : zeroEl Try.prog 125 = some (Go.Abs.AV.agg [Go.Abs.AV.int Go.IntKind.u64 (0), Go.Abs.AV.int Go.IntKind.u64 (0), Go.Abs.AV.int Go.IntKind.u32 (0), Go.Abs.AV.int Go.IntKind.u8 (0), Go.Abs.AV.int Go.IntKind.u8 (0), Go.Abs.AV.int Go.IntKind.u8 (0), Go.Abs.AV.int Go.IntKind.u8 (0), Go.Abs.AV.nilfn, Go.Abs.AV.nilptr, Go.Abs.AV.int Go.IntKind.i32 (0), Go.Abs.AV.int Go.IntKind.i32 (0)]) := by kernel_rfl
@[simp] theorem t693 : fieldsOk Try.prog 125 = true := by kernel_rfl
@[simp] theorem t694 : (Try.prog.underlying 125).isSome = true := by kernel_rfl
@[simp] theorem t695 : tyAgg Try.prog 126 = some false := by kernel_rfl
@[simp] theorem t696 : tySize Try.prog 126 = some 1 := by kernel_rfl
@[simp] theorem t697 : tyZero Try.prog 126 = some [Go.Abs.AV.nilptr] := by kernel_rfl
@[simp] theorem t698 : zeroEl Try.prog 126 = some Go.Abs.AV.nilptr := by kernel_rfl
@[simp] theorem t699 : (Try.prog.underlying 126).isSome = true := by kernel_rfl
@[simp] theorem t700 : fldPl Try.prog 29 0 = some (0, 1) := by kernel_rfl
@[simp] theorem t701 : fldOff Try.prog 29 0 = some 0 := by kernel_rfl
@[simp] theorem t702 : fldPl Try.prog 29 1 = some (1, 1) := by kernel_rfl
@[simp] theorem t703 : fldOff Try.prog 29 1 = some 1 := by kernel_rfl
@[simp] theorem t704 : fldPl Try.prog 29 2 = some (2, 1) := by kernel_rfl
@[simp] theorem t705 : fldOff Try.prog 29 2 = some 2 := by kernel_rfl
@[simp] theorem t706 : fldPl Try.prog 45 0 = some (0, 1) := by kernel_rfl
@[simp] theorem t707 : fldOff Try.prog 45 0 = some 0 := by kernel_rfl
@[simp] theorem t708 : fldPl Try.prog 45 1 = some (1, 1) := by kernel_rfl
@[simp] theorem t709 : fldOff Try.prog 45 1 = some 1 := by kernel_rfl
@[simp] theorem t710 : fldPl Try.prog 45 2 = some (2, 1) := by kernel_rfl
@[simp] theorem t711 : fldOff Try.prog 45 2 = some 2 := by kernel_rfl
@[simp] theorem t712 : fldPl Try.prog 45 3 = some (3, 1) := by kernel_rfl
@[simp] theorem t713 : fldOff Try.prog 45 3 = some 3 := by kernel_rfl
@[simp] theorem t714 : fldPl Try.prog 45 4 = some (4, 1) := by kernel_rfl
@[simp] theorem t715 : fldOff Try.prog 45 4 = some 4 := by kernel_rfl
@[simp] theorem t716 : fldPl Try.prog 45 5 = some (5, 1) := by kernel_rfl
@[simp] theorem t717 : fldOff Try.prog 45 5 = some 5 := by kernel_rfl
@[simp] theorem t718 : fldPl Try.prog 82 0 = some (0, 1) := by kernel_rfl
@[simp] theorem t719 : fldOff Try.prog 82 0 = some 0 := by kernel_rfl
@[simp] theorem t720 : fldPl Try.prog 82 1 = some (1, 1) := by kernel_rfl
@[simp] theorem t721 : fldOff Try.prog 82 1 = some 1 := by kernel_rfl
@[simp] theorem t722 : fldPl Try.prog 87 0 = some (0, 1) := by kernel_rfl
@[simp] theorem t723 : fldOff Try.prog 87 0 = some 0 := by kernel_rfl
@[simp] theorem t724 : fldPl Try.prog 87 1 = some (1, 1) := by kernel_rfl
@[simp] theorem t725 : fldOff Try.prog 87 1 = some 1 := by kernel_rfl
@[simp] theorem t726 : fldPl Try.prog 91 0 = some (0, 1) := by kernel_rfl
@[simp] theorem t727 : fldPl Try.prog 91 1 = some (1, 1) := by kernel_rfl
@[simp] theorem t728 : fldPl Try.prog 91 2 = some (2, 1) := by kernel_rfl
@[simp] theorem t729 : fldPl Try.prog 91 3 = some (3, 1) := by kernel_rfl
@[simp] theorem t730 : fldPl Try.prog 91 4 = some (4, 1) := by kernel_rfl
@[simp] theorem t731 : fldPl Try.prog 91 5 = some (5, 1) := by kernel_rfl
@[simp] theorem t732 : fldPl Try.prog 91 6 = some (6, 1) := by kernel_rfl
@[simp] theorem t733 : fldPl Try.prog 91 7 = some (7, 1) := by kernel_rfl
@[simp] theorem t734 : fldPl Try.prog 91 8 = some (8, 1) := by kernel_rfl
@[simp] theorem t735 : fldPl Try.prog 91 9 = some (9, 1) := by kernel_rfl
@[simp] theorem t736 : fldPl Try.prog 91 10 = some (10, 1) := by kernel_rfl
@[simp] theorem t737 : fldPl Try.prog 91 11 = some (11, 1) := by kernel_rfl
@[simp] theorem t738 : fldPl Try.prog 91 12 = some (12, 1) := by kernel_rfl
@[simp] theorem t739 : fldPl Try.prog 91 13 = some (13, 1) := by kernel_rfl
@[simp] theorem t740 : fldPl Try.prog 91 14 = some (14, 1) := by kernel_rfl
@[simp] theorem t741 : fldPl Try.prog 91 15 = some (15, 1) := by kernel_rfl
@[simp] theorem t742 : fldPl Try.prog 91 16 = some (16, 1) := by kernel_rfl
@[simp] theorem t743 : fldPl Try.prog 91 17 = some (17, 1) := by kernel_rfl
@[simp] theorem t744 : fldPl Try.prog 91 18 = some (18, 1) := by kernel_rfl
@[simp] theorem t745 : fldPl Try.prog 91 19 = some (19, 1) := by kernel_rfl
@[simp] theorem t746 : fldPl Try.prog 91 20 = some (20, 1) := by kernel_rfl
@[simp] theorem t747 : fldPl Try.prog 91 21 = some (21, 1) := by kernel_rfl
@[simp] theorem t748 : fldPl Try.prog 91 22 = some (22, 1) := by kernel_rfl
@[simp] theorem t749 : fldPl Try.prog 91 23 = some (23, 1) := by kernel_rfl
@[simp] theorem t750 : fldPl Try.prog 91 24 = some (24, 1) := by kernel_rfl
@[simp] theorem t751 : fldPl Try.prog 91 25 = some (25, 1) := by kernel_rfl
@[simp] theorem t752 : fldPl Try.prog 91 26 = some (26, 1) := by kernel_rfl
@[simp] theorem t753 : fldPl Try.prog 91 27 = some (27, 1) := by kernel_rfl
@[simp] theorem t754 : fldPl Try.prog 91 28 = some (28, 1) := by kernel_rfl
@[simp] theorem t755 : fldPl Try.prog 91 29 = some (29, 1) := by kernel_rfl
@[simp] theorem t756 : fldPl Try.prog 91 30 = some (30, 1) := by kernel_rfl
@[simp] theorem t757 : fldPl Try.prog 91 31 = some (31, 1) := by kernel_rfl
@[simp] theorem t758 : fldPl Try.prog 91 32 = some (32, 1) := by kernel_rfl
@[simp] theorem t759 : fldPl Try.prog 91 33 = some (33, 1) := by kernel_rfl
@[simp] theorem t760 : fldPl Try.prog 91 34 = some (34, 1) := by kernel_rfl
@[simp] theorem t761 : fldPl Try.prog 91 35 = some (35, 1) := by kernel_rfl
@[simp] theorem t762 : fldPl Try.prog 91 36 = some (36, 1) := by kernel_rfl
@[simp] theorem t763 : fldPl Try.prog 91 37 = some (37, 1) := by kernel_rfl
@[simp] theorem t764 : fldPl Try.prog 91 38 = some (38, 1) := by kernel_rfl
@[simp] theorem t765 : fldPl Try.prog 91 39 = some (39, 1) := by kernel_rfl
@[simp] theorem t766 : fldPl Try.prog 91 40 = some (40, 1) := by kernel_rfl
@[simp] theorem t767 : fldPl Try.prog 91 41 = some (41, 1) := by kernel_rfl
@[simp] theorem t768 : fldPl Try.prog 91 42 = some (42, 1) := by kernel_rfl
@[simp] theorem t769 : fldPl Try.prog 91 43 = some (43, 1) := by kernel_rfl
@[simp] theorem t770 : fldPl Try.prog 91 44 = some (44, 1) := by kernel_rfl
@[simp] theorem t771 : fldPl Try.prog 91 45 = some (45, 1) := by kernel_rfl
@[simp] theorem t772 : fldPl Try.prog 91 46 = some (46, 1) := by kernel_rfl
@[simp] theorem t773 : fldPl Try.prog 91 47 = some (47, 1) := by kernel_rfl
@[simp] theorem t774 : fldPl Try.prog 91 48 = some (48, 1) := by kernel_rfl
@[simp] theorem t775 : fldPl Try.prog 91 49 = some (49, 1) := by kernel_rfl
@[simp] theorem t776 : fldPl Try.prog 91 50 = some (50, 1) := by kernel_rfl
@[simp] theorem t777 : fldPl Try.prog 91 51 = some (51, 1) := by kernel_rfl
@[simp] theorem t778 : fldPl Try.prog 91 52 = some (52, 1) := by kernel_rfl
@[simp] theorem t779 : fldPl Try.prog 91 53 = some (53, 1) := by kernel_rfl
@[simp] theorem t780 : fldPl Try.prog 91 54 = some (54, 1) := by kernel_rfl
@[simp] theorem t781 : fldPl Try.prog 91 55 = some (55, 1) := by kernel_rfl
@[simp] theorem t782 : fldPl Try.prog 91 56 = some (56, 1) := by kernel_rfl
@[simp] theorem t783 : fldPl Try.prog 91 57 = some (57, 1) := by kernel_rfl
@[simp] theorem t784 : fldPl Try.prog 91 58 = some (58, 1) := by kernel_rfl
@[simp] theorem t785 : fldPl Try.prog 91 59 = some (59, 1) := by kernel_rfl
@[simp] theorem t786 : fldPl Try.prog 91 60 = some (60, 1) := by kernel_rfl
@[simp] theorem t787 : fldPl Try.prog 91 61 = some (61, 1) := by kernel_rfl
@[simp] theorem t788 : fldPl Try.prog 91 62 = some (62, 1) := by kernel_rfl
@[simp] theorem t789 : fldPl Try.prog 91 63 = some (63, 1) := by kernel_rfl
@[simp] theorem t790 : fldPl Try.prog 95 0 = some (0, 1) := by kernel_rfl
@[simp] theorem t791 : fldPl Try.prog 95 1 = some (1, 1) := by kernel_rfl
@[simp] theorem t792 : fldPl Try.prog 95 2 = some (2, 1) := by kernel_rfl
@[simp] theorem t793 : fldPl Try.prog 95 3 = some (3, 1) := by kernel_rfl
@[simp] theorem t794 : fldPl Try.prog 95 4 = some (4, 1) := by kernel_rfl
@[simp] theorem t795 : fldPl Try.prog 95 5 = some (5, 1) := by kernel_rfl
@[simp] theorem t796 : fldPl Try.prog 95 6 = some (6, 1) := by kernel_rfl
@[simp] theorem t797 : fldPl Try.prog 95 7 = some (7, 1) := by kernel_rfl
@[simp] theorem t798 : fldPl Try.prog 96 0 = some (0, 1) := by kernel_rfl
@[simp] theorem t799 : fldPl Try.prog 96 1 = some (1, 1) := by kernel_rfl
@[simp] theorem t800 : fldPl Try.prog 96 2 = some (2, 1) := by kernel_rfl
@[simp] theorem t801 : fldPl Try.prog 96 3 = some (3, 1) := by kernel_rfl
@[simp] theorem t802 : fldPl Try.prog 96 4 = some (4, 1) := by kernel_rfl
@[simp] theorem t803 : fldPl Try.prog 96 5 = some (5, 1) := by kernel_rfl
@[simp] theorem t804 : fldPl Try.prog 96 6 = some (6, 1) := by kernel_rfl
@[simp] theorem t805 : fldPl Try.prog 96 7 = some (7, 1) := by kernel_rfl
@[simp] theorem t806 : fldPl Try.prog 96 8 = some (8, 1) := by kernel_rfl
@[simp] theorem t807 : fldPl Try.prog 96 9 = some (9, 1) := by kernel_rfl
@[simp] theorem t808 : fldPl Try.prog 96 10 = some (10, 1) := by kernel_rfl
@[simp] theorem t809 : fldPl Try.prog 96 11 = some (11, 1) := by kernel_rfl
@[simp] theorem t810 : fldPl Try.prog 96 12 = some (12, 1) := by kernel_rfl
@[simp] theorem t811 : fldPl Try.prog 96 13 = some (13, 1) := by kernel_rfl
@[simp] theorem t812 : fldPl Try.prog 96 14 = some (14, 1) := by kernel_rfl
@[simp] theorem t813 : fldPl Try.prog 96 15 = some (15, 1) := by kernel_rfl
@[simp] theorem t814 : fldPl Try.prog 96 16 = some (16, 1) := by kernel_rfl
@[simp] theorem t815 : fldPl Try.prog 96 17 = some (17, 1) := by kernel_rfl
@[simp] theorem t816 : fldPl Try.prog 96 18 = some (18, 1) := by kernel_rfl
@[simp] theorem t817 : fldPl Try.prog 96 19 = some (19, 1) := by kernel_rfl
@[simp] theorem t818 : fldPl Try.prog 96 20 = some (20, 1) := by kernel_rfl
@[simp] theorem t819 : fldPl Try.prog 96 21 = some (21, 1) := by kernel_rfl
@[simp] theorem t820 : fldPl Try.prog 96 22 = some (22, 1) := by kernel_rfl
@[simp] theorem t821 : fldPl Try.prog 96 23 = some (23, 1) := by kernel_rfl
@[simp] theorem t822 : fldPl Try.prog 96 24 = some (24, 1) := by kernel_rfl
@[simp] theorem t823 : fldPl Try.prog 96 25 = some (25, 1) := by kernel_rfl
@[simp] theorem t824 : fldPl Try.prog 96 26 = some (26, 1) := by kernel_rfl
@[simp] theorem t825 : fldPl Try.prog 96 27 = some (27, 1) := by kernel_rfl
@[simp] theorem t826 : fldPl Try.prog 96 28 = some (28, 1) := by kernel_rfl
@[simp] theorem t827 : fldPl Try.prog 96 29 = some (29, 1) := by kernel_rfl
@[simp] theorem t828 : fldPl Try.prog 96 30 = some (30, 1) := by kernel_rfl
@[simp] theorem t829 : fldPl Try.prog 96 31 = some (31, 1) := by kernel_rfl
@[simp] theorem t830 : fldPl Try.prog 96 32 = some (32, 1) := by kernel_rfl
@[simp] theorem t831 : fldPl Try.prog 96 33 = some (33, 1) := by kernel_rfl
@[simp] theorem t832 : fldPl Try.prog 96 34 = some (34, 1) := by kernel_rfl
@[simp] theorem t833 : fldPl Try.prog 96 35 = some (35, 1) := by kernel_rfl
@[simp] theorem t834 : fldPl Try.prog 96 36 = some (36, 1) := by kernel_rfl
@[simp] theorem t835 : fldPl Try.prog 96 37 = some (37, 1) := by kernel_rfl
@[simp] theorem t836 : fldPl Try.prog 96 38 = some (38, 1) := by kernel_rfl
@[simp] theorem t837 : fldPl Try.prog 96 39 = some (39, 1) := by kernel_rfl
@[simp] theorem t838 : fldPl Try.prog 96 40 = some (40, 1) := by kernel_rfl
@[simp] theorem t839 : fldPl Try.prog 96 41 = some (41, 1) := by kernel_rfl
@[simp] theorem t840 : fldPl Try.prog 96 42 = some (42, 1) := by kernel_rfl
@[simp] theorem t841 : fldPl Try.prog 96 43 = some (43, 1) := by kernel_rfl
@[simp] theorem t842 : fldPl Try.prog 96 44 = some (44, 1) := by kernel_rfl
@[simp] theorem t843 : fldPl Try.prog 96 45 = some (45, 1) := by kernel_rfl
@[simp] theorem t844 : fldPl Try.prog 96 46 = some (46, 1) := by kernel_rfl
@[simp] theorem t845 : fldPl Try.prog 96 47 = some (47, 1) := by kernel_rfl
@[simp] theorem t846 : fldPl Try.prog 96 48 = some (48, 1) := by kernel_rfl
@[simp] theorem t847 : fldPl Try.prog 96 49 = some (49, 1) := by kernel_rfl
@[simp] theorem t848 : fldPl Try.prog 96 50 = some (50, 1) := by kernel_rfl
@[simp] theorem t849 : fldPl Try.prog 96 51 = some (51, 1) := by kernel_rfl
@[simp] theorem t850 : fldPl Try.prog 96 52 = some (52, 1) := by kernel_rfl
@[simp] theorem t851 : fldPl Try.prog 96 53 = some (53, 1) := by kernel_rfl
@[simp] theorem t852 : fldPl Try.prog 96 54 = some (54, 1) := by kernel_rfl
@[simp] theorem t853 : fldPl Try.prog 96 55 = some (55, 1) := by kernel_rfl
@[simp] theorem t854 : fldPl Try.prog 96 56 = some (56, 1) := by kernel_rfl
@[simp] theorem t855 : fldPl Try.prog 96 57 = some (57, 1) := by kernel_rfl
@[simp] theorem t856 : fldPl Try.prog 96 58 = some (58, 1) := by kernel_rfl
@[simp] theorem t857 : fldPl Try.prog 96 59 = some (59, 1) := by kernel_rfl
@[simp] theorem t858 : fldPl Try.prog 96 60 = some (60, 1) := by kernel_rfl
@[simp] theorem t859 : fldPl Try.prog 96 61 = some (61, 1) := by kernel_rfl
@[simp] theorem t860 : fldPl Try.prog 96 62 = some (62, 1) := by kernel_rfl
@[simp] theorem t861 : fldPl Try.prog 96 63 = some (63, 1) := by kernel_rfl
@[simp] theorem t862 : fldPl Try.prog 105 0 = some (0, 1) := by kernel_rfl
@[simp] theorem t863 : fldOff Try.prog 105 0 = some 0 := by kernel_rfl
@[simp] theorem t864 : fldPl Try.prog 105 1 = some (1, 1) := by kernel_rfl
@[simp] theorem t865 : fldOff Try.prog 105 1 = some 1 := by kernel_rfl
@[simp] theorem t866 : fldPl Try.prog 105 2 = some (2, 1) := by kernel_rfl
@[simp] theorem t867 : fldOff Try.prog 105 2 = some 2 := by kernel_rfl
@[simp] theorem c2 : callable Try.prog 2 = true := by kernel_rfl
@[simp] theorem c3 : callable Try.prog 3 = true := by kernel_rfl
@[simp] theorem c4 : callable Try.prog 4 = true := by kernel_rfl
@[simp] theorem c5 : callable Try.prog 5 = true := by kernel_rfl
@[simp] theorem c6 : callable Try.prog 6 = true := by kernel_rfl
@[simp] theorem c7 : callable Try.prog 7 = true := by kernel_rfl
@[simp] theorem c8 : callable Try.prog 8 = true := by kernel_rfl
@[simp] theorem c9 : callable Try.prog 9 = true := by kernel_rfl
@[simp] theorem c10 : callable Try.prog 10 = true := by kernel_rfl
@[simp] theorem c11 : callable Try.prog 11 = true := by kernel_rfl
@[simp] theorem c12 : callable Try.prog 12 = true := by kernel_rfl
@[simp] theorem c13 : callable Try.prog 13 = true := by kernel_rfl
@[simp] theorem c14 : callable Try.prog 14 = true := by kernel_rfl
@[simp] theorem c15 : callable Try.prog 15 = true := by kernel_rfl
@[simp] theorem c16 : callable Try.prog 16 = true := by kernel_rfl
@[simp] theorem c17 : callable Try.prog 17 = true := by kernel_rfl
@[simp] theorem c18 : callable Try.prog 18 = true := by kernel_rfl
@[simp] theorem c19 : callable Try.prog 19 = true := by kernel_rfl
@[simp] theorem c20 : callable Try.prog 20 = true := by kernel_rfl
@[simp] theorem c21 : callable Try.prog 21 = true := by kernel_rfl
@[simp] theorem c22 : callable Try.prog 22 = true := by kernel_rfl
@[simp] theorem c23 : callable Try.prog 23 = true := by kernel_rfl
@[simp] theorem c24 : callable Try.prog 24 = true := by kernel_rfl
@[simp] theorem c25 : callable Try.prog 25 = true := by kernel_rfl
@[simp] theorem c26 : callable Try.prog 26 = true := by kernel_rfl
@[simp] theorem c27 : callable Try.prog 27 = true := by kernel_rfl
@[simp] theorem c28 : callable Try.prog 28 = true := by kernel_rfl
@[simp] theorem c29 : callable Try.prog 29 = true := by kernel_rfl
@[simp] theorem c30 : callable Try.prog 30 = true := by kernel_rfl
@[simp] theorem c31 : callable Try.prog 31 = true := by kernel_rfl
@[simp] theorem c32 : callable Try.prog 32 = true := by kernel_rfl
@[simp] theorem c33 : callable Try.prog 33 = true := by kernel_rfl
@[simp] theorem c34 : callable Try.prog 34 = true := by kernel_rfl
@[simp] theorem c35 : callable Try.prog 35 = true := by kernel_rfl
@[simp] theorem c36 : callable Try.prog 36 = true := by kernel_rfl
@[simp] theorem c37 : callable Try.prog 37 = true := by kernel_rfl
@[simp] theorem c38 : callable Try.prog 38 = true := by kernel_rfl
@[simp] theorem c39 : callable Try.prog 39 = true := by kernel_rfl
@[simp] theorem c40 : callable Try.prog 40 = true := by kernel_rfl
@[simp] theorem c41 : callable Try.prog 41 = true := by kernel_rfl
@[simp] theorem c42 : callable Try.prog 42 = true := by kernel_rfl
@[simp] theorem c43 : callable Try.prog 43 = true := by kernel_rfl
@[simp] theorem c44 : callable Try.prog 44 = true := by kernel_rfl
@[simp] theorem c45 : callable Try.prog 45 = true := by kernel_rfl
@[simp] theorem c46 : callable Try.prog 46 = true := by kernel_rfl
@[simp] theorem c47 : callable Try.prog 47 = true := by kernel_rfl
@[simp] theorem c48 : callable Try.prog 48 = true := by kernel_rfl
@[simp] theorem c49 : callable Try.prog 49 = true := by kernel_rfl
@[simp] theorem c50 : callable Try.prog 50 = true := by kernel_rfl
@[simp] theorem c51 : callable Try.prog 51 = true := by kernel_rfl
@[simp] theorem c52 : callable Try.prog 52 = true := by kernel_rfl
@[simp] theorem c53 : callable Try.prog 53 = true := by kernel_rfl
@[simp] theorem c54 : callable Try.prog 54 = true := by kernel_rfl
@[simp] theorem c55 : callable Try.prog 55 = true := by kernel_rfl
@[simp] theorem c56 : callable Try.prog 56 = true := by kernel_rfl
@[simp] theorem c57 : callable Try.prog 57 = true := by kernel_rfl
@[simp] theorem c58 : callable Try.prog 58 = true := by kernel_rfl
@[simp] theorem c59 : callable Try.prog 59 = true := by kernel_rfl
@[simp] theorem c60 : callable Try.prog 60 = true := by kernel_rfl
@[simp] theorem c61 : callable Try.prog 61 = true := by kernel_rfl
@[simp] theorem c62 : callable Try.prog 62 = true := by kernel_rfl
@[simp] theorem c63 : callable Try.prog 63 = true := by kernel_rfl
@[simp] theorem c64 : callable Try.prog 64 = true := by kernel_rfl
@[simp] theorem c65 : callable Try.prog 65 = true := by kernel_rfl
@[simp] theorem c66 : callable Try.prog 66 = true := by kernel_rfl
@[simp] theorem c67 : callable Try.prog 67 = true := by kernel_rfl
@[simp] theorem c68 : callable Try.prog 68 = true := by kernel_rfl
@[simp] theorem c69 : callable Try.prog 69 = true := by kernel_rfl
@[simp] theorem c70 : callable Try.prog 70 = true := by kernel_rfl
@[simp] theorem c71 : callable Try.prog 71 = true := by kernel_rfl
@[simp] theorem c72 : callable Try.prog 72 = true := by kernel_rfl
@[simp] theorem c73 : callable Try.prog 73 = true := by kernel_rfl
@[simp] theorem c74 : callable Try.prog 74 = true := by kernel_rfl
@[simp] theorem c75 : callable Try.prog 75 = true := by kernel_rfl
@[simp] theorem c76 : callable Try.prog 76 = true := by kernel_rfl
@[simp] theorem c77 : callable Try.prog 77 = true := by kernel_rfl
@[simp] theorem c78 : callable Try.prog 78 = true := by kernel_rfl
@[simp] theorem c79 : callable Try.prog 79 = true := by kernel_rfl
@[simp] theorem c80 : callable Try.prog 80 = true := by kernel_rfl
@[simp] theorem c81 : callable Try.prog 81 = true := by kernel_rfl
@[simp] theorem c82 : callable Try.prog 82 = true := by kernel_rfl
@[simp] theorem c83 : callable Try.prog 83 = true := by kernel_rfl
@[simp] theorem c84 : callable Try.prog 84 = true := by kernel_rfl
@[simp] theorem c85 : callable Try.prog 85 = true := by kernel_rfl
@[simp] theorem c86 : callable Try.prog 86 = true := by kernel_rfl
@[simp] theorem c87 : callable Try.prog 87 = true := by kernel_rfl
@[simp] theorem c88 : callable Try.prog 88 = true := by kernel_rfl
@[simp] theorem c89 : callable Try.prog 89 = true := by kernel_rfl
@[simp] theorem c90 : callable Try.prog 90 = true := by kernel_rfl
@[simp] theorem c91 : callable Try.prog 91 = true := by kernel_rfl
@[simp] theorem c92 : callable Try.prog 92 = true := by kernel_rfl
@[simp] theorem c93 : callable Try.prog 93 = true := by kernel_rfl
@[simp] theorem c94 : callable Try.prog 94 = true := by kernel_rfl
@[simp] theorem c95 : callable Try.prog 95 = true := by kernel_rfl
@[simp] theorem c96 : callable Try.prog 96 = true := by kernel_rfl
@[simp] theorem c97 : callable Try.prog 97 = true := by kernel_rfl
@[simp] theorem c98 : callable Try.prog 98 = true := by kernel_rfl
@[simp] theorem c99 : callable Try.prog 99 = true := by kernel_rfl
@[simp] theorem c100 : callable Try.prog 100 = true := by kernel_rfl
@[simp] theorem c101 : callable Try.prog 101 = true := by kernel_rfl
@[simp] theorem c102 : callable Try.prog 102 = true := by kernel_rfl
end Go.Proofs.YtocmgnljgemjkaaT
