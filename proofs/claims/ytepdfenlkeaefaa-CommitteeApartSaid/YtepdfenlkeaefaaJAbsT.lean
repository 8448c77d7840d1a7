/- Facts about types and functions of the seat's program. -/
import Derived.Test.YtepdfenlkeaefaaAbsV
import Derived.Test.YtepdfenlkeaefaaProg
import Derived.KernelRfl
set_option maxRecDepth 100000
namespace Go.Proofs.YtepdfenlkeaefaaJT
open Go Go.Abs Go.Proofs
theorem mixed : Try.prog.follows .mixedOrders = true := by kernel_rfl
@[simp] theorem t0 : tyAgg Try.prog 0 = some false := by kernel_rfl
@[simp] theorem t1 : tySize Try.prog 0 = some 1 := by kernel_rfl
@[simp] theorem t2 : (Try.prog.underlying 0).isSome = true := by kernel_rfl
@[simp] theorem t3 : tyAgg Try.prog 1 = some false := by kernel_rfl
@[simp] theorem t4 : tySize Try.prog 1 = some 1 := by kernel_rfl
@[simp] theorem t5 : tyZero Try.prog 1 = some [Go.Abs.AV.nilfn] := by kernel_rfl
@[simp] theorem t6 : zeroEl Try.prog 1 = some Go.Abs.AV.nilfn := by kernel_rfl
@[simp] theorem t7 : (Try.prog.underlying 1).isSome = true := by kernel_rfl
@[simp] theorem t8 : tyAgg Try.prog 2 = some false := by kernel_rfl
@[simp] theorem t9 : tySize Try.prog 2 = some 1 := by kernel_rfl
@[simp] theorem t10 : tyZero Try.prog 2 = some [Go.Abs.AV.int Go.IntKind.i64 (0)] := by kernel_rfl
@[simp] theorem t11 : zeroEl Try.prog 2 = some (Go.Abs.AV.int Go.IntKind.i64 (0)) := by kernel_rfl
@[simp] theorem t12 : intTy Try.prog 2 = some Go.IntKind.i64 := by kernel_rfl
@[simp] theorem t13 : (Try.prog.underlying 2).isSome = true := by kernel_rfl
@[simp] theorem t14 : tyAgg Try.prog 3 = some false := by kernel_rfl
@[simp] theorem t15 : tySize Try.prog 3 = some 1 := by kernel_rfl
@[simp] theorem t16 : tyZero Try.prog 3 = some [Go.Abs.AV.int Go.IntKind.i64 (0)] := by kernel_rfl
@[simp] theorem t17 : zeroEl Try.prog 3 = some (Go.Abs.AV.int Go.IntKind.i64 (0)) := by kernel_rfl
@[simp] theorem t18 : intTy Try.prog 3 = some Go.IntKind.i64 := by kernel_rfl
@[simp] theorem t19 : (Try.prog.underlying 3).isSome = true := by kernel_rfl
@[simp] theorem t20 : tyAgg Try.prog 4 = some false := by kernel_rfl
@[simp] theorem t21 : tySize Try.prog 4 = some 1 := by kernel_rfl
@[simp] theorem t22 : tyZero Try.prog 4 = some [Go.Abs.AV.bool false] := by kernel_rfl
@[simp] theorem t23 : zeroEl Try.prog 4 = some (Go.Abs.AV.bool false) := by kernel_rfl
@[simp] theorem t24 : (Try.prog.underlying 4).isSome = true := by kernel_rfl
@[simp] theorem t25 : Try.prog.underlying 4 = some Go.TypeDesc.bool := by kernel_rfl
@[simp] theorem t26 : tyAgg Try.prog 5 = some false := by kernel_rfl
@[simp] theorem t27 : tySize Try.prog 5 = some 1 := by kernel_rfl
@[simp] theorem t28 : tyZero Try.prog 5 = some [Go.Abs.AV.int Go.IntKind.u8 (0)] := by kernel_rfl
@[simp] theorem t29 : zeroEl Try.prog 5 = some (Go.Abs.AV.int Go.IntKind.u8 (0)) := by kernel_rfl
@[simp] theorem t30 : intTy Try.prog 5 = some Go.IntKind.u8 := by kernel_rfl
@[simp] theorem t31 : (Try.prog.underlying 5).isSome = true := by kernel_rfl
@[simp] theorem t32 : tyAgg Try.prog 6 = some false := by kernel_rfl
@[simp] theorem t33 : tySize Try.prog 6 = some 1 := by kernel_rfl
@[simp] theorem t34 : tyZero Try.prog 6 = some [Go.Abs.AV.int Go.IntKind.u8 (0)] := by kernel_rfl
@[simp] theorem t35 : zeroEl Try.prog 6 = some (Go.Abs.AV.int Go.IntKind.u8 (0)) := by kernel_rfl
@[simp] theorem t36 : intTy Try.prog 6 = some Go.IntKind.u8 := by kernel_rfl
@[simp] theorem t37 : (Try.prog.underlying 6).isSome = true := by kernel_rfl
@[simp] theorem t38 : tyAgg Try.prog 7 = some true := by kernel_rfl
@[simp] theorem t39 : tySize Try.prog 7 = some 4 := by kernel_rfl
@[simp] theorem t40 : tyZero Try.prog 7 = some [Go.Abs.AV.int Go.IntKind.i64 (0), Go.Abs.AV.int Go.IntKind.i64 (0), Go.Abs.AV.bool false, Go.Abs.AV.int Go.IntKind.u8 (0)] := by kernel_rfl
@[simp] theorem t41 : zeroEl Try.prog 7 = some (Go.Abs.AV.agg [Go.Abs.AV.int Go.IntKind.i64 (0), Go.Abs.AV.int Go.IntKind.i64 (0), Go.Abs.AV.bool false, Go.Abs.AV.int Go.IntKind.u8 (0)]) := by kernel_rfl
@[simp] theorem t42 : fieldsOk Try.prog 7 = true := by kernel_rfl
@[simp] theorem t43 : strP Try.prog 7 = some [Go.Abs.SKind.int Go.IntKind.i64, Go.Abs.SKind.int Go.IntKind.i64, Go.Abs.SKind.bool, Go.Abs.SKind.int Go.IntKind.u8] := by kernel_rfl
@[simp] theorem t44 : (Try.prog.underlying 7).isSome = true := by kernel_rfl
@[simp] theorem t45 : tyAgg Try.prog 8 = some true := by kernel_rfl
@[simp] theorem t46 : tySize Try.prog 8 = some 4 := by kernel_rfl
@[simp] theorem t47 : tyZero Try.prog 8 = some [Go.Abs.AV.int Go.IntKind.i64 (0), Go.Abs.AV.int Go.IntKind.i64 (0), Go.Abs.AV.bool false, Go.Abs.AV.int Go.IntKind.u8 (0)] := by kernel_rfl
@[simp] theorem t48 : zeroEl Try.prog 8 = some (Go.Abs.AV.agg [Go.Abs.AV.int Go.IntKind.i64 (0), Go.Abs.AV.int Go.IntKind.i64 (0), Go.Abs.AV.bool false, Go.Abs.AV.int Go.IntKind.u8 (0)]) := by kernel_rfl
@[simp] theorem t49 : fieldsOk Try.prog 8 = true := by kernel_rfl
@[simp] theorem t50 : strP Try.prog 8 = some [Go.Abs.SKind.int Go.IntKind.i64, Go.Abs.SKind.int Go.IntKind.i64, Go.Abs.SKind.bool, Go.Abs.SKind.int Go.IntKind.u8] := by kernel_rfl
@[simp] theorem t51 : (Try.prog.underlying 8).isSome = true := by kernel_rfl
@[simp] theorem t52 : isSt Try.prog 9 = true := by kernel_rfl
@[simp] theorem t53 : tyAgg Try.prog 9 = some false := by kernel_rfl
@[simp] theorem t54 : tySize Try.prog 9 = some 1 := by kernel_rfl
@[simp] theorem t55 : tyZero Try.prog 9 = some [Go.Abs.AV.str { data := { toList := [] } }] := by kernel_rfl
@[simp] theorem t56 : zeroEl Try.prog 9 = some (Go.Abs.AV.str { data := { toList := [] } }) := by kernel_rfl
@[simp] theorem t57 : strSlc Try.prog 9 = true := by kernel_rfl
@[simp] theorem t58 : (Try.prog.underlying 9).isSome = true := by kernel_rfl
@[simp] theorem t59 : isSt Try.prog 10 = true := by kernel_rfl
@[simp] theorem t60 : tyAgg Try.prog 10 = some false := by kernel_rfl
@[simp] theorem t61 : tySize Try.prog 10 = some 1 := by kernel_rfl
@[simp] theorem t62 : tyZero Try.prog 10 = some [Go.Abs.AV.str { data := { toList := [] } }] := by kernel_rfl
@[simp] theorem t63 : zeroEl Try.prog 10 = some (Go.Abs.AV.str { data := { toList := [] } }) := by kernel_rfl
@[simp] theorem t64 : strSlc Try.prog 10 = true := by kernel_rfl
@[simp] theorem t65 : (Try.prog.underlying 10).isSome = true := by kernel_rfl
@[simp] theorem t66 : isSt Try.prog 11 = true := by kernel_rfl
@[simp] theorem t67 : tyAgg Try.prog 11 = some false := by kernel_rfl
@[simp] theorem t68 : tySize Try.prog 11 = some 1 := by kernel_rfl
@[simp] theorem t69 : tyZero Try.prog 11 = some [Go.Abs.AV.str { data := { toList := [] } }] := by kernel_rfl
@[simp] theorem t70 : zeroEl Try.prog 11 = some (Go.Abs.AV.str { data := { toList := [] } }) := by kernel_rfl
@[simp] theorem t71 : strSlc Try.prog 11 = true := by kernel_rfl
@[simp] theorem t72 : (Try.prog.underlying 11).isSome = true := by kernel_rfl
@[simp] theorem t73 : tyAgg Try.prog 12 = some false := by kernel_rfl
@[simp] theorem t74 : tySize Try.prog 12 = some 1 := by kernel_rfl
@[simp] theorem t75 : tyZero Try.prog 12 = some [Go.Abs.AV.int Go.IntKind.u64 (0)] := by kernel_rfl
@[simp] theorem t76 : zeroEl Try.prog 12 = some (Go.Abs.AV.int Go.IntKind.u64 (0)) := by kernel_rfl
@[simp] theorem t77 : intTy Try.prog 12 = some Go.IntKind.u64 := by kernel_rfl
@[simp] theorem t78 : (Try.prog.underlying 12).isSome = true := by kernel_rfl
@[simp] theorem t79 : tyAgg Try.prog 13 = some true := by kernel_rfl
@[simp] theorem t80 : tySize Try.prog 13 = some 2 := by kernel_rfl
@[simp] theorem t81 : tyZero Try.prog 13 = some [Go.Abs.AV.str { data := { toList := [] } }, Go.Abs.AV.int Go.IntKind.u64 (0)] := by kernel_rfl
@[simp] theorem t82 : zeroEl Try.prog 13 = some (Go.Abs.AV.agg [Go.Abs.AV.str { data := { toList := [] } }, Go.Abs.AV.int Go.IntKind.u64 (0)]) := by kernel_rfl
@[simp] theorem t83 : fieldsOk Try.prog 13 = true := by kernel_rfl
@[simp] theorem t84 : (Try.prog.underlying 13).isSome = true := by kernel_rfl
@[simp] theorem t85 : tyAgg Try.prog 14 = some true := by kernel_rfl
@[simp] theorem t86 : tySize Try.prog 14 = some 2 := by kernel_rfl
@[simp] theorem t87 : tyZero Try.prog 14 = some [Go.Abs.AV.str { data := { toList := [] } }, Go.Abs.AV.int Go.IntKind.u64 (0)] := by kernel_rfl
@[simp] theorem t88 : zeroEl Try.prog 14 = some (Go.Abs.AV.agg [Go.Abs.AV.str { data := { toList := [] } }, Go.Abs.AV.int Go.IntKind.u64 (0)]) := by kernel_rfl
@[simp] theorem t89 : fieldsOk Try.prog 14 = true := by kernel_rfl
@[simp] theorem t90 : (Try.prog.underlying 14).isSome = true := by kernel_rfl
@[simp] theorem t91 : tyAgg Try.prog 15 = some false := by kernel_rfl
@[simp] theorem t92 : tySize Try.prog 15 = some 1 := by kernel_rfl
@[simp] theorem t93 : tyZero Try.prog 15 = some [Go.Abs.AV.nilptr] := by kernel_rfl
@[simp] theorem t94 : zeroEl Try.prog 15 = some Go.Abs.AV.nilptr := by kernel_rfl
@[simp] theorem t95 : (Try.prog.underlying 15).isSome = true := by kernel_rfl
@[simp] theorem t96 : tyAgg Try.prog 16 = some false := by kernel_rfl
@[simp] theorem t97 : tySize Try.prog 16 = some 1 := by kernel_rfl
@[simp] theorem t98 : tyZero Try.prog 16 = some [Go.Abs.AV.nilptr] := by kernel_rfl
@[simp] theorem t99 : zeroEl Try.prog 16 = some Go.Abs.AV.nilptr := by kernel_rfl
@[simp] theorem t100 : (Try.prog.underlying 16).isSome = true := by kernel_rfl
@[simp] theorem t101 : tyAgg Try.prog 17 = some false := by kernel_rfl
@[simp] theorem t102 : tySize Try.prog 17 = some 1 := by kernel_rfl
@[simp] theorem t103 : tyZero Try.prog 17 = some [Go.Abs.AV.nilptr] := by kernel_rfl
@[simp] theorem t104 : zeroEl Try.prog 17 = some Go.Abs.AV.nilptr := by kernel_rfl
@[simp] theorem t105 : (Try.prog.underlying 17).isSome = true := by kernel_rfl
@[simp] theorem t106 : tyAgg Try.prog 18 = some true := by kernel_rfl
@[simp] theorem t107 : tySize Try.prog 18 = some 1 := by kernel_rfl
@[simp] theorem t108 : tyZero Try.prog 18 = some [Go.Abs.AV.nilptr] := by kernel_rfl
@[simp] theorem t109 : zeroEl Try.prog 18 = some (Go.Abs.AV.agg [Go.Abs.AV.nilptr]) := by kernel_rfl
@[simp] theorem t110 : fieldsOk Try.prog 18 = true := by kernel_rfl
@[simp] theorem t111 : (Try.prog.underlying 18).isSome = true := by kernel_rfl
@[simp] theorem t112 : tyAgg Try.prog 19 = some true := by kernel_rfl
@[simp] theorem t113 : tySize Try.prog 19 = some 1 := by kernel_rfl
@[simp] theorem t114 : tyZero Try.prog 19 = some [Go.Abs.AV.nilptr] := by kernel_rfl
@[simp] theorem t115 : zeroEl Try.prog 19 = some (Go.Abs.AV.agg [Go.Abs.AV.nilptr]) := by kernel_rfl
@[simp] theorem t116 : fieldsOk Try.prog 19 = true := by kernel_rfl
@[simp] theorem t117 : (Try.prog.underlying 19).isSome = true := by kernel_rfl
@[simp] theorem t118 : tyAgg Try.prog 20 = some false := by kernel_rfl
@[simp] theorem t119 : tySize Try.prog 20 = some 1 := by kernel_rfl
@[simp] theorem t120 : tyZero Try.prog 20 = some [Go.Abs.AV.nilifc] := by kernel_rfl
@[simp] theorem t121 : zeroEl Try.prog 20 = some Go.Abs.AV.nilifc := by kernel_rfl
@[simp] theorem t122 : (Try.prog.underlying 20).isSome = true := by kernel_rfl
@[simp] theorem t123 : tyAgg Try.prog 21 = some false := by kernel_rfl
@[simp] theorem t124 : tySize Try.prog 21 = some 1 := by kernel_rfl
@[simp] theorem t125 : tyZero Try.prog 21 = some [Go.Abs.AV.int Go.IntKind.i32 (0)] := by kernel_rfl
@[simp] theorem t126 : zeroEl Try.prog 21 = some (Go.Abs.AV.int Go.IntKind.i32 (0)) := by kernel_rfl
@[simp] theorem t127 : intTy Try.prog 21 = some Go.IntKind.i32 := by kernel_rfl
@[simp] theorem t128 : (Try.prog.underlying 21).isSome = true := by kernel_rfl
@[simp] theorem t129 : slcElem Try.prog 22 = some (5, 1, 1) := by kernel_rfl
@[simp] theorem t130 : isSl Try.prog 22 = true := by kernel_rfl
@[simp] theorem t131 : tyAgg Try.prog 22 = some false := by kernel_rfl
@[simp] theorem t132 : tySize Try.prog 22 = some 1 := by kernel_rfl
@[simp] theorem t133 : tyZero Try.prog 22 = some [Go.Abs.AV.lst true true []] := by kernel_rfl
@[simp] theorem t134 : zeroEl Try.prog 22 = some (Go.Abs.AV.lst true true []) := by kernel_rfl
@[simp] theorem t135 : isBy Try.prog 22 = true := by kernel_rfl
@[simp] theorem t136 : strSlc Try.prog 22 = true := by kernel_rfl
@[simp] theorem t137 : (Try.prog.underlying 22).isSome = true := by kernel_rfl
@[simp] theorem t138 : Try.prog.underlying 22 = some (Go.TypeDesc.slice 5) := by kernel_rfl
@[simp] theorem t139 : tyAgg Try.prog 23 = some false := by kernel_rfl
@[simp] theorem t140 : tySize Try.prog 23 = some 1 := by kernel_rfl
@[simp] theorem t141 : tyZero Try.prog 23 = some [Go.Abs.AV.nilfn] := by kernel_rfl
@[simp] theorem t142 : zeroEl Try.prog 23 = some Go.Abs.AV.nilfn := by kernel_rfl
@[simp] theorem t143 : (Try.prog.underlying 23).isSome = true := by kernel_rfl
@[simp] theorem t144 : tyAgg Try.prog 24 = some false := by kernel_rfl
@[simp] theorem t145 : tySize Try.prog 24 = some 1 := by kernel_rfl
@[simp] theorem t146 : tyZero Try.prog 24 = some [Go.Abs.AV.nilfn] := by kernel_rfl
@[simp] theorem t147 : zeroEl Try.prog 24 = some Go.Abs.AV.nilfn := by kernel_rfl
@[simp] theorem t148 : (Try.prog.underlying 24).isSome = true := by kernel_rfl
@[simp] theorem t149 : tyAgg Try.prog 25 = some false := by kernel_rfl
@[simp] theorem t150 : tySize Try.prog 25 = some 1 := by kernel_rfl
@[simp] theorem t151 : tyZero Try.prog 25 = some [Go.Abs.AV.nilfn] := by kernel_rfl
@[simp] theorem t152 : zeroEl Try.prog 25 = some Go.Abs.AV.nilfn := by kernel_rfl
@[simp] theorem t153 : (Try.prog.underlying 25).isSome = true := by kernel_rfl
@[simp] theorem t154 : tyAgg Try.prog 26 = some false := by kernel_rfl
@[simp] theorem t155 : tySize Try.prog 26 = some 1 := by kernel_rfl
@[simp] theorem t156 : tyZero Try.prog 26 = some [Go.Abs.AV.nilfn] := by kernel_rfl
@[simp] theorem t157 : zeroEl Try.prog 26 = some Go.Abs.AV.nilfn := by kernel_rfl
@[simp] theorem t158 : (Try.prog.underlying 26).isSome = true := by kernel_rfl
@[simp] theorem t159 : slcElem Try.prog 27 = some (3, 1, 8) := by kernel_rfl
@[simp] theorem t160 : isSl Try.prog 27 = true := by kernel_rfl
@[simp] theorem t161 : tyAgg Try.prog 27 = some false := by kernel_rfl
@[simp] theorem t162 : tySize Try.prog 27 = some 1 := by kernel_rfl
@[simp] theorem t163 : tyZero Try.prog 27 = some [Go.Abs.AV.lst true true []] := by kernel_rfl
@[simp] theorem t164 : zeroEl Try.prog 27 = some (Go.Abs.AV.lst true true []) := by kernel_rfl
@[simp] theorem t165 : strSlc Try.prog 27 = true := by kernel_rfl
@[simp] theorem t166 : (Try.prog.underlying 27).isSome = true := by kernel_rfl
@[simp] theorem t167 : Try.prog.underlying 27 = some (Go.TypeDesc.slice 3) := by kernel_rfl
@[simp] theorem t168 : tyAgg Try.prog 28 = some false := by kernel_rfl
@[simp] theorem t169 : tySize Try.prog 28 = some 1 := by kernel_rfl
@[simp] theorem t170 : tyZero Try.prog 28 = some [Go.Abs.AV.int Go.IntKind.u64 (0)] := by kernel_rfl
@[simp] theorem t171 : zeroEl Try.prog 28 = some (Go.Abs.AV.int Go.IntKind.u64 (0)) := by kernel_rfl
@[simp] theorem t172 : intTy Try.prog 28 = some Go.IntKind.u64 := by kernel_rfl
@[simp] theorem t173 : (Try.prog.underlying 28).isSome = true := by kernel_rfl
@[simp] theorem t174 : tyAgg Try.prog 29 = some false := by kernel_rfl
@[simp] theorem t175 : tySize Try.prog 29 = some 1 := by kernel_rfl
@[simp] theorem t176 : tyZero Try.prog 29 = some [Go.Abs.AV.nilfn] := by kernel_rfl
@[simp] theorem t177 : zeroEl Try.prog 29 = some Go.Abs.AV.nilfn := by kernel_rfl
@[simp] theorem t178 : (Try.prog.underlying 29).isSome = true := by kernel_rfl
@[simp] theorem t179 : tyAgg Try.prog 30 = some false := by kernel_rfl
@[simp] theorem t180 : tySize Try.prog 30 = some 1 := by kernel_rfl
@[simp] theorem t181 : tyZero Try.prog 30 = some [Go.Abs.AV.nilptr] := by kernel_rfl
@[simp] theorem t182 : zeroEl Try.prog 30 = some Go.Abs.AV.nilptr := by kernel_rfl
@[simp] theorem t183 : (Try.prog.underlying 30).isSome = true := by kernel_rfl
@[simp] theorem t184 : tyAgg Try.prog 31 = some false := by kernel_rfl
@[simp] theorem t185 : tySize Try.prog 31 = some 1 := by kernel_rfl
@[simp] theorem t186 : tyZero Try.prog 31 = some [Go.Abs.AV.nilfn] := by kernel_rfl
@[simp] theorem t187 : zeroEl Try.prog 31 = some Go.Abs.AV.nilfn := by kernel_rfl
@[simp] theorem t188 : (Try.prog.underlying 31).isSome = true := by kernel_rfl
@[simp] theorem t189 : tyAgg Try.prog 32 = some true := by kernel_rfl
@[simp] theorem t190 : tySize Try.prog 32 = some 3 := by kernel_rfl
@[simp] theorem t191 : tyZero Try.prog 32 = some [Go.Abs.AV.lst true true [], Go.Abs.AV.lst true true [], Go.Abs.AV.int Go.IntKind.i64 (0)] := by kernel_rfl
@[simp] theorem t192 : zeroEl Try.prog 32 = some (Go.Abs.AV.agg [Go.Abs.AV.lst true true [], Go.Abs.AV.lst true true [], Go.Abs.AV.int Go.IntKind.i64 (0)]) := by kernel_rfl
@[simp] theorem t193 : fieldsOk Try.prog 32 = true := by kernel_rfl
@[simp] theorem t194 : (Try.prog.underlying 32).isSome = true := by kernel_rfl
@[simp] theorem t195 : tyAgg Try.prog 33 = some true := by kernel_rfl
@[simp] theorem t196 : tySize Try.prog 33 = some 3 := by kernel_rfl
@[simp] theorem t197 : tyZero Try.prog 33 = some [Go.Abs.AV.lst true true [], Go.Abs.AV.lst true true [], Go.Abs.AV.int Go.IntKind.i64 (0)] := by kernel_rfl
@[simp] theorem t198 : zeroEl Try.prog 33 = some (Go.Abs.AV.agg [Go.Abs.AV.lst true true [], Go.Abs.AV.lst true true [], Go.Abs.AV.int Go.IntKind.i64 (0)]) := by kernel_rfl
@[simp] theorem t199 : fieldsOk Try.prog 33 = true := by kernel_rfl
@[simp] theorem t200 : (Try.prog.underlying 33).isSome = true := by kernel_rfl
@[simp] theorem t201 : tyAgg Try.prog 34 = some true := by kernel_rfl
@[simp] theorem t202 : tySize Try.prog 34 = some 7 := by kernel_rfl
@[simp] theorem t203 : tyZero Try.prog 34 = some [Go.Abs.AV.lst true true [], Go.Abs.AV.lst true true [], Go.Abs.AV.lst true true [], Go.Abs.AV.int Go.IntKind.i64 (0), Go.Abs.AV.int Go.IntKind.i64 (0), Go.Abs.AV.int Go.IntKind.i64 (0), Go.Abs.AV.int Go.IntKind.i64 (0)] := by kernel_rfl
@[simp] theorem t204 : zeroEl Try.prog 34 = some (Go.Abs.AV.agg [Go.Abs.AV.lst true true [], Go.Abs.AV.lst true true [], Go.Abs.AV.lst true true [], Go.Abs.AV.int Go.IntKind.i64 (0), Go.Abs.AV.int Go.IntKind.i64 (0), Go.Abs.AV.int Go.IntKind.i64 (0), Go.Abs.AV.int Go.IntKind.i64 (0)]) := by kernel_rfl
@[simp] theorem t205 : fieldsOk Try.prog 34 = true := by kernel_rfl
@[simp] theorem t206 : (Try.prog.underlying 34).isSome = true := by kernel_rfl
@[simp] theorem t207 : tyAgg Try.prog 35 = some true := by kernel_rfl
@[simp] theorem t208 : tySize Try.prog 35 = some 7 := by kernel_rfl
@[simp] theorem t209 : tyZero Try.prog 35 = some [Go.Abs.AV.lst true true [], Go.Abs.AV.lst true true [], Go.Abs.AV.lst true true [], Go.Abs.AV.int Go.IntKind.i64 (0), Go.Abs.AV.int Go.IntKind.i64 (0), Go.Abs.AV.int Go.IntKind.i64 (0), Go.Abs.AV.int Go.IntKind.i64 (0)] := by kernel_rfl
@[simp] theorem t210 : zeroEl Try.prog 35 = some (Go.Abs.AV.agg [Go.Abs.AV.lst true true [], Go.Abs.AV.lst true true [], Go.Abs.AV.lst true true [], Go.Abs.AV.int Go.IntKind.i64 (0), Go.Abs.AV.int Go.IntKind.i64 (0), Go.Abs.AV.int Go.IntKind.i64 (0), Go.Abs.AV.int Go.IntKind.i64 (0)]) := by kernel_rfl
@[simp] theorem t211 : fieldsOk Try.prog 35 = true := by kernel_rfl
@[simp] theorem t212 : (Try.prog.underlying 35).isSome = true := by kernel_rfl
@[simp] theorem t213 : tyAgg Try.prog 36 = some false := by kernel_rfl
@[simp] theorem t214 : tySize Try.prog 36 = some 1 := by kernel_rfl
@[simp] theorem t215 : tyZero Try.prog 36 = some [Go.Abs.AV.nilfn] := by kernel_rfl
@[simp] theorem t216 : zeroEl Try.prog 36 = some Go.Abs.AV.nilfn := by kernel_rfl
@[simp] theorem t217 : (Try.prog.underlying 36).isSome = true := by kernel_rfl
@[simp] theorem t218 : tyAgg Try.prog 37 = some false := by kernel_rfl
@[simp] theorem t219 : tySize Try.prog 37 = some 1 := by kernel_rfl
@[simp] theorem t220 : tyZero Try.prog 37 = some [Go.Abs.AV.int Go.IntKind.u64 (0)] := by kernel_rfl
@[simp] theorem t221 : zeroEl Try.prog 37 = some (Go.Abs.AV.int Go.IntKind.u64 (0)) := by kernel_rfl
@[simp] theorem t222 : intTy Try.prog 37 = some Go.IntKind.u64 := by kernel_rfl
@[simp] theorem t223 : (Try.prog.underlying 37).isSome = true := by kernel_rfl
@[simp] theorem t224 : tyAgg Try.prog 38 = some false := by kernel_rfl
@[simp] theorem t225 : tySize Try.prog 38 = some 1 := by kernel_rfl
@[simp] theorem t226 : tyZero Try.prog 38 = some [Go.Abs.AV.int Go.IntKind.i64 (0)] := by kernel_rfl
@[simp] theorem t227 : zeroEl Try.prog 38 = some (Go.Abs.AV.int Go.IntKind.i64 (0)) := by kernel_rfl
@[simp] theorem t228 : intTy Try.prog 38 = some Go.IntKind.i64 := by kernel_rfl
@[simp] theorem t229 : (Try.prog.underlying 38).isSome = true := by kernel_rfl
@[simp] theorem t230 : tyAgg Try.prog 39 = some false := by kernel_rfl
@[simp] theorem t231 : tySize Try.prog 39 = some 1 := by kernel_rfl
@[simp] theorem t232 : tyZero Try.prog 39 = some [Go.Abs.AV.nilfn] := by kernel_rfl
@[simp] theorem t233 : zeroEl Try.prog 39 = some Go.Abs.AV.nilfn := by kernel_rfl
@[simp] theorem t234 : (Try.prog.underlying 39).isSome = true := by kernel_rfl
@[simp] theorem t235 : tyAgg Try.prog 40 = some false := by kernel_rfl
@[simp] theorem t236 : tySize Try.prog 40 = some 1 := by kernel_rfl
@[simp] theorem t237 : tyZero Try.prog 40 = some [Go.Abs.AV.nilfn] := by kernel_rfl
@[simp] theorem t238 : zeroEl Try.prog 40 = some Go.Abs.AV.nilfn := by kernel_rfl
@[simp] theorem t239 : (Try.prog.underlying 40).isSome = true := by kernel_rfl
@[simp] theorem t240 : slcElem Try.prog 41 = some (50, 13, 160) := by kernel_rfl
@[simp] theorem t241 : isSl Try.prog 41 = true := by kernel_rfl
@[simp] theorem t242 : tyAgg Try.prog 41 = some false := by kernel_rfl
@[simp] theorem t243 : tySize Try.prog 41 = some 1 := by kernel_rfl
@[simp] theorem t244 : tyZero Try.prog 41 = some [Go.Abs.AV.lst true true []] := by kernel_rfl
@[simp] theorem t245 : zeroEl Try.prog 41 = some (Go.Abs.AV.lst true true []) := by kernel_rfl
@[simp] theorem t246 : strSlc Try.prog 41 = true := by kernel_rfl
@[simp] theorem t247 : (Try.prog.underlying 41).isSome = true := by kernel_rfl
@[simp] theorem t248 : Try.prog.underlying 41 = some (Go.TypeDesc.slice 50) := by kernel_rfl
@[simp] theorem t249 : tyAgg Try.prog 42 = some false := by kernel_rfl
@[simp] theorem t250 : tySize Try.prog 42 = some 1 := by kernel_rfl
@[simp] theorem t251 : tyZero Try.prog 42 = some [Go.Abs.AV.nilfn] := by kernel_rfl
@[simp] theorem t252 : zeroEl Try.prog 42 = some Go.Abs.AV.nilfn := by kernel_rfl
@[simp] theorem t253 : (Try.prog.underlying 42).isSome = true := by kernel_rfl
@[simp] theorem t254 : tyAgg Try.prog 43 = some true := by kernel_rfl
@[simp] theorem t255 : tySize Try.prog 43 = some 3 := by kernel_rfl
@[simp] theorem t256 : tyZero Try.prog 43 = some [Go.Abs.AV.int Go.IntKind.i64 (0), Go.Abs.AV.int Go.IntKind.i64 (0), Go.Abs.AV.lst true true []] := by kernel_rfl
@[simp] theorem t257 : zeroEl Try.prog 43 = some (Go.Abs.AV.agg [Go.Abs.AV.int Go.IntKind.i64 (0), Go.Abs.AV.int Go.IntKind.i64 (0), Go.Abs.AV.lst true true []]) := by kernel_rfl
@[simp] theorem t258 : fieldsOk Try.prog 43 = true := by kernel_rfl
@[simp] theorem t259 : (Try.prog.underlying 43).isSome = true := by kernel_rfl
@[simp] theorem t260 : tyAgg Try.prog 44 = some true := by kernel_rfl
@[simp] theorem t261 : tySize Try.prog 44 = some 3 := by kernel_rfl
@[simp] theorem t262 : tyZero Try.prog 44 = some [Go.Abs.AV.int Go.IntKind.i64 (0), Go.Abs.AV.int Go.IntKind.i64 (0), Go.Abs.AV.lst true true []] := by kernel_rfl
@[simp] theorem t263 : zeroEl Try.prog 44 = some (Go.Abs.AV.agg [Go.Abs.AV.int Go.IntKind.i64 (0), Go.Abs.AV.int Go.IntKind.i64 (0), Go.Abs.AV.lst true true []]) := by kernel_rfl
@[simp] theorem t264 : fieldsOk Try.prog 44 = true := by kernel_rfl
@[simp] theorem t265 : (Try.prog.underlying 44).isSome = true := by kernel_rfl
@[simp] theorem t266 : tyAgg Try.prog 45 = some false := by kernel_rfl
@[simp] theorem t267 : tySize Try.prog 45 = some 1 := by kernel_rfl
@[simp] theorem t268 : tyZero Try.prog 45 = some [Go.Abs.AV.nilfn] := by kernel_rfl
@[simp] theorem t269 : zeroEl Try.prog 45 = some Go.Abs.AV.nilfn := by kernel_rfl
@[simp] theorem t270 : (Try.prog.underlying 45).isSome = true := by kernel_rfl
@[simp] theorem t271 : slcElem Try.prog 46 = some (142, 3, 32) := by kernel_rfl
@[simp] theorem t272 : isSl Try.prog 46 = true := by kernel_rfl
@[simp] theorem t273 : tyAgg Try.prog 46 = some false := by kernel_rfl
@[simp] theorem t274 : tySize Try.prog 46 = some 1 := by kernel_rfl
@[simp] theorem t275 : tyZero Try.prog 46 = some [Go.Abs.AV.lst true true []] := by kernel_rfl
@[simp] theorem t276 : zeroEl Try.prog 46 = some (Go.Abs.AV.lst true true []) := by kernel_rfl
@[simp] theorem t277 : strSlc Try.prog 46 = true := by kernel_rfl
@[simp] theorem t278 : (Try.prog.underlying 46).isSome = true := by kernel_rfl
@[simp] theorem t279 : Try.prog.underlying 46 = some (Go.TypeDesc.slice 142) := by kernel_rfl
@[simp] theorem t280 : tyAgg Try.prog 47 = some true := by kernel_rfl
@[simp] theorem t281 : tySize Try.prog 47 = some 2 := by kernel_rfl
@[simp] theorem t282 : tyZero Try.prog 47 = some [Go.Abs.AV.int Go.IntKind.i64 (0), Go.Abs.AV.str { data := { toList := [] } }] := by kernel_rfl
@[simp] theorem t283 : zeroEl Try.prog 47 = some (Go.Abs.AV.agg [Go.Abs.AV.int Go.IntKind.i64 (0), Go.Abs.AV.str { data := { toList := [] } }]) := by kernel_rfl
@[simp] theorem t284 : fieldsOk Try.prog 47 = true := by kernel_rfl
@[simp] theorem t285 : strP Try.prog 47 = some [Go.Abs.SKind.int Go.IntKind.i64, Go.Abs.SKind.str] := by kernel_rfl
@[simp] theorem t286 : (Try.prog.underlying 47).isSome = true := by kernel_rfl
@[simp] theorem t287 : tyAgg Try.prog 48 = some true := by kernel_rfl
@[simp] theorem t288 : tySize Try.prog 48 = some 2 := by kernel_rfl
@[simp] theorem t289 : tyZero Try.prog 48 = some [Go.Abs.AV.int Go.IntKind.i64 (0), Go.Abs.AV.str { data := { toList := [] } }] := by kernel_rfl
@[simp] theorem t290 : zeroEl Try.prog 48 = some (Go.Abs.AV.agg [Go.Abs.AV.int Go.IntKind.i64 (0), Go.Abs.AV.str { data := { toList := [] } }]) := by kernel_rfl
@[simp] theorem t291 : fieldsOk Try.prog 48 = true := by kernel_rfl
@[simp] theorem t292 : strP Try.prog 48 = some [Go.Abs.SKind.int Go.IntKind.i64, Go.Abs.SKind.str] := by kernel_rfl
@[simp] theorem t293 : (Try.prog.underlying 48).isSome = true := by kernel_rfl
@[simp] theorem t294 : tyAgg Try.prog 49 = some true := by kernel_rfl
@[simp] theorem t295 : tySize Try.prog 49 = some 13 := by kernel_rfl
@[simp] theorem t296 : tyZero Try.prog 49 = some [Go.Abs.AV.int Go.IntKind.i64 (0), Go.Abs.AV.int Go.IntKind.i64 (0), Go.Abs.AV.str { data := { toList := [] } }, Go.Abs.AV.int Go.IntKind.i64 (0), Go.Abs.AV.int Go.IntKind.i64 (0), Go.Abs.AV.int Go.IntKind.i64 (0), Go.Abs.AV.int Go.IntKind.i64 (0), Go.Abs.AV.int Go.IntKind.i64 (0), Go.Abs.AV.lst true true [], Go.Abs.AV.lst true true [], Go.Abs.AV.str { data := { toList := [] } }, Go.Abs.AV.int Go.IntKind.i64 (0), Go.Abs.AV.str { data := { toList := [] } }] := by kernel_rfl
@[simp] theorem t297 : zeroEl Try.prog 49 = some (Go.Abs.AV.agg [Go.Abs.AV.int Go.IntKind.i64 (0), Go.Abs.AV.int Go.IntKind.i64 (0), Go.Abs.AV.str { data := { toList := [] } }, Go.Abs.AV.int Go.IntKind.i64 (0), Go.Abs.AV.int Go.IntKind.i64 (0), Go.Abs.AV.int Go.IntKind.i64 (0), Go.Abs.AV.int Go.IntKind.i64 (0), Go.Abs.AV.int Go.IntKind.i64 (0), Go.Abs.AV.lst true true [], Go.Abs.AV.lst true true [], Go.Abs.AV.str { data := { toList := [] } }, Go.Abs.AV.int Go.IntKind.i64 (0), Go.Abs.AV.str { data := { toList := [] } }]) := by kernel_rfl
@[simp] theorem t298 : fieldsOk Try.prog 49 = true := by kernel_rfl
@[simp] theorem t299 : (Try.prog.underlying 49).isSome = true := by kernel_rfl
@[simp] theorem t300 : tyAgg Try.prog 50 = some true := by kernel_rfl
@[simp] theorem t301 : tySize Try.prog 50 = some 13 := by kernel_rfl
@[simp] theorem t302 : tyZero Try.prog 50 = some [Go.Abs.AV.int Go.IntKind.i64 (0), Go.Abs.AV.int Go.IntKind.i64 (0), Go.Abs.AV.str { data := { toList := [] } }, Go.Abs.AV.int Go.IntKind.i64 (0), Go.Abs.AV.int Go.IntKind.i64 (0), Go.Abs.AV.int Go.IntKind.i64 (0), Go.Abs.AV.int Go.IntKind.i64 (0), Go.Abs.AV.int Go.IntKind.i64 (0), Go.Abs.AV.lst true true [], Go.Abs.AV.lst true true [], Go.Abs.AV.str { data := { toList := [] } }, Go.Abs.AV.int Go.IntKind.i64 (0), Go.Abs.AV.str { data := { toList := [] } }] := by kernel_rfl
@[simp] theorem t303 : zeroEl Try.prog 50 = some (Go.Abs.AV.agg [Go.Abs.AV.int Go.IntKind.i64 (0), Go.Abs.AV.int Go.IntKind.i64 (0), Go.Abs.AV.str { data := { toList := [] } }, Go.Abs.AV.int Go.IntKind.i64 (0), Go.Abs.AV.int Go.IntKind.i64 (0), Go.Abs.AV.int Go.IntKind.i64 (0), Go.Abs.AV.int Go.IntKind.i64 (0), Go.Abs.AV.int Go.IntKind.i64 (0), Go.Abs.AV.lst true true [], Go.Abs.AV.lst true true [], Go.Abs.AV.str { data := { toList := [] } }, Go.Abs.AV.int Go.IntKind.i64 (0), Go.Abs.AV.str { data := { toList := [] } }]) := by kernel_rfl
@[simp] theorem t304 : fieldsOk Try.prog 50 = true := by kernel_rfl
@[simp] theorem t305 : (Try.prog.underlying 50).isSome = true := by kernel_rfl
@[simp] theorem t306 : tyAgg Try.prog 51 = some false := by kernel_rfl
@[simp] theorem t307 : tySize Try.prog 51 = some 1 := by kernel_rfl
@[simp] theorem t308 : tyZero Try.prog 51 = some [Go.Abs.AV.nilfn] := by kernel_rfl
@[simp] theorem t309 : zeroEl Try.prog 51 = some Go.Abs.AV.nilfn := by kernel_rfl
@[simp] theorem t310 : (Try.prog.underlying 51).isSome = true := by kernel_rfl
@[simp] theorem t311 : tyAgg Try.prog 52 = some true := by kernel_rfl
@[simp] theorem t312 : tySize Try.prog 52 = some 6 := by kernel_rfl
@[simp] theorem t313 : tyZero Try.prog 52 = some [Go.Abs.AV.int Go.IntKind.i64 (0), Go.Abs.AV.int Go.IntKind.i64 (0), Go.Abs.AV.int Go.IntKind.i64 (0), Go.Abs.AV.int Go.IntKind.i64 (0), Go.Abs.AV.lst true true [], Go.Abs.AV.lst true true []] := by kernel_rfl
@[simp] theorem t314 : zeroEl Try.prog 52 = some (Go.Abs.AV.agg [Go.Abs.AV.int Go.IntKind.i64 (0), Go.Abs.AV.int Go.IntKind.i64 (0), Go.Abs.AV.int Go.IntKind.i64 (0), Go.Abs.AV.int Go.IntKind.i64 (0), Go.Abs.AV.lst true true [], Go.Abs.AV.lst true true []]) := by kernel_rfl
@[simp] theorem t315 : fieldsOk Try.prog 52 = true := by kernel_rfl
@[simp] theorem t316 : (Try.prog.underlying 52).isSome = true := by kernel_rfl
@[simp] theorem t317 : tyAgg Try.prog 53 = some true := by kernel_rfl
@[simp] theorem t318 : tySize Try.prog 53 = some 6 := by kernel_rfl
@[simp] theorem t319 : tyZero Try.prog 53 = some [Go.Abs.AV.int Go.IntKind.i64 (0), Go.Abs.AV.int Go.IntKind.i64 (0), Go.Abs.AV.int Go.IntKind.i64 (0), Go.Abs.AV.int Go.IntKind.i64 (0), Go.Abs.AV.lst true true [], Go.Abs.AV.lst true true []] := by kernel_rfl
@[simp] theorem t320 : zeroEl Try.prog 53 = some (Go.Abs.AV.agg [Go.Abs.AV.int Go.IntKind.i64 (0), Go.Abs.AV.int Go.IntKind.i64 (0), Go.Abs.AV.int Go.IntKind.i64 (0), Go.Abs.AV.int Go.IntKind.i64 (0), Go.Abs.AV.lst true true [], Go.Abs.AV.lst true true []]) := by kernel_rfl
@[simp] theorem t321 : fieldsOk Try.prog 53 = true := by kernel_rfl
@[simp] theorem t322 : (Try.prog.underlying 53).isSome = true := by kernel_rfl
@[simp] theorem t323 : tyAgg Try.prog 54 = some false := by kernel_rfl
@[simp] theorem t324 : tySize Try.prog 54 = some 1 := by kernel_rfl
@[simp] theorem t325 : (Try.prog.underlying 54).isSome = true := by kernel_rfl
@[simp] theorem t331 : tyAgg Try.prog 56 = some false := by kernel_rfl
@[simp] theorem t332 : tySize Try.prog 56 = some 1 := by kernel_rfl
@[simp] theorem t333 : tyZero Try.prog 56 = some [Go.Abs.AV.nilfn] := by kernel_rfl
@[simp] theorem t334 : zeroEl Try.prog 56 = some Go.Abs.AV.nilfn := by kernel_rfl
@[simp] theorem t335 : (Try.prog.underlying 56).isSome = true := by kernel_rfl
@[simp] theorem t336 : slcElem Try.prog 57 = some (44, 3, 40) := by kernel_rfl
@[simp] theorem t337 : isSl Try.prog 57 = true := by kernel_rfl
@[simp] theorem t338 : tyAgg Try.prog 57 = some false := by kernel_rfl
@[simp] theorem t339 : tySize Try.prog 57 = some 1 := by kernel_rfl
@[simp] theorem t340 : tyZero Try.prog 57 = some [Go.Abs.AV.lst true true []] := by kernel_rfl
@[simp] theorem t341 : zeroEl Try.prog 57 = some (Go.Abs.AV.lst true true []) := by kernel_rfl
@[simp] theorem t342 : strSlc Try.prog 57 = true := by kernel_rfl
@[simp] theorem t343 : (Try.prog.underlying 57).isSome = true := by kernel_rfl
@[simp] theorem t344 : Try.prog.underlying 57 = some (Go.TypeDesc.slice 44) := by kernel_rfl
@[simp] theorem t345 : tyAgg Try.prog 58 = some false := by kernel_rfl
@[simp] theorem t346 : tySize Try.prog 58 = some 1 := by kernel_rfl
@[simp] theorem t347 : tyZero Try.prog 58 = some [Go.Abs.AV.nilfn] := by kernel_rfl
@[simp] theorem t348 : zeroEl Try.prog 58 = some Go.Abs.AV.nilfn := by kernel_rfl
@[simp] theorem t349 : (Try.prog.underlying 58).isSome = true := by kernel_rfl
@[simp] theorem t350 : tyAgg Try.prog 59 = some false := by kernel_rfl
@[simp] theorem t351 : tySize Try.prog 59 = some 1 := by kernel_rfl
@[simp] theorem t352 : tyZero Try.prog 59 = some [Go.Abs.AV.nilfn] := by kernel_rfl
@[simp] theorem t353 : zeroEl Try.prog 59 = some Go.Abs.AV.nilfn := by kernel_rfl
@[simp] theorem t354 : (Try.prog.underlying 59).isSome = true := by kernel_rfl
@[simp] theorem t355 : slcElem Try.prog 60 = some (4, 1, 1) := by kernel_rfl
@[simp] theorem t356 : isSl Try.prog 60 = true := by kernel_rfl
@[simp] theorem t357 : tyAgg Try.prog 60 = some false := by kernel_rfl
@[simp] theorem t358 : tySize Try.prog 60 = some 1 := by kernel_rfl
@[simp] theorem t359 : tyZero Try.prog 60 = some [Go.Abs.AV.lst true true []] := by kernel_rfl
@[simp] theorem t360 : zeroEl Try.prog 60 = some (Go.Abs.AV.lst true true []) := by kernel_rfl
@[simp] theorem t361 : strSlc Try.prog 60 = true := by kernel_rfl
@[simp] theorem t362 : (Try.prog.underlying 60).isSome = true := by kernel_rfl
@[simp] theorem t363 : Try.prog.underlying 60 = some (Go.TypeDesc.slice 4) := by kernel_rfl
@[simp] theorem t364 : tyAgg Try.prog 61 = some false := by kernel_rfl
@[simp] theorem t365 : tySize Try.prog 61 = some 1 := by kernel_rfl
@[simp] theorem t366 : (Try.prog.underlying 61).isSome = true := by kernel_rfl
@[simp] theorem t367 : tyAgg Try.prog 62 = some false := by kernel_rfl
@[simp] theorem t368 : tySize Try.prog 62 = some 1 := by kernel_rfl
@[simp] theorem t369 : tyZero Try.prog 62 = some [Go.Abs.AV.nilfn] := by kernel_rfl
@[simp] theorem t370 : zeroEl Try.prog 62 = some Go.Abs.AV.nilfn := by kernel_rfl
@[simp] theorem t371 : (Try.prog.underlying 62).isSome = true := by kernel_rfl
@[simp] theorem t372 : tyAgg Try.prog 63 = some false := by kernel_rfl
@[simp] theorem t373 : tySize Try.prog 63 = some 1 := by kernel_rfl
@[simp] theorem t374 : tyZero Try.prog 63 = some [Go.Abs.AV.nilfn] := by kernel_rfl
@[simp] theorem t375 : zeroEl Try.prog 63 = some Go.Abs.AV.nilfn := by kernel_rfl
@[simp] theorem t376 : (Try.prog.underlying 63).isSome = true := by kernel_rfl
@[simp] theorem t387 : tyAgg Try.prog 66 = some false := by kernel_rfl
@[simp] theorem t388 : tySize Try.prog 66 = some 1 := by kernel_rfl
@[simp] theorem t389 : tyZero Try.prog 66 = some [Go.Abs.AV.nilfn] := by kernel_rfl
@[simp] theorem t390 : zeroEl Try.prog 66 = some Go.Abs.AV.nilfn := by kernel_rfl
@[simp] theorem t391 : (Try.prog.underlying 66).isSome = true := by kernel_rfl
@[simp] theorem t392 : tyAgg Try.prog 67 = some false := by kernel_rfl
@[simp] theorem t393 : tySize Try.prog 67 = some 1 := by kernel_rfl
@[simp] theorem t394 : tyZero Try.prog 67 = some [Go.Abs.AV.nilfn] := by kernel_rfl
@[simp] theorem t395 : zeroEl Try.prog 67 = some Go.Abs.AV.nilfn := by kernel_rfl
@[simp] theorem t396 : (Try.prog.underlying 67).isSome = true := by kernel_rfl
@[simp] theorem t411 : tyAgg Try.prog 70 = some false := by kernel_rfl
@[simp] theorem t412 : tySize Try.prog 70 = some 1 := by kernel_rfl
@[simp] theorem t413 : tyZero Try.prog 70 = some [Go.Abs.AV.int Go.IntKind.u32 (0)] := by kernel_rfl
@[simp] theorem t414 : zeroEl Try.prog 70 = some (Go.Abs.AV.int Go.IntKind.u32 (0)) := by kernel_rfl
@[simp] theorem t415 : intTy Try.prog 70 = some Go.IntKind.u32 := by kernel_rfl
@[simp] theorem t416 : (Try.prog.underlying 70).isSome = true := by kernel_rfl
@[simp] theorem t417 : tyAgg Try.prog 71 = some false := by kernel_rfl
@[simp] theorem t418 : tySize Try.prog 71 = some 1 := by kernel_rfl
@[simp] theorem t419 : (Try.prog.underlying 71).isSome = true := by kernel_rfl
@[simp] theorem t430 : tyAgg Try.prog 74 = some false := by kernel_rfl
@[simp] theorem t431 : tySize Try.prog 74 = some 1 := by kernel_rfl
@[simp] theorem t432 : (Try.prog.underlying 74).isSome = true := by kernel_rfl
@[simp] theorem t438 : tyAgg Try.prog 76 = some false := by kernel_rfl
@[simp] theorem t439 : tySize Try.prog 76 = some 1 := by kernel_rfl
@[simp] theorem t440 : (Try.prog.underlying 76).isSome = true := by kernel_rfl
@[simp] theorem t441 : tyAgg Try.prog 77 = some false := by kernel_rfl
@[simp] theorem t442 : tySize Try.prog 77 = some 1 := by kernel_rfl
@[simp] theorem t443 : tyZero Try.prog 77 = some [Go.Abs.AV.nilfn] := by kernel_rfl
@[simp] theorem t444 : zeroEl Try.prog 77 = some Go.Abs.AV.nilfn := by kernel_rfl
@[simp] theorem t445 : (Try.prog.underlying 77).isSome = true := by kernel_rfl
@[simp] theorem t456 : tyAgg Try.prog 80 = some false := by kernel_rfl
@[simp] theorem t457 : tySize Try.prog 80 = some 1 := by kernel_rfl
@[simp] theorem t458 : tyZero Try.prog 80 = some [Go.Abs.AV.nilfn] := by kernel_rfl
@[simp] theorem t459 : zeroEl Try.prog 80 = some Go.Abs.AV.nilfn := by kernel_rfl
@[simp] theorem t460 : (Try.prog.underlying 80).isSome = true := by kernel_rfl
@[simp] theorem t461 : tyAgg Try.prog 81 = some false := by kernel_rfl
@[simp] theorem t462 : tySize Try.prog 81 = some 1 := by kernel_rfl
@[simp] theorem t463 : tyZero Try.prog 81 = some [Go.Abs.AV.nilfn] := by kernel_rfl
@[simp] theorem t464 : zeroEl Try.prog 81 = some Go.Abs.AV.nilfn := by kernel_rfl
@[simp] theorem t465 : (Try.prog.underlying 81).isSome = true := by kernel_rfl
@[simp] theorem t466 : tyAgg Try.prog 82 = some true := by kernel_rfl
@[simp] theorem t467 : tySize Try.prog 82 = some 4 := by kernel_rfl
@[simp] theorem t468 : tyZero Try.prog 82 = some [Go.Abs.AV.int Go.IntKind.i64 (0), Go.Abs.AV.int Go.IntKind.i64 (0), Go.Abs.AV.int Go.IntKind.i64 (0), Go.Abs.AV.int Go.IntKind.i64 (0)] := by kernel_rfl
@[simp] theorem t469 : zeroEl Try.prog 82 = some (Go.Abs.AV.agg [Go.Abs.AV.int Go.IntKind.i64 (0), Go.Abs.AV.int Go.IntKind.i64 (0), Go.Abs.AV.int Go.IntKind.i64 (0), Go.Abs.AV.int Go.IntKind.i64 (0)]) := by kernel_rfl
@[simp] theorem t470 : fieldsOk Try.prog 82 = true := by kernel_rfl
@[simp] theorem t471 : strP Try.prog 82 = some [Go.Abs.SKind.int Go.IntKind.i64, Go.Abs.SKind.int Go.IntKind.i64, Go.Abs.SKind.int Go.IntKind.i64, Go.Abs.SKind.int Go.IntKind.i64] := by kernel_rfl
@[simp] theorem t472 : (Try.prog.underlying 82).isSome = true := by kernel_rfl
@[simp] theorem t473 : tyAgg Try.prog 83 = some true := by kernel_rfl
@[simp] theorem t474 : tySize Try.prog 83 = some 4 := by kernel_rfl
@[simp] theorem t475 : tyZero Try.prog 83 = some [Go.Abs.AV.int Go.IntKind.i64 (0), Go.Abs.AV.int Go.IntKind.i64 (0), Go.Abs.AV.int Go.IntKind.i64 (0), Go.Abs.AV.int Go.IntKind.i64 (0)] := by kernel_rfl
@[simp] theorem t476 : zeroEl Try.prog 83 = some (Go.Abs.AV.agg [Go.Abs.AV.int Go.IntKind.i64 (0), Go.Abs.AV.int Go.IntKind.i64 (0), Go.Abs.AV.int Go.IntKind.i64 (0), Go.Abs.AV.int Go.IntKind.i64 (0)]) := by kernel_rfl
@[simp] theorem t477 : fieldsOk Try.prog 83 = true := by kernel_rfl
@[simp] theorem t478 : strP Try.prog 83 = some [Go.Abs.SKind.int Go.IntKind.i64, Go.Abs.SKind.int Go.IntKind.i64, Go.Abs.SKind.int Go.IntKind.i64, Go.Abs.SKind.int Go.IntKind.i64] := by kernel_rfl
@[simp] theorem t479 : (Try.prog.underlying 83).isSome = true := by kernel_rfl
@[simp] theorem t480 : tyAgg Try.prog 84 = some false := by kernel_rfl
@[simp] theorem t481 : tySize Try.prog 84 = some 1 := by kernel_rfl
@[simp] theorem t482 : tyZero Try.prog 84 = some [Go.Abs.AV.nilfn] := by kernel_rfl
@[simp] theorem t483 : zeroEl Try.prog 84 = some Go.Abs.AV.nilfn := by kernel_rfl
@[simp] theorem t484 : (Try.prog.underlying 84).isSome = true := by kernel_rfl
@[simp] theorem t485 : tyAgg Try.prog 85 = some false := by kernel_rfl
@[simp] theorem t486 : tySize Try.prog 85 = some 1 := by kernel_rfl
@[simp] theorem t487 : tyZero Try.prog 85 = some [Go.Abs.AV.nilfn] := by kernel_rfl
@[simp] theorem t488 : zeroEl Try.prog 85 = some Go.Abs.AV.nilfn := by kernel_rfl
@[simp] theorem t489 : (Try.prog.underlying 85).isSome = true := by kernel_rfl
@[simp] theorem t490 : tyAgg Try.prog 86 = some false := by kernel_rfl
@[simp] theorem t491 : tySize Try.prog 86 = some 1 := by kernel_rfl
@[simp] theorem t492 : tyZero Try.prog 86 = some [Go.Abs.AV.nilfn] := by kernel_rfl
@[simp] theorem t493 : zeroEl Try.prog 86 = some Go.Abs.AV.nilfn := by kernel_rfl
@[simp] theorem t494 : (Try.prog.underlying 86).isSome = true := by kernel_rfl
@[simp] theorem t510 : tyAgg Try.prog 90 = some false := by kernel_rfl
@[simp] theorem t511 : tySize Try.prog 90 = some 1 := by kernel_rfl
@[simp] theorem t512 : tyZero Try.prog 90 = some [Go.Abs.AV.nilfn] := by kernel_rfl
@[simp] theorem t513 : zeroEl Try.prog 90 = some Go.Abs.AV.nilfn := by kernel_rfl
@[simp] theorem t514 : (Try.prog.underlying 90).isSome = true := by kernel_rfl
@[simp] theorem t520 : tyAgg Try.prog 92 = some true := by kernel_rfl
@[simp] theorem t521 : tySize Try.prog 92 = some 8 := by kernel_rfl
@[simp] theorem t522 : tyZero Try.prog 92 = some [Go.Abs.AV.int Go.IntKind.u32 (0), Go.Abs.AV.int Go.IntKind.u32 (0), Go.Abs.AV.int Go.IntKind.u32 (0), Go.Abs.AV.int Go.IntKind.u32 (0), Go.Abs.AV.int Go.IntKind.u32 (0), Go.Abs.AV.int Go.IntKind.u32 (0), Go.Abs.AV.int Go.IntKind.u32 (0), Go.Abs.AV.int Go.IntKind.u32 (0)] := by kernel_rfl
@[simp] theorem t523 : arrElem Try.prog 92 = some (8, 1) := by kernel_rfl
@[simp] theorem t524 : zeroEl Try.prog 92 = some (Go.Abs.AV.agg [Go.Abs.AV.int Go.IntKind.u32 (0), Go.Abs.AV.int Go.IntKind.u32 (0), Go.Abs.AV.int Go.IntKind.u32 (0), Go.Abs.AV.int Go.IntKind.u32 (0), Go.Abs.AV.int Go.IntKind.u32 (0), Go.Abs.AV.int Go.IntKind.u32 (0), Go.Abs.AV.int Go.IntKind.u32 (0), Go.Abs.AV.int Go.IntKind.u32 (0)]) := by kernel_rfl
@[simp] theorem t525 : fieldsOk Try.prog 92 = true := by kernel_rfl
@[simp] theorem t526 : arrP Try.prog 92 = some (8, Go.Abs.SKind.int Go.IntKind.u32) := by kernel_rfl
@[simp] theorem t527 : (Try.prog.underlying 92).isSome = true := by kernel_rfl
@[simp] theorem t528 : tyAgg Try.prog 93 = some true := by kernel_rfl
@[simp] theorem t529 : tySize Try.prog 93 = some 8 := by kernel_rfl
@[simp] theorem t530 : tyZero Try.prog 93 = some [Go.Abs.AV.int Go.IntKind.u32 (0), Go.Abs.AV.int Go.IntKind.u32 (0), Go.Abs.AV.int Go.IntKind.u32 (0), Go.Abs.AV.int Go.IntKind.u32 (0), Go.Abs.AV.int Go.IntKind.u32 (0), Go.Abs.AV.int Go.IntKind.u32 (0), Go.Abs.AV.int Go.IntKind.u32 (0), Go.Abs.AV.int Go.IntKind.u32 (0)] := by kernel_rfl
@[simp] theorem t531 : arrElem Try.prog 93 = some (8, 1) := by kernel_rfl
@[simp] theorem t532 : zeroEl Try.prog 93 = some (Go.Abs.AV.agg [Go.Abs.AV.int Go.IntKind.u32 (0), Go.Abs.AV.int Go.IntKind.u32 (0), Go.Abs.AV.int Go.IntKind.u32 (0), Go.Abs.AV.int Go.IntKind.u32 (0), Go.Abs.AV.int Go.IntKind.u32 (0), Go.Abs.AV.int Go.IntKind.u32 (0), Go.Abs.AV.int Go.IntKind.u32 (0), Go.Abs.AV.int Go.IntKind.u32 (0)]) := by kernel_rfl
@[simp] theorem t533 : fieldsOk Try.prog 93 = true := by kernel_rfl
@[simp] theorem t534 : arrP Try.prog 93 = some (8, Go.Abs.SKind.int Go.IntKind.u32) := by kernel_rfl
@[simp] theorem t535 : (Try.prog.underlying 93).isSome = true := by kernel_rfl
@[simp] theorem t536 : tyAgg Try.prog 94 = some true := by kernel_rfl
@[simp] theorem t537 : tySize Try.prog 94 = some 64 := by kernel_rfl
@[simp] theorem t538 : tyZero Try.prog 94 = some [Go.Abs.AV.int Go.IntKind.u32 (0), Go.Abs.AV.int Go.IntKind.u32 (0), Go.Abs.AV.int Go.IntKind.u32 (0), Go.Abs.AV.int Go.IntKind.u32 (0), Go.Abs.AV.int Go.IntKind.u32 (0), Go.Abs.AV.int Go.IntKind.u32 (0), Go.Abs.AV.int Go.IntKind.u32 (0), Go.Abs.AV.int Go.IntKind.u32 (0), Go.Abs.AV.int Go.IntKind.u32 (0), Go.Abs.AV.int Go.IntKind.u32 (0), Go.Abs.AV.int Go.IntKind.u32 (0), Go.Abs.AV.int Go.IntKind.u32 (0), Go.Abs.AV.int Go.IntKind.u32 (0), Go.Abs.AV.int Go.IntKind.u32 (0), Go.Abs.AV.int Go.IntKind.u32 (0), Go.Abs.AV.int Go.IntKind.u32 (0), Go.Abs.AV.int Go.IntKind.u32 (0), Go.Abs.AV.int Go.IntKind.u32 (0), Go.Abs.AV.int Go.IntKind.u32 (0), Go.Abs.AV.int Go.IntKind.u32 (0), Go.Abs.AV.int Go.IntKind.u32 (0), Go.Abs.AV.int Go.IntKind.u32 (0), Go.Abs.AV.int Go.IntKind.u32 (0), Go.Abs.AV.int Go.IntKind.u32 (0), Go.Abs.AV.int Go.IntKind.u32 (0), Go.Abs.AV.int Go.IntKind.u32 (0), Go.Abs.AV.int Go.IntKind.u32 (0), Go.Abs.AV.int Go.IntKind.u32 (0), Go.Abs.AV.int Go.IntKind.u32 (0), Go.Abs.AV.int Go.IntKind.u32 (0), Go.Abs.AV.int Go.IntKind.u32 (0), Go.Abs.AV.int Go.IntKind.u32 (0), Go.Abs.AV.int Go.IntKind.u32 (0), Go.Abs.AV.int Go.IntKind.u32 (0), Go.Abs.AV.int Go.IntKind.u32 (0), Go.Abs.AV.int Go.IntKind.u32 (0), Go.Abs.AV.int Go.IntKind.u32 (0), Go.Abs.AV.int Go.IntKind.u32 (0), Go.Abs.AV.int Go.IntKind.u32 (0), Go.Abs.AV.int Go.IntKind.u32 (0), Go.Abs.AV.int Go.IntKind.u32 (0), Go.Abs.AV.int Go.IntKind.u32 (0), Go.Abs.AV.int Go.IntKind.u32 (0), Go.Abs.AV.int Go.IntKind.u32 (0), Go.Abs.AV.int Go.IntKind.u32 (0), Go.Abs.AV.int Go.IntKind.u32 (0), Go.Abs.AV.int Go.IntKind.u32 (0), Go.Abs.AV.int Go.IntKind.u32 (0), Go.Abs.AV.int Go.IntKind.u32 (0), Go.Abs.AV.int Go.IntKind.u32 (0), Go.Abs.AV.int Go.IntKind.u32 (0), Go.Abs.AV.int Go.IntKind.u32 (0), Go.Abs.AV.int Go.IntKind.u32 (0), Go.Abs.AV.int Go.IntKind.u32 (0), Go.Abs.AV.int Go.IntKind.u32 (0), Go.Abs.AV.int Go.IntKind.u32 (0), Go.Abs.AV.int Go.IntKind.u32 (0), Go.Abs.AV.int Go.IntKind.u32 (0), Go.Abs.AV.int Go.IntKind.u32 (0), Go.Abs.AV.int Go.IntKind.u32 (0), Go.Abs.AV.int Go.IntKind.u32 (0), Go.Abs.AV.int Go.IntKind.u32 (0), Go.Abs.AV.int Go.IntKind.u32 (0), Go.Abs.AV.int Go.IntKind.u32 (0)] := by kernel_rfl
@[simp] theorem t539 : arrElem Try.prog 94 = some (64, 1) := by kernel_rfl
@[simp] theorem t540 : zeroEl Try.prog 94 = some (Go.Abs.AV.agg [Go.Abs.AV.int Go.IntKind.u32 (0), Go.Abs.AV.int Go.IntKind.u32 (0), Go.Abs.AV.int Go.IntKind.u32 (0), Go.Abs.AV.int Go.IntKind.u32 (0), Go.Abs.AV.int Go.IntKind.u32 (0), Go.Abs.AV.int Go.IntKind.u32 (0), Go.Abs.AV.int Go.IntKind.u32 (0), Go.Abs.AV.int Go.IntKind.u32 (0), Go.Abs.AV.int Go.IntKind.u32 (0), Go.Abs.AV.int Go.IntKind.u32 (0), Go.Abs.AV.int Go.IntKind.u32 (0), Go.Abs.AV.int Go.IntKind.u32 (0), Go.Abs.AV.int Go.IntKind.u32 (0), Go.Abs.AV.int Go.IntKind.u32 (0), Go.Abs.AV.int Go.IntKind.u32 (0), Go.Abs.AV.int Go.IntKind.u32 (0), Go.Abs.AV.int Go.IntKind.u32 (0), Go.Abs.AV.int Go.IntKind.u32 (0), Go.Abs.AV.int Go.IntKind.u32 (0), Go.Abs.AV.int Go.IntKind.u32 (0), Go.Abs.AV.int Go.IntKind.u32 (0), Go.Abs.AV.int Go.IntKind.u32 (0), Go.Abs.AV.int Go.IntKind.u32 (0), Go.Abs.AV.int Go.IntKind.u32 (0), Go.Abs.AV.int Go.IntKind.u32 (0), Go.Abs.AV.int Go.IntKind.u32 (0), Go.Abs.AV.int Go.IntKind.u32 (0), Go.Abs.AV.int Go.IntKind.u32 (0), Go.Abs.AV.int Go.IntKind.u32 (0), Go.Abs.AV.int Go.IntKind.u32 (0), Go.Abs.AV.int Go.IntKind.u32 (0), Go.Abs.AV.int Go.IntKind.u32 (0), Go.Abs.AV.int Go.IntKind.u32 (0), Go.Abs.AV.int Go.IntKind.u32 (0), Go.Abs.AV.int Go.IntKind.u32 (0), Go.Abs.AV.int Go.IntKind.u32 (0), Go.Abs.AV.int Go.IntKind.u32 (0), Go.Abs.AV.int Go.IntKind.u32 (0), Go.Abs.AV.int Go.IntKind.u32 (0), Go.Abs.AV.int Go.IntKind.u32 (0), Go.Abs.AV.int Go.IntKind.u32 (0), Go.Abs.AV.int Go.IntKind.u32 (0), Go.Abs.AV.int Go.IntKind.u32 (0), Go.Abs.AV.int Go.IntKind.u32 (0), Go.Abs.AV.int Go.IntKind.u32 (0), Go.Abs.AV.int Go.IntKind.u32 (0), Go.Abs.AV.int Go.IntKind.u32 (0), Go.Abs.AV.int Go.IntKind.u32 (0), Go.Abs.AV.int Go.IntKind.u32 (0), Go.Abs.AV.int Go.IntKind.u32 (0), Go.Abs.AV.int Go.IntKind.u32 (0), Go.Abs.AV.int Go.IntKind.u32 (0), Go.Abs.AV.int Go.IntKind.u32 (0), Go.Abs.AV.int Go.IntKind.u32 (0), Go.Abs.AV.int Go.IntKind.u32 (0), Go.Abs.AV.int Go.IntKind.u32 (0), Go.Abs.AV.int Go.IntKind.u32 (0), Go.Abs.AV.int Go.IntKind.u32 (0), Go.Abs.AV.int Go.IntKind.u32 (0), Go.Abs.AV.int Go.IntKind.u32 (0), Go.Abs.AV.int Go.IntKind.u32 (0), Go.Abs.AV.int Go.IntKind.u32 (0), Go.Abs.AV.int Go.IntKind.u32 (0), Go.Abs.AV.int Go.IntKind.u32 (0)]) := by kernel_rfl
@[simp] theorem t541 : fieldsOk Try.prog 94 = true := by kernel_rfl
@[simp] theorem t542 : arrP Try.prog 94 = some (64, Go.Abs.SKind.int Go.IntKind.u32) := by kernel_rfl
@[simp] theorem t543 : (Try.prog.underlying 94).isSome = true := by kernel_rfl
@[simp] theorem t554 : tyAgg Try.prog 97 = some false := by kernel_rfl
@[simp] theorem t555 : tySize Try.prog 97 = some 1 := by kernel_rfl
@[simp] theorem t556 : tyZero Try.prog 97 = some [Go.Abs.AV.nilptr] := by kernel_rfl
@[simp] theorem t557 : zeroEl Try.prog 97 = some Go.Abs.AV.nilptr := by kernel_rfl
@[simp] theorem t558 : (Try.prog.underlying 97).isSome = true := by kernel_rfl
@[simp] theorem t559 : tyAgg Try.prog 98 = some false := by kernel_rfl
@[simp] theorem t560 : tySize Try.prog 98 = some 1 := by kernel_rfl
@[simp] theorem t561 : tyZero Try.prog 98 = some [Go.Abs.AV.nilfn] := by kernel_rfl
@[simp] theorem t562 : zeroEl Try.prog 98 = some Go.Abs.AV.nilfn := by kernel_rfl
@[simp] theorem t563 : (Try.prog.underlying 98).isSome = true := by kernel_rfl
@[simp] theorem t579 : tyAgg Try.prog 102 = some false := by kernel_rfl
@[simp] theorem t580 : tySize Try.prog 102 = some 1 := by kernel_rfl
@[simp] theorem t581 : tyZero Try.prog 102 = some [Go.Abs.AV.nilfn] := by kernel_rfl
@[simp] theorem t582 : zeroEl Try.prog 102 = some Go.Abs.AV.nilfn := by kernel_rfl
@[simp] theorem t583 : (Try.prog.underlying 102).isSome = true := by kernel_rfl
@[simp] theorem t589 : slcElem Try.prog 104 = some (137, 3, 24) := by kernel_rfl
@[simp] theorem t590 : isSl Try.prog 104 = true := by kernel_rfl
@[simp] theorem t591 : tyAgg Try.prog 104 = some false := by kernel_rfl
@[simp] theorem t592 : tySize Try.prog 104 = some 1 := by kernel_rfl
@[simp] theorem t593 : tyZero Try.prog 104 = some [Go.Abs.AV.lst true true []] := by kernel_rfl
@[simp] theorem t594 : zeroEl Try.prog 104 = some (Go.Abs.AV.lst true true []) := by kernel_rfl
@[simp] theorem t595 : strSlc Try.prog 104 = true := by kernel_rfl
@[simp] theorem t596 : (Try.prog.underlying 104).isSome = true := by kernel_rfl
@[simp] theorem t597 : Try.prog.underlying 104 = some (Go.TypeDesc.slice 137) := by kernel_rfl
@[simp] theorem t598 : tyAgg Try.prog 105 = some true := by kernel_rfl
@[simp] theorem t599 : tySize Try.prog 105 = some 3 := by kernel_rfl
@[simp] theorem t600 : tyZero Try.prog 105 = some [Go.Abs.AV.int Go.IntKind.i64 (0), Go.Abs.AV.lst true true [], Go.Abs.AV.lst true true []] := by kernel_rfl
@[simp] theorem t601 : zeroEl Try.prog 105 = some (Go.Abs.AV.agg [Go.Abs.AV.int Go.IntKind.i64 (0), Go.Abs.AV.lst true true [], Go.Abs.AV.lst true true []]) := by kernel_rfl
@[simp] theorem t602 : fieldsOk Try.prog 105 = true := by kernel_rfl
@[simp] theorem t603 : (Try.prog.underlying 105).isSome = true := by kernel_rfl
@[simp] theorem t604 : tyAgg Try.prog 106 = some true := by kernel_rfl
@[simp] theorem t605 : tySize Try.prog 106 = some 3 := by kernel_rfl
@[simp] theorem t606 : tyZero Try.prog 106 = some [Go.Abs.AV.int Go.IntKind.i64 (0), Go.Abs.AV.lst true true [], Go.Abs.AV.lst true true []] := by kernel_rfl
@[simp] theorem t607 : zeroEl Try.prog 106 = some (Go.Abs.AV.agg [Go.Abs.AV.int Go.IntKind.i64 (0), Go.Abs.AV.lst true true [], Go.Abs.AV.lst true true []]) := by kernel_rfl
@[simp] theorem t608 : fieldsOk Try.prog 106 = true := by kernel_rfl
@[simp] theorem t609 : (Try.prog.underlying 106).isSome = true := by kernel_rfl
@[simp] theorem t610 : tyAgg Try.prog 107 = some true := by kernel_rfl
@[simp] theorem t611 : tySize Try.prog 107 = some 2 := by kernel_rfl
@[simp] theorem t612 : tyZero Try.prog 107 = some [Go.Abs.AV.lst true true [], Go.Abs.AV.int Go.IntKind.i64 (0)] := by kernel_rfl
@[simp] theorem t613 : zeroEl Try.prog 107 = some (Go.Abs.AV.agg [Go.Abs.AV.lst true true [], Go.Abs.AV.int Go.IntKind.i64 (0)]) := by kernel_rfl
@[simp] theorem t614 : fieldsOk Try.prog 107 = true := by kernel_rfl
@[simp] theorem t615 : (Try.prog.underlying 107).isSome = true := by kernel_rfl
@[simp] theorem t616 : tyAgg Try.prog 108 = some true := by kernel_rfl
@[simp] theorem t617 : tySize Try.prog 108 = some 2 := by kernel_rfl
@[simp] theorem t618 : tyZero Try.prog 108 = some [Go.Abs.AV.lst true true [], Go.Abs.AV.int Go.IntKind.i64 (0)] := by kernel_rfl
@[simp] theorem t619 : zeroEl Try.prog 108 = some (Go.Abs.AV.agg [Go.Abs.AV.lst true true [], Go.Abs.AV.int Go.IntKind.i64 (0)]) := by kernel_rfl
@[simp] theorem t620 : fieldsOk Try.prog 108 = true := by kernel_rfl
@[simp] theorem t621 : (Try.prog.underlying 108).isSome = true := by kernel_rfl
@[simp] theorem t627 : tyAgg Try.prog 110 = some false := by kernel_rfl
@[simp] theorem t628 : tySize Try.prog 110 = some 1 := by kernel_rfl
@[simp] theorem t629 : tyZero Try.prog 110 = some [Go.Abs.AV.nilfn] := by kernel_rfl
@[simp] theorem t630 : zeroEl Try.prog 110 = some Go.Abs.AV.nilfn := by kernel_rfl
@[simp] theorem t631 : (Try.prog.underlying 110).isSome = true := by kernel_rfl
@[simp] theorem t648 : tyAgg Try.prog 114 = some false := by kernel_rfl
@[simp] theorem t649 : tySize Try.prog 114 = some 1 := by kernel_rfl
@[simp] theorem t650 : (Try.prog.underlying 114).isSome = true := by kernel_rfl
@[simp] theorem t661 : tyAgg Try.prog 117 = some false := by kernel_rfl
@[simp] theorem t662 : tySize Try.prog 117 = some 1 := by kernel_rfl
@[simp] theorem t663 : tyZero Try.prog 117 = some [Go.Abs.AV.nilfn] := by kernel_rfl
@[simp] theorem t664 : zeroEl Try.prog 117 = some Go.Abs.AV.nilfn := by kernel_rfl
@[simp] theorem t665 : (Try.prog.underlying 117).isSome = true := by kernel_rfl
@[simp] theorem t685 : tyAgg Try.prog 121 = some false := by kernel_rfl
@[simp] theorem t686 : tySize Try.prog 121 = some 1 := by kernel_rfl
@[simp] theorem t687 : tyZero Try.prog 121 = some [Go.Abs.AV.nilfn] := by kernel_rfl
@[simp] theorem t688 : zeroEl Try.prog 121 = some Go.Abs.AV.nilfn := by kernel_rfl
@[simp] theorem t689 : (Try.prog.underlying 121).isSome = true := by kernel_rfl
@[simp] theorem t695 : tyAgg Try.prog 123 = some false := by kernel_rfl
@[simp] theorem t696 : tySize Try.prog 123 = some 1 := by kernel_rfl
@[simp] theorem t697 : tyZero Try.prog 123 = some [Go.Abs.AV.nilptr] := by kernel_rfl
@[simp] theorem t698 : zeroEl Try.prog 123 = some Go.Abs.AV.nilptr := by kernel_rfl
@[simp] theorem t699 : (Try.prog.underlying 123).isSome = true := by kernel_rfl
@[simp] theorem t700 : tyAgg Try.prog 124 = some false := by kernel_rfl
@[simp] theorem t701 : tySize Try.prog 124 = some 1 := by kernel_rfl
@[simp] theorem t702 : tyZero Try.prog 124 = some [Go.Abs.AV.nilfn] := by kernel_rfl
@[simp] theorem t703 : zeroEl Try.prog 124 = some Go.Abs.AV.nilfn := by kernel_rfl
@[simp] theorem t704 : (Try.prog.underlying 124).isSome = true := by kernel_rfl
@[simp] theorem t710 : tyAgg Try.prog 126 = some true := by kernel_rfl
@[simp] theorem t711 : tySize Try.prog 126 = some 64 := by kernel_rfl
@[simp] theorem t712 : tyZero Try.prog 126 = some [Go.Abs.AV.bool false, Go.Abs.AV.bool false, Go.Abs.AV.bool false, Go.Abs.AV.bool false, Go.Abs.AV.bool false, Go.Abs.AV.bool false, Go.Abs.AV.bool false, Go.Abs.AV.bool false, Go.Abs.AV.bool false, Go.Abs.AV.bool false, Go.Abs.AV.bool false, Go.Abs.AV.bool false, Go.Abs.AV.bool false, Go.Abs.AV.bool false, Go.Abs.AV.bool false, Go.Abs.AV.bool false, Go.Abs.AV.bool false, Go.Abs.AV.bool false, Go.Abs.AV.bool false, Go.Abs.AV.bool false, Go.Abs.AV.bool false, Go.Abs.AV.bool false, Go.Abs.AV.bool false, Go.Abs.AV.bool false, Go.Abs.AV.bool false, Go.Abs.AV.bool false, Go.Abs.AV.bool false, Go.Abs.AV.bool false, Go.Abs.AV.bool false, Go.Abs.AV.bool false, Go.Abs.AV.bool false, Go.Abs.AV.bool false, Go.Abs.AV.bool false, Go.Abs.AV.bool false, Go.Abs.AV.bool false, Go.Abs.AV.bool false, Go.Abs.AV.bool false, Go.Abs.AV.bool false, Go.Abs.AV.bool false, Go.Abs.AV.bool false, Go.Abs.AV.bool false, Go.Abs.AV.bool false, Go.Abs.AV.bool false, Go.Abs.AV.bool false, Go.Abs.AV.bool false, Go.Abs.AV.bool false, Go.Abs.AV.bool false, Go.Abs.AV.bool false, Go.Abs.AV.bool false, Go.Abs.AV.bool false, Go.Abs.AV.bool false, Go.Abs.AV.bool false, Go.Abs.AV.bool false, Go.Abs.AV.bool false, Go.Abs.AV.bool false, Go.Abs.AV.bool false, Go.Abs.AV.bool false, Go.Abs.AV.bool false, Go.Abs.AV.bool false, Go.Abs.AV.bool false, Go.Abs.AV.bool false, Go.Abs.AV.bool false, Go.Abs.AV.bool false, Go.Abs.AV.bool false] := by kernel_rfl
@[simp] theorem t713 : arrElem Try.prog 126 = some (64, 1) := by kernel_rfl
@[simp] theorem t714 : zeroEl Try.prog 126 = some (Go.Abs.AV.agg [Go.Abs.AV.bool false, Go.Abs.AV.bool false, Go.Abs.AV.bool false, Go.Abs.AV.bool false, Go.Abs.AV.bool false, Go.Abs.AV.bool false, Go.Abs.AV.bool false, Go.Abs.AV.bool false, Go.Abs.AV.bool false, Go.Abs.AV.bool false, Go.Abs.AV.bool false, Go.Abs.AV.bool false, Go.Abs.AV.bool false, Go.Abs.AV.bool false, Go.Abs.AV.bool false, Go.Abs.AV.bool false, Go.Abs.AV.bool false, Go.Abs.AV.bool false, Go.Abs.AV.bool false, Go.Abs.AV.bool false, Go.Abs.AV.bool false, Go.Abs.AV.bool false, Go.Abs.AV.bool false, Go.Abs.AV.bool false, Go.Abs.AV.bool false, Go.Abs.AV.bool false, Go.Abs.AV.bool false, Go.Abs.AV.bool false, Go.Abs.AV.bool false, Go.Abs.AV.bool false, Go.Abs.AV.bool false, Go.Abs.AV.bool false, Go.Abs.AV.bool false, Go.Abs.AV.bool false, Go.Abs.AV.bool false, Go.Abs.AV.bool false, Go.Abs.AV.bool false, Go.Abs.AV.bool false, Go.Abs.AV.bool false, Go.Abs.AV.bool false, Go.Abs.AV.bool false, Go.Abs.AV.bool false, Go.Abs.AV.bool false, Go.Abs.AV.bool false, Go.Abs.AV.bool false, Go.Abs.AV.bool false, Go.Abs.AV.bool false, Go.Abs.AV.bool false, Go.Abs.AV.bool false, Go.Abs.AV.bool false, Go.Abs.AV.bool false, Go.Abs.AV.bool false, Go.Abs.AV.bool false, Go.Abs.AV.bool false, Go.Abs.AV.bool false, Go.Abs.AV.bool false, Go.Abs.AV.bool false, Go.Abs.AV.bool false, Go.Abs.AV.bool false, Go.Abs.AV.bool false, Go.Abs.AV.bool false, Go.Abs.AV.bool false, Go.Abs.AV.bool false, Go.Abs.AV.bool false]) := by kernel_rfl
@[simp] theorem t715 : fieldsOk Try.prog 126 = true := by kernel_rfl
@[simp] theorem t716 : arrP Try.prog 126 = some (64, Go.Abs.SKind.bool) := by kernel_rfl
@[simp] theorem t717 : (Try.prog.underlying 126).isSome = true := by kernel_rfl
@[simp] theorem t718 : tyAgg Try.prog 127 = some true := by kernel_rfl
@[simp] theorem t719 : tySize Try.prog 127 = some 64 := by kernel_rfl
@[simp] theorem t720 : tyZero Try.prog 127 = some [Go.Abs.AV.bool false, Go.Abs.AV.bool false, Go.Abs.AV.bool false, Go.Abs.AV.bool false, Go.Abs.AV.bool false, Go.Abs.AV.bool false, Go.Abs.AV.bool false, Go.Abs.AV.bool false, Go.Abs.AV.bool false, Go.Abs.AV.bool false, Go.Abs.AV.bool false, Go.Abs.AV.bool false, Go.Abs.AV.bool false, Go.Abs.AV.bool false, Go.Abs.AV.bool false, Go.Abs.AV.bool false, Go.Abs.AV.bool false, Go.Abs.AV.bool false, Go.Abs.AV.bool false, Go.Abs.AV.bool false, Go.Abs.AV.bool false, Go.Abs.AV.bool false, Go.Abs.AV.bool false, Go.Abs.AV.bool false, Go.Abs.AV.bool false, Go.Abs.AV.bool false, Go.Abs.AV.bool false, Go.Abs.AV.bool false, Go.Abs.AV.bool false, Go.Abs.AV.bool false, Go.Abs.AV.bool false, Go.Abs.AV.bool false, Go.Abs.AV.bool false, Go.Abs.AV.bool false, Go.Abs.AV.bool false, Go.Abs.AV.bool false, Go.Abs.AV.bool false, Go.Abs.AV.bool false, Go.Abs.AV.bool false, Go.Abs.AV.bool false, Go.Abs.AV.bool false, Go.Abs.AV.bool false, Go.Abs.AV.bool false, Go.Abs.AV.bool false, Go.Abs.AV.bool false, Go.Abs.AV.bool false, Go.Abs.AV.bool false, Go.Abs.AV.bool false, Go.Abs.AV.bool false, Go.Abs.AV.bool false, Go.Abs.AV.bool false, Go.Abs.AV.bool false, Go.Abs.AV.bool false, Go.Abs.AV.bool false, Go.Abs.AV.bool false, Go.Abs.AV.bool false, Go.Abs.AV.bool false, Go.Abs.AV.bool false, Go.Abs.AV.bool false, Go.Abs.AV.bool false, Go.Abs.AV.bool false, Go.Abs.AV.bool false, Go.Abs.AV.bool false, Go.Abs.AV.bool false] := by kernel_rfl
@[simp] theorem t721 : arrElem Try.prog 127 = some (64, 1) := by kernel_rfl
@[simp] theorem t722 : zeroEl Try.prog 127 = some (Go.Abs.AV.agg [Go.Abs.AV.bool false, Go.Abs.AV.bool false, Go.Abs.AV.bool false, Go.Abs.AV.bool false, Go.Abs.AV.bool false, Go.Abs.AV.bool false, Go.Abs.AV.bool false, Go.Abs.AV.bool false, Go.Abs.AV.bool false, Go.Abs.AV.bool false, Go.Abs.AV.bool false, Go.Abs.AV.bool false, Go.Abs.AV.bool false, Go.Abs.AV.bool false, Go.Abs.AV.bool false, Go.Abs.AV.bool false, Go.Abs.AV.bool false, Go.Abs.AV.bool false, Go.Abs.AV.bool false, Go.Abs.AV.bool false, Go.Abs.AV.bool false, Go.Abs.AV.bool false, Go.Abs.AV.bool false, Go.Abs.AV.bool false, Go.Abs.AV.bool false, Go.Abs.AV.bool false, Go.Abs.AV.bool false, Go.Abs.AV.bool false, Go.Abs.AV.bool false, Go.Abs.AV.bool false, Go.Abs.AV.bool false, Go.Abs.AV.bool false, Go.Abs.AV.bool false, Go.Abs.AV.bool false, Go.Abs.AV.bool false, Go.Abs.AV.bool false, Go.Abs.AV.bool false, Go.Abs.AV.bool false, Go.Abs.AV.bool false, Go.Abs.AV.bool false, Go.Abs.AV.bool false, Go.Abs.AV.bool false, Go.Abs.AV.bool false, Go.Abs.AV.bool false, Go.Abs.AV.bool false, Go.Abs.AV.bool false, Go.Abs.AV.bool false, Go.Abs.AV.bool false, Go.Abs.AV.bool false, Go.Abs.AV.bool false, Go.Abs.AV.bool false, Go.Abs.AV.bool false, Go.Abs.AV.bool false, Go.Abs.AV.bool false, Go.Abs.AV.bool false, Go.Abs.AV.bool false, Go.Abs.AV.bool false, Go.Abs.AV.bool false, Go.Abs.AV.bool false, Go.Abs.AV.bool false, Go.Abs.AV.bool false, Go.Abs.AV.bool false, Go.Abs.AV.bool false, Go.Abs.AV.bool false]) := by kernel_rfl
@[simp] theorem t723 : fieldsOk Try.prog 127 = true := by kernel_rfl
@[simp] theorem t724 : arrP Try.prog 127 = some (64, Go.Abs.SKind.bool) := by kernel_rfl
@[simp] theorem t725 : (Try.prog.underlying 127).isSome = true := by kernel_rfl
@[simp] theorem t736 : tyAgg Try.prog 130 = some false := by kernel_rfl
@[simp] theorem t737 : tySize Try.prog 130 = some 1 := by kernel_rfl
@[simp] theorem t738 : tyZero Try.prog 130 = some [Go.Abs.AV.nilfn] := by kernel_rfl
@[simp] theorem t739 : zeroEl Try.prog 130 = some Go.Abs.AV.nilfn := by kernel_rfl
@[simp] theorem t740 : (Try.prog.underlying 130).isSome = true := by kernel_rfl
@[simp] theorem t741 : tyAgg Try.prog 131 = some false := by kernel_rfl
@[simp] theorem t742 : tySize Try.prog 131 = some 1 := by kernel_rfl
@[simp] theorem t743 : tyZero Try.prog 131 = some [Go.Abs.AV.nilfn] := by kernel_rfl
@[simp] theorem t744 : zeroEl Try.prog 131 = some Go.Abs.AV.nilfn := by kernel_rfl
@[simp] theorem t745 : (Try.prog.underlying 131).isSome = true := by kernel_rfl
@[simp] theorem t746 : tyAgg Try.prog 132 = some false := by kernel_rfl
@[simp] theorem t747 : tySize Try.prog 132 = some 1 := by kernel_rfl
@[simp] theorem t748 : tyZero Try.prog 132 = some [Go.Abs.AV.nilfn] := by kernel_rfl
@[simp] theorem t749 : zeroEl Try.prog 132 = some Go.Abs.AV.nilfn := by kernel_rfl
@[simp] theorem t750 : (Try.prog.underlying 132).isSome = true := by kernel_rfl
@[simp] theorem t751 : tyAgg Try.prog 133 = some false := by kernel_rfl
@[simp] theorem t752 : tySize Try.prog 133 = some 1 := by kernel_rfl
@[simp] theorem t753 : tyZero Try.prog 133 = some [Go.Abs.AV.nilfn] := by kernel_rfl
@[simp] theorem t754 : zeroEl Try.prog 133 = some Go.Abs.AV.nilfn := by kernel_rfl
@[simp] theorem t755 : (Try.prog.underlying 133).isSome = true := by kernel_rfl
@[simp] theorem t761 : tyAgg Try.prog 135 = some false := by kernel_rfl
@[simp] theorem t762 : tySize Try.prog 135 = some 1 := by kernel_rfl
@[simp] theorem t763 : tyZero Try.prog 135 = some [Go.Abs.AV.nilfn] := by kernel_rfl
@[simp] theorem t764 : zeroEl Try.prog 135 = some Go.Abs.AV.nilfn := by kernel_rfl
@[simp] theorem t765 : (Try.prog.underlying 135).isSome = true := by kernel_rfl
@[simp] theorem t766 : tyAgg Try.prog 136 = some true := by kernel_rfl
@[simp] theorem t767 : tySize Try.prog 136 = some 3 := by kernel_rfl
@[simp] theorem t768 : tyZero Try.prog 136 = some [Go.Abs.AV.int Go.IntKind.i64 (0), Go.Abs.AV.int Go.IntKind.i64 (0), Go.Abs.AV.int Go.IntKind.i64 (0)] := by kernel_rfl
@[simp] theorem t769 : zeroEl Try.prog 136 = some (Go.Abs.AV.agg [Go.Abs.AV.int Go.IntKind.i64 (0), Go.Abs.AV.int Go.IntKind.i64 (0), Go.Abs.AV.int Go.IntKind.i64 (0)]) := by kernel_rfl
@[simp] theorem t770 : fieldsOk Try.prog 136 = true := by kernel_rfl
@[simp] theorem t771 : strP Try.prog 136 = some [Go.Abs.SKind.int Go.IntKind.i64, Go.Abs.SKind.int Go.IntKind.i64, Go.Abs.SKind.int Go.IntKind.i64] := by kernel_rfl
@[simp] theorem t772 : (Try.prog.underlying 136).isSome = true := by kernel_rfl
@[simp] theorem t773 : tyAgg Try.prog 137 = some true := by kernel_rfl
@[simp] theorem t774 : tySize Try.prog 137 = some 3 := by kernel_rfl
@[simp] theorem t775 : tyZero Try.prog 137 = some [Go.Abs.AV.int Go.IntKind.i64 (0), Go.Abs.AV.int Go.IntKind.i64 (0), Go.Abs.AV.int Go.IntKind.i64 (0)] := by kernel_rfl
@[simp] theorem t776 : zeroEl Try.prog 137 = some (Go.Abs.AV.agg [Go.Abs.AV.int Go.IntKind.i64 (0), Go.Abs.AV.int Go.IntKind.i64 (0), Go.Abs.AV.int Go.IntKind.i64 (0)]) := by kernel_rfl
@[simp] theorem t777 : fieldsOk Try.prog 137 = true := by kernel_rfl
@[simp] theorem t778 : strP Try.prog 137 = some [Go.Abs.SKind.int Go.IntKind.i64, Go.Abs.SKind.int Go.IntKind.i64, Go.Abs.SKind.int Go.IntKind.i64] := by kernel_rfl
@[simp] theorem t779 : (Try.prog.underlying 137).isSome = true := by kernel_rfl
@[simp] theorem t790 : tyAgg Try.prog 140 = some false := by kernel_rfl
@[simp] theorem t791 : tySize Try.prog 140 = some 1 := by kernel_rfl
@[simp] theorem t792 : tyZero Try.prog 140 = some [Go.Abs.AV.nilfn] := by kernel_rfl
@[simp] theorem t793 : zeroEl Try.prog 140 = some Go.Abs.AV.nilfn := by kernel_rfl
@[simp] theorem t794 : (Try.prog.underlying 140).isSome = true := by kernel_rfl
@[simp] theorem t795 : tyAgg Try.prog 141 = some true := by kernel_rfl
@[simp] theorem t796 : tySize Try.prog 141 = some 3 := by kernel_rfl
@[simp] theorem t797 : tyZero Try.prog 141 = some [Go.Abs.AV.int Go.IntKind.i64 (0), Go.Abs.AV.int Go.IntKind.i64 (0), Go.Abs.AV.str { data := { toList := [] } }] := by kernel_rfl
@[simp] theorem t798 : zeroEl Try.prog 141 = some (Go.Abs.AV.agg [Go.Abs.AV.int Go.IntKind.i64 (0), Go.Abs.AV.int Go.IntKind.i64 (0), Go.Abs.AV.str { data := { toList := [] } }]) := by kernel_rfl
@[simp] theorem t799 : fieldsOk Try.prog 141 = true := by kernel_rfl
@[simp] theorem t800 : strP Try.prog 141 = some [Go.Abs.SKind.int Go.IntKind.i64, Go.Abs.SKind.int Go.IntKind.i64, Go.Abs.SKind.str] := by kernel_rfl
@[simp] theorem t801 : (Try.prog.underlying 141).isSome = true := by kernel_rfl
@[simp] theorem t802 : tyAgg Try.prog 142 = some true := by kernel_rfl
@[simp] theorem t803 : tySize Try.prog 142 = some 3 := by kernel_rfl
@[simp] theorem t804 : tyZero Try.prog 142 = some [Go.Abs.AV.int Go.IntKind.i64 (0), Go.Abs.AV.int Go.IntKind.i64 (0), Go.Abs.AV.str { data := { toList := [] } }] := by kernel_rfl
@[simp] theorem t805 : zeroEl Try.prog 142 = some (Go.Abs.AV.agg [Go.Abs.AV.int Go.IntKind.i64 (0), Go.Abs.AV.int Go.IntKind.i64 (0), Go.Abs.AV.str { data := { toList := [] } }]) := by kernel_rfl
@[simp] theorem t806 : fieldsOk Try.prog 142 = true := by kernel_rfl
@[simp] theorem t807 : strP Try.prog 142 = some [Go.Abs.SKind.int Go.IntKind.i64, Go.Abs.SKind.int Go.IntKind.i64, Go.Abs.SKind.str] := by kernel_rfl
@[simp] theorem t808 : (Try.prog.underlying 142).isSome = true := by kernel_rfl
@[simp] theorem t809 : tyAgg Try.prog 143 = some false := by kernel_rfl
@[simp] theorem t810 : tySize Try.prog 143 = some 1 := by kernel_rfl
@[simp] theorem t811 : tyZero Try.prog 143 = some [Go.Abs.AV.nilfn] := by kernel_rfl
@[simp] theorem t812 : zeroEl Try.prog 143 = some Go.Abs.AV.nilfn := by kernel_rfl
@[simp] theorem t813 : (Try.prog.underlying 143).isSome = true := by kernel_rfl
@[simp] theorem t842 : tyAgg Try.prog 149 = some false := by kernel_rfl
@[simp] theorem t843 : tySize Try.prog 149 = some 1 := by kernel_rfl
@[simp] theorem t844 : tyZero Try.prog 149 = some [Go.Abs.AV.nilfn] := by kernel_rfl
@[simp] theorem t845 : zeroEl Try.prog 149 = some Go.Abs.AV.nilfn := by kernel_rfl
@[simp] theorem t846 : (Try.prog.underlying 149).isSome = true := by kernel_rfl
@[simp] theorem t847 : tyAgg Try.prog 150 = some true := by kernel_rfl
@[simp] theorem t848 : tySize Try.prog 150 = some 4 := by kernel_rfl
@[simp] theorem t849 : tyZero Try.prog 150 = some [Go.Abs.AV.nilptr, Go.Abs.AV.nilptr, Go.Abs.AV.nilptr, Go.Abs.AV.str { data := { toList := [] } }] := by kernel_rfl
@[simp] theorem t850 : zeroEl Try.prog 150 = some (Go.Abs.AV.agg [Go.Abs.AV.nilptr, Go.Abs.AV.nilptr, Go.Abs.AV.nilptr, Go.Abs.AV.str { data := { toList := [] } }]) := by kernel_rfl
@[simp] theorem t851 : fieldsOk Try.prog 150 = true := by kernel_rfl
@[simp] theorem t852 : (Try.prog.underlying 150).isSome = true := by kernel_rfl
@[simp] theorem t853 : tyAgg Try.prog 151 = some true := by kernel_rfl
@[simp] theorem t854 : tySize Try.prog 151 = some 4 := by kernel_rfl
@[simp] theorem t855 : tyZero Try.prog 151 = some [Go.Abs.AV.nilptr, Go.Abs.AV.nilptr, Go.Abs.AV.nilptr, Go.Abs.AV.str { data := { toList := [] } }] := by kernel_rfl
@[simp] theorem t856 : zeroEl Try.prog 151 = some (Go.Abs.AV.agg [Go.Abs.AV.nilptr, Go.Abs.AV.nilptr, Go.Abs.AV.nilptr, Go.Abs.AV.str { data := { toList := [] } }]) := by kernel_rfl
@[simp] theorem t857 : fieldsOk Try.prog 151 = true := by kernel_rfl
@[simp] theorem t858 : (Try.prog.underlying 151).isSome = true := by kernel_rfl
@[simp] theorem t859 : tyAgg Try.prog 152 = some true := by kernel_rfl
@[simp] theorem t860 : tySize Try.prog 152 = some 0 := by kernel_rfl
@[simp] theorem t861 : tyZero Try.prog 152 = some [] := by kernel_rfl
@[simp] theorem t862 : arrElem Try.prog 152 = some (0, 1) := by kernel_rfl
@[simp] theorem t863 : zeroEl Try.prog 152 = some (Go.Abs.AV.agg []) := by kernel_rfl
@[simp] theorem t864 : fieldsOk Try.prog 152 = true := by kernel_rfl
@[simp] theorem t865 : (Try.prog.underlying 152).isSome = true := by kernel_rfl
@[simp] theorem t866 : tyAgg Try.prog 153 = some true := by kernel_rfl
@[simp] theorem t867 : tySize Try.prog 153 = some 0 := by kernel_rfl
@[simp] theorem t868 : tyZero Try.prog 153 = some [] := by kernel_rfl
@[simp] theorem t869 : zeroEl Try.prog 153 = some (Go.Abs.AV.agg []) := by kernel_rfl
@[simp] theorem t870 : fieldsOk Try.prog 153 = true := by kernel_rfl
@[simp] theorem t871 : (Try.prog.underlying 153).isSome = true := by kernel_rfl
@[simp] theorem t872 : tyAgg Try.prog 154 = some true := by kernel_rfl
@[simp] theorem t873 : tySize Try.prog 154 = some 0 := by kernel_rfl
@[simp] theorem t874 : tyZero Try.prog 154 = some [] := by kernel_rfl
@[simp] theorem t875 : zeroEl Try.prog 154 = some (Go.Abs.AV.agg []) := by kernel_rfl
@[simp] theorem t876 : fieldsOk Try.prog 154 = true := by kernel_rfl
@[simp] theorem t877 : (Try.prog.underlying 154).isSome = true := by kernel_rfl
@[simp] theorem t883 : tyAgg Try.prog 156 = some false := by kernel_rfl
@[simp] theorem t884 : tySize Try.prog 156 = some 1 := by kernel_rfl
@[simp] theorem t885 : tyZero Try.prog 156 = some [Go.Abs.AV.int Go.IntKind.u8 (0)] := by kernel_rfl
@[simp] theorem t886 : zeroEl Try.prog 156 = some (Go.Abs.AV.int Go.IntKind.u8 (0)) := by kernel_rfl
@[simp] theorem t887 : intTy Try.prog 156 = some Go.IntKind.u8 := by kernel_rfl
@[simp] theorem t888 : (Try.prog.underlying 156).isSome = true := by kernel_rfl
@[simp] theorem t889 : tyAgg Try.prog 157 = some false := by kernel_rfl
@[simp] theorem t890 : tySize Try.prog 157 = some 1 := by kernel_rfl
@[simp] theorem t891 : tyZero Try.prog 157 = some [Go.Abs.AV.int Go.IntKind.u8 (0)] := by kernel_rfl
@[simp] theorem t892 : zeroEl Try.prog 157 = some (Go.Abs.AV.int Go.IntKind.u8 (0)) := by kernel_rfl
@[simp] theorem t893 : intTy Try.prog 157 = some Go.IntKind.u8 := by kernel_rfl
@[simp] theorem t894 : (Try.prog.underlying 157).isSome = true := by kernel_rfl
@[simp] theorem t895 : tyAgg Try.prog 158 = some false := by kernel_rfl
@[simp] theorem t896 : tySize Try.prog 158 = some 1 := by kernel_rfl
@[simp] theorem t897 : tyZero Try.prog 158 = some [Go.Abs.AV.nilfn] := by kernel_rfl
@[simp] theorem t898 : zeroEl Try.prog 158 = some Go.Abs.AV.nilfn := by kernel_rfl
@[simp] theorem t899 : (Try.prog.underlying 158).isSome = true := by kernel_rfl
@[simp] theorem t900 : tyAgg Try.prog 159 = some false := by kernel_rfl
@[simp] theorem t901 : tySize Try.prog 159 = some 1 := by kernel_rfl
@[simp] theorem t902 : tyZero Try.prog 159 = some [Go.Abs.AV.nilptr] := by kernel_rfl
@[simp] theorem t903 : zeroEl Try.prog 159 = some Go.Abs.AV.nilptr := by kernel_rfl
@[simp] theorem t904 : (Try.prog.underlying 159).isSome = true := by kernel_rfl
@[simp] theorem t905 : tyAgg Try.prog 160 = some false := by kernel_rfl
@[simp] theorem t906 : tySize Try.prog 160 = some 1 := by kernel_rfl
@[simp] theorem t907 : tyZero Try.prog 160 = some [Go.Abs.AV.int Go.IntKind.i32 (0)] := by kernel_rfl
@[simp] theorem t908 : zeroEl Try.prog 160 = some (Go.Abs.AV.int Go.IntKind.i32 (0)) := by kernel_rfl
@[simp] theorem t909 : intTy Try.prog 160 = some Go.IntKind.i32 := by kernel_rfl
@[simp] theorem t910 : (Try.prog.underlying 160).isSome = true := by kernel_rfl
@[simp] theorem t911 : tyAgg Try.prog 161 = some false := by kernel_rfl
@[simp] theorem t912 : tySize Try.prog 161 = some 1 := by kernel_rfl
@[simp] theorem t913 : tyZero Try.prog 161 = some [Go.Abs.AV.int Go.IntKind.i32 (0)] := by kernel_rfl
@[simp] theorem t914 : zeroEl Try.prog 161 = some (Go.Abs.AV.int Go.IntKind.i32 (0)) := by kernel_rfl
@[simp] theorem t915 : intTy Try.prog 161 = some Go.IntKind.i32 := by kernel_rfl
@[simp] theorem t916 : (Try.prog.underlying 161).isSome = true := by kernel_rfl
@[simp] theorem t917 : tyAgg Try.prog 162 = some true := by kernel_rfl
@[simp] theorem t918 : tySize Try.prog 162 = some 11 := by kernel_rfl
@[simp] theorem t919 : tyZero Try.prog 162 = some [Go.Abs.AV.int Go.IntKind.u64 (0), Go.Abs.AV.int Go.IntKind.u64 (0), Go.Abs.AV.int Go.IntKind.u32 (0), Go.Abs.AV.int Go.IntKind.u8 (0), Go.Abs.AV.int Go.IntKind.u8 (0), Go.Abs.AV.int Go.IntKind.u8 (0), Go.Abs.AV.int Go.IntKind.u8 (0), Go.Abs.AV.nilfn, Go.Abs.AV.nilptr, Go.Abs.AV.int Go.IntKind.i32 (0), Go.Abs.AV.int Go.IntKind.i32 (0)] := by kernel_rfl
@[simp] theorem t920 : zeroEl Try.prog 162 = some (Go.Abs.AV.agg [Go.Abs.AV.int Go.IntKind.u64 (0), Go.Abs.AV.int Go.IntKind.u64 (0), Go.Abs.AV.int Go.IntKind.u32 (0), Go.Abs.AV.int Go.IntKind.u8 (0), Go.Abs.AV.int Go.IntKind.u8 (0), Go.Abs.AV.int Go.IntKind.u8 (0), Go.Abs.AV.int Go.IntKind.u8 (0), Go.Abs.AV.nilfn, Go.Abs.AV.nilptr, Go.Abs.AV.int Go.IntKind.i32 (0), Go.Abs.AV.int Go.IntKind.i32 (0)]) := by kernel_rfl
@[simp] theorem t921 : fieldsOk Try.prog 162 = true := by kernel_rfl
@[simp] theorem t922 : (Try.prog.underlying 162).isSome = true := by kernel_rfl
@[simp] theorem t923 : tyAgg Try.prog 163 = some true := by kernel_rfl
@[simp] theorem t924 : tySize Try.prog 163 = some 11 := by kernel_rfl
@[simp] theorem t925 : tyZero Try.prog 163 = some [Go.Abs.AV.int Go.IntKind.u64 (0), Go.Abs.AV.int Go.IntKind.u64 (0), Go.Abs.AV.int Go.IntKind.u32 (0), Go.Abs.AV.int Go.IntKind.u8 (0), Go.Abs.AV.int Go.IntKind.u8 (0), Go.Abs.AV.int Go.IntKind.u8 (0), Go.Abs.AV.int Go.IntKind.u8 (0), Go.Abs.AV.nilfn, Go.Abs.AV.nilptr, Go.Abs.AV.int Go.IntKind.i32 (0), Go.Abs.AV.int Go.IntKind.i32 (0)] := by kernel_rfl
@[simp] theorem t926 : zeroEl Try.prog 163 = some (Go.Abs.AV.agg [Go.Abs.AV.int Go.IntKind.u64 (0), Go.Abs.AV.int Go.IntKind.u64 (0), Go.Abs.AV.int Go.IntKind.u32 (0), Go.Abs.AV.int Go.IntKind.u8 (0), Go.Abs.AV.int Go.IntKind.u8 (0), Go.Abs.AV.int Go.IntKind.u8 (0), Go.Abs.AV.int Go.IntKind.u8 (0), Go.Abs.AV.nilfn, Go.Abs.AV.nilptr, Go.Abs.AV.int Go.IntKind.i32 (0), Go.Abs.AV.int Go.IntKind.i32 (0)]) := by kernel_rfl
@[simp] theorem t927 : fieldsOk Try.prog 163 = true := by kernel_rfl
@[simp] theorem t928 : (Try.prog.underlying 163).isSome = true := by kernel_rfl
@[simp] theorem t934 : fldPl Try.prog 33 0 = some (0, 1) := by kernel_rfl
@[simp] theorem t935 : fldOff Try.prog 33 0 = some 0 := by kernel_rfl
@[simp] theorem t936 : fldSel Try.prog 33 0 = some (0, none) := by kernel_rfl
@[simp] theorem t937 : fldPl Try.prog 33 1 = some (1, 1) := by kernel_rfl
@[simp] theorem t938 : fldOff Try.prog 33 1 = some 1 := by kernel_rfl
@[simp] theorem t939 : fldSel Try.prog 33 1 = some (1, none) := by kernel_rfl
@[simp] theorem t940 : fldPl Try.prog 33 2 = some (2, 1) := by kernel_rfl
@[simp] theorem t941 : fldOff Try.prog 33 2 = some 2 := by kernel_rfl
@[simp] theorem t942 : fldSel Try.prog 33 2 = some (2, none) := by kernel_rfl
@[simp] theorem t943 : fldPl Try.prog 35 0 = some (0, 1) := by kernel_rfl
@[simp] theorem t944 : fldOff Try.prog 35 0 = some 0 := by kernel_rfl
@[simp] theorem t945 : fldSel Try.prog 35 0 = some (0, none) := by kernel_rfl
@[simp] theorem t946 : fldPl Try.prog 35 1 = some (1, 3) := by kernel_rfl
@[simp] theorem t947 : fldOff Try.prog 35 1 = some 1 := by kernel_rfl
@[simp] theorem t948 : fldSel Try.prog 35 1 = some (1, some 3) := by kernel_rfl
@[simp] theorem t949 : fldPl Try.prog 35 2 = some (4, 1) := by kernel_rfl
@[simp] theorem t950 : fldOff Try.prog 35 2 = some 4 := by kernel_rfl
@[simp] theorem t951 : fldSel Try.prog 35 2 = some (4, none) := by kernel_rfl
@[simp] theorem t952 : fldPl Try.prog 35 3 = some (5, 1) := by kernel_rfl
@[simp] theorem t953 : fldOff Try.prog 35 3 = some 5 := by kernel_rfl
@[simp] theorem t954 : fldSel Try.prog 35 3 = some (5, none) := by kernel_rfl
@[simp] theorem t955 : fldPl Try.prog 35 4 = some (6, 1) := by kernel_rfl
@[simp] theorem t956 : fldOff Try.prog 35 4 = some 6 := by kernel_rfl
@[simp] theorem t957 : fldSel Try.prog 35 4 = some (6, none) := by kernel_rfl
@[simp] theorem t958 : fldPl Try.prog 44 0 = some (0, 1) := by kernel_rfl
@[simp] theorem t959 : fldOff Try.prog 44 0 = some 0 := by kernel_rfl
@[simp] theorem t960 : fldSel Try.prog 44 0 = some (0, none) := by kernel_rfl
@[simp] theorem t961 : fldPl Try.prog 44 1 = some (1, 1) := by kernel_rfl
@[simp] theorem t962 : fldOff Try.prog 44 1 = some 1 := by kernel_rfl
@[simp] theorem t963 : fldSel Try.prog 44 1 = some (1, none) := by kernel_rfl
@[simp] theorem t964 : fldPl Try.prog 44 2 = some (2, 1) := by kernel_rfl
@[simp] theorem t965 : fldOff Try.prog 44 2 = some 2 := by kernel_rfl
@[simp] theorem t966 : fldSel Try.prog 44 2 = some (2, none) := by kernel_rfl
@[simp] theorem t967 : fldPl Try.prog 48 0 = some (0, 1) := by kernel_rfl
@[simp] theorem t968 : fldOff Try.prog 48 0 = some 0 := by kernel_rfl
@[simp] theorem t969 : fldSel Try.prog 48 0 = some (0, none) := by kernel_rfl
@[simp] theorem t970 : fldPl Try.prog 48 1 = some (1, 1) := by kernel_rfl
@[simp] theorem t971 : fldOff Try.prog 48 1 = some 1 := by kernel_rfl
@[simp] theorem t972 : fldSel Try.prog 48 1 = some (1, none) := by kernel_rfl
@[simp] theorem t973 : fldPl Try.prog 50 0 = some (0, 1) := by kernel_rfl
@[simp] theorem t974 : fldOff Try.prog 50 0 = some 0 := by kernel_rfl
@[simp] theorem t975 : fldSel Try.prog 50 0 = some (0, none) := by kernel_rfl
@[simp] theorem t976 : fldPl Try.prog 50 1 = some (1, 1) := by kernel_rfl
@[simp] theorem t977 : fldOff Try.prog 50 1 = some 1 := by kernel_rfl
@[simp] theorem t978 : fldSel Try.prog 50 1 = some (1, none) := by kernel_rfl
@[simp] theorem t979 : fldPl Try.prog 50 2 = some (2, 1) := by kernel_rfl
@[simp] theorem t980 : fldOff Try.prog 50 2 = some 2 := by kernel_rfl
@[simp] theorem t981 : fldSel Try.prog 50 2 = some (2, none) := by kernel_rfl
@[simp] theorem t982 : fldPl Try.prog 50 3 = some (3, 1) := by kernel_rfl
@[simp] theorem t983 : fldOff Try.prog 50 3 = some 3 := by kernel_rfl
@[simp] theorem t984 : fldSel Try.prog 50 3 = some (3, none) := by kernel_rfl
@[simp] theorem t985 : fldPl Try.prog 50 4 = some (4, 1) := by kernel_rfl
@[simp] theorem t986 : fldOff Try.prog 50 4 = some 4 := by kernel_rfl
@[simp] theorem t987 : fldSel Try.prog 50 4 = some (4, none) := by kernel_rfl
@[simp] theorem t988 : fldPl Try.prog 50 5 = some (5, 1) := by kernel_rfl
@[simp] theorem t989 : fldOff Try.prog 50 5 = some 5 := by kernel_rfl
@[simp] theorem t990 : fldSel Try.prog 50 5 = some (5, none) := by kernel_rfl
@[simp] theorem t991 : fldPl Try.prog 50 6 = some (6, 1) := by kernel_rfl
@[simp] theorem t992 : fldOff Try.prog 50 6 = some 6 := by kernel_rfl
@[simp] theorem t993 : fldSel Try.prog 50 6 = some (6, none) := by kernel_rfl
@[simp] theorem t994 : fldPl Try.prog 50 7 = some (7, 1) := by kernel_rfl
@[simp] theorem t995 : fldOff Try.prog 50 7 = some 7 := by kernel_rfl
@[simp] theorem t996 : fldSel Try.prog 50 7 = some (7, none) := by kernel_rfl
@[simp] theorem t997 : fldPl Try.prog 50 8 = some (8, 1) := by kernel_rfl
@[simp] theorem t998 : fldOff Try.prog 50 8 = some 8 := by kernel_rfl
@[simp] theorem t999 : fldSel Try.prog 50 8 = some (8, none) := by kernel_rfl
@[simp] theorem t1000 : fldPl Try.prog 50 9 = some (9, 1) := by kernel_rfl
@[simp] theorem t1001 : fldOff Try.prog 50 9 = some 9 := by kernel_rfl
@[simp] theorem t1002 : fldSel Try.prog 50 9 = some (9, none) := by kernel_rfl
@[simp] theorem t1003 : fldPl Try.prog 50 10 = some (10, 1) := by kernel_rfl
@[simp] theorem t1004 : fldOff Try.prog 50 10 = some 10 := by kernel_rfl
@[simp] theorem t1005 : fldSel Try.prog 50 10 = some (10, none) := by kernel_rfl
@[simp] theorem t1006 : fldPl Try.prog 50 11 = some (11, 2) := by kernel_rfl
@[simp] theorem t1007 : fldOff Try.prog 50 11 = some 11 := by kernel_rfl
@[simp] theorem t1008 : fldSel Try.prog 50 11 = some (11, some 2) := by kernel_rfl
@[simp] theorem t1009 : fldPl Try.prog 53 0 = some (0, 1) := by kernel_rfl
@[simp] theorem t1010 : fldOff Try.prog 53 0 = some 0 := by kernel_rfl
@[simp] theorem t1011 : fldSel Try.prog 53 0 = some (0, none) := by kernel_rfl
@[simp] theorem t1012 : fldPl Try.prog 53 1 = some (1, 1) := by kernel_rfl
@[simp] theorem t1013 : fldOff Try.prog 53 1 = some 1 := by kernel_rfl
@[simp] theorem t1014 : fldSel Try.prog 53 1 = some (1, none) := by kernel_rfl
@[simp] theorem t1015 : fldPl Try.prog 53 2 = some (2, 1) := by kernel_rfl
@[simp] theorem t1016 : fldOff Try.prog 53 2 = some 2 := by kernel_rfl
@[simp] theorem t1017 : fldSel Try.prog 53 2 = some (2, none) := by kernel_rfl
@[simp] theorem t1018 : fldPl Try.prog 53 3 = some (3, 1) := by kernel_rfl
@[simp] theorem t1019 : fldOff Try.prog 53 3 = some 3 := by kernel_rfl
@[simp] theorem t1020 : fldSel Try.prog 53 3 = some (3, none) := by kernel_rfl
@[simp] theorem t1021 : fldPl Try.prog 53 4 = some (4, 1) := by kernel_rfl
@[simp] theorem t1022 : fldOff Try.prog 53 4 = some 4 := by kernel_rfl
@[simp] theorem t1023 : fldSel Try.prog 53 4 = some (4, none) := by kernel_rfl
@[simp] theorem t1024 : fldPl Try.prog 53 5 = some (5, 1) := by kernel_rfl
@[simp] theorem t1025 : fldOff Try.prog 53 5 = some 5 := by kernel_rfl
@[simp] theorem t1026 : fldSel Try.prog 53 5 = some (5, none) := by kernel_rfl
@[simp] theorem t1027 : fldPl Try.prog 83 0 = some (0, 1) := by kernel_rfl
@[simp] theorem t1028 : fldOff Try.prog 83 0 = some 0 := by kernel_rfl
@[simp] theorem t1029 : fldSel Try.prog 83 0 = some (0, none) := by kernel_rfl
@[simp] theorem t1030 : fldPl Try.prog 83 1 = some (1, 1) := by kernel_rfl
@[simp] theorem t1031 : fldOff Try.prog 83 1 = some 1 := by kernel_rfl
@[simp] theorem t1032 : fldSel Try.prog 83 1 = some (1, none) := by kernel_rfl
@[simp] theorem t1033 : fldPl Try.prog 83 2 = some (2, 1) := by kernel_rfl
@[simp] theorem t1034 : fldOff Try.prog 83 2 = some 2 := by kernel_rfl
@[simp] theorem t1035 : fldSel Try.prog 83 2 = some (2, none) := by kernel_rfl
@[simp] theorem t1036 : fldPl Try.prog 83 3 = some (3, 1) := by kernel_rfl
@[simp] theorem t1037 : fldOff Try.prog 83 3 = some 3 := by kernel_rfl
@[simp] theorem t1038 : fldSel Try.prog 83 3 = some (3, none) := by kernel_rfl
@[simp] theorem t1039 : fldPl Try.prog 93 0 = some (0, 1) := by kernel_rfl
@[simp] theorem t1040 : fldPl Try.prog 93 1 = some (1, 1) := by kernel_rfl
@[simp] theorem t1041 : fldPl Try.prog 93 2 = some (2, 1) := by kernel_rfl
@[simp] theorem t1042 : fldPl Try.prog 93 3 = some (3, 1) := by kernel_rfl
@[simp] theorem t1043 : fldPl Try.prog 93 4 = some (4, 1) := by kernel_rfl
@[simp] theorem t1044 : fldPl Try.prog 93 5 = some (5, 1) := by kernel_rfl
@[simp] theorem t1045 : fldPl Try.prog 93 6 = some (6, 1) := by kernel_rfl
@[simp] theorem t1046 : fldPl Try.prog 93 7 = some (7, 1) := by kernel_rfl
@[simp] theorem t1047 : fldPl Try.prog 94 0 = some (0, 1) := by kernel_rfl
@[simp] theorem t1048 : fldPl Try.prog 94 1 = some (1, 1) := by kernel_rfl
@[simp] theorem t1049 : fldPl Try.prog 94 2 = some (2, 1) := by kernel_rfl
@[simp] theorem t1050 : fldPl Try.prog 94 3 = some (3, 1) := by kernel_rfl
@[simp] theorem t1051 : fldPl Try.prog 94 4 = some (4, 1) := by kernel_rfl
@[simp] theorem t1052 : fldPl Try.prog 94 5 = some (5, 1) := by kernel_rfl
@[simp] theorem t1053 : fldPl Try.prog 94 6 = some (6, 1) := by kernel_rfl
@[simp] theorem t1054 : fldPl Try.prog 94 7 = some (7, 1) := by kernel_rfl
@[simp] theorem t1055 : fldPl Try.prog 94 8 = some (8, 1) := by kernel_rfl
@[simp] theorem t1056 : fldPl Try.prog 94 9 = some (9, 1) := by kernel_rfl
@[simp] theorem t1057 : fldPl Try.prog 94 10 = some (10, 1) := by kernel_rfl
@[simp] theorem t1058 : fldPl Try.prog 94 11 = some (11, 1) := by kernel_rfl
@[simp] theorem t1059 : fldPl Try.prog 94 12 = some (12, 1) := by kernel_rfl
@[simp] theorem t1060 : fldPl Try.prog 94 13 = some (13, 1) := by kernel_rfl
@[simp] theorem t1061 : fldPl Try.prog 94 14 = some (14, 1) := by kernel_rfl
@[simp] theorem t1062 : fldPl Try.prog 94 15 = some (15, 1) := by kernel_rfl
@[simp] theorem t1063 : fldPl Try.prog 94 16 = some (16, 1) := by kernel_rfl
@[simp] theorem t1064 : fldPl Try.prog 94 17 = some (17, 1) := by kernel_rfl
@[simp] theorem t1065 : fldPl Try.prog 94 18 = some (18, 1) := by kernel_rfl
@[simp] theorem t1066 : fldPl Try.prog 94 19 = some (19, 1) := by kernel_rfl
@[simp] theorem t1067 : fldPl Try.prog 94 20 = some (20, 1) := by kernel_rfl
@[simp] theorem t1068 : fldPl Try.prog 94 21 = some (21, 1) := by kernel_rfl
@[simp] theorem t1069 : fldPl Try.prog 94 22 = some (22, 1) := by kernel_rfl
@[simp] theorem t1070 : fldPl Try.prog 94 23 = some (23, 1) := by kernel_rfl
@[simp] theorem t1071 : fldPl Try.prog 94 24 = some (24, 1) := by kernel_rfl
@[simp] theorem t1072 : fldPl Try.prog 94 25 = some (25, 1) := by kernel_rfl
@[simp] theorem t1073 : fldPl Try.prog 94 26 = some (26, 1) := by kernel_rfl
@[simp] theorem t1074 : fldPl Try.prog 94 27 = some (27, 1) := by kernel_rfl
@[simp] theorem t1075 : fldPl Try.prog 94 28 = some (28, 1) := by kernel_rfl
@[simp] theorem t1076 : fldPl Try.prog 94 29 = some (29, 1) := by kernel_rfl
@[simp] theorem t1077 : fldPl Try.prog 94 30 = some (30, 1) := by kernel_rfl
@[simp] theorem t1078 : fldPl Try.prog 94 31 = some (31, 1) := by kernel_rfl
@[simp] theorem t1079 : fldPl Try.prog 94 32 = some (32, 1) := by kernel_rfl
@[simp] theorem t1080 : fldPl Try.prog 94 33 = some (33, 1) := by kernel_rfl
@[simp] theorem t1081 : fldPl Try.prog 94 34 = some (34, 1) := by kernel_rfl
@[simp] theorem t1082 : fldPl Try.prog 94 35 = some (35, 1) := by kernel_rfl
@[simp] theorem t1083 : fldPl Try.prog 94 36 = some (36, 1) := by kernel_rfl
@[simp] theorem t1084 : fldPl Try.prog 94 37 = some (37, 1) := by kernel_rfl
@[simp] theorem t1085 : fldPl Try.prog 94 38 = some (38, 1) := by kernel_rfl
@[simp] theorem t1086 : fldPl Try.prog 94 39 = some (39, 1) := by kernel_rfl
@[simp] theorem t1087 : fldPl Try.prog 94 40 = some (40, 1) := by kernel_rfl
@[simp] theorem t1088 : fldPl Try.prog 94 41 = some (41, 1) := by kernel_rfl
@[simp] theorem t1089 : fldPl Try.prog 94 42 = some (42, 1) := by kernel_rfl
@[simp] theorem t1090 : fldPl Try.prog 94 43 = some (43, 1) := by kernel_rfl
@[simp] theorem t1091 : fldPl Try.prog 94 44 = some (44, 1) := by kernel_rfl
@[simp] theorem t1092 : fldPl Try.prog 94 45 = some (45, 1) := by kernel_rfl
@[simp] theorem t1093 : fldPl Try.prog 94 46 = some (46, 1) := by kernel_rfl
@[simp] theorem t1094 : fldPl Try.prog 94 47 = some (47, 1) := by kernel_rfl
@[simp] theorem t1095 : fldPl Try.prog 94 48 = some (48, 1) := by kernel_rfl
@[simp] theorem t1096 : fldPl Try.prog 94 49 = some (49, 1) := by kernel_rfl
@[simp] theorem t1097 : fldPl Try.prog 94 50 = some (50, 1) := by kernel_rfl
@[simp] theorem t1098 : fldPl Try.prog 94 51 = some (51, 1) := by kernel_rfl
@[simp] theorem t1099 : fldPl Try.prog 94 52 = some (52, 1) := by kernel_rfl
@[simp] theorem t1100 : fldPl Try.prog 94 53 = some (53, 1) := by kernel_rfl
@[simp] theorem t1101 : fldPl Try.prog 94 54 = some (54, 1) := by kernel_rfl
@[simp] theorem t1102 : fldPl Try.prog 94 55 = some (55, 1) := by kernel_rfl
@[simp] theorem t1103 : fldPl Try.prog 94 56 = some (56, 1) := by kernel_rfl
@[simp] theorem t1104 : fldPl Try.prog 94 57 = some (57, 1) := by kernel_rfl
@[simp] theorem t1105 : fldPl Try.prog 94 58 = some (58, 1) := by kernel_rfl
@[simp] theorem t1106 : fldPl Try.prog 94 59 = some (59, 1) := by kernel_rfl
@[simp] theorem t1107 : fldPl Try.prog 94 60 = some (60, 1) := by kernel_rfl
@[simp] theorem t1108 : fldPl Try.prog 94 61 = some (61, 1) := by kernel_rfl
@[simp] theorem t1109 : fldPl Try.prog 94 62 = some (62, 1) := by kernel_rfl
@[simp] theorem t1110 : fldPl Try.prog 94 63 = some (63, 1) := by kernel_rfl
@[simp] theorem t1111 : fldPl Try.prog 106 0 = some (0, 1) := by kernel_rfl
@[simp] theorem t1112 : fldOff Try.prog 106 0 = some 0 := by kernel_rfl
@[simp] theorem t1113 : fldSel Try.prog 106 0 = some (0, none) := by kernel_rfl
@[simp] theorem t1114 : fldPl Try.prog 106 1 = some (1, 1) := by kernel_rfl
@[simp] theorem t1115 : fldOff Try.prog 106 1 = some 1 := by kernel_rfl
@[simp] theorem t1116 : fldSel Try.prog 106 1 = some (1, none) := by kernel_rfl
@[simp] theorem t1117 : fldPl Try.prog 106 2 = some (2, 1) := by kernel_rfl
@[simp] theorem t1118 : fldOff Try.prog 106 2 = some 2 := by kernel_rfl
@[simp] theorem t1119 : fldSel Try.prog 106 2 = some (2, none) := by kernel_rfl
@[simp] theorem t1120 : fldPl Try.prog 108 0 = some (0, 1) := by kernel_rfl
@[simp] theorem t1121 : fldOff Try.prog 108 0 = some 0 := by kernel_rfl
@[simp] theorem t1122 : fldSel Try.prog 108 0 = some (0, none) := by kernel_rfl
@[simp] theorem t1123 : fldPl Try.prog 108 1 = some (1, 1) := by kernel_rfl
@[simp] theorem t1124 : fldOff Try.prog 108 1 = some 1 := by kernel_rfl
@[simp] theorem t1125 : fldSel Try.prog 108 1 = some (1, none) := by kernel_rfl
@[simp] theorem t1126 : fldPl Try.prog 127 0 = some (0, 1) := by kernel_rfl
@[simp] theorem t1127 : fldPl Try.prog 127 1 = some (1, 1) := by kernel_rfl
@[simp] theorem t1128 : fldPl Try.prog 127 2 = some (2, 1) := by kernel_rfl
@[simp] theorem t1129 : fldPl Try.prog 127 3 = some (3, 1) := by kernel_rfl
@[simp] theorem t1130 : fldPl Try.prog 127 4 = some (4, 1) := by kernel_rfl
@[simp] theorem t1131 : fldPl Try.prog 127 5 = some (5, 1) := by kernel_rfl
@[simp] theorem t1132 : fldPl Try.prog 127 6 = some (6, 1) := by kernel_rfl
@[simp] theorem t1133 : fldPl Try.prog 127 7 = some (7, 1) := by kernel_rfl
@[simp] theorem t1134 : fldPl Try.prog 127 8 = some (8, 1) := by kernel_rfl
@[simp] theorem t1135 : fldPl Try.prog 127 9 = some (9, 1) := by kernel_rfl
@[simp] theorem t1136 : fldPl Try.prog 127 10 = some (10, 1) := by kernel_rfl
@[simp] theorem t1137 : fldPl Try.prog 127 11 = some (11, 1) := by kernel_rfl
@[simp] theorem t1138 : fldPl Try.prog 127 12 = some (12, 1) := by kernel_rfl
@[simp] theorem t1139 : fldPl Try.prog 127 13 = some (13, 1) := by kernel_rfl
@[simp] theorem t1140 : fldPl Try.prog 127 14 = some (14, 1) := by kernel_rfl
@[simp] theorem t1141 : fldPl Try.prog 127 15 = some (15, 1) := by kernel_rfl
@[simp] theorem t1142 : fldPl Try.prog 127 16 = some (16, 1) := by kernel_rfl
@[simp] theorem t1143 : fldPl Try.prog 127 17 = some (17, 1) := by kernel_rfl
@[simp] theorem t1144 : fldPl Try.prog 127 18 = some (18, 1) := by kernel_rfl
@[simp] theorem t1145 : fldPl Try.prog 127 19 = some (19, 1) := by kernel_rfl
@[simp] theorem t1146 : fldPl Try.prog 127 20 = some (20, 1) := by kernel_rfl
@[simp] theorem t1147 : fldPl Try.prog 127 21 = some (21, 1) := by kernel_rfl
@[simp] theorem t1148 : fldPl Try.prog 127 22 = some (22, 1) := by kernel_rfl
@[simp] theorem t1149 : fldPl Try.prog 127 23 = some (23, 1) := by kernel_rfl
@[simp] theorem t1150 : fldPl Try.prog 127 24 = some (24, 1) := by kernel_rfl
@[simp] theorem t1151 : fldPl Try.prog 127 25 = some (25, 1) := by kernel_rfl
@[simp] theorem t1152 : fldPl Try.prog 127 26 = some (26, 1) := by kernel_rfl
@[simp] theorem t1153 : fldPl Try.prog 127 27 = some (27, 1) := by kernel_rfl
@[simp] theorem t1154 : fldPl Try.prog 127 28 = some (28, 1) := by kernel_rfl
@[simp] theorem t1155 : fldPl Try.prog 127 29 = some (29, 1) := by kernel_rfl
@[simp] theorem t1156 : fldPl Try.prog 127 30 = some (30, 1) := by kernel_rfl
@[simp] theorem t1157 : fldPl Try.prog 127 31 = some (31, 1) := by kernel_rfl
@[simp] theorem t1158 : fldPl Try.prog 127 32 = some (32, 1) := by kernel_rfl
@[simp] theorem t1159 : fldPl Try.prog 127 33 = some (33, 1) := by kernel_rfl
@[simp] theorem t1160 : fldPl Try.prog 127 34 = some (34, 1) := by kernel_rfl
@[simp] theorem t1161 : fldPl Try.prog 127 35 = some (35, 1) := by kernel_rfl
@[simp] theorem t1162 : fldPl Try.prog 127 36 = some (36, 1) := by kernel_rfl
@[simp] theorem t1163 : fldPl Try.prog 127 37 = some (37, 1) := by kernel_rfl
@[simp] theorem t1164 : fldPl Try.prog 127 38 = some (38, 1) := by kernel_rfl
@[simp] theorem t1165 : fldPl Try.prog 127 39 = some (39, 1) := by kernel_rfl
@[simp] theorem t1166 : fldPl Try.prog 127 40 = some (40, 1) := by kernel_rfl
@[simp] theorem t1167 : fldPl Try.prog 127 41 = some (41, 1) := by kernel_rfl
@[simp] theorem t1168 : fldPl Try.prog 127 42 = some (42, 1) := by kernel_rfl
@[simp] theorem t1169 : fldPl Try.prog 127 43 = some (43, 1) := by kernel_rfl
@[simp] theorem t1170 : fldPl Try.prog 127 44 = some (44, 1) := by kernel_rfl
@[simp] theorem t1171 : fldPl Try.prog 127 45 = some (45, 1) := by kernel_rfl
@[simp] theorem t1172 : fldPl Try.prog 127 46 = some (46, 1) := by kernel_rfl
@[simp] theorem t1173 : fldPl Try.prog 127 47 = some (47, 1) := by kernel_rfl
@[simp] theorem t1174 : fldPl Try.prog 127 48 = some (48, 1) := by kernel_rfl
@[simp] theorem t1175 : fldPl Try.prog 127 49 = some (49, 1) := by kernel_rfl
@[simp] theorem t1176 : fldPl Try.prog 127 50 = some (50, 1) := by kernel_rfl
@[simp] theorem t1177 : fldPl Try.prog 127 51 = some (51, 1) := by kernel_rfl
@[simp] theorem t1178 : fldPl Try.prog 127 52 = some (52, 1) := by kernel_rfl
@[simp] theorem t1179 : fldPl Try.prog 127 53 = some (53, 1) := by kernel_rfl
@[simp] theorem t1180 : fldPl Try.prog 127 54 = some (54, 1) := by kernel_rfl
@[simp] theorem t1181 : fldPl Try.prog 127 55 = some (55, 1) := by kernel_rfl
@[simp] theorem t1182 : fldPl Try.prog 127 56 = some (56, 1) := by kernel_rfl
@[simp] theorem t1183 : fldPl Try.prog 127 57 = some (57, 1) := by kernel_rfl
@[simp] theorem t1184 : fldPl Try.prog 127 58 = some (58, 1) := by kernel_rfl
@[simp] theorem t1185 : fldPl Try.prog 127 59 = some (59, 1) := by kernel_rfl
@[simp] theorem t1186 : fldPl Try.prog 127 60 = some (60, 1) := by kernel_rfl
@[simp] theorem t1187 : fldPl Try.prog 127 61 = some (61, 1) := by kernel_rfl
@[simp] theorem t1188 : fldPl Try.prog 127 62 = some (62, 1) := by kernel_rfl
@[simp] theorem t1189 : fldPl Try.prog 127 63 = some (63, 1) := by kernel_rfl
@[simp] theorem t1190 : fldPl Try.prog 137 0 = some (0, 1) := by kernel_rfl
@[simp] theorem t1191 : fldOff Try.prog 137 0 = some 0 := by kernel_rfl
@[simp] theorem t1192 : fldSel Try.prog 137 0 = some (0, none) := by kernel_rfl
@[simp] theorem t1193 : fldPl Try.prog 137 1 = some (1, 1) := by kernel_rfl
@[simp] theorem t1194 : fldOff Try.prog 137 1 = some 1 := by kernel_rfl
@[simp] theorem t1195 : fldSel Try.prog 137 1 = some (1, none) := by kernel_rfl
@[simp] theorem t1196 : fldPl Try.prog 137 2 = some (2, 1) := by kernel_rfl
@[simp] theorem t1197 : fldOff Try.prog 137 2 = some 2 := by kernel_rfl
@[simp] theorem t1198 : fldSel Try.prog 137 2 = some (2, none) := by kernel_rfl
@[simp] theorem t1199 : fldPl Try.prog 142 0 = some (0, 1) := by kernel_rfl
@[simp] theorem t1200 : fldOff Try.prog 142 0 = some 0 := by kernel_rfl
@[simp] theorem t1201 : fldSel Try.prog 142 0 = some (0, none) := by kernel_rfl
@[simp] theorem t1202 : fldPl Try.prog 142 1 = some (1, 1) := by kernel_rfl
@[simp] theorem t1203 : fldOff Try.prog 142 1 = some 1 := by kernel_rfl
@[simp] theorem t1204 : fldSel Try.prog 142 1 = some (1, none) := by kernel_rfl
@[simp] theorem t1205 : fldPl Try.prog 142 2 = some (2, 1) := by kernel_rfl
@[simp] theorem t1206 : fldOff Try.prog 142 2 = some 2 := by kernel_rfl
@[simp] theorem t1207 : fldSel Try.prog 142 2 = some (2, none) := by kernel_rfl
@[simp] theorem c2 : callable Try.prog 2 = true := by kernel_rfl
@[simp] theorem c3 : callable Try.prog 3 = true := by kernel_rfl
@[simp] theorem c4 : callable Try.prog 4 = true := by kernel_rfl
@[simp] theorem c5 : callable Try.prog 5 = true := by kernel_rfl
@[simp] theorem c6 : callable Try.prog 6 = true := by kernel_rfl
@[simp] theorem c7 : callable Try.prog 7 = true := by kernel_rfl
@[simp] theorem c8 : callable Try.prog 8 = true := by kernel_rfl
@[simp] theorem c9 : callable Try.prog 9 = true := by kernel_rfl
@[simp] theorem c10 : callable Try.prog 10 = true := by kernel_rfl
@[simp] theorem c11 : callable Try.prog 11 = true := by kernel_rfl
@[simp] theorem c12 : callable Try.prog 12 = true := by kernel_rfl
@[simp] theorem c13 : callable Try.prog 13 = true := by kernel_rfl
@[simp] theorem c14 : callable Try.prog 14 = true := by kernel_rfl
@[simp] theorem c15 : callable Try.prog 15 = true := by kernel_rfl
@[simp] theorem c16 : callable Try.prog 16 = true := by kernel_rfl
@[simp] theorem c17 : callable Try.prog 17 = true := by kernel_rfl
@[simp] theorem c18 : callable Try.prog 18 = true := by kernel_rfl
@[simp] theorem c19 : callable Try.prog 19 = true := by kernel_rfl
@[simp] theorem c20 : callable Try.prog 20 = true := by kernel_rfl
@[simp] theorem c21 : callable Try.prog 21 = true := by kernel_rfl
@[simp] theorem c22 : callable Try.prog 22 = true := by kernel_rfl
@[simp] theorem c23 : callable Try.prog 23 = true := by kernel_rfl
@[simp] theorem c24 : callable Try.prog 24 = true := by kernel_rfl
@[simp] theorem c25 : callable Try.prog 25 = true := by kernel_rfl
@[simp] theorem c26 : callable Try.prog 26 = true := by kernel_rfl
@[simp] theorem c27 : callable Try.prog 27 = true := by kernel_rfl
@[simp] theorem c28 : callable Try.prog 28 = true := by kernel_rfl
@[simp] theorem c29 : callable Try.prog 29 = true := by kernel_rfl
@[simp] theorem c30 : callable Try.prog 30 = true := by kernel_rfl
@[simp] theorem c31 : callable Try.prog 31 = true := by kernel_rfl
@[simp] theorem c32 : callable Try.prog 32 = true := by kernel_rfl
@[simp] theorem c33 : callable Try.prog 33 = true := by kernel_rfl
@[simp] theorem c34 : callable Try.prog 34 = true := by kernel_rfl
@[simp] theorem c35 : callable Try.prog 35 = true := by kernel_rfl
@[simp] theorem c36 : callable Try.prog 36 = true := by kernel_rfl
@[simp] theorem c37 : callable Try.prog 37 = true := by kernel_rfl
@[simp] theorem c38 : callable Try.prog 38 = true := by kernel_rfl
@[simp] theorem c39 : callable Try.prog 39 = true := by kernel_rfl
@[simp] theorem c40 : callable Try.prog 40 = true := by kernel_rfl
@[simp] theorem c41 : callable Try.prog 41 = true := by kernel_rfl
@[simp] theorem c42 : callable Try.prog 42 = true := by kernel_rfl
@[simp] theorem c43 : callable Try.prog 43 = true := by kernel_rfl
@[simp] theorem c44 : callable Try.prog 44 = true := by kernel_rfl
@[simp] theorem c45 : callable Try.prog 45 = true := by kernel_rfl
@[simp] theorem c46 : callable Try.prog 46 = true := by kernel_rfl
@[simp] theorem c47 : callable Try.prog 47 = true := by kernel_rfl
@[simp] theorem c48 : callable Try.prog 48 = true := by kernel_rfl
@[simp] theorem c49 : callable Try.prog 49 = true := by kernel_rfl
@[simp] theorem c50 : callable Try.prog 50 = true := by kernel_rfl
@[simp] theorem c51 : callable Try.prog 51 = true := by kernel_rfl
@[simp] theorem c52 : callable Try.prog 52 = true := by kernel_rfl
@[simp] theorem c53 : callable Try.prog 53 = true := by kernel_rfl
@[simp] theorem c54 : callable Try.prog 54 = true := by kernel_rfl
@[simp] theorem c55 : callable Try.prog 55 = true := by kernel_rfl
@[simp] theorem c56 : callable Try.prog 56 = true := by kernel_rfl
@[simp] theorem c57 : callable Try.prog 57 = true := by kernel_rfl
@[simp] theorem c58 : callable Try.prog 58 = true := by kernel_rfl
@[simp] theorem c59 : callable Try.prog 59 = true := by kernel_rfl
@[simp] theorem c60 : callable Try.prog 60 = true := by kernel_rfl
@[simp] theorem c61 : callable Try.prog 61 = true := by kernel_rfl
@[simp] theorem c62 : callable Try.prog 62 = true := by kernel_rfl
@[simp] theorem c63 : callable Try.prog 63 = true := by kernel_rfl
@[simp] theorem c64 : callable Try.prog 64 = true := by kernel_rfl
@[simp] theorem c65 : callable Try.prog 65 = true := by kernel_rfl
@[simp] theorem c66 : callable Try.prog 66 = true := by kernel_rfl
@[simp] theorem c67 : callable Try.prog 67 = true := by kernel_rfl
@[simp] theorem c68 : callable Try.prog 68 = true := by kernel_rfl
@[simp] theorem c69 : callable Try.prog 69 = true := by kernel_rfl
@[simp] theorem c70 : callable Try.prog 70 = true := by kernel_rfl
@[simp] theorem c71 : callable Try.prog 71 = true := by kernel_rfl
@[simp] theorem c72 : callable Try.prog 72 = true := by kernel_rfl
@[simp] theorem c73 : callable Try.prog 73 = true := by kernel_rfl
@[simp] theorem c74 : callable Try.prog 74 = true := by kernel_rfl
@[simp] theorem c75 : callable Try.prog 75 = true := by kernel_rfl
@[simp] theorem c76 : callable Try.prog 76 = true := by kernel_rfl
@[simp] theorem c77 : callable Try.prog 77 = true := by kernel_rfl
@[simp] theorem c78 : callable Try.prog 78 = true := by kernel_rfl
@[simp] theorem c79 : callable Try.prog 79 = true := by kernel_rfl
@[simp] theorem c80 : callable Try.prog 80 = true := by kernel_rfl
@[simp] theorem c81 : callable Try.prog 81 = true := by kernel_rfl
@[simp] theorem c82 : callable Try.prog 82 = true := by kernel_rfl
@[simp] theorem c83 : callable Try.prog 83 = true := by kernel_rfl
@[simp] theorem c84 : callable Try.prog 84 = true := by kernel_rfl
@[simp] theorem c85 : callable Try.prog 85 = true := by kernel_rfl
@[simp] theorem c86 : callable Try.prog 86 = true := by kernel_rfl
@[simp] theorem c87 : callable Try.prog 87 = true := by kernel_rfl
@[simp] theorem c88 : callable Try.prog 88 = true := by kernel_rfl
@[simp] theorem c89 : callable Try.prog 89 = true := by kernel_rfl
@[simp] theorem c90 : callable Try.prog 90 = true := by kernel_rfl
@[simp] theorem c91 : callable Try.prog 91 = true := by kernel_rfl
@[simp] theorem c92 : callable Try.prog 92 = true := by kernel_rfl
@[simp] theorem c93 : callable Try.prog 93 = true := by kernel_rfl
@[simp] theorem c94 : callable Try.prog 94 = true := by kernel_rfl
@[simp] theorem c95 : callable Try.prog 95 = true := by kernel_rfl
@[simp] theorem c96 : callable Try.prog 96 = true := by kernel_rfl
@[simp] theorem c97 : callable Try.prog 97 = true := by kernel_rfl
@[simp] theorem c98 : callable Try.prog 98 = true := by kernel_rfl
@[simp] theorem c99 : callable Try.prog 99 = true := by kernel_rfl
@[simp] theorem c100 : callable Try.prog 100 = true := by kernel_rfl
@[simp] theorem c101 : callable Try.prog 101 = true := by kernel_rfl
@[simp] theorem c102 : callable Try.prog 102 = true := by kernel_rfl
@[simp] theorem c103 : callable Try.prog 103 = true := by kernel_rfl
@[simp] theorem c104 : callable Try.prog 104 = true := by kernel_rfl
@[simp] theorem c105 : callable Try.prog 105 = true := by kernel_rfl
@[simp] theorem c106 : callable Try.prog 106 = true := by kernel_rfl
@[simp] theorem c107 : callable Try.prog 107 = true := by kernel_rfl
@[simp] theorem c108 : callable Try.prog 108 = true := by kernel_rfl
@[simp] theorem c109 : callable Try.prog 109 = true := by kernel_rfl
@[simp] theorem c110 : callable Try.prog 110 = true := by kernel_rfl
@[simp] theorem c111 : callable Try.prog 111 = true := by kernel_rfl
@[simp] theorem c112 : callable Try.prog 112 = true := by kernel_rfl
@[simp] theorem c113 : callable Try.prog 113 = true := by kernel_rfl
@[simp] theorem c114 : callable Try.prog 114 = true := by kernel_rfl
@[simp] theorem c115 : callable Try.prog 115 = true := by kernel_rfl
@[simp] theorem c116 : callable Try.prog 116 = true := by kernel_rfl
@[simp] theorem c117 : callable Try.prog 117 = true := by kernel_rfl
@[simp] theorem c118 : callable Try.prog 118 = true := by kernel_rfl
@[simp] theorem c119 : callable Try.prog 119 = true := by kernel_rfl
@[simp] theorem c120 : callable Try.prog 120 = true := by kernel_rfl
@[simp] theorem c121 : callable Try.prog 121 = true := by kernel_rfl
@[simp] theorem c122 : callable Try.prog 122 = true := by kernel_rfl
@[simp] theorem c123 : callable Try.prog 123 = true := by kernel_rfl
@[simp] theorem c124 : callable Try.prog 124 = true := by kernel_rfl
@[simp] theorem c125 : callable Try.prog 125 = true := by kernel_rfl
@[simp] theorem c126 : callable Try.prog 126 = true := by kernel_rfl
@[simp] theorem c127 : callable Try.prog 127 = true := by kernel_rfl
@[simp] theorem c128 : callable Try.prog 128 = true := by kernel_rfl
@[simp] theorem c129 : callable Try.prog 129 = true := by kernel_rfl
@[simp] theorem c130 : callable Try.prog 130 = true := by kernel_rfl
@[simp] theorem c131 : callable Try.prog 131 = true := by kernel_rfl
@[simp] theorem c132 : callable Try.prog 132 = true := by kernel_rfl
@[simp] theorem c133 : callable Try.prog 133 = true := by kernel_rfl
@[simp] theorem c134 : callable Try.prog 134 = true := by kernel_rfl
@[simp] theorem c135 : callable Try.prog 135 = true := by kernel_rfl
@[simp] theorem c136 : callable Try.prog 136 = true := by kernel_rfl
@[simp] theorem c137 : callable Try.prog 137 = true := by kernel_rfl
@[simp] theorem c138 : callable Try.prog 138 = true := by kernel_rfl
end Go.Proofs.YtepdfenlkeaefaaJT
