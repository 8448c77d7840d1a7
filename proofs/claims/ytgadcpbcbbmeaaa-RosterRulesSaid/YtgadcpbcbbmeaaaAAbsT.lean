/- Facts about types and functions of the seat's program. -/
import Derived.Test.YtgadcpbcbbmeaaaAbsV
import Derived.Test.YtgadcpbcbbmeaaaProg
import Derived.KernelRfl
set_option maxRecDepth 100000
namespace Go.Proofs.YtgadcpbcbbmeaaaAT
open Go Go.Abs Go.Proofs
theorem mixed : Try.prog.follows .mixedOrders = true := by kernel_rfl
@[simp] theorem t0 : tyAgg Try.prog 0 = some false := by kernel_rfl
@[simp] theorem t1 : tySize Try.prog 0 = some 1 := by kernel_rfl
@[simp] theorem t2 : (Try.prog.underlying 0).isSome = true := by kernel_rfl
@[simp] theorem t3 : tyAgg Try.prog 1 = some false := by kernel_rfl
@[simp] theorem t4 : tySize Try.prog 1 = some 1 := by kernel_rfl
@[simp] theorem t5 : tyZero Try.prog 1 = some [Go.Abs.AV.nilfn] := by kernel_rfl
@[simp] theorem t6 : zeroEl Try.prog 1 = some Go.Abs.AV.nilfn := by kernel_rfl
@[simp] theorem t7 : (Try.prog.underlying 1).isSome = true := by kernel_rfl
@[simp] theorem t8 : tyAgg Try.prog 2 = some false := by kernel_rfl
@[simp] theorem t9 : tySize Try.prog 2 = some 1 := by kernel_rfl
@[simp] theorem t10 : tyZero Try.prog 2 = some [Go.Abs.AV.int Go.IntKind.i64 (0)] := by kernel_rfl
@[simp] theorem t11 : zeroEl Try.prog 2 = some (Go.Abs.AV.int Go.IntKind.i64 (0)) := by kernel_rfl
@[simp] theorem t12 : intTy Try.prog 2 = some Go.IntKind.i64 := by kernel_rfl
@[simp] theorem t13 : (Try.prog.underlying 2).isSome = true := by kernel_rfl
@[simp] theorem t14 : tyAgg Try.prog 3 = some false := by kernel_rfl
@[simp] theorem t15 : tySize Try.prog 3 = some 1 := by kernel_rfl
@[simp] theorem t16 : tyZero Try.prog 3 = some [Go.Abs.AV.int Go.IntKind.i64 (0)] := by kernel_rfl
@[simp] theorem t17 : zeroEl Try.prog 3 = some (Go.Abs.AV.int Go.IntKind.i64 (0)) := by kernel_rfl
@[simp] theorem t18 : intTy Try.prog 3 = some Go.IntKind.i64 := by kernel_rfl
@[simp] theorem t19 : (Try.prog.underlying 3).isSome = true := by kernel_rfl
@[simp] theorem t20 : tyAgg Try.prog 4 = some false := by kernel_rfl
@[simp] theorem t21 : tySize Try.prog 4 = some 1 := by kernel_rfl
@[simp] theorem t22 : tyZero Try.prog 4 = some [Go.Abs.AV.bool false] := by kernel_rfl
@[simp] theorem t23 : zeroEl Try.prog 4 = some (Go.Abs.AV.bool false) := by kernel_rfl
@[simp] theorem t24 : (Try.prog.underlying 4).isSome = true := by kernel_rfl
@[simp] theorem t25 : Try.prog.underlying 4 = some Go.TypeDesc.bool := by kernel_rfl
@[simp] theorem t26 : tyAgg Try.prog 5 = some false := by kernel_rfl
@[simp] theorem t27 : tySize Try.prog 5 = some 1 := by kernel_rfl
@[simp] theorem t28 : tyZero Try.prog 5 = some [Go.Abs.AV.int Go.IntKind.u8 (0)] := by kernel_rfl
@[simp] theorem t29 : zeroEl Try.prog 5 = some (Go.Abs.AV.int Go.IntKind.u8 (0)) := by kernel_rfl
@[simp] theorem t30 : intTy Try.prog 5 = some Go.IntKind.u8 := by kernel_rfl
@[simp] theorem t31 : (Try.prog.underlying 5).isSome = true := by kernel_rfl
@[simp] theorem t32 : tyAgg Try.prog 6 = some false := by kernel_rfl
@[simp] theorem t33 : tySize Try.prog 6 = some 1 := by kernel_rfl
@[simp] theorem t34 : tyZero Try.prog 6 = some [Go.Abs.AV.int Go.IntKind.u8 (0)] := by kernel_rfl
@[simp] theorem t35 : zeroEl Try.prog 6 = some (Go.Abs.AV.int Go.IntKind.u8 (0)) := by kernel_rfl
@[simp] theorem t36 : intTy Try.prog 6 = some Go.IntKind.u8 := by kernel_rfl
@[simp] theorem t37 : (Try.prog.underlying 6).isSome = true := by kernel_rfl
@[simp] theorem t38 : tyAgg Try.prog 7 = some true := by kernel_rfl
@[simp] theorem t39 : tySize Try.prog 7 = some 4 := by kernel_rfl
@[simp] theorem t40 : tyZero Try.prog 7 = some [Go.Abs.AV.int Go.IntKind.i64 (0), Go.Abs.AV.int Go.IntKind.i64 (0), Go.Abs.AV.bool false, Go.Abs.AV.int Go.IntKind.u8 (0)] := by kernel_rfl
@[simp] theorem t41 : zeroEl Try.prog 7 = some (Go.Abs.AV.agg [Go.Abs.AV.int Go.IntKind.i64 (0), Go.Abs.AV.int Go.IntKind.i64 (0), Go.Abs.AV.bool false, Go.Abs.AV.int Go.IntKind.u8 (0)]) := by kernel_rfl
@[simp] theorem t42 : fieldsOk Try.prog 7 = true := by kernel_rfl
@[simp] theorem t43 : strP Try.prog 7 = some [Go.Abs.SKind.int Go.IntKind.i64, Go.Abs.SKind.int Go.IntKind.i64, Go.Abs.SKind.bool, Go.Abs.SKind.int Go.IntKind.u8] := by kernel_rfl
@[simp] theorem t44 : (Try.prog.underlying 7).isSome = true := by kernel_rfl
@[simp] theorem t45 : tyAgg Try.prog 8 = some true := by kernel_rfl
@[simp] theorem t46 : tySize Try.prog 8 = some 4 := by kernel_rfl
@[simp] theorem t47 : tyZero Try.prog 8 = some [Go.Abs.AV.int Go.IntKind.i64 (0), Go.Abs.AV.int Go.IntKind.i64 (0), Go.Abs.AV.bool false, Go.Abs.AV.int Go.IntKind.u8 (0)] := by kernel_rfl
@[simp] theorem t48 : zeroEl Try.prog 8 = some (Go.Abs.AV.agg [Go.Abs.AV.int Go.IntKind.i64 (0), Go.Abs.AV.int Go.IntKind.i64 (0), Go.Abs.AV.bool false, Go.Abs.AV.int Go.IntKind.u8 (0)]) := by kernel_rfl
@[simp] theorem t49 : fieldsOk Try.prog 8 = true := by kernel_rfl
@[simp] theorem t50 : strP Try.prog 8 = some [Go.Abs.SKind.int Go.IntKind.i64, Go.Abs.SKind.int Go.IntKind.i64, Go.Abs.SKind.bool, Go.Abs.SKind.int Go.IntKind.u8] := by kernel_rfl
@[simp] theorem t51 : (Try.prog.underlying 8).isSome = true := by kernel_rfl
@[simp] theorem t52 : isSt Try.prog 9 = true := by kernel_rfl
@[simp] theorem t53 : tyAgg Try.prog 9 = some false := by kernel_rfl
@[simp] theorem t54 : tySize Try.prog 9 = some 1 := by kernel_rfl
@[simp] theorem t55 : tyZero Try.prog 9 = some [Go.Abs.AV.str { data := { toList := [] } }] := by kernel_rfl
@[simp] theorem t56 : zeroEl Try.prog 9 = some (Go.Abs.AV.str { data := { toList := [] } }) := by kernel_rfl
@[simp] theorem t57 : strSlc Try.prog 9 = true := by kernel_rfl
@[simp] theorem t58 : (Try.prog.underlying 9).isSome = true := by kernel_rfl
@[simp] theorem t59 : isSt Try.prog 10 = true := by kernel_rfl
@[simp] theorem t60 : tyAgg Try.prog 10 = some false := by kernel_rfl
@[simp] theorem t61 : tySize Try.prog 10 = some 1 := by kernel_rfl
@[simp] theorem t62 : tyZero Try.prog 10 = some [Go.Abs.AV.str { data := { toList := [] } }] := by kernel_rfl
@[simp] theorem t63 : zeroEl Try.prog 10 = some (Go.Abs.AV.str { data := { toList := [] } }) := by kernel_rfl
@[simp] theorem t64 : strSlc Try.prog 10 = true := by kernel_rfl
@[simp] theorem t65 : (Try.prog.underlying 10).isSome = true := by kernel_rfl
@[simp] theorem t66 : isSt Try.prog 11 = true := by kernel_rfl
@[simp] theorem t67 : tyAgg Try.prog 11 = some false := by kernel_rfl
@[simp] theorem t68 : tySize Try.prog 11 = some 1 := by kernel_rfl
@[simp] theorem t69 : tyZero Try.prog 11 = some [Go.Abs.AV.str { data := { toList := [] } }] := by kernel_rfl
@[simp] theorem t70 : zeroEl Try.prog 11 = some (Go.Abs.AV.str { data := { toList := [] } }) := by kernel_rfl
@[simp] theorem t71 : strSlc Try.prog 11 = true := by kernel_rfl
@[simp] theorem t72 : (Try.prog.underlying 11).isSome = true := by kernel_rfl
@[simp] theorem t73 : tyAgg Try.prog 12 = some false := by kernel_rfl
@[simp] theorem t74 : tySize Try.prog 12 = some 1 := by kernel_rfl
@[simp] theorem t75 : tyZero Try.prog 12 = some [Go.Abs.AV.int Go.IntKind.u64 (0)] := by kernel_rfl
@[simp] theorem t76 : zeroEl Try.prog 12 = some (Go.Abs.AV.int Go.IntKind.u64 (0)) := by kernel_rfl
@[simp] theorem t77 : intTy Try.prog 12 = some Go.IntKind.u64 := by kernel_rfl
@[simp] theorem t78 : (Try.prog.underlying 12).isSome = true := by kernel_rfl
@[simp] theorem t79 : tyAgg Try.prog 13 = some true := by kernel_rfl
@[simp] theorem t80 : tySize Try.prog 13 = some 2 := by kernel_rfl
@[simp] theorem t81 : tyZero Try.prog 13 = some [Go.Abs.AV.str { data := { toList := [] } }, Go.Abs.AV.int Go.IntKind.u64 (0)] := by kernel_rfl
@[simp] theorem t82 : zeroEl Try.prog 13 = some (Go.Abs.AV.agg [Go.Abs.AV.str { data := { toList := [] } }, Go.Abs.AV.int Go.IntKind.u64 (0)]) := by kernel_rfl
@[simp] theorem t83 : fieldsOk Try.prog 13 = true := by kernel_rfl
@[simp] theorem t84 : (Try.prog.underlying 13).isSome = true := by kernel_rfl
@[simp] theorem t85 : tyAgg Try.prog 14 = some true := by kernel_rfl
@[simp] theorem t86 : tySize Try.prog 14 = some 2 := by kernel_rfl
@[simp] theorem t87 : tyZero Try.prog 14 = some [Go.Abs.AV.str { data := { toList := [] } }, Go.Abs.AV.int Go.IntKind.u64 (0)] := by kernel_rfl
@[simp] theorem t88 : zeroEl Try.prog 14 = some (Go.Abs.AV.agg [Go.Abs.AV.str { data := { toList := [] } }, Go.Abs.AV.int Go.IntKind.u64 (0)]) := by kernel_rfl
@[simp] theorem t89 : fieldsOk Try.prog 14 = true := by kernel_rfl
@[simp] theorem t90 : (Try.prog.underlying 14).isSome = true := by kernel_rfl
@[simp] theorem t91 : tyAgg Try.prog 15 = some false := by kernel_rfl
@[simp] theorem t92 : tySize Try.prog 15 = some 1 := by kernel_rfl
@[simp] theorem t93 : tyZero Try.prog 15 = some [Go.Abs.AV.nilptr] := by kernel_rfl
@[simp] theorem t94 : zeroEl Try.prog 15 = some Go.Abs.AV.nilptr := by kernel_rfl
@[simp] theorem t95 : (Try.prog.underlying 15).isSome = true := by kernel_rfl
@[simp] theorem t96 : tyAgg Try.prog 16 = some false := by kernel_rfl
@[simp] theorem t97 : tySize Try.prog 16 = some 1 := by kernel_rfl
@[simp] theorem t98 : tyZero Try.prog 16 = some [Go.Abs.AV.nilptr] := by kernel_rfl
@[simp] theorem t99 : zeroEl Try.prog 16 = some Go.Abs.AV.nilptr := by kernel_rfl
@[simp] theorem t100 : (Try.prog.underlying 16).isSome = true := by kernel_rfl
@[simp] theorem t101 : tyAgg Try.prog 17 = some false := by kernel_rfl
@[simp] theorem t102 : tySize Try.prog 17 = some 1 := by kernel_rfl
@[simp] theorem t103 : tyZero Try.prog 17 = some [Go.Abs.AV.nilptr] := by kernel_rfl
@[simp] theorem t104 : zeroEl Try.prog 17 = some Go.Abs.AV.nilptr := by kernel_rfl
@[simp] theorem t105 : (Try.prog.underlying 17).isSome = true := by kernel_rfl
@[simp] theorem t106 : tyAgg Try.prog 18 = some true := by kernel_rfl
@[simp] theorem t107 : tySize Try.prog 18 = some 1 := by kernel_rfl
@[simp] theorem t108 : tyZero Try.prog 18 = some [Go.Abs.AV.nilptr] := by kernel_rfl
@[simp] theorem t109 : zeroEl Try.prog 18 = some (Go.Abs.AV.agg [Go.Abs.AV.nilptr]) := by kernel_rfl
@[simp] theorem t110 : fieldsOk Try.prog 18 = true := by kernel_rfl
@[simp] theorem t111 : (Try.prog.underlying 18).isSome = true := by kernel_rfl
@[simp] theorem t112 : tyAgg Try.prog 19 = some true := by kernel_rfl
@[simp] theorem t113 : tySize Try.prog 19 = some 1 := by kernel_rfl
@[simp] theorem t114 : tyZero Try.prog 19 = some [Go.Abs.AV.nilptr] := by kernel_rfl
@[simp] theorem t115 : zeroEl Try.prog 19 = some (Go.Abs.AV.agg [Go.Abs.AV.nilptr]) := by kernel_rfl
@[simp] theorem t116 : fieldsOk Try.prog 19 = true := by kernel_rfl
@[simp] theorem t117 : (Try.prog.underlying 19).isSome = true := by kernel_rfl
@[simp] theorem t118 : tyAgg Try.prog 20 = some false := by kernel_rfl
@[simp] theorem t119 : tySize Try.prog 20 = some 1 := by kernel_rfl
@[simp] theorem t120 : tyZero Try.prog 20 = some [Go.Abs.AV.nilifc] := by kernel_rfl
@[simp] theorem t121 : zeroEl Try.prog 20 = some Go.Abs.AV.nilifc := by kernel_rfl
@[simp] theorem t122 : (Try.prog.underlying 20).isSome = true := by kernel_rfl
@[simp] theorem t123 : tyAgg Try.prog 21 = some false := by kernel_rfl
@[simp] theorem t124 : tySize Try.prog 21 = some 1 := by kernel_rfl
@[simp] theorem t125 : tyZero Try.prog 21 = some [Go.Abs.AV.int Go.IntKind.i32 (0)] := by kernel_rfl
@[simp] theorem t126 : zeroEl Try.prog 21 = some (Go.Abs.AV.int Go.IntKind.i32 (0)) := by kernel_rfl
@[simp] theorem t127 : intTy Try.prog 21 = some Go.IntKind.i32 := by kernel_rfl
@[simp] theorem t128 : (Try.prog.underlying 21).isSome = true := by kernel_rfl
@[simp] theorem t129 : slcElem Try.prog 22 = some (3, 1, 8) := by kernel_rfl
@[simp] theorem t130 : isSl Try.prog 22 = true := by kernel_rfl
@[simp] theorem t131 : tyAgg Try.prog 22 = some false := by kernel_rfl
@[simp] theorem t132 : tySize Try.prog 22 = some 1 := by kernel_rfl
@[simp] theorem t133 : tyZero Try.prog 22 = some [Go.Abs.AV.lst true true []] := by kernel_rfl
@[simp] theorem t134 : zeroEl Try.prog 22 = some (Go.Abs.AV.lst true true []) := by kernel_rfl
@[simp] theorem t135 : strSlc Try.prog 22 = true := by kernel_rfl
@[simp] theorem t136 : (Try.prog.underlying 22).isSome = true := by kernel_rfl
@[simp] theorem t137 : Try.prog.underlying 22 = some (Go.TypeDesc.slice 3) := by kernel_rfl
@[simp] theorem t138 : slcElem Try.prog 23 = some (77, 3, 32) := by kernel_rfl
@[simp] theorem t139 : isSl Try.prog 23 = true := by kernel_rfl
@[simp] theorem t140 : tyAgg Try.prog 23 = some false := by kernel_rfl
@[simp] theorem t141 : tySize Try.prog 23 = some 1 := by kernel_rfl
@[simp] theorem t142 : tyZero Try.prog 23 = some [Go.Abs.AV.lst true true []] := by kernel_rfl
@[simp] theorem t143 : zeroEl Try.prog 23 = some (Go.Abs.AV.lst true true []) := by kernel_rfl
@[simp] theorem t144 : strSlc Try.prog 23 = true := by kernel_rfl
@[simp] theorem t145 : (Try.prog.underlying 23).isSome = true := by kernel_rfl
@[simp] theorem t146 : Try.prog.underlying 23 = some (Go.TypeDesc.slice 77) := by kernel_rfl
@[simp] theorem t147 : tyAgg Try.prog 24 = some true := by kernel_rfl
@[simp] theorem t148 : tySize Try.prog 24 = some 2 := by kernel_rfl
@[simp] theorem t149 : tyZero Try.prog 24 = some [Go.Abs.AV.int Go.IntKind.i64 (0), Go.Abs.AV.str { data := { toList := [] } }] := by kernel_rfl
@[simp] theorem t150 : zeroEl Try.prog 24 = some (Go.Abs.AV.agg [Go.Abs.AV.int Go.IntKind.i64 (0), Go.Abs.AV.str { data := { toList := [] } }]) := by kernel_rfl
@[simp] theorem t151 : fieldsOk Try.prog 24 = true := by kernel_rfl
@[simp] theorem t152 : strP Try.prog 24 = some [Go.Abs.SKind.int Go.IntKind.i64, Go.Abs.SKind.str] := by kernel_rfl
@[simp] theorem t153 : (Try.prog.underlying 24).isSome = true := by kernel_rfl
@[simp] theorem t154 : tyAgg Try.prog 25 = some true := by kernel_rfl
@[simp] theorem t155 : tySize Try.prog 25 = some 2 := by kernel_rfl
@[simp] theorem t156 : tyZero Try.prog 25 = some [Go.Abs.AV.int Go.IntKind.i64 (0), Go.Abs.AV.str { data := { toList := [] } }] := by kernel_rfl
@[simp] theorem t157 : zeroEl Try.prog 25 = some (Go.Abs.AV.agg [Go.Abs.AV.int Go.IntKind.i64 (0), Go.Abs.AV.str { data := { toList := [] } }]) := by kernel_rfl
@[simp] theorem t158 : fieldsOk Try.prog 25 = true := by kernel_rfl
@[simp] theorem t159 : strP Try.prog 25 = some [Go.Abs.SKind.int Go.IntKind.i64, Go.Abs.SKind.str] := by kernel_rfl
@[simp] theorem t160 : (Try.prog.underlying 25).isSome = true := by kernel_rfl
@[simp] theorem t161 : tyAgg Try.prog 26 = some true := by kernel_rfl
@[simp] theorem t162 : tySize Try.prog 26 = some 13 := by kernel_rfl
@[simp] theorem t163 : tyZero Try.prog 26 = some [Go.Abs.AV.int Go.IntKind.i64 (0), Go.Abs.AV.int Go.IntKind.i64 (0), Go.Abs.AV.str { data := { toList := [] } }, Go.Abs.AV.int Go.IntKind.i64 (0), Go.Abs.AV.int Go.IntKind.i64 (0), Go.Abs.AV.int Go.IntKind.i64 (0), Go.Abs.AV.int Go.IntKind.i64 (0), Go.Abs.AV.int Go.IntKind.i64 (0), Go.Abs.AV.lst true true [], Go.Abs.AV.lst true true [], Go.Abs.AV.str { data := { toList := [] } }, Go.Abs.AV.int Go.IntKind.i64 (0), Go.Abs.AV.str { data := { toList := [] } }] := by kernel_rfl
@[simp] theorem t164 : zeroEl Try.prog 26 = some (Go.Abs.AV.agg [Go.Abs.AV.int Go.IntKind.i64 (0), Go.Abs.AV.int Go.IntKind.i64 (0), Go.Abs.AV.str { data := { toList := [] } }, Go.Abs.AV.int Go.IntKind.i64 (0), Go.Abs.AV.int Go.IntKind.i64 (0), Go.Abs.AV.int Go.IntKind.i64 (0), Go.Abs.AV.int Go.IntKind.i64 (0), Go.Abs.AV.int Go.IntKind.i64 (0), Go.Abs.AV.lst true true [], Go.Abs.AV.lst true true [], Go.Abs.AV.str { data := { toList := [] } }, Go.Abs.AV.int Go.IntKind.i64 (0), Go.Abs.AV.str { data := { toList := [] } }]) := by kernel_rfl
@[simp] theorem t165 : fieldsOk Try.prog 26 = true := by kernel_rfl
@[simp] theorem t166 : (Try.prog.underlying 26).isSome = true := by kernel_rfl
@[simp] theorem t167 : tyAgg Try.prog 27 = some true := by kernel_rfl
@[simp] theorem t168 : tySize Try.prog 27 = some 13 := by kernel_rfl
@[simp] theorem t169 : tyZero Try.prog 27 = some [Go.Abs.AV.int Go.IntKind.i64 (0), Go.Abs.AV.int Go.IntKind.i64 (0), Go.Abs.AV.str { data := { toList := [] } }, Go.Abs.AV.int Go.IntKind.i64 (0), Go.Abs.AV.int Go.IntKind.i64 (0), Go.Abs.AV.int Go.IntKind.i64 (0), Go.Abs.AV.int Go.IntKind.i64 (0), Go.Abs.AV.int Go.IntKind.i64 (0), Go.Abs.AV.lst true true [], Go.Abs.AV.lst true true [], Go.Abs.AV.str { data := { toList := [] } }, Go.Abs.AV.int Go.IntKind.i64 (0), Go.Abs.AV.str { data := { toList := [] } }] := by kernel_rfl
@[simp] theorem t170 : zeroEl Try.prog 27 = some (Go.Abs.AV.agg [Go.Abs.AV.int Go.IntKind.i64 (0), Go.Abs.AV.int Go.IntKind.i64 (0), Go.Abs.AV.str { data := { toList := [] } }, Go.Abs.AV.int Go.IntKind.i64 (0), Go.Abs.AV.int Go.IntKind.i64 (0), Go.Abs.AV.int Go.IntKind.i64 (0), Go.Abs.AV.int Go.IntKind.i64 (0), Go.Abs.AV.int Go.IntKind.i64 (0), Go.Abs.AV.lst true true [], Go.Abs.AV.lst true true [], Go.Abs.AV.str { data := { toList := [] } }, Go.Abs.AV.int Go.IntKind.i64 (0), Go.Abs.AV.str { data := { toList := [] } }]) := by kernel_rfl
@[simp] theorem t171 : fieldsOk Try.prog 27 = true := by kernel_rfl
@[simp] theorem t172 : (Try.prog.underlying 27).isSome = true := by kernel_rfl
@[simp] theorem t173 : tyAgg Try.prog 28 = some false := by kernel_rfl
@[simp] theorem t174 : tySize Try.prog 28 = some 1 := by kernel_rfl
@[simp] theorem t175 : tyZero Try.prog 28 = some [Go.Abs.AV.nilfn] := by kernel_rfl
@[simp] theorem t176 : zeroEl Try.prog 28 = some Go.Abs.AV.nilfn := by kernel_rfl
@[simp] theorem t177 : (Try.prog.underlying 28).isSome = true := by kernel_rfl
@[simp] theorem t178 : tyAgg Try.prog 29 = some false := by kernel_rfl
@[simp] theorem t179 : tySize Try.prog 29 = some 1 := by kernel_rfl
@[simp] theorem t180 : tyZero Try.prog 29 = some [Go.Abs.AV.nilfn] := by kernel_rfl
@[simp] theorem t181 : zeroEl Try.prog 29 = some Go.Abs.AV.nilfn := by kernel_rfl
@[simp] theorem t182 : (Try.prog.underlying 29).isSome = true := by kernel_rfl
@[simp] theorem t183 : tyAgg Try.prog 30 = some false := by kernel_rfl
@[simp] theorem t184 : tySize Try.prog 30 = some 1 := by kernel_rfl
@[simp] theorem t185 : tyZero Try.prog 30 = some [Go.Abs.AV.nilptr] := by kernel_rfl
@[simp] theorem t186 : zeroEl Try.prog 30 = some Go.Abs.AV.nilptr := by kernel_rfl
@[simp] theorem t187 : (Try.prog.underlying 30).isSome = true := by kernel_rfl
@[simp] theorem t188 : tyAgg Try.prog 31 = some false := by kernel_rfl
@[simp] theorem t189 : tySize Try.prog 31 = some 1 := by kernel_rfl
@[simp] theorem t190 : tyZero Try.prog 31 = some [Go.Abs.AV.nilfn] := by kernel_rfl
@[simp] theorem t191 : zeroEl Try.prog 31 = some Go.Abs.AV.nilfn := by kernel_rfl
@[simp] theorem t192 : (Try.prog.underlying 31).isSome = true := by kernel_rfl
@[simp] theorem t193 : tyAgg Try.prog 32 = some true := by kernel_rfl
@[simp] theorem t194 : tySize Try.prog 32 = some 4 := by kernel_rfl
@[simp] theorem t195 : tyZero Try.prog 32 = some [Go.Abs.AV.int Go.IntKind.i64 (0), Go.Abs.AV.int Go.IntKind.i64 (0), Go.Abs.AV.int Go.IntKind.i64 (0), Go.Abs.AV.int Go.IntKind.i64 (0)] := by kernel_rfl
@[simp] theorem t196 : zeroEl Try.prog 32 = some (Go.Abs.AV.agg [Go.Abs.AV.int Go.IntKind.i64 (0), Go.Abs.AV.int Go.IntKind.i64 (0), Go.Abs.AV.int Go.IntKind.i64 (0), Go.Abs.AV.int Go.IntKind.i64 (0)]) := by kernel_rfl
@[simp] theorem t197 : fieldsOk Try.prog 32 = true := by kernel_rfl
@[simp] theorem t198 : strP Try.prog 32 = some [Go.Abs.SKind.int Go.IntKind.i64, Go.Abs.SKind.int Go.IntKind.i64, Go.Abs.SKind.int Go.IntKind.i64, Go.Abs.SKind.int Go.IntKind.i64] := by kernel_rfl
@[simp] theorem t199 : (Try.prog.underlying 32).isSome = true := by kernel_rfl
@[simp] theorem t200 : tyAgg Try.prog 33 = some true := by kernel_rfl
@[simp] theorem t201 : tySize Try.prog 33 = some 4 := by kernel_rfl
@[simp] theorem t202 : tyZero Try.prog 33 = some [Go.Abs.AV.int Go.IntKind.i64 (0), Go.Abs.AV.int Go.IntKind.i64 (0), Go.Abs.AV.int Go.IntKind.i64 (0), Go.Abs.AV.int Go.IntKind.i64 (0)] := by kernel_rfl
@[simp] theorem t203 : zeroEl Try.prog 33 = some (Go.Abs.AV.agg [Go.Abs.AV.int Go.IntKind.i64 (0), Go.Abs.AV.int Go.IntKind.i64 (0), Go.Abs.AV.int Go.IntKind.i64 (0), Go.Abs.AV.int Go.IntKind.i64 (0)]) := by kernel_rfl
@[simp] theorem t204 : fieldsOk Try.prog 33 = true := by kernel_rfl
@[simp] theorem t205 : strP Try.prog 33 = some [Go.Abs.SKind.int Go.IntKind.i64, Go.Abs.SKind.int Go.IntKind.i64, Go.Abs.SKind.int Go.IntKind.i64, Go.Abs.SKind.int Go.IntKind.i64] := by kernel_rfl
@[simp] theorem t206 : (Try.prog.underlying 33).isSome = true := by kernel_rfl
@[simp] theorem t207 : tyAgg Try.prog 34 = some false := by kernel_rfl
@[simp] theorem t208 : tySize Try.prog 34 = some 1 := by kernel_rfl
@[simp] theorem t209 : tyZero Try.prog 34 = some [Go.Abs.AV.nilfn] := by kernel_rfl
@[simp] theorem t210 : zeroEl Try.prog 34 = some Go.Abs.AV.nilfn := by kernel_rfl
@[simp] theorem t211 : (Try.prog.underlying 34).isSome = true := by kernel_rfl
@[simp] theorem t212 : tyAgg Try.prog 35 = some false := by kernel_rfl
@[simp] theorem t213 : tySize Try.prog 35 = some 1 := by kernel_rfl
@[simp] theorem t214 : tyZero Try.prog 35 = some [Go.Abs.AV.nilfn] := by kernel_rfl
@[simp] theorem t215 : zeroEl Try.prog 35 = some Go.Abs.AV.nilfn := by kernel_rfl
@[simp] theorem t216 : (Try.prog.underlying 35).isSome = true := by kernel_rfl
@[simp] theorem t217 : tyAgg Try.prog 36 = some false := by kernel_rfl
@[simp] theorem t218 : tySize Try.prog 36 = some 1 := by kernel_rfl
@[simp] theorem t219 : tyZero Try.prog 36 = some [Go.Abs.AV.nilfn] := by kernel_rfl
@[simp] theorem t220 : zeroEl Try.prog 36 = some Go.Abs.AV.nilfn := by kernel_rfl
@[simp] theorem t221 : (Try.prog.underlying 36).isSome = true := by kernel_rfl
@[simp] theorem t222 : tyAgg Try.prog 37 = some true := by kernel_rfl
@[simp] theorem t223 : tySize Try.prog 37 = some 2 := by kernel_rfl
@[simp] theorem t224 : tyZero Try.prog 37 = some [Go.Abs.AV.lst true true [], Go.Abs.AV.lst true true []] := by kernel_rfl
@[simp] theorem t225 : zeroEl Try.prog 37 = some (Go.Abs.AV.agg [Go.Abs.AV.lst true true [], Go.Abs.AV.lst true true []]) := by kernel_rfl
@[simp] theorem t226 : fieldsOk Try.prog 37 = true := by kernel_rfl
@[simp] theorem t227 : (Try.prog.underlying 37).isSome = true := by kernel_rfl
@[simp] theorem t228 : tyAgg Try.prog 38 = some true := by kernel_rfl
@[simp] theorem t229 : tySize Try.prog 38 = some 2 := by kernel_rfl
@[simp] theorem t230 : tyZero Try.prog 38 = some [Go.Abs.AV.lst true true [], Go.Abs.AV.lst true true []] := by kernel_rfl
@[simp] theorem t231 : zeroEl Try.prog 38 = some (Go.Abs.AV.agg [Go.Abs.AV.lst true true [], Go.Abs.AV.lst true true []]) := by kernel_rfl
@[simp] theorem t232 : fieldsOk Try.prog 38 = true := by kernel_rfl
@[simp] theorem t233 : (Try.prog.underlying 38).isSome = true := by kernel_rfl
@[simp] theorem t234 : tyAgg Try.prog 39 = some false := by kernel_rfl
@[simp] theorem t235 : tySize Try.prog 39 = some 1 := by kernel_rfl
@[simp] theorem t236 : tyZero Try.prog 39 = some [Go.Abs.AV.nilfn] := by kernel_rfl
@[simp] theorem t237 : zeroEl Try.prog 39 = some Go.Abs.AV.nilfn := by kernel_rfl
@[simp] theorem t238 : (Try.prog.underlying 39).isSome = true := by kernel_rfl
@[simp] theorem t239 : tyAgg Try.prog 40 = some false := by kernel_rfl
@[simp] theorem t240 : tySize Try.prog 40 = some 1 := by kernel_rfl
@[simp] theorem t241 : tyZero Try.prog 40 = some [Go.Abs.AV.nilfn] := by kernel_rfl
@[simp] theorem t242 : zeroEl Try.prog 40 = some Go.Abs.AV.nilfn := by kernel_rfl
@[simp] theorem t243 : (Try.prog.underlying 40).isSome = true := by kernel_rfl
@[simp] theorem t244 : tyAgg Try.prog 41 = some true := by kernel_rfl
@[simp] theorem t245 : tySize Try.prog 41 = some 7 := by kernel_rfl
@[simp] theorem t246 : tyZero Try.prog 41 = some [Go.Abs.AV.int Go.IntKind.i64 (0), Go.Abs.AV.int Go.IntKind.i64 (0), Go.Abs.AV.int Go.IntKind.i64 (0), Go.Abs.AV.int Go.IntKind.i64 (0), Go.Abs.AV.int Go.IntKind.i64 (0), Go.Abs.AV.lst true true [], Go.Abs.AV.lst true true []] := by kernel_rfl
@[simp] theorem t247 : zeroEl Try.prog 41 = some (Go.Abs.AV.agg [Go.Abs.AV.int Go.IntKind.i64 (0), Go.Abs.AV.int Go.IntKind.i64 (0), Go.Abs.AV.int Go.IntKind.i64 (0), Go.Abs.AV.int Go.IntKind.i64 (0), Go.Abs.AV.int Go.IntKind.i64 (0), Go.Abs.AV.lst true true [], Go.Abs.AV.lst true true []]) := by kernel_rfl
@[simp] theorem t248 : fieldsOk Try.prog 41 = true := by kernel_rfl
@[simp] theorem t249 : (Try.prog.underlying 41).isSome = true := by kernel_rfl
@[simp] theorem t250 : tyAgg Try.prog 42 = some true := by kernel_rfl
@[simp] theorem t251 : tySize Try.prog 42 = some 7 := by kernel_rfl
@[simp] theorem t252 : tyZero Try.prog 42 = some [Go.Abs.AV.int Go.IntKind.i64 (0), Go.Abs.AV.int Go.IntKind.i64 (0), Go.Abs.AV.int Go.IntKind.i64 (0), Go.Abs.AV.int Go.IntKind.i64 (0), Go.Abs.AV.int Go.IntKind.i64 (0), Go.Abs.AV.lst true true [], Go.Abs.AV.lst true true []] := by kernel_rfl
@[simp] theorem t253 : zeroEl Try.prog 42 = some (Go.Abs.AV.agg [Go.Abs.AV.int Go.IntKind.i64 (0), Go.Abs.AV.int Go.IntKind.i64 (0), Go.Abs.AV.int Go.IntKind.i64 (0), Go.Abs.AV.int Go.IntKind.i64 (0), Go.Abs.AV.int Go.IntKind.i64 (0), Go.Abs.AV.lst true true [], Go.Abs.AV.lst true true []]) := by kernel_rfl
@[simp] theorem t254 : fieldsOk Try.prog 42 = true := by kernel_rfl
@[simp] theorem t255 : (Try.prog.underlying 42).isSome = true := by kernel_rfl
@[simp] theorem t256 : tyAgg Try.prog 43 = some false := by kernel_rfl
@[simp] theorem t257 : tySize Try.prog 43 = some 1 := by kernel_rfl
@[simp] theorem t258 : tyZero Try.prog 43 = some [Go.Abs.AV.int Go.IntKind.i64 (0)] := by kernel_rfl
@[simp] theorem t259 : zeroEl Try.prog 43 = some (Go.Abs.AV.int Go.IntKind.i64 (0)) := by kernel_rfl
@[simp] theorem t260 : intTy Try.prog 43 = some Go.IntKind.i64 := by kernel_rfl
@[simp] theorem t261 : (Try.prog.underlying 43).isSome = true := by kernel_rfl
@[simp] theorem t262 : tyAgg Try.prog 44 = some false := by kernel_rfl
@[simp] theorem t263 : tySize Try.prog 44 = some 1 := by kernel_rfl
@[simp] theorem t264 : (Try.prog.underlying 44).isSome = true := by kernel_rfl
@[simp] theorem t265 : tyAgg Try.prog 45 = some false := by kernel_rfl
@[simp] theorem t266 : tySize Try.prog 45 = some 1 := by kernel_rfl
@[simp] theorem t267 : tyZero Try.prog 45 = some [Go.Abs.AV.nilfn] := by kernel_rfl
@[simp] theorem t268 : zeroEl Try.prog 45 = some Go.Abs.AV.nilfn := by kernel_rfl
@[simp] theorem t269 : (Try.prog.underlying 45).isSome = true := by kernel_rfl
@[simp] theorem t270 : tyAgg Try.prog 46 = some false := by kernel_rfl
@[simp] theorem t271 : tySize Try.prog 46 = some 1 := by kernel_rfl
@[simp] theorem t272 : tyZero Try.prog 46 = some [Go.Abs.AV.nilfn] := by kernel_rfl
@[simp] theorem t273 : zeroEl Try.prog 46 = some Go.Abs.AV.nilfn := by kernel_rfl
@[simp] theorem t274 : (Try.prog.underlying 46).isSome = true := by kernel_rfl
@[simp] theorem t275 : tyAgg Try.prog 47 = some false := by kernel_rfl
@[simp] theorem t276 : tySize Try.prog 47 = some 1 := by kernel_rfl
@[simp] theorem t277 : tyZero Try.prog 47 = some [Go.Abs.AV.nilfn] := by kernel_rfl
@[simp] theorem t278 : zeroEl Try.prog 47 = some Go.Abs.AV.nilfn := by kernel_rfl
@[simp] theorem t279 : (Try.prog.underlying 47).isSome = true := by kernel_rfl
@[simp] theorem t280 : slcElem Try.prog 48 = some (49, 1, 4) := by kernel_rfl
@[simp] theorem t281 : isSl Try.prog 48 = true := by kernel_rfl
@[simp] theorem t282 : tyAgg Try.prog 48 = some false := by kernel_rfl
@[simp] theorem t283 : tySize Try.prog 48 = some 1 := by kernel_rfl
@[simp] theorem t284 : tyZero Try.prog 48 = some [Go.Abs.AV.lst true true []] := by kernel_rfl
@[simp] theorem t285 : zeroEl Try.prog 48 = some (Go.Abs.AV.lst true true []) := by kernel_rfl
@[simp] theorem t286 : strSlc Try.prog 48 = true := by kernel_rfl
@[simp] theorem t287 : (Try.prog.underlying 48).isSome = true := by kernel_rfl
@[simp] theorem t288 : Try.prog.underlying 48 = some (Go.TypeDesc.slice 49) := by kernel_rfl
@[simp] theorem t289 : tyAgg Try.prog 49 = some false := by kernel_rfl
@[simp] theorem t290 : tySize Try.prog 49 = some 1 := by kernel_rfl
@[simp] theorem t291 : tyZero Try.prog 49 = some [Go.Abs.AV.int Go.IntKind.u32 (0)] := by kernel_rfl
@[simp] theorem t292 : zeroEl Try.prog 49 = some (Go.Abs.AV.int Go.IntKind.u32 (0)) := by kernel_rfl
@[simp] theorem t293 : intTy Try.prog 49 = some Go.IntKind.u32 := by kernel_rfl
@[simp] theorem t294 : (Try.prog.underlying 49).isSome = true := by kernel_rfl
@[simp] theorem t295 : tyAgg Try.prog 50 = some false := by kernel_rfl
@[simp] theorem t296 : tySize Try.prog 50 = some 1 := by kernel_rfl
@[simp] theorem t297 : (Try.prog.underlying 50).isSome = true := by kernel_rfl
@[simp] theorem t298 : tyAgg Try.prog 51 = some false := by kernel_rfl
@[simp] theorem t299 : tySize Try.prog 51 = some 1 := by kernel_rfl
@[simp] theorem t300 : tyZero Try.prog 51 = some [Go.Abs.AV.nilfn] := by kernel_rfl
@[simp] theorem t301 : zeroEl Try.prog 51 = some Go.Abs.AV.nilfn := by kernel_rfl
@[simp] theorem t302 : (Try.prog.underlying 51).isSome = true := by kernel_rfl
@[simp] theorem t308 : slcElem Try.prog 53 = some (5, 1, 1) := by kernel_rfl
@[simp] theorem t309 : isSl Try.prog 53 = true := by kernel_rfl
@[simp] theorem t310 : tyAgg Try.prog 53 = some false := by kernel_rfl
@[simp] theorem t311 : tySize Try.prog 53 = some 1 := by kernel_rfl
@[simp] theorem t312 : tyZero Try.prog 53 = some [Go.Abs.AV.lst true true []] := by kernel_rfl
@[simp] theorem t313 : zeroEl Try.prog 53 = some (Go.Abs.AV.lst true true []) := by kernel_rfl
@[simp] theorem t314 : isBy Try.prog 53 = true := by kernel_rfl
@[simp] theorem t315 : strSlc Try.prog 53 = true := by kernel_rfl
@[simp] theorem t316 : (Try.prog.underlying 53).isSome = true := by kernel_rfl
@[simp] theorem t317 : Try.prog.underlying 53 = some (Go.TypeDesc.slice 5) := by kernel_rfl
@[simp] theorem t318 : tyAgg Try.prog 54 = some false := by kernel_rfl
@[simp] theorem t319 : tySize Try.prog 54 = some 1 := by kernel_rfl
@[simp] theorem t320 : (Try.prog.underlying 54).isSome = true := by kernel_rfl
@[simp] theorem t321 : tyAgg Try.prog 55 = some false := by kernel_rfl
@[simp] theorem t322 : tySize Try.prog 55 = some 1 := by kernel_rfl
@[simp] theorem t323 : tyZero Try.prog 55 = some [Go.Abs.AV.nilfn] := by kernel_rfl
@[simp] theorem t324 : zeroEl Try.prog 55 = some Go.Abs.AV.nilfn := by kernel_rfl
@[simp] theorem t325 : (Try.prog.underlying 55).isSome = true := by kernel_rfl
@[simp] theorem t326 : tyAgg Try.prog 56 = some false := by kernel_rfl
@[simp] theorem t327 : tySize Try.prog 56 = some 1 := by kernel_rfl
@[simp] theorem t328 : (Try.prog.underlying 56).isSome = true := by kernel_rfl
@[simp] theorem t329 : tyAgg Try.prog 57 = some false := by kernel_rfl
@[simp] theorem t330 : tySize Try.prog 57 = some 1 := by kernel_rfl
@[simp] theorem t331 : tyZero Try.prog 57 = some [Go.Abs.AV.nilfn] := by kernel_rfl
@[simp] theorem t332 : zeroEl Try.prog 57 = some Go.Abs.AV.nilfn := by kernel_rfl
@[simp] theorem t333 : (Try.prog.underlying 57).isSome = true := by kernel_rfl
@[simp] theorem t334 : tyAgg Try.prog 58 = some false := by kernel_rfl
@[simp] theorem t335 : tySize Try.prog 58 = some 1 := by kernel_rfl
@[simp] theorem t336 : tyZero Try.prog 58 = some [Go.Abs.AV.nilfn] := by kernel_rfl
@[simp] theorem t337 : zeroEl Try.prog 58 = some Go.Abs.AV.nilfn := by kernel_rfl
@[simp] theorem t338 : (Try.prog.underlying 58).isSome = true := by kernel_rfl
@[simp] theorem t354 : tyAgg Try.prog 62 = some false := by kernel_rfl
@[simp] theorem t355 : tySize Try.prog 62 = some 1 := by kernel_rfl
@[simp] theorem t356 : tyZero Try.prog 62 = some [Go.Abs.AV.nilfn] := by kernel_rfl
@[simp] theorem t357 : zeroEl Try.prog 62 = some Go.Abs.AV.nilfn := by kernel_rfl
@[simp] theorem t358 : (Try.prog.underlying 62).isSome = true := by kernel_rfl
@[simp] theorem t359 : tyAgg Try.prog 63 = some false := by kernel_rfl
@[simp] theorem t360 : tySize Try.prog 63 = some 1 := by kernel_rfl
@[simp] theorem t361 : tyZero Try.prog 63 = some [Go.Abs.AV.nilfn] := by kernel_rfl
@[simp] theorem t362 : zeroEl Try.prog 63 = some Go.Abs.AV.nilfn := by kernel_rfl
@[simp] theorem t363 : (Try.prog.underlying 63).isSome = true := by kernel_rfl
@[simp] theorem t364 : tyAgg Try.prog 64 = some true := by kernel_rfl
@[simp] theorem t365 : tySize Try.prog 64 = some 3 := by kernel_rfl
@[simp] theorem t366 : tyZero Try.prog 64 = some [Go.Abs.AV.lst true true [], Go.Abs.AV.lst true true [], Go.Abs.AV.int Go.IntKind.i64 (0)] := by kernel_rfl
@[simp] theorem t367 : zeroEl Try.prog 64 = some (Go.Abs.AV.agg [Go.Abs.AV.lst true true [], Go.Abs.AV.lst true true [], Go.Abs.AV.int Go.IntKind.i64 (0)]) := by kernel_rfl
@[simp] theorem t368 : fieldsOk Try.prog 64 = true := by kernel_rfl
@[simp] theorem t369 : (Try.prog.underlying 64).isSome = true := by kernel_rfl
@[simp] theorem t370 : tyAgg Try.prog 65 = some true := by kernel_rfl
@[simp] theorem t371 : tySize Try.prog 65 = some 3 := by kernel_rfl
@[simp] theorem t372 : tyZero Try.prog 65 = some [Go.Abs.AV.lst true true [], Go.Abs.AV.lst true true [], Go.Abs.AV.int Go.IntKind.i64 (0)] := by kernel_rfl
@[simp] theorem t373 : zeroEl Try.prog 65 = some (Go.Abs.AV.agg [Go.Abs.AV.lst true true [], Go.Abs.AV.lst true true [], Go.Abs.AV.int Go.IntKind.i64 (0)]) := by kernel_rfl
@[simp] theorem t374 : fieldsOk Try.prog 65 = true := by kernel_rfl
@[simp] theorem t375 : (Try.prog.underlying 65).isSome = true := by kernel_rfl
@[simp] theorem t376 : tyAgg Try.prog 66 = some true := by kernel_rfl
@[simp] theorem t377 : tySize Try.prog 66 = some 7 := by kernel_rfl
@[simp] theorem t378 : tyZero Try.prog 66 = some [Go.Abs.AV.lst true true [], Go.Abs.AV.lst true true [], Go.Abs.AV.lst true true [], Go.Abs.AV.int Go.IntKind.i64 (0), Go.Abs.AV.int Go.IntKind.i64 (0), Go.Abs.AV.int Go.IntKind.i64 (0), Go.Abs.AV.int Go.IntKind.i64 (0)] := by kernel_rfl
@[simp] theorem t379 : zeroEl Try.prog 66 = some (Go.Abs.AV.agg [Go.Abs.AV.lst true true [], Go.Abs.AV.lst true true [], Go.Abs.AV.lst true true [], Go.Abs.AV.int Go.IntKind.i64 (0), Go.Abs.AV.int Go.IntKind.i64 (0), Go.Abs.AV.int Go.IntKind.i64 (0), Go.Abs.AV.int Go.IntKind.i64 (0)]) := by kernel_rfl
@[simp] theorem t380 : fieldsOk Try.prog 66 = true := by kernel_rfl
@[simp] theorem t381 : (Try.prog.underlying 66).isSome = true := by kernel_rfl
@[simp] theorem t382 : tyAgg Try.prog 67 = some true := by kernel_rfl
@[simp] theorem t383 : tySize Try.prog 67 = some 7 := by kernel_rfl
@[simp] theorem t384 : tyZero Try.prog 67 = some [Go.Abs.AV.lst true true [], Go.Abs.AV.lst true true [], Go.Abs.AV.lst true true [], Go.Abs.AV.int Go.IntKind.i64 (0), Go.Abs.AV.int Go.IntKind.i64 (0), Go.Abs.AV.int Go.IntKind.i64 (0), Go.Abs.AV.int Go.IntKind.i64 (0)] := by kernel_rfl
@[simp] theorem t385 : zeroEl Try.prog 67 = some (Go.Abs.AV.agg [Go.Abs.AV.lst true true [], Go.Abs.AV.lst true true [], Go.Abs.AV.lst true true [], Go.Abs.AV.int Go.IntKind.i64 (0), Go.Abs.AV.int Go.IntKind.i64 (0), Go.Abs.AV.int Go.IntKind.i64 (0), Go.Abs.AV.int Go.IntKind.i64 (0)]) := by kernel_rfl
@[simp] theorem t386 : fieldsOk Try.prog 67 = true := by kernel_rfl
@[simp] theorem t387 : (Try.prog.underlying 67).isSome = true := by kernel_rfl
@[simp] theorem t393 : tyAgg Try.prog 69 = some false := by kernel_rfl
@[simp] theorem t394 : tySize Try.prog 69 = some 1 := by kernel_rfl
@[simp] theorem t395 : tyZero Try.prog 69 = some [Go.Abs.AV.nilfn] := by kernel_rfl
@[simp] theorem t396 : zeroEl Try.prog 69 = some Go.Abs.AV.nilfn := by kernel_rfl
@[simp] theorem t397 : (Try.prog.underlying 69).isSome = true := by kernel_rfl
@[simp] theorem t398 : tyAgg Try.prog 70 = some false := by kernel_rfl
@[simp] theorem t399 : tySize Try.prog 70 = some 1 := by kernel_rfl
@[simp] theorem t400 : tyZero Try.prog 70 = some [Go.Abs.AV.nilfn] := by kernel_rfl
@[simp] theorem t401 : zeroEl Try.prog 70 = some Go.Abs.AV.nilfn := by kernel_rfl
@[simp] theorem t402 : (Try.prog.underlying 70).isSome = true := by kernel_rfl
@[simp] theorem t403 : tyAgg Try.prog 71 = some false := by kernel_rfl
@[simp] theorem t404 : tySize Try.prog 71 = some 1 := by kernel_rfl
@[simp] theorem t405 : tyZero Try.prog 71 = some [Go.Abs.AV.nilfn] := by kernel_rfl
@[simp] theorem t406 : zeroEl Try.prog 71 = some Go.Abs.AV.nilfn := by kernel_rfl
@[simp] theorem t407 : (Try.prog.underlying 71).isSome = true := by kernel_rfl
@[simp] theorem t408 : tyAgg Try.prog 72 = some false := by kernel_rfl
@[simp] theorem t409 : tySize Try.prog 72 = some 1 := by kernel_rfl
@[simp] theorem t410 : tyZero Try.prog 72 = some [Go.Abs.AV.int Go.IntKind.u64 (0)] := by kernel_rfl
@[simp] theorem t411 : zeroEl Try.prog 72 = some (Go.Abs.AV.int Go.IntKind.u64 (0)) := by kernel_rfl
@[simp] theorem t412 : intTy Try.prog 72 = some Go.IntKind.u64 := by kernel_rfl
@[simp] theorem t413 : (Try.prog.underlying 72).isSome = true := by kernel_rfl
@[simp] theorem t425 : tyAgg Try.prog 75 = some false := by kernel_rfl
@[simp] theorem t426 : tySize Try.prog 75 = some 1 := by kernel_rfl
@[simp] theorem t427 : tyZero Try.prog 75 = some [Go.Abs.AV.nilfn] := by kernel_rfl
@[simp] theorem t428 : zeroEl Try.prog 75 = some Go.Abs.AV.nilfn := by kernel_rfl
@[simp] theorem t429 : (Try.prog.underlying 75).isSome = true := by kernel_rfl
@[simp] theorem t430 : tyAgg Try.prog 76 = some true := by kernel_rfl
@[simp] theorem t431 : tySize Try.prog 76 = some 3 := by kernel_rfl
@[simp] theorem t432 : tyZero Try.prog 76 = some [Go.Abs.AV.int Go.IntKind.i64 (0), Go.Abs.AV.int Go.IntKind.i64 (0), Go.Abs.AV.str { data := { toList := [] } }] := by kernel_rfl
@[simp] theorem t433 : zeroEl Try.prog 76 = some (Go.Abs.AV.agg [Go.Abs.AV.int Go.IntKind.i64 (0), Go.Abs.AV.int Go.IntKind.i64 (0), Go.Abs.AV.str { data := { toList := [] } }]) := by kernel_rfl
@[simp] theorem t434 : fieldsOk Try.prog 76 = true := by kernel_rfl
@[simp] theorem t435 : strP Try.prog 76 = some [Go.Abs.SKind.int Go.IntKind.i64, Go.Abs.SKind.int Go.IntKind.i64, Go.Abs.SKind.str] := by kernel_rfl
@[simp] theorem t436 : (Try.prog.underlying 76).isSome = true := by kernel_rfl
@[simp] theorem t437 : tyAgg Try.prog 77 = some true := by kernel_rfl
@[simp] theorem t438 : tySize Try.prog 77 = some 3 := by kernel_rfl
@[simp] theorem t439 : tyZero Try.prog 77 = some [Go.Abs.AV.int Go.IntKind.i64 (0), Go.Abs.AV.int Go.IntKind.i64 (0), Go.Abs.AV.str { data := { toList := [] } }] := by kernel_rfl
@[simp] theorem t440 : zeroEl Try.prog 77 = some (Go.Abs.AV.agg [Go.Abs.AV.int Go.IntKind.i64 (0), Go.Abs.AV.int Go.IntKind.i64 (0), Go.Abs.AV.str { data := { toList := [] } }]) := by kernel_rfl
@[simp] theorem t441 : fieldsOk Try.prog 77 = true := by kernel_rfl
@[simp] theorem t442 : strP Try.prog 77 = some [Go.Abs.SKind.int Go.IntKind.i64, Go.Abs.SKind.int Go.IntKind.i64, Go.Abs.SKind.str] := by kernel_rfl
@[simp] theorem t443 : (Try.prog.underlying 77).isSome = true := by kernel_rfl
@[simp] theorem t444 : tyAgg Try.prog 78 = some true := by kernel_rfl
@[simp] theorem t445 : tySize Try.prog 78 = some 6 := by kernel_rfl
@[simp] theorem t446 : tyZero Try.prog 78 = some [Go.Abs.AV.int Go.IntKind.i64 (0), Go.Abs.AV.int Go.IntKind.i64 (0), Go.Abs.AV.int Go.IntKind.i64 (0), Go.Abs.AV.int Go.IntKind.i64 (0), Go.Abs.AV.lst true true [], Go.Abs.AV.lst true true []] := by kernel_rfl
@[simp] theorem t447 : zeroEl Try.prog 78 = some (Go.Abs.AV.agg [Go.Abs.AV.int Go.IntKind.i64 (0), Go.Abs.AV.int Go.IntKind.i64 (0), Go.Abs.AV.int Go.IntKind.i64 (0), Go.Abs.AV.int Go.IntKind.i64 (0), Go.Abs.AV.lst true true [], Go.Abs.AV.lst true true []]) := by kernel_rfl
@[simp] theorem t448 : fieldsOk Try.prog 78 = true := by kernel_rfl
@[simp] theorem t449 : (Try.prog.underlying 78).isSome = true := by kernel_rfl
@[simp] theorem t464 : tyAgg Try.prog 82 = some false := by kernel_rfl
@[simp] theorem t465 : tySize Try.prog 82 = some 1 := by kernel_rfl
@[simp] theorem t466 : tyZero Try.prog 82 = some [Go.Abs.AV.nilfn] := by kernel_rfl
@[simp] theorem t467 : zeroEl Try.prog 82 = some Go.Abs.AV.nilfn := by kernel_rfl
@[simp] theorem t468 : (Try.prog.underlying 82).isSome = true := by kernel_rfl
@[simp] theorem t469 : tyAgg Try.prog 83 = some false := by kernel_rfl
@[simp] theorem t470 : tySize Try.prog 83 = some 1 := by kernel_rfl
@[simp] theorem t471 : tyZero Try.prog 83 = some [Go.Abs.AV.nilfn] := by kernel_rfl
@[simp] theorem t472 : zeroEl Try.prog 83 = some Go.Abs.AV.nilfn := by kernel_rfl
@[simp] theorem t473 : (Try.prog.underlying 83).isSome = true := by kernel_rfl
@[simp] theorem t494 : tyAgg Try.prog 88 = some false := by kernel_rfl
@[simp] theorem t495 : tySize Try.prog 88 = some 1 := by kernel_rfl
@[simp] theorem t496 : tyZero Try.prog 88 = some [Go.Abs.AV.nilfn] := by kernel_rfl
@[simp] theorem t497 : zeroEl Try.prog 88 = some Go.Abs.AV.nilfn := by kernel_rfl
@[simp] theorem t498 : (Try.prog.underlying 88).isSome = true := by kernel_rfl
@[simp] theorem t504 : tyAgg Try.prog 90 = some false := by kernel_rfl
@[simp] theorem t505 : tySize Try.prog 90 = some 1 := by kernel_rfl
@[simp] theorem t506 : tyZero Try.prog 90 = some [Go.Abs.AV.nilfn] := by kernel_rfl
@[simp] theorem t507 : zeroEl Try.prog 90 = some Go.Abs.AV.nilfn := by kernel_rfl
@[simp] theorem t508 : (Try.prog.underlying 90).isSome = true := by kernel_rfl
@[simp] theorem t703 : tyAgg Try.prog 127 = some true := by kernel_rfl
@[simp] theorem t704 : tySize Try.prog 127 = some 2 := by kernel_rfl
@[simp] theorem t705 : tyZero Try.prog 127 = some [Go.Abs.AV.lst true true [], Go.Abs.AV.int Go.IntKind.i64 (0)] := by kernel_rfl
@[simp] theorem t706 : zeroEl Try.prog 127 = some (Go.Abs.AV.agg [Go.Abs.AV.lst true true [], Go.Abs.AV.int Go.IntKind.i64 (0)]) := by kernel_rfl
@[simp] theorem t707 : fieldsOk Try.prog 127 = true := by kernel_rfl
@[simp] theorem t708 : (Try.prog.underlying 127).isSome = true := by kernel_rfl
@[simp] theorem t709 : tyAgg Try.prog 128 = some true := by kernel_rfl
@[simp] theorem t710 : tySize Try.prog 128 = some 2 := by kernel_rfl
@[simp] theorem t711 : tyZero Try.prog 128 = some [Go.Abs.AV.lst true true [], Go.Abs.AV.int Go.IntKind.i64 (0)] := by kernel_rfl
@[simp] theorem t712 : zeroEl Try.prog 128 = some (Go.Abs.AV.agg [Go.Abs.AV.lst true true [], Go.Abs.AV.int Go.IntKind.i64 (0)]) := by kernel_rfl
@[simp] theorem t713 : fieldsOk Try.prog 128 = true := by kernel_rfl
@[simp] theorem t714 : (Try.prog.underlying 128).isSome = true := by kernel_rfl
@[simp] theorem t745 : slcElem Try.prog 135 = some (22, 1, 24) := by kernel_rfl
@[simp] theorem t746 : isSl Try.prog 135 = true := by kernel_rfl
@[simp] theorem t747 : tyAgg Try.prog 135 = some false := by kernel_rfl
@[simp] theorem t748 : tySize Try.prog 135 = some 1 := by kernel_rfl
@[simp] theorem t749 : tyZero Try.prog 135 = some [Go.Abs.AV.lst true true []] := by kernel_rfl
@[simp] theorem t750 : zeroEl Try.prog 135 = some (Go.Abs.AV.lst true true []) := by kernel_rfl
@[simp] theorem t751 : strSlc Try.prog 135 = true := by kernel_rfl
@[simp] theorem t752 : (Try.prog.underlying 135).isSome = true := by kernel_rfl
@[simp] theorem t753 : Try.prog.underlying 135 = some (Go.TypeDesc.slice 22) := by kernel_rfl
@[simp] theorem t759 : slcElem Try.prog 137 = some (194, 3, 24) := by kernel_rfl
@[simp] theorem t760 : isSl Try.prog 137 = true := by kernel_rfl
@[simp] theorem t761 : tyAgg Try.prog 137 = some false := by kernel_rfl
@[simp] theorem t762 : tySize Try.prog 137 = some 1 := by kernel_rfl
@[simp] theorem t763 : tyZero Try.prog 137 = some [Go.Abs.AV.lst true true []] := by kernel_rfl
@[simp] theorem t764 : zeroEl Try.prog 137 = some (Go.Abs.AV.lst true true []) := by kernel_rfl
@[simp] theorem t765 : strSlc Try.prog 137 = true := by kernel_rfl
@[simp] theorem t766 : (Try.prog.underlying 137).isSome = true := by kernel_rfl
@[simp] theorem t767 : Try.prog.underlying 137 = some (Go.TypeDesc.slice 194) := by kernel_rfl
@[simp] theorem t768 : tyAgg Try.prog 138 = some true := by kernel_rfl
@[simp] theorem t769 : tySize Try.prog 138 = some 3 := by kernel_rfl
@[simp] theorem t770 : tyZero Try.prog 138 = some [Go.Abs.AV.int Go.IntKind.i64 (0), Go.Abs.AV.lst true true [], Go.Abs.AV.lst true true []] := by kernel_rfl
@[simp] theorem t771 : zeroEl Try.prog 138 = some (Go.Abs.AV.agg [Go.Abs.AV.int Go.IntKind.i64 (0), Go.Abs.AV.lst true true [], Go.Abs.AV.lst true true []]) := by kernel_rfl
@[simp] theorem t772 : fieldsOk Try.prog 138 = true := by kernel_rfl
@[simp] theorem t773 : (Try.prog.underlying 138).isSome = true := by kernel_rfl
@[simp] theorem t774 : tyAgg Try.prog 139 = some true := by kernel_rfl
@[simp] theorem t775 : tySize Try.prog 139 = some 3 := by kernel_rfl
@[simp] theorem t776 : tyZero Try.prog 139 = some [Go.Abs.AV.int Go.IntKind.i64 (0), Go.Abs.AV.lst true true [], Go.Abs.AV.lst true true []] := by kernel_rfl
@[simp] theorem t777 : zeroEl Try.prog 139 = some (Go.Abs.AV.agg [Go.Abs.AV.int Go.IntKind.i64 (0), Go.Abs.AV.lst true true [], Go.Abs.AV.lst true true []]) := by kernel_rfl
@[simp] theorem t778 : fieldsOk Try.prog 139 = true := by kernel_rfl
@[simp] theorem t779 : (Try.prog.underlying 139).isSome = true := by kernel_rfl
@[simp] theorem t921 : tyAgg Try.prog 167 = some true := by kernel_rfl
@[simp] theorem t922 : tySize Try.prog 167 = some 64 := by kernel_rfl
@[simp] theorem t923 : tyZero Try.prog 167 = some [Go.Abs.AV.bool false, Go.Abs.AV.bool false, Go.Abs.AV.bool false, Go.Abs.AV.bool false, Go.Abs.AV.bool false, Go.Abs.AV.bool false, Go.Abs.AV.bool false, Go.Abs.AV.bool false, Go.Abs.AV.bool false, Go.Abs.AV.bool false, Go.Abs.AV.bool false, Go.Abs.AV.bool false, Go.Abs.AV.bool false, Go.Abs.AV.bool false, Go.Abs.AV.bool false, Go.Abs.AV.bool false, Go.Abs.AV.bool false, Go.Abs.AV.bool false, Go.Abs.AV.bool false, Go.Abs.AV.bool false, Go.Abs.AV.bool false, Go.Abs.AV.bool false, Go.Abs.AV.bool false, Go.Abs.AV.bool false, Go.Abs.AV.bool false, Go.Abs.AV.bool false, Go.Abs.AV.bool false, Go.Abs.AV.bool false, Go.Abs.AV.bool false, Go.Abs.AV.bool false, Go.Abs.AV.bool false, Go.Abs.AV.bool false, Go.Abs.AV.bool false, Go.Abs.AV.bool false, Go.Abs.AV.bool false, Go.Abs.AV.bool false, Go.Abs.AV.bool false, Go.Abs.AV.bool false, Go.Abs.AV.bool false, Go.Abs.AV.bool false, Go.Abs.AV.bool false, Go.Abs.AV.bool false, Go.Abs.AV.bool false, Go.Abs.AV.bool false, Go.Abs.AV.bool false, Go.Abs.AV.bool false, Go.Abs.AV.bool false, Go.Abs.AV.bool false, Go.Abs.AV.bool false, Go.Abs.AV.bool false, Go.Abs.AV.bool false, Go.Abs.AV.bool false, Go.Abs.AV.bool false, Go.Abs.AV.bool false, Go.Abs.AV.bool false, Go.Abs.AV.bool false, Go.Abs.AV.bool false, Go.Abs.AV.bool false, Go.Abs.AV.bool false, Go.Abs.AV.bool false, Go.Abs.AV.bool false, Go.Abs.AV.bool false, Go.Abs.AV.bool false, Go.Abs.AV.bool false] := by kernel_rfl
@[simp] theorem t924 : arrElem Try.prog 167 = some (64, 1) := by kernel_rfl
@[simp] theorem t925 : zeroEl Try.prog 167 = some (Go.Abs.AV.agg [Go.Abs.AV.bool false, Go.Abs.AV.bool false, Go.Abs.AV.bool false, Go.Abs.AV.bool false, Go.Abs.AV.bool false, Go.Abs.AV.bool false, Go.Abs.AV.bool false, Go.Abs.AV.bool false, Go.Abs.AV.bool false, Go.Abs.AV.bool false, Go.Abs.AV.bool false, Go.Abs.AV.bool false, Go.Abs.AV.bool false, Go.Abs.AV.bool false, Go.Abs.AV.bool false, Go.Abs.AV.bool false, Go.Abs.AV.bool false, Go.Abs.AV.bool false, Go.Abs.AV.bool false, Go.Abs.AV.bool false, Go.Abs.AV.bool false, Go.Abs.AV.bool false, Go.Abs.AV.bool false, Go.Abs.AV.bool false, Go.Abs.AV.bool false, Go.Abs.AV.bool false, Go.Abs.AV.bool false, Go.Abs.AV.bool false, Go.Abs.AV.bool false, Go.Abs.AV.bool false, Go.Abs.AV.bool false, Go.Abs.AV.bool false, Go.Abs.AV.bool false, Go.Abs.AV.bool false, Go.Abs.AV.bool false, Go.Abs.AV.bool false, Go.Abs.AV.bool false, Go.Abs.AV.bool false, Go.Abs.AV.bool false, Go.Abs.AV.bool false, Go.Abs.AV.bool false, Go.Abs.AV.bool false, Go.Abs.AV.bool false, Go.Abs.AV.bool false, Go.Abs.AV.bool false, Go.Abs.AV.bool false, Go.Abs.AV.bool false, Go.Abs.AV.bool false, Go.Abs.AV.bool false, Go.Abs.AV.bool false, Go.Abs.AV.bool false, Go.Abs.AV.bool false, Go.Abs.AV.bool false, Go.Abs.AV.bool false, Go.Abs.AV.bool false, Go.Abs.AV.bool false, Go.Abs.AV.bool false, Go.Abs.AV.bool false, Go.Abs.AV.bool false, Go.Abs.AV.bool false, Go.Abs.AV.bool false, Go.Abs.AV.bool false, Go.Abs.AV.bool false, Go.Abs.AV.bool false]) := by kernel_rfl
@[simp] theorem t926 : fieldsOk Try.prog 167 = true := by kernel_rfl
@[simp] theorem t927 : arrP Try.prog 167 = some (64, Go.Abs.SKind.bool) := by kernel_rfl
@[simp] theorem t928 : (Try.prog.underlying 167).isSome = true := by kernel_rfl
@[simp] theorem t929 : tyAgg Try.prog 168 = some true := by kernel_rfl
@[simp] theorem t930 : tySize Try.prog 168 = some 64 := by kernel_rfl
@[simp] theorem t931 : tyZero Try.prog 168 = some [Go.Abs.AV.bool false, Go.Abs.AV.bool false, Go.Abs.AV.bool false, Go.Abs.AV.bool false, Go.Abs.AV.bool false, Go.Abs.AV.bool false, Go.Abs.AV.bool false, Go.Abs.AV.bool false, Go.Abs.AV.bool false, Go.Abs.AV.bool false, Go.Abs.AV.bool false, Go.Abs.AV.bool false, Go.Abs.AV.bool false, Go.Abs.AV.bool false, Go.Abs.AV.bool false, Go.Abs.AV.bool false, Go.Abs.AV.bool false, Go.Abs.AV.bool false, Go.Abs.AV.bool false, Go.Abs.AV.bool false, Go.Abs.AV.bool false, Go.Abs.AV.bool false, Go.Abs.AV.bool false, Go.Abs.AV.bool false, Go.Abs.AV.bool false, Go.Abs.AV.bool false, Go.Abs.AV.bool false, Go.Abs.AV.bool false, Go.Abs.AV.bool false, Go.Abs.AV.bool false, Go.Abs.AV.bool false, Go.Abs.AV.bool false, Go.Abs.AV.bool false, Go.Abs.AV.bool false, Go.Abs.AV.bool false, Go.Abs.AV.bool false, Go.Abs.AV.bool false, Go.Abs.AV.bool false, Go.Abs.AV.bool false, Go.Abs.AV.bool false, Go.Abs.AV.bool false, Go.Abs.AV.bool false, Go.Abs.AV.bool false, Go.Abs.AV.bool false, Go.Abs.AV.bool false, Go.Abs.AV.bool false, Go.Abs.AV.bool false, Go.Abs.AV.bool false, Go.Abs.AV.bool false, Go.Abs.AV.bool false, Go.Abs.AV.bool false, Go.Abs.AV.bool false, Go.Abs.AV.bool false, Go.Abs.AV.bool false, Go.Abs.AV.bool false, Go.Abs.AV.bool false, Go.Abs.AV.bool false, Go.Abs.AV.bool false, Go.Abs.AV.bool false, Go.Abs.AV.bool false, Go.Abs.AV.bool false, Go.Abs.AV.bool false, Go.Abs.AV.bool false, Go.Abs.AV.bool false] := by kernel_rfl
@[simp] theorem t932 : arrElem Try.prog 168 = some (64, 1) := by kernel_rfl
@[simp] theorem t933 : zeroEl Try.prog 168 = some (Go.Abs.AV.agg [Go.Abs.AV.bool false, Go.Abs.AV.bool false, Go.Abs.AV.bool false, Go.Abs.AV.bool false, Go.Abs.AV.bool false, Go.Abs.AV.bool false, Go.Abs.AV.bool false, Go.Abs.AV.bool false, Go.Abs.AV.bool false, Go.Abs.AV.bool false, Go.Abs.AV.bool false, Go.Abs.AV.bool false, Go.Abs.AV.bool false, Go.Abs.AV.bool false, Go.Abs.AV.bool false, Go.Abs.AV.bool false, Go.Abs.AV.bool false, Go.Abs.AV.bool false, Go.Abs.AV.bool false, Go.Abs.AV.bool false, Go.Abs.AV.bool false, Go.Abs.AV.bool false, Go.Abs.AV.bool false, Go.Abs.AV.bool false, Go.Abs.AV.bool false, Go.Abs.AV.bool false, Go.Abs.AV.bool false, Go.Abs.AV.bool false, Go.Abs.AV.bool false, Go.Abs.AV.bool false, Go.Abs.AV.bool false, Go.Abs.AV.bool false, Go.Abs.AV.bool false, Go.Abs.AV.bool false, Go.Abs.AV.bool false, Go.Abs.AV.bool false, Go.Abs.AV.bool false, Go.Abs.AV.bool false, Go.Abs.AV.bool false, Go.Abs.AV.bool false, Go.Abs.AV.bool false, Go.Abs.AV.bool false, Go.Abs.AV.bool false, Go.Abs.AV.bool false, Go.Abs.AV.bool false, Go.Abs.AV.bool false, Go.Abs.AV.bool false, Go.Abs.AV.bool false, Go.Abs.AV.bool false, Go.Abs.AV.bool false, Go.Abs.AV.bool false, Go.Abs.AV.bool false, Go.Abs.AV.bool false, Go.Abs.AV.bool false, Go.Abs.AV.bool false, Go.Abs.AV.bool false, Go.Abs.AV.bool false, Go.Abs.AV.bool false, Go.Abs.AV.bool false, Go.Abs.AV.bool false, Go.Abs.AV.bool false, Go.Abs.AV.bool false, Go.Abs.AV.bool false, Go.Abs.AV.bool false]) := by kernel_rfl
@[simp] theorem t934 : fieldsOk Try.prog 168 = true := by kernel_rfl
@[simp] theorem t935 : arrP Try.prog 168 = some (64, Go.Abs.SKind.bool) := by kernel_rfl
@[simp] theorem t936 : (Try.prog.underlying 168).isSome = true := by kernel_rfl
@[simp] theorem t1064 : tyAgg Try.prog 193 = some true := by kernel_rfl
@[simp] theorem t1065 : tySize Try.prog 193 = some 3 := by kernel_rfl
@[simp] theorem t1066 : tyZero Try.prog 193 = some [Go.Abs.AV.int Go.IntKind.i64 (0), Go.Abs.AV.int Go.IntKind.i64 (0), Go.Abs.AV.int Go.IntKind.i64 (0)] := by kernel_rfl
@[simp] theorem t1067 : zeroEl Try.prog 193 = some (Go.Abs.AV.agg [Go.Abs.AV.int Go.IntKind.i64 (0), Go.Abs.AV.int Go.IntKind.i64 (0), Go.Abs.AV.int Go.IntKind.i64 (0)]) := by kernel_rfl
@[simp] theorem t1068 : fieldsOk Try.prog 193 = true := by kernel_rfl
@[simp] theorem t1069 : strP Try.prog 193 = some [Go.Abs.SKind.int Go.IntKind.i64, Go.Abs.SKind.int Go.IntKind.i64, Go.Abs.SKind.int Go.IntKind.i64] := by kernel_rfl
@[simp] theorem t1070 : (Try.prog.underlying 193).isSome = true := by kernel_rfl
@[simp] theorem t1071 : tyAgg Try.prog 194 = some true := by kernel_rfl
@[simp] theorem t1072 : tySize Try.prog 194 = some 3 := by kernel_rfl
@[simp] theorem t1073 : tyZero Try.prog 194 = some [Go.Abs.AV.int Go.IntKind.i64 (0), Go.Abs.AV.int Go.IntKind.i64 (0), Go.Abs.AV.int Go.IntKind.i64 (0)] := by kernel_rfl
@[simp] theorem t1074 : zeroEl Try.prog 194 = some (Go.Abs.AV.agg [Go.Abs.AV.int Go.IntKind.i64 (0), Go.Abs.AV.int Go.IntKind.i64 (0), Go.Abs.AV.int Go.IntKind.i64 (0)]) := by kernel_rfl
@[simp] theorem t1075 : fieldsOk Try.prog 194 = true := by kernel_rfl
@[simp] theorem t1076 : strP Try.prog 194 = some [Go.Abs.SKind.int Go.IntKind.i64, Go.Abs.SKind.int Go.IntKind.i64, Go.Abs.SKind.int Go.IntKind.i64] := by kernel_rfl
@[simp] theorem t1077 : (Try.prog.underlying 194).isSome = true := by kernel_rfl
@[simp] theorem t1119 : tyAgg Try.prog 204 = some true := by kernel_rfl
@[simp] theorem t1120 : tySize Try.prog 204 = some 4 := by kernel_rfl
@[simp] theorem t1121 : tyZero Try.prog 204 = some [Go.Abs.AV.nilptr, Go.Abs.AV.nilptr, Go.Abs.AV.nilptr, Go.Abs.AV.str { data := { toList := [] } }] := by kernel_rfl
@[simp] theorem t1122 : zeroEl Try.prog 204 = some (Go.Abs.AV.agg [Go.Abs.AV.nilptr, Go.Abs.AV.nilptr, Go.Abs.AV.nilptr, Go.Abs.AV.str { data := { toList := [] } }]) := by kernel_rfl
@[simp] theorem t1123 : fieldsOk Try.prog 204 = true := by kernel_rfl
@[simp] theorem t1124 : (Try.prog.underlying 204).isSome = true := by kernel_rfl
@[simp] theorem t1125 : tyAgg Try.prog 205 = some true := by kernel_rfl
@[simp] theorem t1126 : tySize Try.prog 205 = some 4 := by kernel_rfl
@[simp] theorem t1127 : tyZero Try.prog 205 = some [Go.Abs.AV.nilptr, Go.Abs.AV.nilptr, Go.Abs.AV.nilptr, Go.Abs.AV.str { data := { toList := [] } }] := by kernel_rfl
@[simp] theorem t1128 : zeroEl Try.prog 205 = some (Go.Abs.AV.agg [Go.Abs.AV.nilptr, Go.Abs.AV.nilptr, Go.Abs.AV.nilptr, Go.Abs.AV.str { data := { toList := [] } }]) := by kernel_rfl
@[simp] theorem t1129 : fieldsOk Try.prog 205 = true := by kernel_rfl
@[simp] theorem t1130 : (Try.prog.underlying 205).isSome = true := by kernel_rfl
@[simp] theorem t1131 : tyAgg Try.prog 206 = some true := by kernel_rfl
@[simp] theorem t1132 : tySize Try.prog 206 = some 0 := by kernel_rfl
@[simp] theorem t1133 : tyZero Try.prog 206 = some [] := by kernel_rfl
@[simp] theorem t1134 : arrElem Try.prog 206 = some (0, 1) := by kernel_rfl
@[simp] theorem t1135 : zeroEl Try.prog 206 = some (Go.Abs.AV.agg []) := by kernel_rfl
@[simp] theorem t1136 : fieldsOk Try.prog 206 = true := by kernel_rfl
@[simp] theorem t1137 : (Try.prog.underlying 206).isSome = true := by kernel_rfl
@[simp] theorem t1138 : tyAgg Try.prog 207 = some true := by kernel_rfl
@[simp] theorem t1139 : tySize Try.prog 207 = some 0 := by kernel_rfl
@[simp] theorem t1140 : tyZero Try.prog 207 = some [] := by kernel_rfl
@[simp] theorem t1141 : zeroEl Try.prog 207 = some (Go.Abs.AV.agg []) := by kernel_rfl
@[simp] theorem t1142 : fieldsOk Try.prog 207 = true := by kernel_rfl
@[simp] theorem t1143 : (Try.prog.underlying 207).isSome = true := by kernel_rfl
@[simp] theorem t1144 : tyAgg Try.prog 208 = some true := by kernel_rfl
@[simp] theorem t1145 : tySize Try.prog 208 = some 0 := by kernel_rfl
@[simp] theorem t1146 : tyZero Try.prog 208 = some [] := by kernel_rfl
@[simp] theorem t1147 : zeroEl Try.prog 208 = some (Go.Abs.AV.agg []) := by kernel_rfl
@[simp] theorem t1148 : fieldsOk Try.prog 208 = true := by kernel_rfl
@[simp] theorem t1149 : (Try.prog.underlying 208).isSome = true := by kernel_rfl
@[simp] theorem t1150 : tyAgg Try.prog 209 = some false := by kernel_rfl
@[simp] theorem t1151 : tySize Try.prog 209 = some 1 := by kernel_rfl
@[simp] theorem t1152 : tyZero Try.prog 209 = some [Go.Abs.AV.int Go.IntKind.u8 (0)] := by kernel_rfl
@[simp] theorem t1153 : zeroEl Try.prog 209 = some (Go.Abs.AV.int Go.IntKind.u8 (0)) := by kernel_rfl
@[simp] theorem t1154 : intTy Try.prog 209 = some Go.IntKind.u8 := by kernel_rfl
@[simp] theorem t1155 : (Try.prog.underlying 209).isSome = true := by kernel_rfl
@[simp] theorem t1156 : tyAgg Try.prog 210 = some false := by kernel_rfl
@[simp] theorem t1157 : tySize Try.prog 210 = some 1 := by kernel_rfl
@[simp] theorem t1158 : tyZero Try.prog 210 = some [Go.Abs.AV.int Go.IntKind.u8 (0)] := by kernel_rfl
@[simp] theorem t1159 : zeroEl Try.prog 210 = some (Go.Abs.AV.int Go.IntKind.u8 (0)) := by kernel_rfl
@[simp] theorem t1160 : intTy Try.prog 210 = some Go.IntKind.u8 := by kernel_rfl
@[simp] theorem t1161 : (Try.prog.underlying 210).isSome = true := by kernel_rfl
@[simp] theorem t1162 : tyAgg Try.prog 211 = some false := by kernel_rfl
@[simp] theorem t1163 : tySize Try.prog 211 = some 1 := by kernel_rfl
@[simp] theorem t1164 : tyZero Try.prog 211 = some [Go.Abs.AV.nilfn] := by kernel_rfl
@[simp] theorem t1165 : zeroEl Try.prog 211 = some Go.Abs.AV.nilfn := by kernel_rfl
@[simp] theorem t1166 : (Try.prog.underlying 211).isSome = true := by kernel_rfl
@[simp] theorem t1167 : tyAgg Try.prog 212 = some false := by kernel_rfl
@[simp] theorem t1168 : tySize Try.prog 212 = some 1 := by kernel_rfl
@[simp] theorem t1169 : tyZero Try.prog 212 = some [Go.Abs.AV.nilptr] := by kernel_rfl
@[simp] theorem t1170 : zeroEl Try.prog 212 = some Go.Abs.AV.nilptr := by kernel_rfl
@[simp] theorem t1171 : (Try.prog.underlying 212).isSome = true := by kernel_rfl
@[simp] theorem t1172 : tyAgg Try.prog 213 = some false := by kernel_rfl
@[simp] theorem t1173 : tySize Try.prog 213 = some 1 := by kernel_rfl
@[simp] theorem t1174 : tyZero Try.prog 213 = some [Go.Abs.AV.int Go.IntKind.i32 (0)] := by kernel_rfl
@[simp] theorem t1175 : zeroEl Try.prog 213 = some (Go.Abs.AV.int Go.IntKind.i32 (0)) := by kernel_rfl
@[simp] theorem t1176 : intTy Try.prog 213 = some Go.IntKind.i32 := by kernel_rfl
@[simp] theorem t1177 : (Try.prog.underlying 213).isSome = true := by kernel_rfl
@[simp] theorem t1178 : tyAgg Try.prog 214 = some false := by kernel_rfl
@[simp] theorem t1179 : tySize Try.prog 214 = some 1 := by kernel_rfl
@[simp] theorem t1180 : tyZero Try.prog 214 = some [Go.Abs.AV.int Go.IntKind.i32 (0)] := by kernel_rfl
@[simp] theorem t1181 : zeroEl Try.prog 214 = some (Go.Abs.AV.int Go.IntKind.i32 (0)) := by kernel_rfl
@[simp] theorem t1182 : intTy Try.prog 214 = some Go.IntKind.i32 := by kernel_rfl
@[simp] theorem t1183 : (Try.prog.underlying 214).isSome = true := by kernel_rfl
@[simp] theorem t1184 : tyAgg Try.prog 215 = some true := by kernel_rfl
@[simp] theorem t1185 : tySize Try.prog 215 = some 11 := by kernel_rfl
@[simp] theorem t1186 : tyZero Try.prog 215 = some [Go.Abs.AV.int Go.IntKind.u64 (0), Go.Abs.AV.int Go.IntKind.u64 (0), Go.Abs.AV.int Go.IntKind.u32 (0), Go.Abs.AV.int Go.IntKind.u8 (0), Go.Abs.AV.int Go.IntKind.u8 (0), Go.Abs.AV.int Go.IntKind.u8 (0), Go.Abs.AV.int Go.IntKind.u8 (0), Go.Abs.AV.nilfn, Go.Abs.AV.nilptr, Go.Abs.AV.int Go.IntKind.i32 (0), Go.Abs.AV.int Go.IntKind.i32 (0)] := by kernel_rfl
@[simp] theorem t1187 : zeroEl Try.prog 215 = some (Go.Abs.AV.agg [Go.Abs.AV.int Go.IntKind.u64 (0), Go.Abs.AV.int Go.IntKind.u64 (0), Go.Abs.AV.int Go.IntKind.u32 (0), Go.Abs.AV.int Go.IntKind.u8 (0), Go.Abs.AV.int Go.IntKind.u8 (0), Go.Abs.AV.int Go.IntKind.u8 (0), Go.Abs.AV.int Go.IntKind.u8 (0), Go.Abs.AV.nilfn, Go.Abs.AV.nilptr, Go.Abs.AV.int Go.IntKind.i32 (0), Go.Abs.AV.int Go.IntKind.i32 (0)]) := by kernel_rfl
@[simp] theorem t1188 : fieldsOk Try.prog 215 = true := by kernel_rfl
@[simp] theorem t1189 : (Try.prog.underlying 215).isSome = true := by kernel_rfl
@[simp] theorem t1190 : tyAgg Try.prog 216 = some true := by kernel_rfl
@[simp] theorem t1191 : tySize Try.prog 216 = some 11 := by kernel_rfl
@[simp] theorem t1192 : tyZero Try.prog 216 = some [Go.Abs.AV.int Go.IntKind.u64 (0), Go.Abs.AV.int Go.IntKind.u64 (0), Go.Abs.AV.int Go.IntKind.u32 (0), Go.Abs.AV.int Go.IntKind.u8 (0), Go.Abs.AV.int Go.IntKind.u8 (0), Go.Abs.AV.int Go.IntKind.u8 (0), Go.Abs.AV.int Go.IntKind.u8 (0), Go.Abs.AV.nilfn, Go.Abs.AV.nilptr, Go.Abs.AV.int Go.IntKind.i32 (0), Go.Abs.AV.int Go.IntKind.i32 (0)] := by kernel_rfl
@[simp] theorem t1193 : zeroEl Try.prog 216 = some (Go.Abs.AV.agg [Go.Abs.AV.int Go.IntKind.u64 (0), Go.Abs.AV.int Go.IntKind.u64 (0), Go.Abs.AV.int Go.IntKind.u32 (0), Go.Abs.AV.int Go.IntKind.u8 (0), Go.Abs.AV.int Go.IntKind.u8 (0), Go.Abs.AV.int Go.IntKind.u8 (0), Go.Abs.AV.int Go.IntKind.u8 (0), Go.Abs.AV.nilfn, Go.Abs.AV.nilptr, Go.Abs.AV.int Go.IntKind.i32 (0), Go.Abs.AV.int Go.IntKind.i32 (0)]) := by kernel_rfl
@[simp] theorem t1194 : fieldsOk Try.prog 216 = true := by kernel_rfl
@[simp] theorem t1195 : (Try.prog.underlying 216).isSome = true := by kernel_rfl
@[simp] theorem t1201 : fldPl Try.prog 25 0 = some (0, 1) := by kernel_rfl
@[simp] theorem t1202 : fldOff Try.prog 25 0 = some 0 := by kernel_rfl
@[simp] theorem t1203 : fldSel Try.prog 25 0 = some (0, none) := by kernel_rfl
@[simp] theorem t1204 : fldPl Try.prog 25 1 = some (1, 1) := by kernel_rfl
@[simp] theorem t1205 : fldOff Try.prog 25 1 = some 1 := by kernel_rfl
@[simp] theorem t1206 : fldSel Try.prog 25 1 = some (1, none) := by kernel_rfl
@[simp] theorem t1207 : fldPl Try.prog 27 0 = some (0, 1) := by kernel_rfl
@[simp] theorem t1208 : fldOff Try.prog 27 0 = some 0 := by kernel_rfl
@[simp] theorem t1209 : fldSel Try.prog 27 0 = some (0, none) := by kernel_rfl
@[simp] theorem t1210 : fldPl Try.prog 27 1 = some (1, 1) := by kernel_rfl
@[simp] theorem t1211 : fldOff Try.prog 27 1 = some 1 := by kernel_rfl
@[simp] theorem t1212 : fldSel Try.prog 27 1 = some (1, none) := by kernel_rfl
@[simp] theorem t1213 : fldPl Try.prog 27 2 = some (2, 1) := by kernel_rfl
@[simp] theorem t1214 : fldOff Try.prog 27 2 = some 2 := by kernel_rfl
@[simp] theorem t1215 : fldSel Try.prog 27 2 = some (2, none) := by kernel_rfl
@[simp] theorem t1216 : fldPl Try.prog 27 3 = some (3, 1) := by kernel_rfl
@[simp] theorem t1217 : fldOff Try.prog 27 3 = some 3 := by kernel_rfl
@[simp] theorem t1218 : fldSel Try.prog 27 3 = some (3, none) := by kernel_rfl
@[simp] theorem t1219 : fldPl Try.prog 27 4 = some (4, 1) := by kernel_rfl
@[simp] theorem t1220 : fldOff Try.prog 27 4 = some 4 := by kernel_rfl
@[simp] theorem t1221 : fldSel Try.prog 27 4 = some (4, none) := by kernel_rfl
@[simp] theorem t1222 : fldPl Try.prog 27 5 = some (5, 1) := by kernel_rfl
@[simp] theorem t1223 : fldOff Try.prog 27 5 = some 5 := by kernel_rfl
@[simp] theorem t1224 : fldSel Try.prog 27 5 = some (5, none) := by kernel_rfl
@[simp] theorem t1225 : fldPl Try.prog 27 6 = some (6, 1) := by kernel_rfl
@[simp] theorem t1226 : fldOff Try.prog 27 6 = some 6 := by kernel_rfl
@[simp] theorem t1227 : fldSel Try.prog 27 6 = some (6, none) := by kernel_rfl
@[simp] theorem t1228 : fldPl Try.prog 27 7 = some (7, 1) := by kernel_rfl
@[simp] theorem t1229 : fldOff Try.prog 27 7 = some 7 := by kernel_rfl
@[simp] theorem t1230 : fldSel Try.prog 27 7 = some (7, none) := by kernel_rfl
@[simp] theorem t1231 : fldPl Try.prog 27 8 = some (8, 1) := by kernel_rfl
@[simp] theorem t1232 : fldOff Try.prog 27 8 = some 8 := by kernel_rfl
@[simp] theorem t1233 : fldSel Try.prog 27 8 = some (8, none) := by kernel_rfl
@[simp] theorem t1234 : fldPl Try.prog 27 9 = some (9, 1) := by kernel_rfl
@[simp] theorem t1235 : fldOff Try.prog 27 9 = some 9 := by kernel_rfl
@[simp] theorem t1236 : fldSel Try.prog 27 9 = some (9, none) := by kernel_rfl
@[simp] theorem t1237 : fldPl Try.prog 27 10 = some (10, 1) := by kernel_rfl
@[simp] theorem t1238 : fldOff Try.prog 27 10 = some 10 := by kernel_rfl
@[simp] theorem t1239 : fldSel Try.prog 27 10 = some (10, none) := by kernel_rfl
@[simp] theorem t1240 : fldPl Try.prog 27 11 = some (11, 2) := by kernel_rfl
@[simp] theorem t1241 : fldOff Try.prog 27 11 = some 11 := by kernel_rfl
@[simp] theorem t1242 : fldSel Try.prog 27 11 = some (11, some 2) := by kernel_rfl
@[simp] theorem t1243 : fldPl Try.prog 33 0 = some (0, 1) := by kernel_rfl
@[simp] theorem t1244 : fldOff Try.prog 33 0 = some 0 := by kernel_rfl
@[simp] theorem t1245 : fldSel Try.prog 33 0 = some (0, none) := by kernel_rfl
@[simp] theorem t1246 : fldPl Try.prog 33 1 = some (1, 1) := by kernel_rfl
@[simp] theorem t1247 : fldOff Try.prog 33 1 = some 1 := by kernel_rfl
@[simp] theorem t1248 : fldSel Try.prog 33 1 = some (1, none) := by kernel_rfl
@[simp] theorem t1249 : fldPl Try.prog 33 2 = some (2, 1) := by kernel_rfl
@[simp] theorem t1250 : fldOff Try.prog 33 2 = some 2 := by kernel_rfl
@[simp] theorem t1251 : fldSel Try.prog 33 2 = some (2, none) := by kernel_rfl
@[simp] theorem t1252 : fldPl Try.prog 33 3 = some (3, 1) := by kernel_rfl
@[simp] theorem t1253 : fldOff Try.prog 33 3 = some 3 := by kernel_rfl
@[simp] theorem t1254 : fldSel Try.prog 33 3 = some (3, none) := by kernel_rfl
@[simp] theorem t1255 : fldPl Try.prog 38 0 = some (0, 1) := by kernel_rfl
@[simp] theorem t1256 : fldOff Try.prog 38 0 = some 0 := by kernel_rfl
@[simp] theorem t1257 : fldSel Try.prog 38 0 = some (0, none) := by kernel_rfl
@[simp] theorem t1258 : fldPl Try.prog 38 1 = some (1, 1) := by kernel_rfl
@[simp] theorem t1259 : fldOff Try.prog 38 1 = some 1 := by kernel_rfl
@[simp] theorem t1260 : fldSel Try.prog 38 1 = some (1, none) := by kernel_rfl
@[simp] theorem t1261 : fldPl Try.prog 42 0 = some (0, 1) := by kernel_rfl
@[simp] theorem t1262 : fldOff Try.prog 42 0 = some 0 := by kernel_rfl
@[simp] theorem t1263 : fldSel Try.prog 42 0 = some (0, none) := by kernel_rfl
@[simp] theorem t1264 : fldPl Try.prog 42 1 = some (1, 4) := by kernel_rfl
@[simp] theorem t1265 : fldOff Try.prog 42 1 = some 1 := by kernel_rfl
@[simp] theorem t1266 : fldSel Try.prog 42 1 = some (1, some 4) := by kernel_rfl
@[simp] theorem t1267 : fldPl Try.prog 42 2 = some (5, 2) := by kernel_rfl
@[simp] theorem t1268 : fldOff Try.prog 42 2 = some 5 := by kernel_rfl
@[simp] theorem t1269 : fldSel Try.prog 42 2 = some (5, some 2) := by kernel_rfl
@[simp] theorem t1270 : fldPl Try.prog 65 0 = some (0, 1) := by kernel_rfl
@[simp] theorem t1271 : fldOff Try.prog 65 0 = some 0 := by kernel_rfl
@[simp] theorem t1272 : fldSel Try.prog 65 0 = some (0, none) := by kernel_rfl
@[simp] theorem t1273 : fldPl Try.prog 65 1 = some (1, 1) := by kernel_rfl
@[simp] theorem t1274 : fldOff Try.prog 65 1 = some 1 := by kernel_rfl
@[simp] theorem t1275 : fldSel Try.prog 65 1 = some (1, none) := by kernel_rfl
@[simp] theorem t1276 : fldPl Try.prog 65 2 = some (2, 1) := by kernel_rfl
@[simp] theorem t1277 : fldOff Try.prog 65 2 = some 2 := by kernel_rfl
@[simp] theorem t1278 : fldSel Try.prog 65 2 = some (2, none) := by kernel_rfl
@[simp] theorem t1279 : fldPl Try.prog 67 0 = some (0, 1) := by kernel_rfl
@[simp] theorem t1280 : fldOff Try.prog 67 0 = some 0 := by kernel_rfl
@[simp] theorem t1281 : fldSel Try.prog 67 0 = some (0, none) := by kernel_rfl
@[simp] theorem t1282 : fldPl Try.prog 67 1 = some (1, 3) := by kernel_rfl
@[simp] theorem t1283 : fldOff Try.prog 67 1 = some 1 := by kernel_rfl
@[simp] theorem t1284 : fldSel Try.prog 67 1 = some (1, some 3) := by kernel_rfl
@[simp] theorem t1285 : fldPl Try.prog 67 2 = some (4, 1) := by kernel_rfl
@[simp] theorem t1286 : fldOff Try.prog 67 2 = some 4 := by kernel_rfl
@[simp] theorem t1287 : fldSel Try.prog 67 2 = some (4, none) := by kernel_rfl
@[simp] theorem t1288 : fldPl Try.prog 67 3 = some (5, 1) := by kernel_rfl
@[simp] theorem t1289 : fldOff Try.prog 67 3 = some 5 := by kernel_rfl
@[simp] theorem t1290 : fldSel Try.prog 67 3 = some (5, none) := by kernel_rfl
@[simp] theorem t1291 : fldPl Try.prog 67 4 = some (6, 1) := by kernel_rfl
@[simp] theorem t1292 : fldOff Try.prog 67 4 = some 6 := by kernel_rfl
@[simp] theorem t1293 : fldSel Try.prog 67 4 = some (6, none) := by kernel_rfl
@[simp] theorem t1294 : fldPl Try.prog 77 0 = some (0, 1) := by kernel_rfl
@[simp] theorem t1295 : fldOff Try.prog 77 0 = some 0 := by kernel_rfl
@[simp] theorem t1296 : fldSel Try.prog 77 0 = some (0, none) := by kernel_rfl
@[simp] theorem t1297 : fldPl Try.prog 77 1 = some (1, 1) := by kernel_rfl
@[simp] theorem t1298 : fldOff Try.prog 77 1 = some 1 := by kernel_rfl
@[simp] theorem t1299 : fldSel Try.prog 77 1 = some (1, none) := by kernel_rfl
@[simp] theorem t1300 : fldPl Try.prog 77 2 = some (2, 1) := by kernel_rfl
@[simp] theorem t1301 : fldOff Try.prog 77 2 = some 2 := by kernel_rfl
@[simp] theorem t1302 : fldSel Try.prog 77 2 = some (2, none) := by kernel_rfl
@[simp] theorem t1330 : fldPl Try.prog 128 0 = some (0, 1) := by kernel_rfl
@[simp] theorem t1331 : fldOff Try.prog 128 0 = some 0 := by kernel_rfl
@[simp] theorem t1332 : fldSel Try.prog 128 0 = some (0, none) := by kernel_rfl
@[simp] theorem t1333 : fldPl Try.prog 128 1 = some (1, 1) := by kernel_rfl
@[simp] theorem t1334 : fldOff Try.prog 128 1 = some 1 := by kernel_rfl
@[simp] theorem t1335 : fldSel Try.prog 128 1 = some (1, none) := by kernel_rfl
@[simp] theorem t1336 : fldPl Try.prog 139 0 = some (0, 1) := by kernel_rfl
@[simp] theorem t1337 : fldOff Try.prog 139 0 = some 0 := by kernel_rfl
@[simp] theorem t1338 : fldSel Try.prog 139 0 = some (0, none) := by kernel_rfl
@[simp] theorem t1339 : fldPl Try.prog 139 1 = some (1, 1) := by kernel_rfl
@[simp] theorem t1340 : fldOff Try.prog 139 1 = some 1 := by kernel_rfl
@[simp] theorem t1341 : fldSel Try.prog 139 1 = some (1, none) := by kernel_rfl
@[simp] theorem t1342 : fldPl Try.prog 139 2 = some (2, 1) := by kernel_rfl
@[simp] theorem t1343 : fldOff Try.prog 139 2 = some 2 := by kernel_rfl
@[simp] theorem t1344 : fldSel Try.prog 139 2 = some (2, none) := by kernel_rfl
@[simp] theorem t1417 : fldPl Try.prog 168 0 = some (0, 1) := by kernel_rfl
@[simp] theorem t1418 : fldPl Try.prog 168 1 = some (1, 1) := by kernel_rfl
@[simp] theorem t1419 : fldPl Try.prog 168 2 = some (2, 1) := by kernel_rfl
@[simp] theorem t1420 : fldPl Try.prog 168 3 = some (3, 1) := by kernel_rfl
@[simp] theorem t1421 : fldPl Try.prog 168 4 = some (4, 1) := by kernel_rfl
@[simp] theorem t1422 : fldPl Try.prog 168 5 = some (5, 1) := by kernel_rfl
@[simp] theorem t1423 : fldPl Try.prog 168 6 = some (6, 1) := by kernel_rfl
@[simp] theorem t1424 : fldPl Try.prog 168 7 = some (7, 1) := by kernel_rfl
@[simp] theorem t1425 : fldPl Try.prog 168 8 = some (8, 1) := by kernel_rfl
@[simp] theorem t1426 : fldPl Try.prog 168 9 = some (9, 1) := by kernel_rfl
@[simp] theorem t1427 : fldPl Try.prog 168 10 = some (10, 1) := by kernel_rfl
@[simp] theorem t1428 : fldPl Try.prog 168 11 = some (11, 1) := by kernel_rfl
@[simp] theorem t1429 : fldPl Try.prog 168 12 = some (12, 1) := by kernel_rfl
@[simp] theorem t1430 : fldPl Try.prog 168 13 = some (13, 1) := by kernel_rfl
@[simp] theorem t1431 : fldPl Try.prog 168 14 = some (14, 1) := by kernel_rfl
@[simp] theorem t1432 : fldPl Try.prog 168 15 = some (15, 1) := by kernel_rfl
@[simp] theorem t1433 : fldPl Try.prog 168 16 = some (16, 1) := by kernel_rfl
@[simp] theorem t1434 : fldPl Try.prog 168 17 = some (17, 1) := by kernel_rfl
@[simp] theorem t1435 : fldPl Try.prog 168 18 = some (18, 1) := by kernel_rfl
@[simp] theorem t1436 : fldPl Try.prog 168 19 = some (19, 1) := by kernel_rfl
@[simp] theorem t1437 : fldPl Try.prog 168 20 = some (20, 1) := by kernel_rfl
@[simp] theorem t1438 : fldPl Try.prog 168 21 = some (21, 1) := by kernel_rfl
@[simp] theorem t1439 : fldPl Try.prog 168 22 = some (22, 1) := by kernel_rfl
@[simp] theorem t1440 : fldPl Try.prog 168 23 = some (23, 1) := by kernel_rfl
@[simp] theorem t1441 : fldPl Try.prog 168 24 = some (24, 1) := by kernel_rfl
@[simp] theorem t1442 : fldPl Try.prog 168 25 = some (25, 1) := by kernel_rfl
@[simp] theorem t1443 : fldPl Try.prog 168 26 = some (26, 1) := by kernel_rfl
@[simp] theorem t1444 : fldPl Try.prog 168 27 = some (27, 1) := by kernel_rfl
@[simp] theorem t1445 : fldPl Try.prog 168 28 = some (28, 1) := by kernel_rfl
@[simp] theorem t1446 : fldPl Try.prog 168 29 = some (29, 1) := by kernel_rfl
@[simp] theorem t1447 : fldPl Try.prog 168 30 = some (30, 1) := by kernel_rfl
@[simp] theorem t1448 : fldPl Try.prog 168 31 = some (31, 1) := by kernel_rfl
@[simp] theorem t1449 : fldPl Try.prog 168 32 = some (32, 1) := by kernel_rfl
@[simp] theorem t1450 : fldPl Try.prog 168 33 = some (33, 1) := by kernel_rfl
@[simp] theorem t1451 : fldPl Try.prog 168 34 = some (34, 1) := by kernel_rfl
@[simp] theorem t1452 : fldPl Try.prog 168 35 = some (35, 1) := by kernel_rfl
@[simp] theorem t1453 : fldPl Try.prog 168 36 = some (36, 1) := by kernel_rfl
@[simp] theorem t1454 : fldPl Try.prog 168 37 = some (37, 1) := by kernel_rfl
@[simp] theorem t1455 : fldPl Try.prog 168 38 = some (38, 1) := by kernel_rfl
@[simp] theorem t1456 : fldPl Try.prog 168 39 = some (39, 1) := by kernel_rfl
@[simp] theorem t1457 : fldPl Try.prog 168 40 = some (40, 1) := by kernel_rfl
@[simp] theorem t1458 : fldPl Try.prog 168 41 = some (41, 1) := by kernel_rfl
@[simp] theorem t1459 : fldPl Try.prog 168 42 = some (42, 1) := by kernel_rfl
@[simp] theorem t1460 : fldPl Try.prog 168 43 = some (43, 1) := by kernel_rfl
@[simp] theorem t1461 : fldPl Try.prog 168 44 = some (44, 1) := by kernel_rfl
@[simp] theorem t1462 : fldPl Try.prog 168 45 = some (45, 1) := by kernel_rfl
@[simp] theorem t1463 : fldPl Try.prog 168 46 = some (46, 1) := by kernel_rfl
@[simp] theorem t1464 : fldPl Try.prog 168 47 = some (47, 1) := by kernel_rfl
@[simp] theorem t1465 : fldPl Try.prog 168 48 = some (48, 1) := by kernel_rfl
@[simp] theorem t1466 : fldPl Try.prog 168 49 = some (49, 1) := by kernel_rfl
@[simp] theorem t1467 : fldPl Try.prog 168 50 = some (50, 1) := by kernel_rfl
@[simp] theorem t1468 : fldPl Try.prog 168 51 = some (51, 1) := by kernel_rfl
@[simp] theorem t1469 : fldPl Try.prog 168 52 = some (52, 1) := by kernel_rfl
@[simp] theorem t1470 : fldPl Try.prog 168 53 = some (53, 1) := by kernel_rfl
@[simp] theorem t1471 : fldPl Try.prog 168 54 = some (54, 1) := by kernel_rfl
@[simp] theorem t1472 : fldPl Try.prog 168 55 = some (55, 1) := by kernel_rfl
@[simp] theorem t1473 : fldPl Try.prog 168 56 = some (56, 1) := by kernel_rfl
@[simp] theorem t1474 : fldPl Try.prog 168 57 = some (57, 1) := by kernel_rfl
@[simp] theorem t1475 : fldPl Try.prog 168 58 = some (58, 1) := by kernel_rfl
@[simp] theorem t1476 : fldPl Try.prog 168 59 = some (59, 1) := by kernel_rfl
@[simp] theorem t1477 : fldPl Try.prog 168 60 = some (60, 1) := by kernel_rfl
@[simp] theorem t1478 : fldPl Try.prog 168 61 = some (61, 1) := by kernel_rfl
@[simp] theorem t1479 : fldPl Try.prog 168 62 = some (62, 1) := by kernel_rfl
@[simp] theorem t1480 : fldPl Try.prog 168 63 = some (63, 1) := by kernel_rfl
@[simp] theorem t1495 : fldPl Try.prog 194 0 = some (0, 1) := by kernel_rfl
@[simp] theorem t1496 : fldOff Try.prog 194 0 = some 0 := by kernel_rfl
@[simp] theorem t1497 : fldSel Try.prog 194 0 = some (0, none) := by kernel_rfl
@[simp] theorem t1498 : fldPl Try.prog 194 1 = some (1, 1) := by kernel_rfl
@[simp] theorem t1499 : fldOff Try.prog 194 1 = some 1 := by kernel_rfl
@[simp] theorem t1500 : fldSel Try.prog 194 1 = some (1, none) := by kernel_rfl
@[simp] theorem t1501 : fldPl Try.prog 194 2 = some (2, 1) := by kernel_rfl
@[simp] theorem t1502 : fldOff Try.prog 194 2 = some 2 := by kernel_rfl
@[simp] theorem t1503 : fldSel Try.prog 194 2 = some (2, none) := by kernel_rfl
@[simp] theorem c2 : callable Try.prog 2 = true := by kernel_rfl
@[simp] theorem c3 : callable Try.prog 3 = true := by kernel_rfl
@[simp] theorem c4 : callable Try.prog 4 = true := by kernel_rfl
@[simp] theorem c5 : callable Try.prog 5 = true := by kernel_rfl
@[simp] theorem c6 : callable Try.prog 6 = true := by kernel_rfl
@[simp] theorem c7 : callable Try.prog 7 = true := by kernel_rfl
@[simp] theorem c8 : callable Try.prog 8 = true := by kernel_rfl
@[simp] theorem c9 : callable Try.prog 9 = true := by kernel_rfl
@[simp] theorem c10 : callable Try.prog 10 = true := by kernel_rfl
@[simp] theorem c11 : callable Try.prog 11 = true := by kernel_rfl
@[simp] theorem c12 : callable Try.prog 12 = true := by kernel_rfl
@[simp] theorem c13 : callable Try.prog 13 = true := by kernel_rfl
@[simp] theorem c14 : callable Try.prog 14 = true := by kernel_rfl
@[simp] theorem c15 : callable Try.prog 15 = true := by kernel_rfl
@[simp] theorem c16 : callable Try.prog 16 = true := by kernel_rfl
@[simp] theorem c17 : callable Try.prog 17 = true := by kernel_rfl
@[simp] theorem c18 : callable Try.prog 18 = true := by kernel_rfl
@[simp] theorem c19 : callable Try.prog 19 = true := by kernel_rfl
@[simp] theorem c20 : callable Try.prog 20 = true := by kernel_rfl
@[simp] theorem c21 : callable Try.prog 21 = true := by kernel_rfl
@[simp] theorem c22 : callable Try.prog 22 = true := by kernel_rfl
@[simp] theorem c23 : callable Try.prog 23 = true := by kernel_rfl
@[simp] theorem c24 : callable Try.prog 24 = true := by kernel_rfl
@[simp] theorem c25 : callable Try.prog 25 = true := by kernel_rfl
@[simp] theorem c26 : callable Try.prog 26 = true := by kernel_rfl
@[simp] theorem c27 : callable Try.prog 27 = true := by kernel_rfl
@[simp] theorem c28 : callable Try.prog 28 = true := by kernel_rfl
@[simp] theorem c29 : callable Try.prog 29 = true := by kernel_rfl
@[simp] theorem c30 : callable Try.prog 30 = true := by kernel_rfl
@[simp] theorem c31 : callable Try.prog 31 = true := by kernel_rfl
@[simp] theorem c32 : callable Try.prog 32 = true := by kernel_rfl
@[simp] theorem c33 : callable Try.prog 33 = true := by kernel_rfl
@[simp] theorem c34 : callable Try.prog 34 = true := by kernel_rfl
@[simp] theorem c35 : callable Try.prog 35 = true := by kernel_rfl
@[simp] theorem c36 : callable Try.prog 36 = true := by kernel_rfl
@[simp] theorem c37 : callable Try.prog 37 = true := by kernel_rfl
@[simp] theorem c38 : callable Try.prog 38 = true := by kernel_rfl
@[simp] theorem c39 : callable Try.prog 39 = true := by kernel_rfl
@[simp] theorem c40 : callable Try.prog 40 = true := by kernel_rfl
@[simp] theorem c41 : callable Try.prog 41 = true := by kernel_rfl
@[simp] theorem c42 : callable Try.prog 42 = true := by kernel_rfl
@[simp] theorem c43 : callable Try.prog 43 = true := by kernel_rfl
@[simp] theorem c44 : callable Try.prog 44 = true := by kernel_rfl
@[simp] theorem c45 : callable Try.prog 45 = true := by kernel_rfl
@[simp] theorem c46 : callable Try.prog 46 = true := by kernel_rfl
@[simp] theorem c47 : callable Try.prog 47 = true := by kernel_rfl
@[simp] theorem c48 : callable Try.prog 48 = true := by kernel_rfl
@[simp] theorem c49 : callable Try.prog 49 = true := by kernel_rfl
@[simp] theorem c50 : callable Try.prog 50 = true := by kernel_rfl
@[simp] theorem c51 : callable Try.prog 51 = true := by kernel_rfl
@[simp] theorem c52 : callable Try.prog 52 = true := by kernel_rfl
@[simp] theorem c53 : callable Try.prog 53 = true := by kernel_rfl
@[simp] theorem c54 : callable Try.prog 54 = true := by kernel_rfl
@[simp] theorem c55 : callable Try.prog 55 = true := by kernel_rfl
@[simp] theorem c56 : callable Try.prog 56 = true := by kernel_rfl
@[simp] theorem c57 : callable Try.prog 57 = true := by kernel_rfl
@[simp] theorem c58 : callable Try.prog 58 = true := by kernel_rfl
@[simp] theorem c59 : callable Try.prog 59 = true := by kernel_rfl
@[simp] theorem c60 : callable Try.prog 60 = true := by kernel_rfl
@[simp] theorem c61 : callable Try.prog 61 = true := by kernel_rfl
@[simp] theorem c62 : callable Try.prog 62 = true := by kernel_rfl
@[simp] theorem c63 : callable Try.prog 63 = true := by kernel_rfl
@[simp] theorem c64 : callable Try.prog 64 = true := by kernel_rfl
@[simp] theorem c65 : callable Try.prog 65 = true := by kernel_rfl
@[simp] theorem c66 : callable Try.prog 66 = true := by kernel_rfl
@[simp] theorem c67 : callable Try.prog 67 = true := by kernel_rfl
@[simp] theorem c68 : callable Try.prog 68 = true := by kernel_rfl
@[simp] theorem c69 : callable Try.prog 69 = true := by kernel_rfl
@[simp] theorem c70 : callable Try.prog 70 = true := by kernel_rfl
@[simp] theorem c71 : callable Try.prog 71 = true := by kernel_rfl
@[simp] theorem c72 : callable Try.prog 72 = true := by kernel_rfl
@[simp] theorem c73 : callable Try.prog 73 = true := by kernel_rfl
@[simp] theorem c74 : callable Try.prog 74 = true := by kernel_rfl
@[simp] theorem c75 : callable Try.prog 75 = true := by kernel_rfl
@[simp] theorem c76 : callable Try.prog 76 = true := by kernel_rfl
@[simp] theorem c77 : callable Try.prog 77 = true := by kernel_rfl
@[simp] theorem c78 : callable Try.prog 78 = true := by kernel_rfl
@[simp] theorem c79 : callable Try.prog 79 = true := by kernel_rfl
@[simp] theorem c80 : callable Try.prog 80 = true := by kernel_rfl
@[simp] theorem c81 : callable Try.prog 81 = true := by kernel_rfl
@[simp] theorem c82 : callable Try.prog 82 = true := by kernel_rfl
@[simp] theorem c83 : callable Try.prog 83 = true := by kernel_rfl
@[simp] theorem c84 : callable Try.prog 84 = true := by kernel_rfl
@[simp] theorem c85 : callable Try.prog 85 = true := by kernel_rfl
@[simp] theorem c86 : callable Try.prog 86 = true := by kernel_rfl
@[simp] theorem c87 : callable Try.prog 87 = true := by kernel_rfl
@[simp] theorem c88 : callable Try.prog 88 = true := by kernel_rfl
@[simp] theorem c89 : callable Try.prog 89 = true := by kernel_rfl
@[simp] theorem c90 : callable Try.prog 90 = true := by kernel_rfl
@[simp] theorem c91 : callable Try.prog 91 = true := by kernel_rfl
@[simp] theorem c92 : callable Try.prog 92 = true := by kernel_rfl
@[simp] theorem c93 : callable Try.prog 93 = true := by kernel_rfl
@[simp] theorem c94 : callable Try.prog 94 = true := by kernel_rfl
@[simp] theorem c95 : callable Try.prog 95 = true := by kernel_rfl
@[simp] theorem c96 : callable Try.prog 96 = true := by kernel_rfl
@[simp] theorem c97 : callable Try.prog 97 = true := by kernel_rfl
@[simp] theorem c98 : callable Try.prog 98 = true := by kernel_rfl
@[simp] theorem c99 : callable Try.prog 99 = true := by kernel_rfl
@[simp] theorem c100 : callable Try.prog 100 = true := by kernel_rfl
@[simp] theorem c101 : callable Try.prog 101 = true := by kernel_rfl
@[simp] theorem c102 : callable Try.prog 102 = true := by kernel_rfl
@[simp] theorem c103 : callable Try.prog 103 = true := by kernel_rfl
@[simp] theorem c104 : callable Try.prog 104 = true := by kernel_rfl
@[simp] theorem c105 : callable Try.prog 105 = true := by kernel_rfl
@[simp] theorem c106 : callable Try.prog 106 = true := by kernel_rfl
@[simp] theorem c107 : callable Try.prog 107 = true := by kernel_rfl
@[simp] theorem c108 : callable Try.prog 108 = true := by kernel_rfl
@[simp] theorem c109 : callable Try.prog 109 = true := by kernel_rfl
@[simp] theorem c110 : callable Try.prog 110 = true := by kernel_rfl
@[simp] theorem c111 : callable Try.prog 111 = true := by kernel_rfl
@[simp] theorem c112 : callable Try.prog 112 = true := by kernel_rfl
@[simp] theorem c113 : callable Try.prog 113 = true := by kernel_rfl
@[simp] theorem c114 : callable Try.prog 114 = true := by kernel_rfl
@[simp] theorem c115 : callable Try.prog 115 = true := by kernel_rfl
@[simp] theorem c116 : callable Try.prog 116 = true := by kernel_rfl
@[simp] theorem c117 : callable Try.prog 117 = true := by kernel_rfl
@[simp] theorem c118 : callable Try.prog 118 = true := by kernel_rfl
@[simp] theorem c119 : callable Try.prog 119 = true := by kernel_rfl
@[simp] theorem c120 : callable Try.prog 120 = true := by kernel_rfl
@[simp] theorem c121 : callable Try.prog 121 = true := by kernel_rfl
@[simp] theorem c122 : callable Try.prog 122 = true := by kernel_rfl
@[simp] theorem c123 : callable Try.prog 123 = true := by kernel_rfl
@[simp] theorem c124 : callable Try.prog 124 = true := by kernel_rfl
@[simp] theorem c125 : callable Try.prog 125 = true := by kernel_rfl
@[simp] theorem c126 : callable Try.prog 126 = true := by kernel_rfl
@[simp] theorem c127 : callable Try.prog 127 = true := by kernel_rfl
@[simp] theorem c128 : callable Try.prog 128 = true := by kernel_rfl
@[simp] theorem c129 : callable Try.prog 129 = true := by kernel_rfl
@[simp] theorem c130 : callable Try.prog 130 = true := by kernel_rfl
@[simp] theorem c131 : callable Try.prog 131 = true := by kernel_rfl
@[simp] theorem c132 : callable Try.prog 132 = true := by kernel_rfl
@[simp] theorem c133 : callable Try.prog 133 = true := by kernel_rfl
@[simp] theorem c134 : callable Try.prog 134 = true := by kernel_rfl
@[simp] theorem c135 : callable Try.prog 135 = true := by kernel_rfl
@[simp] theorem c136 : callable Try.prog 136 = true := by kernel_rfl
@[simp] theorem c137 : callable Try.prog 137 = true := by kernel_rfl
@[simp] theorem c138 : callable Try.prog 138 = true := by kernel_rfl
@[simp] theorem c139 : callable Try.prog 139 = true := by kernel_rfl
@[simp] theorem c140 : callable Try.prog 140 = true := by kernel_rfl
@[simp] theorem c141 : callable Try.prog 141 = true := by kernel_rfl
@[simp] theorem c142 : callable Try.prog 142 = true := by kernel_rfl
@[simp] theorem c143 : callable Try.prog 143 = true := by kernel_rfl
@[simp] theorem c144 : callable Try.prog 144 = true := by kernel_rfl
@[simp] theorem c145 : callable Try.prog 145 = true := by kernel_rfl
@[simp] theorem c146 : callable Try.prog 146 = true := by kernel_rfl
@[simp] theorem c147 : callable Try.prog 147 = true := by kernel_rfl
@[simp] theorem c148 : callable Try.prog 148 = true := by kernel_rfl
@[simp] theorem c149 : callable Try.prog 149 = true := by kernel_rfl
@[simp] theorem c150 : callable Try.prog 150 = true := by kernel_rfl
@[simp] theorem c151 : callable Try.prog 151 = true := by kernel_rfl
@[simp] theorem c152 : callable Try.prog 152 = true := by kernel_rfl
@[simp] theorem c153 : callable Try.prog 153 = true := by kernel_rfl
@[simp] theorem c154 : callable Try.prog 154 = true := by kernel_rfl
@[simp] theorem c155 : callable Try.prog 155 = true := by kernel_rfl
@[simp] theorem c156 : callable Try.prog 156 = true := by kernel_rfl
@[simp] theorem c157 : callable Try.prog 157 = true := by kernel_rfl
@[simp] theorem c158 : callable Try.prog 158 = true := by kernel_rfl
@[simp] theorem c159 : callable Try.prog 159 = true := by kernel_rfl
@[simp] theorem c160 : callable Try.prog 160 = true := by kernel_rfl
@[simp] theorem c161 : callable Try.prog 161 = true := by kernel_rfl
@[simp] theorem c162 : callable Try.prog 162 = true := by kernel_rfl
@[simp] theorem c163 : callable Try.prog 163 = true := by kernel_rfl
@[simp] theorem c164 : callable Try.prog 164 = true := by kernel_rfl
@[simp] theorem c165 : callable Try.prog 165 = true := by kernel_rfl
@[simp] theorem c166 : callable Try.prog 166 = true := by kernel_rfl
@[simp] theorem c167 : callable Try.prog 167 = true := by kernel_rfl
@[simp] theorem c168 : callable Try.prog 168 = true := by kernel_rfl
@[simp] theorem c169 : callable Try.prog 169 = true := by kernel_rfl
@[simp] theorem c170 : callable Try.prog 170 = true := by kernel_rfl
@[simp] theorem c171 : callable Try.prog 171 = true := by kernel_rfl
@[simp] theorem c172 : callable Try.prog 172 = true := by kernel_rfl
@[simp] theorem c173 : callable Try.prog 173 = true := by kernel_rfl
@[simp] theorem c174 : callable Try.prog 174 = true := by kernel_rfl
@[simp] theorem c175 : callable Try.prog 175 = true := by kernel_rfl
@[simp] theorem c176 : callable Try.prog 176 = true := by kernel_rfl
@[simp] theorem c177 : callable Try.prog 177 = true := by kernel_rfl
@[simp] theorem c178 : callable Try.prog 178 = true := by kernel_rfl
@[simp] theorem c179 : callable Try.prog 179 = true := by kernel_rfl
@[simp] theorem c180 : callable Try.prog 180 = true := by kernel_rfl
@[simp] theorem c181 : callable Try.prog 181 = true := by kernel_rfl
@[simp] theorem c182 : callable Try.prog 182 = true := by kernel_rfl
@[simp] theorem c183 : callable Try.prog 183 = true := by kernel_rfl
@[simp] theorem c184 : callable Try.prog 184 = true := by kernel_rfl
@[simp] theorem c185 : callable Try.prog 185 = true := by kernel_rfl
@[simp] theorem c186 : callable Try.prog 186 = true := by kernel_rfl
@[simp] theorem c187 : callable Try.prog 187 = true := by kernel_rfl
@[simp] theorem c188 : callable Try.prog 188 = true := by kernel_rfl
@[simp] theorem c189 : callable Try.prog 189 = true := by kernel_rfl
@[simp] theorem c190 : callable Try.prog 190 = true := by kernel_rfl
@[simp] theorem c191 : callable Try.prog 191 = true := by kernel_rfl
@[simp] theorem c192 : callable Try.prog 192 = true := by kernel_rfl
@[simp] theorem c193 : callable Try.prog 193 = true := by kernel_rfl
@[simp] theorem c194 : callable Try.prog 194 = true := by kernel_rfl
@[simp] theorem c195 : callable Try.prog 195 = true := by kernel_rfl
@[simp] theorem c196 : callable Try.prog 196 = true := by kernel_rfl
@[simp] theorem c197 : callable Try.prog 197 = true := by kernel_rfl
@[simp] theorem c198 : callable Try.prog 198 = true := by kernel_rfl
@[simp] theorem c199 : callable Try.prog 199 = true := by kernel_rfl
@[simp] theorem c200 : callable Try.prog 200 = true := by kernel_rfl
@[simp] theorem c201 : callable Try.prog 201 = true := by kernel_rfl
@[simp] theorem c202 : callable Try.prog 202 = true := by kernel_rfl
@[simp] theorem c203 : callable Try.prog 203 = true := by kernel_rfl
@[simp] theorem c204 : callable Try.prog 204 = true := by kernel_rfl
@[simp] theorem c205 : callable Try.prog 205 = true := by kernel_rfl
@[simp] theorem c206 : callable Try.prog 206 = true := by kernel_rfl
@[simp] theorem c207 : callable Try.prog 207 = true := by kernel_rfl
@[simp] theorem c209 : callable Try.prog 209 = true := by kernel_rfl
@[simp] theorem c210 : callable Try.prog 210 = true := by kernel_rfl
@[simp] theorem c211 : callable Try.prog 211 = true := by kernel_rfl
@[simp] theorem c212 : callable Try.prog 212 = true := by kernel_rfl
@[simp] theorem c213 : callable Try.prog 213 = true := by kernel_rfl
theorem xcmp : CmpFn Try.prog 208 := ⟨_, rfl, rfl, rfl, rfl, rfl⟩
end Go.Proofs.YtgadcpbcbbmeaaaAT
