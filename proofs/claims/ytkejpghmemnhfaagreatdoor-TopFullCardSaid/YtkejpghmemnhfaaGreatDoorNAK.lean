/- A part of the proof: AbK0. -/
import Derived.Test.YtkejpghmemnhfaaGreatDoorNAJ

set_option linter.unusedVariables false
set_option linter.unusedSimpArgs false

namespace Go.Ab.Lit
open Go.Ab
def eU : T Unit := .node .leaf (some ()) .leaf
def eN (a b : T Unit) : T Unit := .node a none b
def eS (a b : T Unit) : T Unit := .node a (some ()) b
noncomputable def k (n : Nat) : GtM := kvM (.int .i64 (.ofNat n))
noncomputable def v (x : AV) : GtM := kvM x
noncomputable def vT : GtM := kvM (.bool true)
noncomputable def vF : GtM := kvM (.bool false)
noncomputable def l1 (a : GtM) : GlM := fun f K => a f fun a => K [a]
noncomputable def l2 (a b : GtM) : GlM := fun f K => a f fun a => b f fun b => K [a, b]
noncomputable def l3 (a b c : GtM) : GlM := fun f K => a f fun a => b f fun b => c f fun c => K [a, b, c]
def z0 : AV := .int .i64 (.ofNat 0)
def zs (n : Nat) : List AV := Nat.rec [] (fun _ l => z0 :: l) n
noncomputable def o (d : Dst) (op : OpG) : KOp := ko d op
noncomputable def g (d : Dst) (op : OpG) (x : GtR) (b : Bool) : KOp := kg d op x b
noncomputable def rt (l : List KOp) : KC := .seq (.region l) .ret
noncomputable def sr (l : List KOp) (b : KC) : KC := .seq (.region l) b
noncomputable def cs (c : GtR) (a : KC) : KC := .cond c a .skip
noncomputable def t0 : GtM := gM0 rM0
noncomputable def t1 : GtM := gM0 rM1
noncomputable def t2 : GtM := gM0 rM2
noncomputable def t3 : GtM := gM0 rM3
noncomputable def t4 : GtM := gM0 rM4
noncomputable def t5 : GtM := gM0 rM5
noncomputable def t6 : GtM := gM0 rM6
noncomputable def t7 : GtM := gM0 rM7
noncomputable def t8 : GtM := gM0 rM8
noncomputable def t9 : GtM := gM0 rM9
noncomputable def t10 : GtM := gM0 rM10
noncomputable def t11 : GtM := gM0 rM11
noncomputable def t12 : GtM := gM0 rM12
noncomputable def t13 : GtM := gM0 rM13
noncomputable def t14 : GtM := gM0 rM14
noncomputable def t15 : GtM := gM0 rM15
noncomputable def t16 : GtM := gM1 rM0
noncomputable def t17 : GtM := gM1 rM1
noncomputable def t18 : GtM := gM1 rM2
noncomputable def t19 : GtM := gM1 rM3
noncomputable def t20 : GtM := gM1 rM4
noncomputable def t21 : GtM := gM1 rM5
noncomputable def t22 : GtM := gM1 rM6
noncomputable def t23 : GtM := gM1 rM7
noncomputable def t24 : GtM := gM1 rM8
noncomputable def t25 : GtM := gM1 rM9
noncomputable def t26 : GtM := gM1 rM10
noncomputable def t27 : GtM := gM1 rM11
noncomputable def t28 : GtM := gM1 rM12
noncomputable def t29 : GtM := gM1 rM13
noncomputable def t30 : GtM := gM1 rM14
noncomputable def t31 : GtM := gM1 rM15
noncomputable def t32 : GtM := gM2 rM0
noncomputable def t33 : GtM := gM2 rM1
noncomputable def t34 : GtM := gM2 rM2
noncomputable def t35 : GtM := gM2 rM3
noncomputable def t36 : GtM := gM2 rM4
noncomputable def t37 : GtM := gM2 rM5
noncomputable def t38 : GtM := gM2 rM6
noncomputable def t39 : GtM := gM2 rM7
noncomputable def t40 : GtM := gM2 rM8
noncomputable def t41 : GtM := gM2 rM9
noncomputable def t42 : GtM := gM2 rM10
noncomputable def t43 : GtM := gM2 rM11
noncomputable def t44 : GtM := gM2 rM12
noncomputable def t45 : GtM := gM2 rM13
noncomputable def t46 : GtM := gM2 rM14
noncomputable def t47 : GtM := gM2 rM15
noncomputable def t48 : GtM := gM3 rM0
noncomputable def t49 : GtM := gM3 rM1
noncomputable def t50 : GtM := gM3 rM2
noncomputable def t51 : GtM := gM3 rM3
noncomputable def t52 : GtM := gM3 rM4
noncomputable def t53 : GtM := gM3 rM5
noncomputable def t54 : GtM := gM3 rM6
noncomputable def t55 : GtM := gM3 rM7
noncomputable def t56 : GtM := gM3 rM8
noncomputable def t57 : GtM := gM3 rM9
noncomputable def t58 : GtM := gM3 rM10
noncomputable def t59 : GtM := gM3 rM11
noncomputable def t60 : GtM := gM3 rM12
noncomputable def t61 : GtM := gM3 rM13
noncomputable def t62 : GtM := gM3 rM14
noncomputable def t63 : GtM := gM3 rM15
noncomputable def t64 : GtM := gM4 rM0
noncomputable def t65 : GtM := gM4 rM1
noncomputable def t66 : GtM := gM4 rM2
noncomputable def t67 : GtM := gM4 rM3
noncomputable def t68 : GtM := gM4 rM4
noncomputable def t69 : GtM := gM4 rM5
noncomputable def t70 : GtM := gM4 rM6
noncomputable def t71 : GtM := gM4 rM7
noncomputable def t72 : GtM := gM4 rM8
noncomputable def t73 : GtM := gM4 rM9
noncomputable def t74 : GtM := gM4 rM10
noncomputable def t75 : GtM := gM4 rM11
noncomputable def t76 : GtM := gM4 rM12
noncomputable def t77 : GtM := gM4 rM13
noncomputable def t78 : GtM := gM4 rM14
noncomputable def t79 : GtM := gM4 rM15
noncomputable def t80 : GtM := gM5 rM0
noncomputable def t81 : GtM := gM5 rM1
noncomputable def t82 : GtM := gM5 rM2
noncomputable def t83 : GtM := gM5 rM3
noncomputable def t84 : GtM := gM5 rM4
noncomputable def t85 : GtM := gM5 rM5
noncomputable def t86 : GtM := gM5 rM6
noncomputable def t87 : GtM := gM5 rM7
noncomputable def t88 : GtM := gM5 rM8
noncomputable def t89 : GtM := gM5 rM9
noncomputable def t90 : GtM := gM5 rM10
noncomputable def t91 : GtM := gM5 rM11
noncomputable def t92 : GtM := gM5 rM12
noncomputable def t93 : GtM := gM5 rM13
noncomputable def t94 : GtM := gM5 rM14
noncomputable def t95 : GtM := gM5 rM15
noncomputable def t96 : GtM := gM6 rM0
noncomputable def t97 : GtM := gM6 rM1
noncomputable def t98 : GtM := gM6 rM2
noncomputable def t99 : GtM := gM6 rM3
noncomputable def t100 : GtM := gM6 rM4
noncomputable def t101 : GtM := gM6 rM5
noncomputable def t102 : GtM := gM6 rM6
noncomputable def t103 : GtM := gM6 rM7
noncomputable def t104 : GtM := gM6 rM8
noncomputable def t105 : GtM := gM6 rM9
noncomputable def t106 : GtM := gM6 rM10
noncomputable def t107 : GtM := gM6 rM11
noncomputable def t108 : GtM := gM6 rM12
noncomputable def t109 : GtM := gM6 rM13
noncomputable def t110 : GtM := gM6 rM14
noncomputable def t111 : GtM := gM6 rM15
noncomputable def t112 : GtM := gM7 rM0
noncomputable def t113 : GtM := gM7 rM1
noncomputable def t114 : GtM := gM7 rM2
noncomputable def t115 : GtM := gM7 rM3
noncomputable def t116 : GtM := gM7 rM4
noncomputable def t117 : GtM := gM7 rM5
noncomputable def t118 : GtM := gM7 rM6
noncomputable def t119 : GtM := gM7 rM7
noncomputable def t120 : GtM := gM7 rM8
noncomputable def t121 : GtM := gM7 rM9
noncomputable def t122 : GtM := gM7 rM10
noncomputable def t123 : GtM := gM7 rM11
noncomputable def t124 : GtM := gM7 rM12
noncomputable def t125 : GtM := gM7 rM13
noncomputable def t126 : GtM := gM7 rM14
noncomputable def t127 : GtM := gM7 rM15
noncomputable def t128 : GtM := gM8 rM0
noncomputable def t129 : GtM := gM8 rM1
noncomputable def t130 : GtM := gM8 rM2
noncomputable def t131 : GtM := gM8 rM3
noncomputable def t132 : GtM := gM8 rM4
noncomputable def t133 : GtM := gM8 rM5
noncomputable def t134 : GtM := gM8 rM6
noncomputable def t135 : GtM := gM8 rM7
noncomputable def t136 : GtM := gM8 rM8
noncomputable def t137 : GtM := gM8 rM9
noncomputable def t138 : GtM := gM8 rM10
noncomputable def t139 : GtM := gM8 rM11
noncomputable def t140 : GtM := gM8 rM12
noncomputable def t141 : GtM := gM8 rM13
noncomputable def t142 : GtM := gM8 rM14
noncomputable def t143 : GtM := gM8 rM15
noncomputable def t144 : GtM := gM9 rM0
noncomputable def t145 : GtM := gM9 rM1
noncomputable def t146 : GtM := gM9 rM2
noncomputable def t147 : GtM := gM9 rM3
noncomputable def t148 : GtM := gM9 rM4
noncomputable def t149 : GtM := gM9 rM5
noncomputable def t150 : GtM := gM9 rM6
noncomputable def t151 : GtM := gM9 rM7
noncomputable def t152 : GtM := gM9 rM8
noncomputable def t153 : GtM := gM9 rM9
noncomputable def t154 : GtM := gM9 rM10
noncomputable def t155 : GtM := gM9 rM11
noncomputable def t156 : GtM := gM9 rM12
noncomputable def t157 : GtM := gM9 rM13
noncomputable def t159 : GtM := gM9 rM15
noncomputable def t162 : GtM := gM10 rM2
noncomputable def t164 : GtM := gM10 rM4
noncomputable def t165 : GtM := gM10 rM5
noncomputable def t166 : GtM := gM10 rM6
noncomputable def t169 : GtM := gM10 rM9
noncomputable def t170 : GtM := gM10 rM10
noncomputable def t173 : GtM := gM10 rM13
noncomputable def t175 : GtM := gM10 rM15
noncomputable def t176 : GtM := gM11 rM0
noncomputable def t178 : GtM := gM11 rM2
noncomputable def t179 : GtM := gM11 rM3
noncomputable def t185 : GtM := gM11 rM9
noncomputable def t186 : GtM := gM11 rM10
noncomputable def c0 : GtR := gR0 rR0
noncomputable def c1 : GtR := gR0 rR1
noncomputable def c3 : GtR := gR0 rR3
noncomputable def c4 : GtR := gR0 rR4
noncomputable def c5 : GtR := gR0 rR5
noncomputable def c6 : GtR := gR0 rR6
noncomputable def c7 : GtR := gR0 rR7
noncomputable def c8 : GtR := gR0 rR8
noncomputable def c9 : GtR := gR0 rR9
noncomputable def c10 : GtR := gR0 rR10
noncomputable def c11 : GtR := gR0 rR11
noncomputable def c12 : GtR := gR0 rR12
noncomputable def c13 : GtR := gR0 rR13
noncomputable def c14 : GtR := gR0 rR14
noncomputable def c15 : GtR := gR0 rR15
noncomputable def c16 : GtR := gR1 rR0
noncomputable def c17 : GtR := gR1 rR1
noncomputable def c18 : GtR := gR1 rR2
noncomputable def c19 : GtR := gR1 rR3
noncomputable def c20 : GtR := gR1 rR4
noncomputable def c21 : GtR := gR1 rR5
noncomputable def c22 : GtR := gR1 rR6
noncomputable def c23 : GtR := gR1 rR7
noncomputable def c24 : GtR := gR1 rR8
noncomputable def c25 : GtR := gR1 rR9
noncomputable def c26 : GtR := gR1 rR10
noncomputable def c27 : GtR := gR1 rR11
noncomputable def c28 : GtR := gR1 rR12
noncomputable def c29 : GtR := gR1 rR13
noncomputable def c30 : GtR := gR1 rR14
noncomputable def c31 : GtR := gR1 rR15
noncomputable def c32 : GtR := gR2 rR0
noncomputable def c33 : GtR := gR2 rR1
noncomputable def c34 : GtR := gR2 rR2
noncomputable def c35 : GtR := gR2 rR3
noncomputable def c36 : GtR := gR2 rR4
noncomputable def c37 : GtR := gR2 rR5
noncomputable def c38 : GtR := gR2 rR6
noncomputable def c39 : GtR := gR2 rR7
noncomputable def c40 : GtR := gR2 rR8
noncomputable def c41 : GtR := gR2 rR9
noncomputable def c42 : GtR := gR2 rR10
noncomputable def c43 : GtR := gR2 rR11
noncomputable def c44 : GtR := gR2 rR12
noncomputable def c45 : GtR := gR2 rR13
noncomputable def c46 : GtR := gR2 rR14
noncomputable def c47 : GtR := gR2 rR15
noncomputable def c48 : GtR := gR3 rR0
noncomputable def c49 : GtR := gR3 rR1
noncomputable def c50 : GtR := gR3 rR2
noncomputable def c51 : GtR := gR3 rR3
noncomputable def c52 : GtR := gR3 rR4
noncomputable def c53 : GtR := gR3 rR5
noncomputable def c54 : GtR := gR3 rR6
noncomputable def c55 : GtR := gR3 rR7
noncomputable def c56 : GtR := gR3 rR8
noncomputable def c57 : GtR := gR3 rR9
noncomputable def c58 : GtR := gR3 rR10
noncomputable def c59 : GtR := gR3 rR11
noncomputable def c60 : GtR := gR3 rR12
noncomputable def c61 : GtR := gR3 rR13
noncomputable def c63 : GtR := gR3 rR15
noncomputable def c64 : GtR := gR4 rR0
noncomputable def c65 : GtR := gR4 rR1
noncomputable def c66 : GtR := gR4 rR2
noncomputable def c67 : GtR := gR4 rR3
noncomputable def c68 : GtR := gR4 rR4
noncomputable def c69 : GtR := gR4 rR5
noncomputable def c70 : GtR := gR4 rR6
noncomputable def c71 : GtR := gR4 rR7
noncomputable def c72 : GtR := gR4 rR8
noncomputable def c73 : GtR := gR4 rR9
noncomputable def c74 : GtR := gR4 rR10
noncomputable def c76 : GtR := gR4 rR12
noncomputable def c78 : GtR := gR4 rR14
noncomputable def c79 : GtR := gR4 rR15
noncomputable def c80 : GtR := gR5 rR0
noncomputable def c81 : GtR := gR5 rR1
noncomputable def c83 : GtR := gR5 rR3
noncomputable def c85 : GtR := gR5 rR5
noncomputable def c86 : GtR := gR5 rR6
noncomputable def c87 : GtR := gR5 rR7
noncomputable def c88 : GtR := gR5 rR8
noncomputable def c91 : GtR := gR5 rR11
noncomputable def c92 : GtR := gR5 rR12
noncomputable def c93 : GtR := gR5 rR13
noncomputable def c95 : GtR := gR5 rR15
noncomputable def c96 : GtR := gR6 rR0
noncomputable def c98 : GtR := gR6 rR2
noncomputable def c99 : GtR := gR6 rR3
noncomputable def c101 : GtR := gR6 rR5
noncomputable def c102 : GtR := gR6 rR6
noncomputable def c103 : GtR := gR6 rR7
noncomputable def c104 : GtR := gR6 rR8
noncomputable def c107 : GtR := gR6 rR11
noncomputable def c108 : GtR := gR6 rR12
noncomputable def c111 : GtR := gR6 rR15
noncomputable def c112 : GtR := gR7 rR0
noncomputable def c113 : GtR := gR7 rR1
noncomputable def c114 : GtR := gR7 rR2
noncomputable def c115 : GtR := gR7 rR3
noncomputable def c120 : GtR := gR7 rR8
noncomputable def c123 : GtR := gR7 rR11
noncomputable def c124 : GtR := gR7 rR12
noncomputable def c127 : GtR := gR7 rR15
noncomputable def c128 : GtR := gR8 rR0
noncomputable def c131 : GtR := gR8 rR3
noncomputable def c132 : GtR := gR8 rR4
noncomputable def c133 : GtR := gR8 rR5
noncomputable def c137 : GtR := gR8 rR9
noncomputable def c138 : GtR := gR8 rR10
noncomputable def c139 : GtR := gR8 rR11
noncomputable def c140 : GtR := gR8 rR12
noncomputable def c141 : GtR := gR8 rR13
noncomputable def c155 : GtR := gR9 rR11
noncomputable def c160 : GtR := gR10 rR0
noncomputable def c161 : GtR := gR10 rR1
noncomputable def c162 : GtR := gR10 rR2
noncomputable def c171 : GtR := gR10 rR11
noncomputable def c177 : GtR := gR11 rR1
noncomputable def c181 : GtR := gR11 rR5
noncomputable def c183 : GtR := gR11 rR7
noncomputable def d0 : Dst := wR0 uR0
noncomputable def d1 : Dst := wR0 uR1
noncomputable def d2 : Dst := wR0 uR2
noncomputable def d3 : Dst := wR0 uR3
noncomputable def d4 : Dst := wR0 uR4
noncomputable def d5 : Dst := wR0 uR5
noncomputable def d6 : Dst := wR0 uR6
noncomputable def d7 : Dst := wR0 uR7
noncomputable def d8 : Dst := wR0 uR8
noncomputable def d9 : Dst := wR0 uR9
noncomputable def d10 : Dst := wR0 uR10
noncomputable def d11 : Dst := wR0 uR11
noncomputable def d12 : Dst := wR0 uR12
noncomputable def d13 : Dst := wR0 uR13
noncomputable def d14 : Dst := wR0 uR14
noncomputable def d15 : Dst := wR0 uR15
noncomputable def d16 : Dst := wR1 uR0
noncomputable def d17 : Dst := wR1 uR1
noncomputable def d18 : Dst := wR1 uR2
noncomputable def d19 : Dst := wR1 uR3
noncomputable def d20 : Dst := wR1 uR4
noncomputable def d21 : Dst := wR1 uR5
noncomputable def d22 : Dst := wR1 uR6
noncomputable def d23 : Dst := wR1 uR7
noncomputable def d24 : Dst := wR1 uR8
noncomputable def d25 : Dst := wR1 uR9
noncomputable def d26 : Dst := wR1 uR10
noncomputable def d27 : Dst := wR1 uR11
noncomputable def d28 : Dst := wR1 uR12
noncomputable def d29 : Dst := wR1 uR13
noncomputable def d30 : Dst := wR1 uR14
noncomputable def d31 : Dst := wR1 uR15
noncomputable def d32 : Dst := wR2 uR0
noncomputable def d33 : Dst := wR2 uR1
noncomputable def d34 : Dst := wR2 uR2
noncomputable def d35 : Dst := wR2 uR3
noncomputable def d36 : Dst := wR2 uR4
noncomputable def d37 : Dst := wR2 uR5
noncomputable def d38 : Dst := wR2 uR6
noncomputable def d39 : Dst := wR2 uR7
noncomputable def d40 : Dst := wR2 uR8
noncomputable def d41 : Dst := wR2 uR9
noncomputable def d42 : Dst := wR2 uR10
noncomputable def d43 : Dst := wR2 uR11
noncomputable def d44 : Dst := wR2 uR12
noncomputable def d45 : Dst := wR2 uR13
noncomputable def d46 : Dst := wR2 uR14
noncomputable def d47 : Dst := wR2 uR15
noncomputable def d48 : Dst := wR3 uR0
noncomputable def d49 : Dst := wR3 uR1
noncomputable def d50 : Dst := wR3 uR2
noncomputable def d51 : Dst := wR3 uR3
noncomputable def d52 : Dst := wR3 uR4
noncomputable def d53 : Dst := wR3 uR5
noncomputable def d54 : Dst := wR3 uR6
noncomputable def d55 : Dst := wR3 uR7
noncomputable def d56 : Dst := wR3 uR8
noncomputable def d57 : Dst := wR3 uR9
noncomputable def d58 : Dst := wR3 uR10
noncomputable def d59 : Dst := wR3 uR11
noncomputable def d60 : Dst := wR3 uR12
noncomputable def d61 : Dst := wR3 uR13
noncomputable def d62 : Dst := wR3 uR14
noncomputable def d63 : Dst := wR3 uR15
noncomputable def d64 : Dst := wR4 uR0
noncomputable def d65 : Dst := wR4 uR1
noncomputable def d66 : Dst := wR4 uR2
noncomputable def d67 : Dst := wR4 uR3
noncomputable def d68 : Dst := wR4 uR4
noncomputable def d69 : Dst := wR4 uR5
noncomputable def d70 : Dst := wR4 uR6
noncomputable def d71 : Dst := wR4 uR7
noncomputable def d72 : Dst := wR4 uR8
noncomputable def d73 : Dst := wR4 uR9
noncomputable def d74 : Dst := wR4 uR10
noncomputable def d75 : Dst := wR4 uR11
noncomputable def d76 : Dst := wR4 uR12
noncomputable def d77 : Dst := wR4 uR13
noncomputable def d78 : Dst := wR4 uR14
noncomputable def d79 : Dst := wR4 uR15
noncomputable def d80 : Dst := wR5 uR0
noncomputable def d81 : Dst := wR5 uR1
noncomputable def d82 : Dst := wR5 uR2
noncomputable def d83 : Dst := wR5 uR3
noncomputable def d84 : Dst := wR5 uR4
noncomputable def d85 : Dst := wR5 uR5
noncomputable def d86 : Dst := wR5 uR6
noncomputable def d87 : Dst := wR5 uR7
noncomputable def d88 : Dst := wR5 uR8
noncomputable def d89 : Dst := wR5 uR9
noncomputable def d90 : Dst := wR5 uR10
noncomputable def d91 : Dst := wR5 uR11
noncomputable def d92 : Dst := wR5 uR12
noncomputable def d93 : Dst := wR5 uR13
noncomputable def d94 : Dst := wR5 uR14
noncomputable def d95 : Dst := wR5 uR15
noncomputable def d96 : Dst := wR6 uR0
noncomputable def d97 : Dst := wR6 uR1
noncomputable def d98 : Dst := wR6 uR2
noncomputable def d99 : Dst := wR6 uR3
noncomputable def d100 : Dst := wR6 uR4
noncomputable def d101 : Dst := wR6 uR5
noncomputable def d102 : Dst := wR6 uR6
noncomputable def d103 : Dst := wR6 uR7
noncomputable def d104 : Dst := wR6 uR8
noncomputable def d105 : Dst := wR6 uR9
noncomputable def d106 : Dst := wR6 uR10
noncomputable def d107 : Dst := wR6 uR11
noncomputable def d108 : Dst := wR6 uR12
noncomputable def d109 : Dst := wR6 uR13
noncomputable def d110 : Dst := wR6 uR14
noncomputable def d111 : Dst := wR6 uR15
noncomputable def d112 : Dst := wR7 uR0
noncomputable def d113 : Dst := wR7 uR1
noncomputable def d114 : Dst := wR7 uR2
noncomputable def d115 : Dst := wR7 uR3
noncomputable def d116 : Dst := wR7 uR4
noncomputable def d117 : Dst := wR7 uR5
noncomputable def d118 : Dst := wR7 uR6
noncomputable def d119 : Dst := wR7 uR7
noncomputable def d120 : Dst := wR7 uR8
noncomputable def d121 : Dst := wR7 uR9
noncomputable def d122 : Dst := wR7 uR10
noncomputable def d123 : Dst := wR7 uR11
noncomputable def d124 : Dst := wR7 uR12
noncomputable def d125 : Dst := wR7 uR13
noncomputable def d126 : Dst := wR7 uR14
noncomputable def d127 : Dst := wR7 uR15
noncomputable def d128 : Dst := wR8 uR0
noncomputable def d129 : Dst := wR8 uR1
noncomputable def d130 : Dst := wR8 uR2
noncomputable def d131 : Dst := wR8 uR3
noncomputable def d132 : Dst := wR8 uR4
noncomputable def d133 : Dst := wR8 uR5
noncomputable def d134 : Dst := wR8 uR6
noncomputable def d135 : Dst := wR8 uR7
noncomputable def d136 : Dst := wR8 uR8
noncomputable def d137 : Dst := wR8 uR9
noncomputable def d138 : Dst := wR8 uR10
noncomputable def d139 : Dst := wR8 uR11
noncomputable def d140 : Dst := wR8 uR12
noncomputable def d141 : Dst := wR8 uR13
noncomputable def d142 : Dst := wR8 uR14
noncomputable def d143 : Dst := wR8 uR15
noncomputable def d144 : Dst := wR9 uR0
noncomputable def d145 : Dst := wR9 uR1
noncomputable def d146 : Dst := wR9 uR2
noncomputable def d148 : Dst := wR9 uR4
noncomputable def d149 : Dst := wR9 uR5
noncomputable def d151 : Dst := wR9 uR7
noncomputable def d152 : Dst := wR9 uR8
noncomputable def d154 : Dst := wR9 uR10
noncomputable def d155 : Dst := wR9 uR11
noncomputable def d159 : Dst := wR9 uR15
noncomputable def d160 : Dst := wR10 uR0
noncomputable def d161 : Dst := wR10 uR1
noncomputable def d162 : Dst := wR10 uR2
noncomputable def d164 : Dst := wR10 uR4
noncomputable def d165 : Dst := wR10 uR5
noncomputable def d166 : Dst := wR10 uR6
noncomputable def d169 : Dst := wR10 uR9
noncomputable def d170 : Dst := wR10 uR10
noncomputable def d171 : Dst := wR10 uR11
noncomputable def d173 : Dst := wR10 uR13
noncomputable def d175 : Dst := wR10 uR15
noncomputable def d176 : Dst := wR11 uR0
noncomputable def d177 : Dst := wR11 uR1
noncomputable def d178 : Dst := wR11 uR2
noncomputable def d179 : Dst := wR11 uR3
noncomputable def d181 : Dst := wR11 uR5
noncomputable def d183 : Dst := wR11 uR7
noncomputable def d185 : Dst := wR11 uR9
noncomputable def d186 : Dst := wR11 uR10
noncomputable def Q0 {β : Type} : Gt β := gg sl0 sl0
noncomputable def Q1 {β : Type} : Gt β := gg sl0 sl1
noncomputable def Q2 {β : Type} : Gt β := gg sl0 sl2
noncomputable def Q3 {β : Type} : Gt β := gg sl0 sl3
noncomputable def Q4 {β : Type} : Gt β := gg sl0 sl4
noncomputable def Q5 {β : Type} : Gt β := gg sl0 sl5
noncomputable def Q6 {β : Type} : Gt β := gg sl0 sl6
noncomputable def Q7 {β : Type} : Gt β := gg sl0 sl7
noncomputable def Q8 {β : Type} : Gt β := gg sl0 sl8
noncomputable def Q9 {β : Type} : Gt β := gg sl0 sl9
noncomputable def Q10 {β : Type} : Gt β := gg sl0 sl10
noncomputable def Q11 {β : Type} : Gt β := gg sl0 sl11
noncomputable def Q12 {β : Type} : Gt β := gg sl0 sl12
noncomputable def Q13 {β : Type} : Gt β := gg sl0 sl13
noncomputable def Q14 {β : Type} : Gt β := gg sl0 sl14
noncomputable def Q15 {β : Type} : Gt β := gg sl0 sl15
noncomputable def Q16 {β : Type} : Gt β := gg sl1 sl0
noncomputable def Q17 {β : Type} : Gt β := gg sl1 sl1
noncomputable def Q18 {β : Type} : Gt β := gg sl1 sl2
noncomputable def Q19 {β : Type} : Gt β := gg sl1 sl3
noncomputable def Q20 {β : Type} : Gt β := gg sl1 sl4
noncomputable def Q21 {β : Type} : Gt β := gg sl1 sl5
noncomputable def Q22 {β : Type} : Gt β := gg sl1 sl6
noncomputable def Q23 {β : Type} : Gt β := gg sl1 sl7
noncomputable def Q24 {β : Type} : Gt β := gg sl1 sl8
noncomputable def Q25 {β : Type} : Gt β := gg sl1 sl9
noncomputable def Q26 {β : Type} : Gt β := gg sl1 sl10
noncomputable def Q27 {β : Type} : Gt β := gg sl1 sl11
noncomputable def Q28 {β : Type} : Gt β := gg sl1 sl12
noncomputable def Q29 {β : Type} : Gt β := gg sl1 sl13
noncomputable def Q30 {β : Type} : Gt β := gg sl1 sl14
noncomputable def Q31 {β : Type} : Gt β := gg sl1 sl15
noncomputable def Q32 {β : Type} : Gt β := gg sl2 sl0
noncomputable def Q33 {β : Type} : Gt β := gg sl2 sl1
noncomputable def Q34 {β : Type} : Gt β := gg sl2 sl2
noncomputable def Q35 {β : Type} : Gt β := gg sl2 sl3
noncomputable def Q36 {β : Type} : Gt β := gg sl2 sl4
noncomputable def Q38 {β : Type} : Gt β := gg sl2 sl6
noncomputable def Q39 {β : Type} : Gt β := gg sl2 sl7
noncomputable def Q40 {β : Type} : Gt β := gg sl2 sl8
noncomputable def Q41 {β : Type} : Gt β := gg sl2 sl9
noncomputable def Q42 {β : Type} : Gt β := gg sl2 sl10
noncomputable def Q43 {β : Type} : Gt β := gg sl2 sl11
noncomputable def Q44 {β : Type} : Gt β := gg sl2 sl12
noncomputable def Q45 {β : Type} : Gt β := gg sl2 sl13
noncomputable def Q46 {β : Type} : Gt β := gg sl2 sl14
noncomputable def Q47 {β : Type} : Gt β := gg sl2 sl15
noncomputable def Q49 {β : Type} : Gt β := gg sl3 sl1
noncomputable def Q50 {β : Type} : Gt β := gg sl3 sl2
noncomputable def Q51 {β : Type} : Gt β := gg sl3 sl3
noncomputable def Q52 {β : Type} : Gt β := gg sl3 sl4
noncomputable def Q53 {β : Type} : Gt β := gg sl3 sl5
noncomputable def Q54 {β : Type} : Gt β := gg sl3 sl6
noncomputable def Q55 {β : Type} : Gt β := gg sl3 sl7
noncomputable def Q56 {β : Type} : Gt β := gg sl3 sl8
noncomputable def Q58 {β : Type} : Gt β := gg sl3 sl10
noncomputable def Q59 {β : Type} : Gt β := gg sl3 sl11
noncomputable def Q60 {β : Type} : Gt β := gg sl3 sl12
noncomputable def Q63 {β : Type} : Gt β := gg sl3 sl15
noncomputable def Q64 {β : Type} : Gt β := gg sl4 sl0
noncomputable def Q65 {β : Type} : Gt β := gg sl4 sl1
noncomputable def Q66 {β : Type} : Gt β := gg sl4 sl2
noncomputable def Q67 {β : Type} : Gt β := gg sl4 sl3
noncomputable def Q68 {β : Type} : Gt β := gg sl4 sl4
noncomputable def Q69 {β : Type} : Gt β := gg sl4 sl5
noncomputable def Q72 {β : Type} : Gt β := gg sl4 sl8
noncomputable def Q73 {β : Type} : Gt β := gg sl4 sl9
noncomputable def Q75 {β : Type} : Gt β := gg sl4 sl11
noncomputable def Q77 {β : Type} : Gt β := gg sl4 sl13
noncomputable def Q78 {β : Type} : Gt β := gg sl4 sl14
noncomputable def Q79 {β : Type} : Gt β := gg sl4 sl15
noncomputable def Q81 {β : Type} : Gt β := gg sl5 sl1
noncomputable def Q83 {β : Type} : Gt β := gg sl5 sl3
noncomputable def Q86 {β : Type} : Gt β := gg sl5 sl6
noncomputable def Q87 {β : Type} : Gt β := gg sl5 sl7
noncomputable def Q93 {β : Type} : Gt β := gg sl5 sl13
noncomputable def Q96 {β : Type} : Gt β := gg sl6 sl0
noncomputable def Q101 {β : Type} : Gt β := gg sl6 sl5
noncomputable def Q102 {β : Type} : Gt β := gg sl6 sl6
noncomputable def Q105 {β : Type} : Gt β := gg sl6 sl9
noncomputable def Q107 {β : Type} : Gt β := gg sl6 sl11
noncomputable def Q110 {β : Type} : Gt β := gg sl6 sl14
noncomputable def Q112 {β : Type} : Gt β := gg sl7 sl0
noncomputable def Q114 {β : Type} : Gt β := gg sl7 sl2
noncomputable def D0 {β : Type} : Fr → AV → (Fr → β) → β := ww sl0 up0 up0
noncomputable def D2 {β : Type} : Fr → AV → (Fr → β) → β := ww sl0 up2 up0
noncomputable def D3 {β : Type} : Fr → AV → (Fr → β) → β := ww sl0 up3 up0
noncomputable def D4 {β : Type} : Fr → AV → (Fr → β) → β := ww sl0 up4 up0
noncomputable def D5 {β : Type} : Fr → AV → (Fr → β) → β := ww sl0 up5 up0
noncomputable def D6 {β : Type} : Fr → AV → (Fr → β) → β := ww sl0 up6 up0
noncomputable def D7 {β : Type} : Fr → AV → (Fr → β) → β := ww sl0 up7 up0
noncomputable def D8 {β : Type} : Fr → AV → (Fr → β) → β := ww sl0 up8 up0
noncomputable def D9 {β : Type} : Fr → AV → (Fr → β) → β := ww sl0 up9 up0
noncomputable def D10 {β : Type} : Fr → AV → (Fr → β) → β := ww sl0 up10 up0
noncomputable def D11 {β : Type} : Fr → AV → (Fr → β) → β := ww sl0 up11 up0
noncomputable def D12 {β : Type} : Fr → AV → (Fr → β) → β := ww sl0 up12 up0
noncomputable def D13 {β : Type} : Fr → AV → (Fr → β) → β := ww sl0 up13 up0
noncomputable def D14 {β : Type} : Fr → AV → (Fr → β) → β := ww sl0 up14 up0
noncomputable def D15 {β : Type} : Fr → AV → (Fr → β) → β := ww sl0 up15 up0
noncomputable def D16 {β : Type} : Fr → AV → (Fr → β) → β := ww sl1 up0 up1
noncomputable def D17 {β : Type} : Fr → AV → (Fr → β) → β := ww sl1 up1 up1
noncomputable def D18 {β : Type} : Fr → AV → (Fr → β) → β := ww sl1 up2 up1
noncomputable def D19 {β : Type} : Fr → AV → (Fr → β) → β := ww sl1 up3 up1
noncomputable def D20 {β : Type} : Fr → AV → (Fr → β) → β := ww sl1 up4 up1
noncomputable def D21 {β : Type} : Fr → AV → (Fr → β) → β := ww sl1 up5 up1
noncomputable def D22 {β : Type} : Fr → AV → (Fr → β) → β := ww sl1 up6 up1
noncomputable def D23 {β : Type} : Fr → AV → (Fr → β) → β := ww sl1 up7 up1
noncomputable def D24 {β : Type} : Fr → AV → (Fr → β) → β := ww sl1 up8 up1
noncomputable def D25 {β : Type} : Fr → AV → (Fr → β) → β := ww sl1 up9 up1
noncomputable def D26 {β : Type} : Fr → AV → (Fr → β) → β := ww sl1 up10 up1
noncomputable def D27 {β : Type} : Fr → AV → (Fr → β) → β := ww sl1 up11 up1
noncomputable def D28 {β : Type} : Fr → AV → (Fr → β) → β := ww sl1 up12 up1
noncomputable def D29 {β : Type} : Fr → AV → (Fr → β) → β := ww sl1 up13 up1
noncomputable def D30 {β : Type} : Fr → AV → (Fr → β) → β := ww sl1 up14 up1
noncomputable def D31 {β : Type} : Fr → AV → (Fr → β) → β := ww sl1 up15 up1
noncomputable def D32 {β : Type} : Fr → AV → (Fr → β) → β := ww sl2 up0 up2
noncomputable def D33 {β : Type} : Fr → AV → (Fr → β) → β := ww sl2 up1 up2
noncomputable def D34 {β : Type} : Fr → AV → (Fr → β) → β := ww sl2 up2 up2
noncomputable def D35 {β : Type} : Fr → AV → (Fr → β) → β := ww sl2 up3 up2
noncomputable def D36 {β : Type} : Fr → AV → (Fr → β) → β := ww sl2 up4 up2
noncomputable def D37 {β : Type} : Fr → AV → (Fr → β) → β := ww sl2 up5 up2
noncomputable def D38 {β : Type} : Fr → AV → (Fr → β) → β := ww sl2 up6 up2
noncomputable def D39 {β : Type} : Fr → AV → (Fr → β) → β := ww sl2 up7 up2
noncomputable def D40 {β : Type} : Fr → AV → (Fr → β) → β := ww sl2 up8 up2
noncomputable def D41 {β : Type} : Fr → AV → (Fr → β) → β := ww sl2 up9 up2
noncomputable def D42 {β : Type} : Fr → AV → (Fr → β) → β := ww sl2 up10 up2
noncomputable def D43 {β : Type} : Fr → AV → (Fr → β) → β := ww sl2 up11 up2
noncomputable def D44 {β : Type} : Fr → AV → (Fr → β) → β := ww sl2 up12 up2
noncomputable def D45 {β : Type} : Fr → AV → (Fr → β) → β := ww sl2 up13 up2
noncomputable def D46 {β : Type} : Fr → AV → (Fr → β) → β := ww sl2 up14 up2
noncomputable def D47 {β : Type} : Fr → AV → (Fr → β) → β := ww sl2 up15 up2
noncomputable def D48 {β : Type} : Fr → AV → (Fr → β) → β := ww sl3 up0 up3
noncomputable def D49 {β : Type} : Fr → AV → (Fr → β) → β := ww sl3 up1 up3
noncomputable def D50 {β : Type} : Fr → AV → (Fr → β) → β := ww sl3 up2 up3
noncomputable def D51 {β : Type} : Fr → AV → (Fr → β) → β := ww sl3 up3 up3
noncomputable def D52 {β : Type} : Fr → AV → (Fr → β) → β := ww sl3 up4 up3
noncomputable def D53 {β : Type} : Fr → AV → (Fr → β) → β := ww sl3 up5 up3
noncomputable def D54 {β : Type} : Fr → AV → (Fr → β) → β := ww sl3 up6 up3
noncomputable def D55 {β : Type} : Fr → AV → (Fr → β) → β := ww sl3 up7 up3
noncomputable def D56 {β : Type} : Fr → AV → (Fr → β) → β := ww sl3 up8 up3
noncomputable def D57 {β : Type} : Fr → AV → (Fr → β) → β := ww sl3 up9 up3
noncomputable def D58 {β : Type} : Fr → AV → (Fr → β) → β := ww sl3 up10 up3
noncomputable def D59 {β : Type} : Fr → AV → (Fr → β) → β := ww sl3 up11 up3
noncomputable def D60 {β : Type} : Fr → AV → (Fr → β) → β := ww sl3 up12 up3
noncomputable def D61 {β : Type} : Fr → AV → (Fr → β) → β := ww sl3 up13 up3
noncomputable def D62 {β : Type} : Fr → AV → (Fr → β) → β := ww sl3 up14 up3
noncomputable def D63 {β : Type} : Fr → AV → (Fr → β) → β := ww sl3 up15 up3
noncomputable def D64 {β : Type} : Fr → AV → (Fr → β) → β := ww sl4 up0 up4
noncomputable def D65 {β : Type} : Fr → AV → (Fr → β) → β := ww sl4 up1 up4
noncomputable def D66 {β : Type} : Fr → AV → (Fr → β) → β := ww sl4 up2 up4
noncomputable def D67 {β : Type} : Fr → AV → (Fr → β) → β := ww sl4 up3 up4
noncomputable def D68 {β : Type} : Fr → AV → (Fr → β) → β := ww sl4 up4 up4
noncomputable def D69 {β : Type} : Fr → AV → (Fr → β) → β := ww sl4 up5 up4
noncomputable def D70 {β : Type} : Fr → AV → (Fr → β) → β := ww sl4 up6 up4
noncomputable def D71 {β : Type} : Fr → AV → (Fr → β) → β := ww sl4 up7 up4
noncomputable def D72 {β : Type} : Fr → AV → (Fr → β) → β := ww sl4 up8 up4
noncomputable def D73 {β : Type} : Fr → AV → (Fr → β) → β := ww sl4 up9 up4
noncomputable def D74 {β : Type} : Fr → AV → (Fr → β) → β := ww sl4 up10 up4
noncomputable def D75 {β : Type} : Fr → AV → (Fr → β) → β := ww sl4 up11 up4
noncomputable def D76 {β : Type} : Fr → AV → (Fr → β) → β := ww sl4 up12 up4
noncomputable def D77 {β : Type} : Fr → AV → (Fr → β) → β := ww sl4 up13 up4
noncomputable def D78 {β : Type} : Fr → AV → (Fr → β) → β := ww sl4 up14 up4
noncomputable def D79 {β : Type} : Fr → AV → (Fr → β) → β := ww sl4 up15 up4
noncomputable def D80 {β : Type} : Fr → AV → (Fr → β) → β := ww sl5 up0 up5
noncomputable def D81 {β : Type} : Fr → AV → (Fr → β) → β := ww sl5 up1 up5
noncomputable def D82 {β : Type} : Fr → AV → (Fr → β) → β := ww sl5 up2 up5
noncomputable def D83 {β : Type} : Fr → AV → (Fr → β) → β := ww sl5 up3 up5
noncomputable def D84 {β : Type} : Fr → AV → (Fr → β) → β := ww sl5 up4 up5
noncomputable def D85 {β : Type} : Fr → AV → (Fr → β) → β := ww sl5 up5 up5
noncomputable def D86 {β : Type} : Fr → AV → (Fr → β) → β := ww sl5 up6 up5
noncomputable def D87 {β : Type} : Fr → AV → (Fr → β) → β := ww sl5 up7 up5
noncomputable def D88 {β : Type} : Fr → AV → (Fr → β) → β := ww sl5 up8 up5
noncomputable def D89 {β : Type} : Fr → AV → (Fr → β) → β := ww sl5 up9 up5
noncomputable def D90 {β : Type} : Fr → AV → (Fr → β) → β := ww sl5 up10 up5
noncomputable def D91 {β : Type} : Fr → AV → (Fr → β) → β := ww sl5 up11 up5
noncomputable def D92 {β : Type} : Fr → AV → (Fr → β) → β := ww sl5 up12 up5
noncomputable def D93 {β : Type} : Fr → AV → (Fr → β) → β := ww sl5 up13 up5
noncomputable def D94 {β : Type} : Fr → AV → (Fr → β) → β := ww sl5 up14 up5
noncomputable def D95 {β : Type} : Fr → AV → (Fr → β) → β := ww sl5 up15 up5
noncomputable def D96 {β : Type} : Fr → AV → (Fr → β) → β := ww sl6 up0 up6
noncomputable def D97 {β : Type} : Fr → AV → (Fr → β) → β := ww sl6 up1 up6
noncomputable def D98 {β : Type} : Fr → AV → (Fr → β) → β := ww sl6 up2 up6
noncomputable def D99 {β : Type} : Fr → AV → (Fr → β) → β := ww sl6 up3 up6
noncomputable def D100 {β : Type} : Fr → AV → (Fr → β) → β := ww sl6 up4 up6
noncomputable def D101 {β : Type} : Fr → AV → (Fr → β) → β := ww sl6 up5 up6
noncomputable def D102 {β : Type} : Fr → AV → (Fr → β) → β := ww sl6 up6 up6
noncomputable def D103 {β : Type} : Fr → AV → (Fr → β) → β := ww sl6 up7 up6
noncomputable def D104 {β : Type} : Fr → AV → (Fr → β) → β := ww sl6 up8 up6
noncomputable def D105 {β : Type} : Fr → AV → (Fr → β) → β := ww sl6 up9 up6
noncomputable def D106 {β : Type} : Fr → AV → (Fr → β) → β := ww sl6 up10 up6
noncomputable def D107 {β : Type} : Fr → AV → (Fr → β) → β := ww sl6 up11 up6
noncomputable def D108 {β : Type} : Fr → AV → (Fr → β) → β := ww sl6 up12 up6
noncomputable def D109 {β : Type} : Fr → AV → (Fr → β) → β := ww sl6 up13 up6
noncomputable def D110 {β : Type} : Fr → AV → (Fr → β) → β := ww sl6 up14 up6
noncomputable def D111 {β : Type} : Fr → AV → (Fr → β) → β := ww sl6 up15 up6
noncomputable def D112 {β : Type} : Fr → AV → (Fr → β) → β := ww sl7 up0 up7
noncomputable def D113 {β : Type} : Fr → AV → (Fr → β) → β := ww sl7 up1 up7
noncomputable def D114 {β : Type} : Fr → AV → (Fr → β) → β := ww sl7 up2 up7
noncomputable def D115 {β : Type} : Fr → AV → (Fr → β) → β := ww sl7 up3 up7
noncomputable def D116 {β : Type} : Fr → AV → (Fr → β) → β := ww sl7 up4 up7
noncomputable def D117 {β : Type} : Fr → AV → (Fr → β) → β := ww sl7 up5 up7
noncomputable def D118 {β : Type} : Fr → AV → (Fr → β) → β := ww sl7 up6 up7
noncomputable def D119 {β : Type} : Fr → AV → (Fr → β) → β := ww sl7 up7 up7
noncomputable def D120 {β : Type} : Fr → AV → (Fr → β) → β := ww sl7 up8 up7
noncomputable def D121 {β : Type} : Fr → AV → (Fr → β) → β := ww sl7 up9 up7
noncomputable def D122 {β : Type} : Fr → AV → (Fr → β) → β := ww sl7 up10 up7
noncomputable def D123 {β : Type} : Fr → AV → (Fr → β) → β := ww sl7 up11 up7
noncomputable def D124 {β : Type} : Fr → AV → (Fr → β) → β := ww sl7 up12 up7
noncomputable def D125 {β : Type} : Fr → AV → (Fr → β) → β := ww sl7 up13 up7
noncomputable def D126 {β : Type} : Fr → AV → (Fr → β) → β := ww sl7 up14 up7
noncomputable def D127 {β : Type} : Fr → AV → (Fr → β) → β := ww sl7 up15 up7
noncomputable def D128 {β : Type} : Fr → AV → (Fr → β) → β := ww sl8 up0 up8
noncomputable def D129 {β : Type} : Fr → AV → (Fr → β) → β := ww sl8 up1 up8
noncomputable def D130 {β : Type} : Fr → AV → (Fr → β) → β := ww sl8 up2 up8
noncomputable def D131 {β : Type} : Fr → AV → (Fr → β) → β := ww sl8 up3 up8
noncomputable def D132 {β : Type} : Fr → AV → (Fr → β) → β := ww sl8 up4 up8
noncomputable def D133 {β : Type} : Fr → AV → (Fr → β) → β := ww sl8 up5 up8
noncomputable def D134 {β : Type} : Fr → AV → (Fr → β) → β := ww sl8 up6 up8
noncomputable def D135 {β : Type} : Fr → AV → (Fr → β) → β := ww sl8 up7 up8
noncomputable def D145 {β : Type} : Fr → AV → (Fr → β) → β := ww sl9 up1 up9
noncomputable def D146 {β : Type} : Fr → AV → (Fr → β) → β := ww sl9 up2 up9
noncomputable def D147 {β : Type} : Fr → AV → (Fr → β) → β := ww sl9 up3 up9
noncomputable def D148 {β : Type} : Fr → AV → (Fr → β) → β := ww sl9 up4 up9
noncomputable def D149 {β : Type} : Fr → AV → (Fr → β) → β := ww sl9 up5 up9
noncomputable def D150 {β : Type} : Fr → AV → (Fr → β) → β := ww sl9 up6 up9
noncomputable def D151 {β : Type} : Fr → AV → (Fr → β) → β := ww sl9 up7 up9
noncomputable def D152 {β : Type} : Fr → AV → (Fr → β) → β := ww sl9 up8 up9
noncomputable def D153 {β : Type} : Fr → AV → (Fr → β) → β := ww sl9 up9 up9
noncomputable def D154 {β : Type} : Fr → AV → (Fr → β) → β := ww sl9 up10 up9
noncomputable def D155 {β : Type} : Fr → AV → (Fr → β) → β := ww sl9 up11 up9
noncomputable def D156 {β : Type} : Fr → AV → (Fr → β) → β := ww sl9 up12 up9
noncomputable def D157 {β : Type} : Fr → AV → (Fr → β) → β := ww sl9 up13 up9
noncomputable def F4 : KF := .fast 120 (sr [o d4 (mv vF)]
(.seq (sr [o d13 (cl 16 nl),o d14 (g1 (opUn .not) t13)]
(cs c14 (rt [o d4 (mv vF)])))
(.seq (sr [o d16 (gLss t0 (k 0)),g d18 (mv t0) c16 false,g d19 (gGtr t18 (k 40)) c16 false,o d20 (pk t16 vT t19),g d22 (mv t1) c20 false,g d23 (gLss t22 (k 1)) c20 false,o d24 (pk t20 vT t23),g d26 (mv t1) c24 false,g d27 (gGtr t26 (k 1048576)) c24 false,o d28 (pk t24 vT t27)]
(cs c28 (rt [o d4 (mv vT)])))
(sr [o d31 (cl 17 (l1 t1)),o d32 (gEx0 t31),o d33 (gEx1 t31),o d5 (mv t32),o d6 (mv t33)]
(.seq (sr [o d35 (gEql false (.leaf 3) t5 (v .nilptr)),g d37 (mv t6) c35 false,g d38 (gNe t37 (k 0)) c35 false,o d39 (pk t35 vT t38)]
(cs c39 (rt [o d4 (mv vF)])))
(sr [o d41 (cl 12 nl),o d43 (cl 18 (l2 t41 t5)),o d44 (gEx0 t43),o d45 (gEx1 t43),o d7 (mv t44),o d8 (mv t45)]
(.seq (sr [o d47 (gEql false (.leaf 3) t7 (v .nilptr)),g d49 (mv t8) c47 false,g d50 (gNe t49 (k 0)) c47 false,o d51 (pk t47 vT t50)]
(cs c51 (rt [o d4 (mv vF)])))
(sr [o d9 (mv (k 0))]
(.seq (sr [o d10 (mv (k 0))]
(.block 0 (.loop (.seq (sr [o d54 (gLss t10 t0)]
(.cond c54 .skip
(.exit 0)))
(.seq (.block 1 (sr [o d58 (gBuildSlice 9 1 1 [(.str 0 0)] [(0,1)] (l1 (v (.str 4 1954047348)))),o d59 (cl 20 (cn (k 0) (l3 (v (.str 5 267936358716)) (v (.str 5 267969913660)) t58))),o d60 (cl 19 (l2 t7 t59)),o d11 (mv t60)]
(.seq (sr [o d12 (mv (k 0))]
(.block 2 (.loop (.seq (sr [o d63 (ln t11),o d64 (gLss t12 t63)]
(.cond c64 .skip
(.exit 2)))
(.seq (.block 3 (sr [o d69 (ia 6 t11 t12),o d70 (fA 0 t69),o d71 (ld t70),o d72 (gEq t71 (v (.str 3 7954803))),g d74 (mv t11) c72 true,g d75 (mv t12) c72 true,g d76 (ia 6 t74 t75) c72 true,g d77 (fA 5 t76) c72 true,g d78 (ld t77) c72 true,g d79 (ln t78) c72 true,g d80 (gEq t79 (k 1)) c72 true,o d81 (pk t72 t80 vF),g d83 (mv t11) c81 true,g d84 (mv t12) c81 true,g d85 (ia 6 t83 t84) c81 true,g d86 (fA 5 t85) c81 true,g d87 (ld t86) c81 true,g d88 (ia 1 t87 (k 0)) c81 true,g d89 (ld t88) c81 true,g d90 (gEq t89 (v (.str 15 573209685382622236380442712521848114))) c81 true,o d91 (pk t81 t90 vF)]
(cs c91 (.region [o d93 (gAdd t9 (k 1)),o d9 (mv t93)]))))
(.region [o d66 (gAdd t12 (k 1)),o d12 (mv t66)]))))))
(sr [o d95 (cl 21 (l1 t7)),o d96 (ln t95),o d98 (gNe t96 t9),g d100 (mv t9) c98 false,g d101 (gGtr t100 (k 24)) c98 false,o d102 (pk t98 vT t101),g d104 (mv t5) c102 false,g d105 (cl 22 (l1 t104)) c102 false,g d106 (mv t1) c102 false,g d107 (gGtr t105 t106) c102 false,o d108 (pk t102 vT t107)]
(cs c108 (rt [o d4 (mv vF)]))))))
(.region [o d56 (gAdd t10 (k 1)),o d10 (mv t56)]))))))
(rt [o d111 (gEq t9 t0),g d113 (mv t9) c111 false,g d114 (gEq t113 (k 24)) c111 false,o d115 (pk t111 vT t114),g d117 (mv t1) c115 false,g d118 (gLss t117 (k 65536)) c115 false,o d119 (pk t115 vT t118),o d4 (mv t119)])))))))))) (rT Q4 rN)
def e4 : T Unit := (eN (eN (eN (eN (eS (eS .leaf eU) (eS eU .leaf)) .leaf) (eN (eN .leaf eU) (eN (eN .leaf eU) eU))) (eN (eN (eN (eN .leaf eU) .leaf) (eN (eS eU .leaf) (eS .leaf eU))) (eN (eN .leaf eU) (eN (eS eU .leaf) .leaf)))) (eN (eN (eN (eS eU (eN eU .leaf)) (eS eU .leaf)) (eN (eS eU (eN .leaf eU)) (eS .leaf (eN eU eU)))) (eN (eN .leaf (eN .leaf (eN eU eU))) (eN (eN eU (eN eU .leaf)) eU))))
noncomputable def F11 : KF := .fast 26 (sr [o d1 (g1 (opBox 31) t0),o d2 (mv (v .nilptr)),o d3 (mv (v .nilptr))]
(sr [o d9 (cl 17 (l1 (k 1048576))),o d10 (gEx0 t9),o d11 (gEx1 t9),o d4 (mv t10),o d5 (mv t11)]
(.seq (sr [o d13 (gEql false (.leaf 3) t4 (v .nilptr)),g d15 (mv t5) c13 false,g d16 (gNe t15 (k 0)) c13 false,o d17 (pk t13 vT t16)]
(cs c17 (rt [o d2 (mv (v .nilptr)),o d3 (mv (v .nilptr))])))
(sr [o d19 (lN 10 t1),o d21 (cl 18 (l2 t19 t4)),o d22 (gEx0 t21),o d23 (gEx1 t21),o d6 (mv t22)]
(rt [o d2 (mv t4),o d3 (mv t6)]))))) (rT Q2 (rT Q3 rN))
def e11 : T Unit := (eN (eN (eN eU (eN .leaf eU)) (eN (eS .leaf eU) (eS eU .leaf))) (eN (eN .leaf (eN eU .leaf)) (eN .leaf eU)))
noncomputable def F12 : KF := .fast 3 (sr [o d0 (g0 (opNewc 31 [(.str 0 0),z0,z0,z0,z0,z0,z0,z0,z0,z0]))]
(rt [o d1 (gBuild (zs 4) [(0,1),(1,1),(2,1),(3,1)] (cn (k 10) (l3 (k 60) (k 500) (k 100)))),o d2 (gBuild [(.str 0 0),z0,z0,z0,z0,z0,z0,z0,z0,z0] [(0,1),(1,1),(2,1),(3,4),(7,1),(8,1),(9,1)] (cn (v (.str 4 1701995880)) (cn (k 2000) (cn (k 1000) (cn t1 (l3 (k 20) (k 2) (k 16))))))),o dN (sN 10 t0 t2)])) (rC Q0 (some 10) rN)
def e12 : T Unit := .leaf
noncomputable def F13 : KF := .fast 80 (sr [o d3 (g1 (opBox 43) t1),o d4 (mv (v .nilslice)),o d5 (mv (k 0))]
(sr [o d9 (gBuild [.nilFunc,.nilFunc,.nilFunc,.nilFunc,.nilFunc,.nilFunc,.nilFunc,.nilFunc] [(0,1),(1,1),(2,1),(3,1),(4,1),(5,1),(6,1),(7,1)] (cn (v (.func (.func 34) [] [])) (cn (v (.func (.func 35) [] [])) (cn (v (.func (.func 36) [] [])) (cn (v (.func (.func 37) [] [])) (cn (v (.func (.func 38) [] [])) (l3 (v (.func (.func 38) [] [])) (v (.func (.func 39) [] [])) (v (.func (.func 40) [] []))))))))),o d6 (g0 (opNewc 90 [.nilFunc,.nilFunc,.nilFunc,.nilFunc,.nilFunc,.nilFunc,.nilFunc,.nilFunc])),o dN (sN 8 t6 t9)]
(.seq (.block 0 (sr [o d11 (fA 0 t3),o d12 (ld t11),o d13 (gLss t12 (k 0)),g d15 (fA 0 t3) c13 false,g d16 (ld t15) c13 false,g d17 (gGeq t16 (k 8)) c13 false,o d18 (pk t13 vT t17),o d10 (mv t18)]
(.cond c10 (rt [o d4 (mv (v .nilslice)),o d5 (mv (k 10))])
(sr [o d20 (fA 0 t3),o d21 (ld t20),o d22 (gLss t21 (k 3)),g d24 (fA 1 t3) c22 true,g d25 (ld t24) c22 true,g d26 (gLss t25 (k 0)) c22 true,g d27 (mv t26) c22 true,g d28 (fA 1 t3) c27 false,g d29 (ld t28) c27 false,g d30 (gGeq t29 (k 4)) c27 false,g d31 (pk t27 vT t30) c22 true,o d32 (pk t22 t31 vF),o d19 (mv t32)]
(cs c19 (rt [o d4 (mv (v .nilslice)),o d5 (mv (k 1))]))))))
(sr [o d34 (nc t0),o d35 (fA 20 t34),o dN (s1 t35 (v .nilslice))]
(.seq (.draw [⟨D36,(fA 0 t3),0,none,none,0⟩,⟨D37,(ld t36),2,(some (Q36,none)),none,1⟩,⟨D38,(gIdxAddrArr 8 1 t6 t37),0,none,none,3⟩,⟨D39,(ld t38),2,(some (Q38,none)),none,7⟩,⟨D40,(mv t0),0,none,none,0⟩,⟨D41,(lN 13 t3),2,(some (Q3,some 13)),none,0⟩,⟨D42,(gCallV t39 (l2 t40 t41)),3,none,none,63⟩,⟨D7,(mv t42),0,none,none,127⟩])
(.seq (sr [o d43 (fA 0 t3),o d44 (ld t43),o d45 (gLss t44 (k 6)),g d47 (mv t7) c45 true,g d48 (gEq t47 (k 0)) c45 true,o d49 (pk t45 t48 vF)]
(cs c49 (.region [o d51 (cl 41 (l1 t0))])))
(.seq (sr [o d53 (nc t0),o d54 (fA 10 t53),o d55 (ld t54),o d56 (cl 42 (l1 t55))]
(cs c56 (sr [o d58 (nc t0),o d59 (fA 10 t58),o d60 (ld t59),o d61 (cl 43 (l1 t60))]
(.seq (sr [o d63 (cl 44 (l1 t0)),o d8 (mv t63)]
(sr [o d65 (gNe t8 (k 0))]
(cs c65 (rt [o d67 (nc t0),o d68 (fA 20 t67),o d69 (ld t68),o d4 (mv t69),o d5 (mv t8)]))))
(.region [o d72 (gBuild [(.str 0 0),z0,z0,z0,(.str 0 0),.nilslice] [(0,1)] (l1 (v (.str 4 1853321060)))),o d73 (gBuildSlice 46 6 1 [(.str 0 0),z0,z0,z0,(.str 0 0),.nilslice] [(0,6)] (l1 t72)),o d74 (cl 45 (l2 t0 t73))])))))
(rt [o d76 (nc t0),o d77 (fA 20 t76),o d78 (ld t77),o d4 (mv t78),o d5 (mv t7)])))))))) (rT Q4 (rT Q5 rN))
def e13 : T Unit := (eN (eN (eN (eS (eN eU eU) (eN .leaf (eN .leaf eU))) (eN .leaf (eN eU (eN .leaf eU)))) (eN (eN .leaf (eN eU .leaf)) (eN .leaf (eN .leaf (eN .leaf eU))))) (eN (eN .leaf (eN (eN eU .leaf) (eN .leaf eU))) (eN (eN (eN .leaf (eN .leaf eU)) .leaf) (eN (eS .leaf (eN .leaf eU)) (eN (eN .leaf eU) .leaf)))))
noncomputable def F16 : KF := .fast 48 (sr [o d0 (mv vF)]
(sr [o d7 (cl 12 nl),o d8 (cl 11 (l1 t7)),o d9 (gEx0 t8),o d10 (gEx1 t8),o d2 (mv t10)]
(.seq (sr [o d12 (gEql false (.leaf 3) t2 (v .nilptr))]
(cs c12 (rt [o d0 (mv vF)])))
(sr [o d14 (gBuildSlice 9 1 1 [(.str 0 0)] [(0,1)] (l1 (v (.str 4 1954047348)))),o d15 (cl 20 (cn (k 0) (l3 (v (.str 5 267936358716)) (v (.str 5 267969913660)) t14))),o d16 (cl 19 (l2 t2 t15)),o d3 (mv t16)]
(sr [o d19 (gBuild [z0,z0,z0,z0,(.str 0 0),z0,z0,z0,z0,.nilslice,z0,z0,z0] [(0,1),(10,1)] (l2 (k 3) (k 1))),o d20 (cl 13 (l2 t2 t19)),o d21 (gEx0 t20),o d22 (gEx1 t20),o d4 (mv t21),o d5 (mv t22)]
(rt [o d24 (cl 31 (l2 t3 (v (.str 3 7954803)))),o d25 (gEq t24 (k 7)),g d27 (mv t5) c25 true,g d28 (gEq t27 (k 0)) c25 true,o d29 (pk t25 t28 vF),g d31 (mv t4) c29 true,g d32 (ln t31) c29 true,g d33 (gEq t32 (k 1)) c29 true,o d34 (pk t29 t33 vF),g d36 (mv t4) c34 true,g d37 (ia 6 t36 (k 0)) c34 true,g d38 (fA 0 t37) c34 true,g d39 (ld t38) c34 true,g d40 (gEq t39 (v (.str 4 1818323300))) c34 true,o d41 (pk t34 t40 vF),g d43 (mv t2) c41 true,g d44 (cl 21 (l1 t43)) c41 true,g d45 (ln t44) c41 true,g d46 (gEq t45 (k 1)) c41 true,o d47 (pk t41 t46 vF),o d0 (mv t47)])))))) (rT Q0 rN)
def e16 : T Unit := (eN (eN (eS (eN eU .leaf) (eN (eS .leaf eU) eU)) .leaf) (eS (eN eU (eN .leaf eU)) (eN (eS .leaf (eN .leaf eU)) (eN eU .leaf))))
noncomputable def F17 : KF := .fast 14 (sr [o d2 (mv (v .nilptr)),o d3 (mv (k 0))]
(.seq (sr [o d5 (gLss t0 (k 1)),g d7 (mv t0) c5 false,g d8 (gGtr t7 (k 1048576)) c5 false,o d9 (pk t5 vT t8)]
(cs c9 (rt [o d2 (mv (v .nilptr)),o d3 (mv (k 1))])))
(rt [o d11 (g0 opMkMap),o d12 (gBuild [z0,.nilmap,(.bool false),z0,z0,z0] [(0,1),(1,1)] (l2 t0 t11)),o d13 (g1 (opBox 104) t12),o d2 (mv t13),o d3 (mv (k 0))]))) (rT Q2 (rT Q3 rN))
def e17 : T Unit := (eN (eN (eS .leaf eU) eU) .leaf)
noncomputable def F18 : KF := .fast 25 (sr [o d2 (g1 (opBox 31) t0),o d4 (mv (v .nilptr)),o d5 (mv (k 0))]
(.seq (sr [o d9 (lN 10 t2),o d10 (cl 33 (l1 t9)),o d6 (mv t10)]
(sr [o d12 (gNe t6 (k 0))]
(cs c12 (rt [o d4 (mv (v .nilptr)),o d5 (mv t6)]))))
(sr [o d14 (lN 10 t2),o d16 (g0 opMkMap),o d17 (gBuild [(.str 0 0),z0,z0,z0,z0,z0,z0,z0,z0,z0,.nilptr,.nilptr,.nilptr,.nilptr,.nilptr,.nilptr,.nilptr,.nilptr,.nilptr,.nilmap,.nilslice] [(0,10),(10,1),(19,1)] (l3 t14 t1 t16)),o d18 (g1 (opBox 99) t17),o d7 (mv t18)]
(.seq (sr [o d20 (cl 44 (l1 t7)),o d8 (mv t20)]
(sr [o d22 (gNe t8 (k 0))]
(cs c22 (rt [o d4 (mv (v .nilptr)),o d5 (mv t8)]))))
(rt [o d4 (mv t7),o d5 (mv (k 0))]))))) (rT Q4 (rT Q5 rN))
def e18 : T Unit := (eN (eN .leaf (eN .leaf (eN eU .leaf))) (eN (eN (eS .leaf eU) .leaf) (eN (eS .leaf eU) (eN eU eU))))
noncomputable def F19 : KF := .fast 28 (sr [o d4 (mv (v .nilslice))]
(sr [o d5 (mv (v .nilslice))]
(.seq (sr [o d6 (mv (k 0))]
(.block 0 (.loop (.seq (sr [o d11 (ln t1),o d12 (gLss t6 t11)]
(.cond c12 .skip
(.exit 0)))
(.seq (.block 1 (sr [o d19 (ia 13 t1 t6),o d20 (lN 13 t19),o d21 (cl 13 (l2 t0 t20)),o d22 (gEx0 t21),o d23 (gEx1 t21),o d7 (mv t22)]
(.region [o d26 (gAppend 46 6 80 t5 t7),o d5 (mv t26)])))
(.region [o d14 (gAdd t6 (k 1)),o d6 (mv t14)]))))))
(rt [o d4 (mv t5)])))) (rT Q4 rN)
def e19 : T Unit := (eN (eN (eN .leaf (eS .leaf eU)) (eN .leaf (eS eU eU))) (eN (eN eU (eS eU eU)) (eN (eN eU .leaf) (eN .leaf eU))))
noncomputable def F20 : KF := .fast 37 (sr [o d8 (mv (v .nilslice))]
(sr [o d12 (gAdd (v (.str 18 5078819762497343558277470543797453348161605)) t1),o d13 (gAdd t12 (v (.str 10 275360610726064621226509))),o d15 (gAdd t13 t2),o d16 (gAdd t15 (v (.str 8 724306945204554253))),o d9 (mv t16)]
(.seq (sr [o d10 (mv (k 0))]
(.block 0 (.loop (.seq (sr [o d19 (ln t3),o d20 (gLss t10 t19)]
(.cond c20 .skip
(.exit 0)))
(.seq (.block 1 (.region [o d26 (ia 1 t3 t10),o d27 (ld t26),o d28 (gAdd t9 t27),o d29 (gAdd t28 (v (.str 2 2573))),o d9 (mv t29)]))
(.region [o d22 (gAdd t10 (k 1)),o d10 (mv t22)]))))))
(rt [o d31 (gBuild [z0,z0,z0,z0,(.str 0 0),z0,z0,z0,z0,.nilslice,z0,z0,z0] [(1,1)] (l1 t0)),o d34 (gAdd t9 (v (.str 9 185427913988412935470))),o d35 (gBuild [z0,z0,z0,z0,(.str 0 0),z0,z0,z0,z0,.nilslice,z0,z0,z0] [(0,1),(1,1),(4,1)] (l3 (k 1) t0 t34)),o d36 (gBuildSlice 43 13 2 [z0,z0,z0,z0,(.str 0 0),z0,z0,z0,z0,.nilslice,z0,z0,z0] [(0,13),(13,13)] (l2 t31 t35)),o d8 (mv t36)])))) (rT Q8 rN)
def e20 : T Unit := (eN (eN (eN (eS eU .leaf) (eN .leaf eU)) (eN .leaf (eN eU (eN .leaf eU)))) (eN (eN (eN .leaf eU) (eN eU (eS .leaf eU))) (eN eU (eN eU .leaf))))
noncomputable def F21 : KF := .fast 8 (sr [o d2 (mv (v .nilslice))]
(rt [o d4 (nc t0),o d5 (fA 11 t4),o d6 (ld t5),o d7 (cl 46 (l1 t6)),o d2 (mv t7)])) (rT Q2 rN)
def e21 : T Unit := (eN .leaf (eN .leaf eU))
noncomputable def F27 : KF := .fast 34 (sr [o d2 (mv (v (.str 0 0))),o d3 (mv (k 0))]
(sr [o d4 (g0 (opNewc 111 [.nilptr,.nilslice]))]
(sr [o d5 (mv vF)]
(.seq (sr [o d8 (mv t0),o d9 (ln t8),o d10 (mv (k 0))]
(.block 0 (.loop (sr [o d11 (gLss t10 t9)]
(.seq (.cond c11 .skip
(.exit 0))
(.seq (.block 1 (sr [o d12 (ia 1 t8 t10),o d13 (ld t12),o d7 (mv t13)]
(.seq (sr [o d15 (cl 48 (l1 t7)),o d16 (g1 (opUn .not) t15)]
(cs c16 (rt [o d2 (mv (v (.str 0 0))),o d3 (mv (k 2))])))
(sr [g d19 (mv t7) c5 false,g d20 (lS t19) c5 false,g d21 (gGtr t20 (k 998)) c5 false,o d22 (pk t5 vT t21),o d5 (mv t22)]
(.seq (sr [o d24 (cl 49 (l2 t7 (v (.str 1 46))))]
(cs c24 (.region [o d25 (cl 50 (l2 t4 (v (.str 1 46))))])))
(.region [o d27 (gAdd t7 (v (.str 2 2573))),o d28 (cl 50 (l2 t4 t27))]))))))
(.region [o d29 (gAdd t10 (k 1)),o d10 (mv t29)])))))))
(.seq (sr [o d30 (mv t5)]
(cs c30 (rt [o d2 (mv (v (.str 0 0))),o d3 (mv (k 3))])))
(rt [o d31 (cl 51 (l1 t4)),o d32 (gAdd t31 (v (.str 1 46))),o d33 (gAdd t32 (v (.str 2 2573))),o d2 (mv t33),o d3 (mv (k 0))])))))) (rT Q2 (rT Q3 rN))
def e27 : T Unit := (eN (eN (eN eU (eN eU eU)) .leaf) (eN (eN .leaf (eN .leaf eU)) (eN .leaf (eN eU .leaf))))
noncomputable def F30 : KF := .fast 8 (sr [o d2 (mv (k 0))]
(rt [o d4 (nc t0),o d5 (fA 12 t4),o d6 (ld t5),o d7 (cl 54 (l1 t6)),o d2 (mv t7)])) (rT Q2 rN)
def e30 : T Unit := (eN .leaf (eN .leaf eU))
noncomputable def F31 : KF := .fast 23 (sr [o d4 (mv (k 0))]
(sr [o d5 (mv (k 0))]
(.seq (sr [o d6 (mv (k 0))]
(.block 0 (.loop (.seq (sr [o d9 (ln t0),o d10 (gLss t6 t9)]
(.cond c10 .skip
(.exit 0)))
(.seq (.block 1 (sr [o d15 (ia 6 t0 t6),o d16 (fA 0 t15),o d17 (ld t16),o d19 (gEq t17 t1)]
(cs c19 (.region [o d21 (gAdd t5 (k 1)),o d5 (mv t21)]))))
(.region [o d12 (gAdd t6 (k 1)),o d6 (mv t12)]))))))
(rt [o d4 (mv t5)])))) (rT Q4 rN)
def e31 : T Unit := (eN (eN (eN (eS .leaf eU) (eN .leaf eU)) (eN (eN .leaf eU) eU)) (eN (eN eU .leaf) (eN eU eU)))
noncomputable def F33 : KF := .fast 50 (sr [o d1 (g1 (opBox 31) t0),o d2 (mv (k 0))]
(sr [o d10 (fA 0 t1),o d11 (ld t10),o d12 (fA 1 t1),o d13 (ld t12),o d14 (fA 2 t1),o d15 (ld t14),o d16 (cl 56 (l3 t11 t13 t15)),o d17 (gEx0 t16),o d18 (gEx1 t16),o d4 (mv t18)]
(sr [o d20 (fA 7 t1),o d21 (ld t20),o d22 (fA 8 t1),o d23 (ld t22),o d24 (cl 57 (l3 t21 t23 (k 4096))),o d25 (gEx0 t24),o d26 (gEx1 t24),o d6 (mv t26)]
(sr [o d28 (fA 9 t1),o d29 (ld t28),o d30 (cl 58 (l2 (k 0) t29)),o d31 (gEx0 t30),o d32 (gEx1 t30),o d8 (mv t32)]
(.seq (.block 0 (sr [o d35 (gNe t4 (k 0)),o d33 (mv t35)]
(.cond c33 (rt [o d2 (mv t4)])
(sr [o d39 (gNe t6 (k 0)),g d41 (mv t8) c39 false,g d42 (gNe t41 (k 0)) c39 false,o d43 (pk t39 vT t42),g d45 (fA 3 t1) c43 false,g d46 (lN 4 t45) c43 false,g d47 (cl 59 (l1 t46)) c43 false,g d48 (gNe t47 (k 0)) c43 false,o d49 (pk t43 vT t48),o d37 (mv t49)]
(cs c37 (rt [o d2 (mv (k 1))]))))))
(rt [o d2 (mv (k 0))])))))) (rT Q2 rN)
def e33 : T Unit := (eN (eN (eN (eN .leaf (eN .leaf eU)) (eN .leaf (eN .leaf eU))) (eN (eN (eN .leaf eU) (eN .leaf eU)) (eN (eN .leaf eU) .leaf))) (eN (eS .leaf eU) (eS (eN eU eU) eU)))
noncomputable def F34 : KF := .fast 56 (sr [o d3 (g1 (opBox 43) t1),o d4 (mv (k 0))]
(.seq (.seq (.draw [⟨D9,(mv t0),0,none,none,0⟩,⟨D10,(fA 1 t3),0,none,none,0⟩,⟨D11,(ld t10),2,(some (Q10,none)),none,2⟩,⟨D12,(nc t9),0,none,none,1⟩,⟨D13,(fA 15 t12),0,none,none,9⟩,⟨D14,(gIdxAddrArr 4 1 t13 t11),0,none,none,31⟩,⟨D15,(ld t14),2,(some (Q14,none)),none,63⟩,⟨D16,(gEql true (.leaf 3) t15 (v .nilptr)),0,none,none,127⟩])
(cs c16 (rt [o d4 (mv (k 5))])))
(.seq (.draw [⟨D18,(mv t0),0,none,none,0⟩,⟨D19,(nc t18),0,none,none,1⟩,⟨D20,(fA 0 t19),0,none,none,3⟩,⟨D21,(fA 0 t20),0,none,none,7⟩,⟨D22,(ld t21),2,(some (Q21,none)),none,15⟩,⟨D23,(mv t0),0,none,none,0⟩,⟨D24,(nc t23),0,none,none,32⟩,⟨D25,(fA 0 t24),0,none,none,96⟩,⟨D26,(fA 1 t25),0,none,none,224⟩,⟨D27,(ld t26),2,(some (Q26,none)),none,480⟩,⟨D28,(mv t0),0,none,none,0⟩,⟨D29,(nc t28),0,none,none,1024⟩,⟨D30,(fA 0 t29),0,none,none,3072⟩,⟨D31,(fA 2 t30),0,none,none,7168⟩,⟨D32,(ld t31),2,(some (Q31,none)),none,15360⟩,⟨D33,(cl 56 (l3 t22 t27 t32)),3,none,none,32767⟩,⟨D17,(mv t33),0,none,none,65535⟩,⟨D34,(gEx0 t17),0,none,none,131071⟩,⟨D35,(gEx1 t17),0,none,none,131071⟩,⟨D5,(mv t34),0,none,none,262143⟩,⟨D6,(mv t35),0,none,none,1048575⟩])
(sr [o d37 (cl 60 (l1 (k 1000))),o d38 (gEx0 t37),o d39 (gEx1 t37),o d7 (mv t38)]
(.seq (.draw [⟨D40,(mv t0),0,none,none,0⟩,⟨D41,(fA 1 t3),0,none,none,0⟩,⟨D42,(ld t41),2,(some (Q41,none)),none,2⟩,⟨D43,(mv t5),0,none,none,0⟩,⟨D44,(mv t7),0,none,none,0⟩,⟨D45,(gBuild [.nilptr,.nilptr] [(0,1),(1,1)] (l2 t43 t44)),0,none,none,24⟩,⟨D46,(g1 (opBox 135) t45),1,none,none,56⟩,⟨D47,(nc t40),0,none,none,1⟩,⟨D48,(fA 15 t47),0,none,none,129⟩,⟨D49,(gIdxAddrArr 4 1 t48 t42),0,none,none,511⟩,⟨dNO,(s1 t49 t46),3,none,none,1023⟩])
(.seq (.draw [⟨D50,(mv t0),0,none,none,0⟩,⟨D51,(fA 1 t3),0,none,none,0⟩,⟨D52,(ld t51),2,(some (Q51,none)),none,2⟩,⟨D53,(mv t5),0,none,none,0⟩,⟨D54,(cl 62 (l1 t53)),3,none,none,8⟩,⟨D55,(cl 61 (l3 t50 t52 t54)),3,none,none,31⟩])
(rt [o d4 (mv (k 0))]))))))) (rT Q4 rN)
def e34 : T Unit := (eN (eN .leaf (eN (eN .leaf (eN .leaf eU)) eU)) .leaf)
noncomputable def F35 : KF := .fast 99 (sr [o d3 (g1 (opBox 43) t1),o d4 (mv (k 0))]
(.seq (.draw [⟨D12,(mv t0),0,none,none,0⟩,⟨D13,(fA 1 t3),0,none,none,0⟩,⟨D14,(ld t13),2,(some (Q13,none)),none,2⟩,⟨D15,(nc t12),0,none,none,1⟩,⟨D16,(fA 15 t15),0,none,none,9⟩,⟨D17,(gIdxAddrArr 4 1 t16 t14),0,none,none,31⟩,⟨D18,(ld t17),2,(some (Q17,none)),none,63⟩,⟨D5,(mv t18),0,none,none,127⟩])
(.seq (sr [o d20 (gEql false (.leaf 3) t5 (v .nilptr))]
(cs c20 (rt [o d4 (mv (k 4))])))
(.seq (.seq (.draw [⟨D21,(mv t5),0,none,none,0⟩,⟨D22,(nc t21),0,none,none,1⟩,⟨D23,(fA 1 t22),0,none,none,3⟩,⟨D24,(ld t23),2,(some (Q23,none)),none,7⟩,⟨D25,(fA 4 t3),0,none,none,0⟩,⟨D26,(ld t25),2,(some (Q25,none)),none,16⟩,⟨D27,(gBuildSlice 9 1 1 [(.str 0 0)] [(0,1)] (l1 t26)),1,none,none,48⟩,⟨D28,(cl 63 (l2 t24 t27)),3,none,none,127⟩,⟨D29,(ln t28),0,none,none,255⟩,⟨D30,(mv (k 0)),0,none,none,0⟩])
(.block 0 (.loop (sr [o d31 (gLss t30 t29)]
(.seq (.cond c31 .skip
(.exit 0))
(.seq (.block 1 (sr [o d32 (ia 2 t28 t30),o d33 (lN 2 t32),o d7 (g0 (opNewc 141 [(.str 0 0),z0])),o dN (sN 2 t7 t33)]
(.seq (.seq (.draw [⟨D34,(mv t0),0,none,none,0⟩,⟨D35,(nc t34),0,none,none,1⟩,⟨D36,(fA 10 t35),0,none,none,3⟩,⟨D37,(ld t36),2,(some (Q36,none)),none,7⟩,⟨D38,(cl 42 (l1 t37)),3,none,none,15⟩,⟨D39,(mv t38),0,none,none,31⟩,⟨D40,(mv t0),0,none,(some (Q39,false)),63⟩,⟨D41,(fA 1 t3),0,none,(some (Q39,false)),63⟩,⟨D42,(ld t41),2,(some (Q41,none)),(some (Q39,false)),191⟩,⟨D43,(nc t40),0,none,(some (Q39,false)),127⟩,⟨D44,(fA 15 t43),0,none,(some (Q39,false)),639⟩,⟨D45,(gIdxAddrArr 4 1 t44 t42),0,none,(some (Q39,false)),2047⟩,⟨D46,(ld t45),2,(some (Q45,none)),(some (Q39,false)),4095⟩,⟨D47,(gEql false (.leaf 3) t46 (v .nilptr)),0,none,(some (Q39,false)),8191⟩,⟨D48,(pk t39 vT t47),0,none,none,16383⟩])
(cs c48 (.exit 0)))
(.seq (.seq (.draw [⟨D50,(mv t5),0,none,none,0⟩,⟨D51,(nc t50),0,none,none,1⟩,⟨D52,(fA 0 t51),0,none,none,3⟩,⟨D53,(ld t52),2,(some (Q52,none)),none,7⟩,⟨D54,(lN 2 t7),2,(some (Q7,some 2)),none,0⟩,⟨D55,(mv t0),0,none,none,0⟩,⟨D56,(cl 30 (l1 t55)),3,none,none,32⟩,⟨D57,(mv t0),0,none,none,0⟩,⟨D58,(nc t57),0,none,none,128⟩,⟨D59,(fA 11 t58),0,none,none,384⟩,⟨D60,(ld t59),2,(some (Q59,none)),none,896⟩,⟨D61,(cl 46 (l1 t60)),3,none,none,2016⟩,⟨D62,(ln t61),0,none,none,4064⟩,⟨D63,(gLss t62 (k 24)),0,none,none,8160⟩,⟨D64,(cl 64 (cn t53 (l3 t54 t56 t63))),3,none,none,16383⟩,⟨D49,(mv t64),0,none,none,32767⟩,⟨D65,(gEx0 t49),0,none,none,65535⟩,⟨D66,(gEx1 t49),0,none,none,65535⟩,⟨D8,(g0 (opNewc 39 [z0,z0,z0,z0,.nilslice])),1,none,none,0⟩,⟨dNO,(sN 5 t8 t65),3,none,none,393215⟩,⟨D9,(mv t66),0,none,none,1048575⟩])
(sr [o d67 (mv t9)]
(cs c67 (.region [o d69 (fA 1 t3),o d70 (ld t69),o d71 (lN 5 t8),o d72 (cl 61 (l3 t0 t70 t71))]))))
(.seq (sr [o d75 (nc t5),o d76 (fA 0 t75),o d77 (ld t76),o d78 (cl 65 (l1 t77)),o d79 (gEx0 t78),o d80 (gEx1 t78),o d10 (g0 (opNewc 69 [z0,z0,z0,(.str 0 0),(.str 0 0),(.bool false),(.bool false),(.bool false),(.bool false),(.bool false),z0,z0,z0,z0,z0,(.str 0 0),(.str 0 0),(.str 0 0),(.str 0 0),.nilslice,.nilslice])),o dN (sN 21 t10 t79),o d11 (mv t80)]
(sr [o d81 (mv t11)]
(cs c81 (.region [o d83 (fA 1 t3),o d84 (ld t83),o d85 (lN 21 t10),o d86 (cl 66 (l3 t0 t84 t85))]))))
(sr [o d88 (nc t5),o d89 (fA 0 t88),o d90 (ld t89),o d91 (cl 67 (l1 t90))]
(cs c91 (.draw [⟨D92,(mv t0),0,none,none,0⟩,⟨D93,(fA 1 t3),0,none,none,0⟩,⟨D94,(ld t93),2,(some (Q93,none)),none,2⟩,⟨D95,(nc t92),0,none,none,1⟩,⟨D96,(fA 15 t95),0,none,none,9⟩,⟨D97,(gIdxAddrArr 4 1 t96 t94),0,none,none,31⟩,⟨dNO,(s1 t97 (v .nilptr)),3,none,none,63⟩]))))))))
(.region [o d98 (gAdd t30 (k 1)),o d30 (mv t98)])))))))
(rt [o d4 (mv (k 0))]))))) (rT Q4 rN)
def e35 : T Unit := (eN (eN (eN .leaf (eN (eN .leaf (eN .leaf eU)) (eN (eN .leaf eU) .leaf))) (eN (eN .leaf (eN .leaf (eN .leaf eU))) .leaf)) (eN (eN .leaf (eN (eN .leaf (eN .leaf eU)) .leaf)) (eN (eN .leaf eU) (eN (eN (eN .leaf eU) .leaf) .leaf))))
noncomputable def F37 : KF := .fast 56 (sr [o d3 (g1 (opBox 43) t1),o d4 (mv (k 0))]
(.seq (.draw [⟨D8,(mv t0),0,none,none,0⟩,⟨D9,(nc t8),0,none,none,1⟩,⟨D10,(fA 12 t9),0,none,none,3⟩,⟨D11,(ld t10),2,(some (Q10,none)),none,7⟩,⟨D12,(fA 10 t3),0,none,none,0⟩,⟨D13,(ld t12),2,(some (Q12,none)),none,16⟩,⟨D14,(cl 68 (l2 t11 t13)),3,none,none,63⟩])
(.seq (sr [o d16 (nc t0),o d17 (fA 12 t16),o d18 (ld t17),o d19 (cl 69 (l1 t18)),o d20 (g1 (opUn .not) t19)]
(cs c20 (rt [o d4 (mv (k 0))])))
(sr [o d23 (cl 30 (l1 t0)),o d24 (cl 71 (l1 t23)),o d25 (gBuildSlice 9 1 1 [(.str 0 0)] [(0,1)] (l1 t24)),o d26 (cl 70 (l1 t25)),o d27 (gEx0 t26),o d28 (gEx1 t26),o d5 (mv t27)]
(sr [o d30 (nc t0),o d31 (fA 10 t30),o d32 (ld t31),o d34 (cl 72 (l3 t32 (v (.str 3 6827636)) t5)),o d7 (mv t34)]
(.seq (sr [o d36 (gEq t7 (k 0))]
(cs c36 (.region [o d38 (nc t0),o d39 (fA 10 t38),o d40 (ld t39),o d41 (cl 73 (l2 t40 (v (.str 3 6827636)))),o d7 (mv t41)])))
(.seq (sr [o d43 (gEq t7 (k 0))]
(cs c43 (.region [o d45 (nc t0),o d46 (fA 10 t45),o d47 (ld t46),o d48 (cl 74 (l3 t47 (v (.str 3 6827636)) (v (.str 1 104)))),o d7 (mv t48)])))
(.seq (sr [o d50 (gEq t7 (k 0))]
(cs c50 (.region [o d52 (nc t0),o d53 (fA 12 t52),o d54 (ld t53),o d55 (cl 75 (l1 t54))])))
(rt [o d4 (mv (k 0))]))))))))) (rT Q4 rN)
def e37 : T Unit := (eN (eN (eS (eN .leaf eU) (eN (eN .leaf eU) .leaf)) (eN (eN (eN .leaf eU) .leaf) .leaf)) (eN (eN (eN eU (eS .leaf eU)) (eN .leaf (eN eU eU))) (eN (eN .leaf (eN eU eU)) (eN .leaf eU))))
noncomputable def F41 : KF := .fast 58 (.seq (.draw [⟨D10,(mv t0),0,none,none,0⟩,⟨D11,(nc t10),0,none,none,1⟩,⟨D12,(fA 13 t11),0,none,none,3⟩,⟨D13,(ld t12),2,(some (Q12,none)),none,7⟩,⟨D14,(mv t0),0,none,none,0⟩,⟨D15,(cl 30 (l1 t14)),3,none,none,16⟩,⟨D16,(cl 85 (l3 t13 t15 (k 1048576))),3,none,none,63⟩,⟨D9,(mv t16),0,none,none,127⟩,⟨D17,(gEx0 t9),0,none,none,255⟩,⟨D18,(gEx1 t9),0,none,none,255⟩,⟨D19,(gExN 2 t9),0,none,none,255⟩,⟨D2,(mv t17),0,none,none,511⟩,⟨D3,(mv t18),0,none,none,3071⟩,⟨D4,(mv t19),0,none,none,8191⟩])
(.seq (sr [o d20 (mv t2),o d21 (ln t20),o d22 (mv (k 0))]
(.block 0 (.loop (sr [o d23 (gLss t22 t21)]
(.seq (.cond c23 .skip
(.exit 0))
(.seq (.block 1 (sr [o d24 (ia 1 t20 t22),o d25 (ld t24),o d6 (mv t25)]
(sr [o d27 (nc t0),o d28 (fA 10 t27),o d29 (ld t28),o d30 (cl 42 (l1 t29)),o d31 (g1 (opUn .not) t30)]
(cs c31 (.region [o d34 (cl 86 (l2 t0 t6))])))))
(.region [o d35 (gAdd t22 (k 1)),o d22 (mv t35)])))))))
(.block 2 (.loop (.seq (sr [o d37 (nc t0),o d38 (fA 10 t37),o d39 (ld t38),o d40 (cl 42 (l1 t39)),o d41 (g1 (opUn .not) t40)]
(.cond c41 .skip
(.exit 2)))
(.block 3 (.seq (.draw [⟨D43,(mv t0),0,none,none,0⟩,⟨D44,(nc t43),0,none,none,1⟩,⟨D45,(fA 14 t44),0,none,none,3⟩,⟨D46,(ld t45),2,(some (Q45,none)),none,7⟩,⟨D47,(mv t0),0,none,none,0⟩,⟨D48,(cl 30 (l1 t47)),3,none,none,16⟩,⟨D49,(cl 87 (l2 t46 t48)),3,none,none,63⟩,⟨D42,(mv t49),0,none,none,127⟩,⟨D50,(gEx0 t42),0,none,none,255⟩,⟨D51,(gEx1 t42),0,none,none,255⟩,⟨D7,(g0 (opNewc 164 [z0,(.str 0 0),z0,z0])),1,none,none,0⟩,⟨dNO,(sN 4 t7 t50),3,none,none,1535⟩,⟨D8,(mv t51),0,none,none,4095⟩])
(.seq (sr [o d53 (g1 (opUn .not) t8)]
(cs c53 .ret))
(.region [o d55 (fA 0 t7),o d56 (ld t55),o d57 (cl 88 (l2 t0 t56))]))))))))) rN
def e41 : T Unit := (eN (eN (eN (eN .leaf (eN eU .leaf)) (eN eU .leaf)) (eN (eN .leaf (eN eU eU)) (eN .leaf (eN .leaf eU)))) (eN (eN .leaf (eN .leaf (eN .leaf eU))) .leaf))
noncomputable def F42 : KF := .fast 7 (sr [o d2 (mv vF)]
(rt [o d4 (nc t0),o d5 (fA 2 t4),o d6 (ld t5),o d2 (mv t6)])) (rT Q2 rN)
def e42 : T Unit := (eN .leaf (eN .leaf eU))
noncomputable def F44 : KF := .fast 110 (sr [o d2 (mv (k 0))]
(sr [o d14 (nc t0),o d15 (fA 10 t14),o d16 (ld t15),o d17 (cl 89 (l1 t16)),o d18 (gEx0 t17),o d19 (gEx1 t17),o d3 (mv t18),o d4 (mv t19)]
(.seq (sr [o d21 (gNe t4 (k 0))]
(cs c21 (rt [o d2 (mv t4)])))
(sr [o d25 (nc t0),o d26 (fA 10 t25),o d27 (ld t26),o d28 (cl 90 (l1 t27)),o d29 (gEx0 t28),o d30 (gEx1 t28),o d5 (mv t29),o d4 (mv t30)]
(.seq (sr [o d32 (gNe t4 (k 0))]
(cs c32 (rt [o d2 (mv t4)])))
(sr [o d36 (nc t0),o d37 (fA 11 t36),o dN (s1 t37 t3)]
(sr [o d39 (nc t0),o d40 (fA 19 t39),o d41 (ld t40),o dN (g1 (opClear []) t41)]
(sr [o d43 (nc t0),o d44 (fA 15 t43),o d45 (gSliceArr 4 1 t44 on on on),o dN (g1 (opClear [.nilptr]) t45)]
(sr [o d50 (nc t0),o d51 (fA 0 t50),o d52 (fA 9 t51),o d53 (ld t52),o d54 (cl 58 (l2 t5 t53)),o d55 (gEx0 t54),o d56 (gEx1 t54),o d57 (nc t0),o d58 (fA 12 t57),o dN (s1 t58 t55)]
(sr [o d62 (cl 91 (l1 t5)),o d63 (gEx0 t62),o d64 (gEx1 t62),o d65 (nc t0),o d66 (fA 13 t65),o dN (s1 t66 t63)]
(.seq (.draw [⟨D68,(mv t0),0,none,none,0⟩,⟨D69,(mv t0),0,none,none,0⟩,⟨D70,(nc t69),0,none,none,2⟩,⟨D71,(fA 0 t70),0,none,none,6⟩,⟨D72,(fA 7 t71),0,none,none,14⟩,⟨D73,(ld t72),2,(some (Q72,none)),none,30⟩,⟨D74,(mv t0),0,none,none,0⟩,⟨D75,(nc t74),0,none,none,64⟩,⟨D76,(fA 0 t75),0,none,none,192⟩,⟨D77,(fA 8 t76),0,none,none,448⟩,⟨D78,(ld t77),2,(some (Q77,none)),none,960⟩,⟨D79,(cl 57 (l3 t73 t78 (k 4096))),3,none,none,2046⟩,⟨D67,(mv t79),0,none,none,4094⟩,⟨D80,(gEx0 t67),0,none,none,8190⟩,⟨D81,(gEx1 t67),0,none,none,8190⟩,⟨D82,(nc t68),0,none,none,16383⟩,⟨D83,(fA 14 t82),0,none,none,49151⟩,⟨dNO,(s1 t83 t80),3,none,none,114687⟩])
(.seq (sr [o d85 (cl 46 (l1 t3)),o d86 (ln t85),o d87 (mv (k 0))]
(.block 0 (.loop (sr [o d88 (gLss t87 t86)]
(.seq (.cond c88 .skip
(.exit 0))
(.seq (.block 1 (sr [o d89 (ia 1 t85 t87),o d90 (ld t89),o d7 (mv t90)]
(sr [o d94 (cl 47 (l2 t3 t7)),o d95 (gEx0 t94),o d96 (gEx1 t94),o d97 (gExN 2 t94),o d8 (g0 (opNewc 69 [z0,z0,z0,(.str 0 0),(.str 0 0),(.bool false),(.bool false),(.bool false),(.bool false),(.bool false),z0,z0,z0,z0,z0,(.str 0 0),(.str 0 0),(.str 0 0),(.str 0 0),.nilslice,.nilslice])),o dN (sN 21 t8 t95),o d9 (mv t96)]
(sr [o d99 (cl 92 (l1 t9))]
(.cond c99 (.region [o d102 (cl 93 (l2 t0 t7))])
(sr [o d105 (cl 94 (l2 t3 t7)),o d11 (mv t105)]
(sr [o d107 (gNe t11 (k 0))]
(cs c107 (rt [o d2 (mv t11)])))))))))
(.region [o d109 (gAdd t87 (k 1)),o d87 (mv t109)])))))))
(rt [o d2 (mv (k 0))]))))))))))))) (rT Q2 rN)
def e44 : T Unit := (eN (eN (eN (eN (eN .leaf eU) (eS .leaf eU)) (eS (eN .leaf (eS eU .leaf)) (eN .leaf (eS eU .leaf)))) (eN (eS (eN (eS .leaf eU) (eN eU .leaf)) (eS (eN .leaf eU) (eN eU .leaf))) (eN (eS .leaf (eN eU .leaf)) (eN eU .leaf)))) (eN (eN (eS (eN (eS .leaf eU) .leaf) (eN .leaf (eN eU .leaf))) (eN .leaf (eN eU eU))) (eN (eN (eN (eS .leaf eU) .leaf) (eN .leaf eU)) (eN (eS .leaf (eN eU .leaf)) (eN eU eU)))))
noncomputable def F45 : KF := .fast 19 (sr [o d5 (nc t0),o d6 (fA 10 t5),o d7 (ld t6),o d8 (cl 42 (l1 t7)),o d9 (g1 (opUn .not) t8)]
(cs c9 (.region [o d12 (nc t0),o d13 (fA 20 t12),o d14 (ld t13),o d16 (gAppend 46 6 80 t14 t1),o d17 (nc t0),o d18 (fA 20 t17),o dN (s1 t18 t16)]))) rN
def e45 : T Unit := (eN (eN (eN .leaf eU) eU) (eN .leaf (eN eU (eN .leaf eU))))
noncomputable def F46 : KF := .fast 9 (sr [o d2 (mv (v .nilslice))]
(rt [o d4 (nc t0),o d5 (fA 1 t4),o d6 (ld t5),o d7 (cl 95 (l1 t6)),o d8 (cl 52 (l1 t7)),o d2 (mv t8)])) (rT Q2 rN)
def e46 : T Unit := (eN .leaf (eN .leaf eU))
noncomputable def F47 : KF := .fast 38 (sr [o d4 (g0 (opNewc 69 [z0,z0,z0,(.str 0 0),(.str 0 0),(.bool false),(.bool false),(.bool false),(.bool false),(.bool false),z0,z0,z0,z0,z0,(.str 0 0),(.str 0 0),(.str 0 0),(.str 0 0),.nilslice,.nilslice])),o d5 (mv (v .nilslice)),o d6 (mv (k 0))]
(sr [o d11 (nc t0),o d12 (fA 1 t11),o d13 (ld t12),o d15 (gLookup false (.agg [(.int .i64 (.ofNat 0)),(.int .i64 (.ofNat 0)),(.int .i64 (.ofNat 0)),(.str 0 0),(.str 0 0),(.bool false),(.bool false),(.bool false),(.bool false),(.bool false),(.int .i64 (.ofNat 0)),(.int .i64 (.ofNat 0)),(.int .i64 (.ofNat 0)),(.int .i64 (.ofNat 0)),(.int .i64 (.ofNat 0)),(.str 0 0),(.str 0 0),(.str 0 0),(.str 0 0),.nilslice,.nilslice,.nilslice]) true t13 t1),o d16 (gEx0 t15),o d17 (gEx1 t15),o d7 (g0 (opNewc 179 [z0,z0,z0,(.str 0 0),(.str 0 0),(.bool false),(.bool false),(.bool false),(.bool false),(.bool false),z0,z0,z0,z0,z0,(.str 0 0),(.str 0 0),(.str 0 0),(.str 0 0),.nilslice,.nilslice,.nilslice])),o dN (sN 22 t7 t16),o d8 (mv t17)]
(.seq (sr [o d19 (g1 (opUn .not) t8)]
(cs c19 (rt [o d20 (gBuild [z0,z0,z0,(.str 0 0),(.str 0 0),(.bool false),(.bool false),(.bool false),(.bool false),(.bool false),z0,z0,z0,z0,z0,(.str 0 0),(.str 0 0),(.str 0 0),(.str 0 0),.nilslice,.nilslice] [] nl),o dN (sN 21 t4 t20),o d5 (mv (v .nilslice)),o d6 (mv (k 4))])))
(.seq (.draw [⟨D21,(fA 0 t7),0,none,none,0⟩,⟨D22,(fA 19 t21),0,none,none,1⟩,⟨D23,(ld t22),2,(some (Q22,none)),none,3⟩,⟨D24,(cl 96 (l1 t23)),3,none,none,7⟩,⟨D25,(fA 0 t7),0,none,none,0⟩,⟨D26,(fA 20 t25),0,none,none,16⟩,⟨D27,(ld t26),2,(some (Q26,none)),none,48⟩,⟨D28,(cl 97 (l1 t27)),3,none,none,127⟩,⟨D29,(fA 0 t7),0,none,none,127⟩,⟨D30,(fA 19 t29),0,none,none,383⟩,⟨dNO,(s1 t30 t24),3,none,none,1023⟩,⟨D31,(fA 0 t7),0,none,none,2047⟩,⟨D32,(fA 20 t31),0,none,none,4095⟩,⟨dNO,(s1 t32 t28),3,none,none,8191⟩])
(.seq (.draw [⟨D33,(fA 0 t7),0,none,none,0⟩,⟨D34,(lN 21 t33),2,(some (Q33,some 21)),none,1⟩,⟨D35,(fA 21 t7),0,none,none,0⟩,⟨D36,(ld t35),2,(some (Q35,none)),none,4⟩,⟨D37,(cl 98 (l1 t36)),3,none,none,12⟩,⟨dNO,(sN 21 t4 t34),3,none,none,31⟩,⟨D5,(mv t37),0,none,none,63⟩,⟨D6,(mv (k 0)),0,none,none,127⟩])
.ret))))) (rC Q4 (some 21) (rT Q5 (rT Q6 rN)))
def e47 : T Unit := (eN (eN (eN eU (eS .leaf eU)) .leaf) (eN (eN .leaf eU) .leaf))
noncomputable def F48 : KF := .fast 6 (sr [o d2 (mv vF)]
(rt [o d4 (cl 99 (l2 t0 (v (.str 3 658688)))),o d5 (g1 (opUn .not) t4),o d2 (mv t5)])) (rT Q2 rN)
def e48 : T Unit := (eN .leaf (eN .leaf eU))
noncomputable def F49 : KF := .fast 8 (sr [o d4 (mv vF)]
(rt [o d7 (cl 100 (l2 t0 t1)),o d4 (mv t7)])) (rT Q4 rN)
def e49 : T Unit := (eN (eN eU .leaf) (eN eU .leaf))
noncomputable def F50 : KF := .fast 19 (sr [o d4 (mv (k 0)),o d5 (mv (v .nilIface))]
(sr [o d7 (cl 101 (l1 t0))]
(sr [o d10 (nc t0),o d11 (fA 1 t10),o d12 (ld t11),o d14 (gAppend 5 1 1 t12 t1),o d15 (nc t0),o d16 (fA 1 t15),o dN (s1 t16 t14)]
(rt [o d18 (lS t1),o d4 (mv t18),o d5 (mv (v .nilIface))])))) (rT Q4 (rT Q5 rN))
def e50 : T Unit := (eN (eN eU (eN .leaf eU)) (eN (eN eU (eS .leaf eU)) .leaf))
noncomputable def F51 : KF := .fast 14 (sr [o d2 (mv (v (.str 0 0)))]
(.seq (.draw [⟨D3,(mv t0),0,none,none,0⟩,⟨D4,(nc t3),0,none,none,1⟩,⟨D5,(fA 1 t4),0,none,none,3⟩,⟨D6,(ld t5),2,(some (Q5,none)),none,7⟩,⟨D7,(g1 opSliceData t6),0,none,none,15⟩,⟨D8,(mv t0),0,none,none,0⟩,⟨D9,(nc t8),0,none,none,32⟩,⟨D10,(fA 1 t9),0,none,none,96⟩,⟨D11,(ld t10),2,(some (Q10,none)),none,224⟩,⟨D12,(ln t11),0,none,none,480⟩,⟨D13,(g2 (opUnsafeStr 5) t7 t12),3,none,none,1023⟩,⟨D2,(mv t13),0,none,none,2047⟩])
.ret)) (rT Q2 rN)
def e51 : T Unit := .leaf
noncomputable def F54 : KF := .fast 7 (sr [o d2 (mv (k 0))]
(rt [o d4 (nc t0),o d5 (fA 0 t4),o d6 (ld t5),o d2 (mv t6)])) (rT Q2 rN)
def e54 : T Unit := (eN .leaf (eN .leaf eU))
noncomputable def F56 : KF := .fast 43 (sr [o d6 (mv (v .nilptr)),o d7 (mv (k 0))]
(sr [o d12 (cl 105 (l1 t0)),o d13 (gEx0 t12),o d14 (gEx1 t12),o d8 (mv t13),o d9 (mv t14)]
(.seq (.block 0 (sr [o d17 (gNe t9 (k 0)),g d19 (mv t8) c17 false,g d20 (mv t0) c17 false,g d21 (gNe t19 t20) c17 false,o d22 (pk t17 vT t21),o d15 (mv t22)]
(.cond c15 (rt [o d6 (mv (v .nilptr)),o d7 (mv (k 2))])
(sr [o d25 (gLss t1 (k 1)),g d27 (mv t1) c25 false,g d28 (gGtr t27 (k 4096)) c25 false,o d29 (pk t25 vT t28),g d31 (mv t2) c29 false,g d32 (gLss t31 (k 1)) c29 false,o d33 (pk t29 vT t32),g d35 (mv t2) c33 false,g d36 (gGtr t35 (k 1048576)) c33 false,o d37 (pk t33 vT t36),o d23 (mv t37)]
(cs c23 (rt [o d6 (mv (v .nilptr)),o d7 (mv (k 1))]))))))
(rt [o d41 (gBuild [(.str 0 0),z0,z0,z0,z0,(.bool false),z0,z0,z0,(.str 0 0),(.str 0 0),(.bool false),(.bool false),(.bool false),(.bool false),(.bool false),z0,z0,z0,z0,z0,(.str 0 0),(.str 0 0),(.str 0 0),(.str 0 0),.nilslice,.nilslice,(.bool false),(.bool false)] [(0,1),(1,1),(2,1)] (l3 t0 t1 t2)),o d42 (g1 (opBox 199) t41),o d6 (mv t42),o d7 (mv (k 0))])))) (rT Q6 (rT Q7 rN))
def e56 : T Unit := (eN (eN (eN (eN eU (eN .leaf eU)) (eS eU (eS .leaf eU))) (eN .leaf (eN (eS .leaf eU) eU))) (eN .leaf (eN eU (eN (eN .leaf eU) .leaf))))
noncomputable def F57 : KF := .fast 36 (sr [o d6 (mv (v .nilptr)),o d7 (mv (k 0))]
(.seq (sr [o d9 (gLss t0 (k 1)),g d11 (mv t0) c9 false,g d12 (gGtr t11 (k 1048576)) c9 false,o d13 (pk t9 vT t12),g d15 (mv t1) c13 false,g d16 (gLss t15 (k 1)) c13 false,o d17 (pk t13 vT t16),g d19 (mv t1) c17 false,g d20 (gGtr t19 (k 64)) c17 false,o d21 (pk t17 vT t20),g d23 (mv t2) c21 false,g d24 (gLss t23 (k 1)) c21 false,o d25 (pk t21 vT t24),g d27 (mv t2) c25 false,g d28 (gGtr t27 (k 4096)) c25 false,o d29 (pk t25 vT t28)]
(cs c29 (rt [o d6 (mv (v .nilptr)),o d7 (mv (k 1))])))
(rt [o d33 (g0 opMkMap),o d34 (gBuild [z0,z0,z0,.nilslice,.nilmap] [(0,1),(1,1),(2,1),(4,1)] (cn t0 (l3 t1 t2 t33))),o d35 (g1 (opBox 196) t34),o d6 (mv t35),o d7 (mv (k 0))]))) (rT Q6 (rT Q7 rN))
def e57 : T Unit := (eN (eN (eN (eS eU eU) (eS eU eU)) (eN .leaf (eS .leaf (eN .leaf eU)))) (eN .leaf (eN .leaf (eN .leaf (eN .leaf eU)))))
noncomputable def F58 : KF := .fast 25 (sr [o d4 (mv (v .nilptr)),o d5 (mv (k 0))]
(.seq (sr [o d7 (gLss t0 (k 0)),g d9 (mv t0) c7 false,g d10 (gGtr t9 (k 1099511627776)) c7 false,o d11 (pk t7 vT t10),g d13 (mv t1) c11 false,g d14 (gLss t13 (k 1)) c11 false,o d15 (pk t11 vT t14),g d17 (mv t1) c15 false,g d18 (gGtr t17 (k 1048576)) c15 false,o d19 (pk t15 vT t18)]
(cs c19 (rt [o d4 (mv (v .nilptr)),o d5 (mv (k 1))])))
(rt [o d23 (gBuild (zs 5) [(0,1),(1,1),(2,1)] (l3 t0 t0 t1)),o d24 (g1 (opBox 192) t23),o d4 (mv t24),o d5 (mv (k 0))]))) (rT Q4 (rT Q5 rN))
def e58 : T Unit := (eN (eN (eS (eN .leaf eU) .leaf) (eN (eS .leaf eU) (eS .leaf eU))) (eN (eN (eN .leaf eU) .leaf) .leaf))
noncomputable def F59 : KF := .fast 38 (sr [o d1 (g1 (opBox 29) t0),o d2 (mv (k 0))]
(.seq (sr [o d3 (fA 0 t1),o d4 (ld t3),o d5 (gLss t4 (k 1)),g d7 (fA 1 t1) c5 false,g d8 (ld t7) c5 false,g d9 (fA 0 t1) c5 false,g d10 (ld t9) c5 false,g d11 (gLss t8 t10) c5 false,o d12 (pk t5 vT t11),g d14 (fA 1 t1) c12 false,g d15 (ld t14) c12 false,g d16 (gGtr t15 (k 1048576)) c12 false,o d17 (pk t12 vT t16),g d19 (fA 2 t1) c17 false,g d20 (ld t19) c17 false,g d21 (gLss t20 (k 1)) c17 false,o d22 (pk t17 vT t21),g d24 (fA 2 t1) c22 false,g d25 (ld t24) c22 false,g d26 (gGtr t25 (k 1073741824)) c22 false,o d27 (pk t22 vT t26),g d29 (fA 3 t1) c27 false,g d30 (ld t29) c27 false,g d31 (gLss t30 (k 1)) c27 false,o d32 (pk t27 vT t31),g d34 (fA 3 t1) c32 false,g d35 (ld t34) c32 false,g d36 (gGtr t35 (k 1073741824)) c32 false,o d37 (pk t32 vT t36)]
(cs c37 (rt [o d2 (mv (k 1))])))
(rt [o d2 (mv (k 0))]))) (rT Q2 rN)
def e59 : T Unit := (eN (eN (eS .leaf (eN .leaf eU)) (eN (eN eU .leaf) .leaf)) (eN (eN eU (eN .leaf (eN .leaf eU))) (eN .leaf (eN eU .leaf))))
noncomputable def F60 : KF := .fast 13 (sr [o d2 (mv (v .nilptr)),o d3 (mv (k 0))]
(.seq (sr [o d5 (gLss t0 (k 2)),g d7 (mv t0) c5 false,g d8 (gGtr t7 (k 65536)) c5 false,o d9 (pk t5 vT t8)]
(cs c9 (rt [o d2 (mv (v .nilptr)),o d3 (mv (k 1))])))
(rt [o d11 (gBuild [z0,z0,.nilslice,z0,(.bool false)] [(0,1)] (l1 t0)),o d12 (g1 (opBox 201) t11),o d2 (mv t12),o d3 (mv (k 0))]))) (rT Q2 (rT Q3 rN))
def e60 : T Unit := (eN (eN (eS .leaf eU) eU) .leaf)
noncomputable def F61 : KF := .fast 19 (sr [o d5 (g1 (opBox 39) t2)]
(sr [o d9 (lN 5 t5),o d10 (cl 106 (l1 t9)),o d11 (gEx0 t10),o d12 (gEx1 t10),o d6 (mv t11)]
(.region [o d16 (gBuild [(.str 0 0),z0,z0,z0,(.str 0 0),.nilslice] [(0,1),(1,1),(5,1)] (l3 (v (.str 3 7954803)) t1 t6)),o d17 (gBuildSlice 46 6 1 [(.str 0 0),z0,z0,z0,(.str 0 0),.nilslice] [(0,6)] (l1 t16)),o d18 (cl 45 (l2 t0 t17))]))) rN
def e61 : T Unit := (eN (eN (eN eU .leaf) (eN .leaf eU)) (eN (eN eU .leaf) (eN .leaf (eS .leaf eU))))
noncomputable def F62 : KF := .fast 9 (sr [o d2 (g0 (opNewc 39 [z0,z0,z0,z0,.nilslice]))]
(rt [o d4 (nc t0),o d5 (fA 0 t4),o d6 (ld t5),o d7 (gBuildSlice 9 1 1 [(.str 0 0)] [(0,1)] (l1 t6)),o d8 (cl 107 (l3 (k 220) (v (.str 0 0)) t7)),o dN (sN 5 t2 t8)])) (rC Q2 (some 5) rN)
def e62 : T Unit := (eN .leaf (eN .leaf eU))
noncomputable def F63 : KF := .fast 31 (sr [o d2 (g1 (opBox 131) t0),o d4 (mv (v .nilslice))]
(sr [o d5 (g0 (opNewc 138 [.nilslice]))]
(sr [o d11 (gMkFunc 108 nl (l2 t2 t5)),o d6 (mv t11)]
(.seq (sr [o d12 (mv t1),o d13 (ln t12),o d14 (mv (k 0))]
(.block 0 (.loop (sr [o d15 (gLss t14 t13)]
(.seq (.cond c15 .skip
(.exit 0))
(.seq (.block 1 (sr [o d16 (ia 1 t12 t14),o d17 (ld t16),o d8 (mv t17)]
(sr [o d19 (g1 (opBytesOfStr 5) t8),o d20 (ln t19),o d21 (mv (k 0))]
(.block 2 (.loop (sr [o d22 (gLss t21 t20)]
(.seq (.cond c22 .skip
(.exit 2))
(.seq (.block 3 (sr [o d23 (ia 1 t19 t21),o d24 (ld t23),o d10 (mv t24)]
(.region [o d27 (gCallV t6 (l1 t10))])))
(.region [o d28 (gAdd t21 (k 1)),o d21 (mv t28)])))))))))
(.region [o d29 (gAdd t14 (k 1)),o d14 (mv t29)])))))))
(rt [o d30 (ld t5),o d4 (mv t30)]))))) (rT Q4 rN)
def e63 : T Unit := (eN (eN (eN .leaf (eN eU eU)) .leaf) (eN (eN .leaf (eN eU .leaf)) .leaf))
noncomputable def F64 : KF := .fast 114 (sr [o d5 (g1 (opBox 141) t1),o d8 (g0 (opNewc 39 [z0,z0,z0,z0,.nilslice])),o d9 (mv vF)]
(sr [o d17 (gl opMax (l2 t2 (k 0))),o d18 (gl opMin (l2 t17 (k 1099511627776))),o d20 (nc t0),o d21 (fA 4 t20),o dN (s1 t21 t18),o d22 (nc t0),o d23 (fA 5 t22),o dN (s1 t23 t3)]
(.seq (sr [o d25 (nc t0),o d26 (fA 28 t25),o d27 (ld t26)]
(cs c27 (.region [o d29 (cl 110 (l1 t0))])))
(.seq (.block 0 (sr [o d32 (nc t0),o d33 (fA 3 t32),o d34 (ld t33),o d35 (gEq t34 (k 5)),o d30 (mv t35)]
(.cond c30 (rt [o d36 (gBuild [z0,z0,z0,z0,.nilslice] [] nl),o dN (sN 5 t8 t36),o d9 (mv vF)])
(sr [o d39 (nc t0),o d40 (fA 3 t39),o d41 (ld t40),o d42 (gEq t41 (k 4)),o d37 (mv t42)]
(.cond c37 (rt [o d44 (lN 2 t5),o d45 (cl 111 (l2 t0 t44)),o d46 (gEx0 t45),o d47 (gEx1 t45),o dN (sN 5 t8 t46),o d9 (mv t47)])
(sr [o d49 (fA 1 t5),o d50 (ld t49),o d51 (gNe t50 (k 0)),g d53 (fA 0 t5) c51 false,g d54 (ld t53) c51 false,g d55 (lS t54) c51 false,g d56 (gGtr t55 (k 510)) c51 false,o d57 (pk t51 vT t56),o d48 (mv t57)]
(cs c48 (rt [o d58 (gBuildSlice 9 1 1 [(.str 0 0)] [(0,1)] (l1 (v (.str 4 1701734764)))),o d59 (cl 107 (l3 (k 500) (v (.str 5 215523601973)) t58)),o dN (sN 5 t8 t59),o d9 (mv vT)]))))))))
(sr [o d60 (g0 opMkMap),o dN (g3 (opMapUpd true) t60 (v (.str 4 1330398536)) (v (.func (.func 112) [] []))),o dN (g3 (opMapUpd true) t60 (v (.str 4 1330399301)) (v (.func (.func 112) [] []))),o dN (g3 (opMapUpd true) t60 (v (.str 4 1279869261)) (v (.func (.func 113) [] []))),o dN (g3 (opMapUpd true) t60 (v (.str 4 1414546258)) (v (.func (.func 114) [] []))),o dN (g3 (opMapUpd true) t60 (v (.str 4 1096040772)) (v (.func (.func 115) [] []))),o dN (g3 (opMapUpd true) t60 (v (.str 4 1413829458)) (v (.func (.func 116) [] []))),o dN (g3 (opMapUpd true) t60 (v (.str 4 1414092113)) (v (.func (.func 117) [] []))),o dN (g3 (opMapUpd true) t60 (v (.str 4 1347374926)) (v (.func (.func 118) [] []))),o dN (g3 (opMapUpd true) t60 (v (.str 4 1497780822)) (v (.func (.func 119) [] []))),o dN (g3 (opMapUpd true) t60 (v (.str 4 1347175752)) (v (.func (.func 120) [] []))),o d10 (mv t60)]
(sr [o d62 (fA 0 t5),o d63 (ld t62),o d64 (cl 122 (l2 t63 (v (.str 1 32)))),o d65 (cl 121 (l1 t64)),o d11 (mv t65)]
(sr [o d67 (fA 0 t5),o d68 (ld t67),o d69 (cl 123 (l1 t68)),o d70 (gEx0 t69),o d71 (gEx1 t69),o d12 (g0 (opNewc 214 [(.str 0 0),(.str 0 0),(.str 0 0),(.str 0 0),(.bool false),(.bool false),(.bool false),(.bool false),(.bool false),z0,z0,z0,z0,z0,(.str 0 0),(.str 0 0),(.str 0 0),(.str 0 0),(.str 0 0),(.str 0 0),(.str 0 0)])),o dN (sN 21 t12 t70),o d13 (mv t71)]
(.seq (.block 1 (sr [o d73 (cl 125 nl),o d75 (cl 124 (l2 t73 t11)),o d76 (g1 (opUn .not) t75),o d72 (mv t76)]
(.cond c72 (rt [o d77 (gBuildSlice 9 1 1 [(.str 0 0)] [(0,1)] (l1 (v (.str 4 1651664246)))),o d78 (cl 107 (l3 (k 500) (v (.str 5 211228634677)) t77)),o dN (sN 5 t8 t78),o d9 (mv vT)])
(sr [o d82 (cl 126 (l2 t0 t11)),o d83 (g1 (opUn .not) t82),o d79 (mv t83)]
(.cond c79 (rt [o d84 (gBuildSlice 9 1 1 [(.str 0 0)] [(0,1)] (l1 (v (.str 5 491327353455)))),o d85 (cl 107 (l3 (k 503) (v (.str 5 211228634677)) t84)),o dN (sN 5 t8 t85),o d9 (mv vT)])
(sr [o d88 (gEq t13 (k 10)),o d86 (mv t88)]
(.cond c86 (rt [o d89 (gBuildSlice 9 1 1 [(.str 0 0)] [(0,1)] (l1 (v (.str 3 7955819)))),o d90 (cl 107 (l3 (k 555) (v (.str 5 224113536565)) t89)),o dN (sN 5 t8 t90),o d9 (mv vT)])
(sr [o d93 (gNe t13 (k 0)),o d91 (mv t93)]
(.cond c91 (rt [o d94 (gBuildSlice 9 1 1 [(.str 0 0)] [(0,1)] (l1 (v (.str 4 1836216166)))),o d95 (cl 107 (l3 (k 501) (v (.str 5 224113536565)) t94)),o dN (sN 5 t8 t95),o d9 (mv vT)])
(sr [o d98 (gEq t11 (v (.str 4 1096040772))),g d100 (mv t0) c98 true,g d101 (nc t100) c98 true,g d102 (fA 3 t101) c98 true,g d103 (ld t102) c98 true,g d104 (gNe t103 (k 3)) c98 true,o d105 (pk t98 t104 vF),o d96 (mv t105)]
(cs c96 (rt [o d106 (gBuildSlice 9 1 1 [(.str 0 0)] [(0,1)] (l1 (v (.str 5 491327353455)))),o d107 (cl 107 (l3 (k 503) (v (.str 5 211228634677)) t106)),o dN (sN 5 t8 t107),o d9 (mv vT)]))))))))))))
(rt [o d110 (gLookup true .nilFunc false t10 t11),o d112 (lN 21 t12),o d113 (gCallV t110 (l2 t0 t112)),o dN (sN 5 t8 t113),o d9 (mv vT)]))))))))) (rC Q8 (some 5) (rT Q9 rN))
def e64 : T Unit := (eN (eN (eN (eS .leaf (eN .leaf eU)) (eN (eN .leaf (eN .leaf eU)) (eN .leaf (eN .leaf eU)))) (eN (eN (eS (eN .leaf eU) (eN eU .leaf)) (eN eU .leaf)) (eN eU (eS (eN .leaf eU) .leaf)))) (eN (eN (eN (eN eU (eN eU .leaf)) .leaf) (eN .leaf (eN (eN .leaf eU) (eN eU .leaf)))) (eN (eN (eN .leaf eU) (eS .leaf (eN eU .leaf))) (eN (eN (eN .leaf eU) .leaf) (eS (eN eU .leaf) eU)))))
noncomputable def F65 : KF := .fast 18 (sr [o d2 (g0 (opNewc 69 [z0,z0,z0,(.str 0 0),(.str 0 0),(.bool false),(.bool false),(.bool false),(.bool false),(.bool false),z0,z0,z0,z0,z0,(.str 0 0),(.str 0 0),(.str 0 0),(.str 0 0),.nilslice,.nilslice])),o d3 (mv vF)]
(.seq (sr [o d6 (nc t0),o d7 (fA 28 t6),o d8 (ld t7),o d9 (g1 (opUn .not) t8)]
(cs c9 (rt [o d10 (gBuild [z0,z0,z0,(.str 0 0),(.str 0 0),(.bool false),(.bool false),(.bool false),(.bool false),(.bool false),z0,z0,z0,z0,z0,(.str 0 0),(.str 0 0),(.str 0 0),(.str 0 0),.nilslice,.nilslice] [] nl),o dN (sN 21 t2 t10),o d3 (mv vF)])))
(sr [o d12 (nc t0),o d13 (fA 6 t12),o d14 (lN 21 t13),o d4 (g0 (opNewc 69 [z0,z0,z0,(.str 0 0),(.str 0 0),(.bool false),(.bool false),(.bool false),(.bool false),(.bool false),z0,z0,z0,z0,z0,(.str 0 0),(.str 0 0),(.str 0 0),(.str 0 0),.nilslice,.nilslice])),o dN (sN 21 t4 t14)]
(sr [o d16 (cl 110 (l1 t0))]
(rt [o d17 (lN 21 t4),o dN (sN 21 t2 t17),o d3 (mv vT)]))))) (rC Q2 (some 21) (rT Q3 rN))
def e65 : T Unit := (eN .leaf (eN eU (eN eU (eN .leaf eU))))
noncomputable def F66 : KF := .fast 38 (sr [o d5 (g1 (opBox 69) t2)]
(sr [o d9 (nc t0),o d10 (fA 11 t9),o d11 (ld t10),o d12 (cl 127 (l1 t11)),o d13 (fA 0 t5),o dN (s1 t13 t12)]
(.seq (.seq (.draw [⟨D14,(mv t0),0,none,none,0⟩,⟨D15,(nc t14),0,none,none,1⟩,⟨D16,(fA 11 t15),0,none,none,3⟩,⟨D17,(ld t16),2,(some (Q16,none)),none,7⟩,⟨D18,(lN 21 t5),2,(some (Q5,some 21)),none,0⟩,⟨D19,(cl 128 (l2 t17 t18)),3,none,none,31⟩,⟨D20,(gNe t19 (k 0)),0,none,none,63⟩])
(cs c20 (sr [o d22 (gBuildSlice 9 1 1 [(.str 0 0)] [(0,1)] (l1 (v (.str 4 1836019570)))),o d23 (cl 129 (l3 (k 452) (v (.str 5 211228503604)) t22)),o d24 (gEx0 t23),o d25 (gEx1 t23),o d6 (g0 (opNewc 39 [z0,z0,z0,z0,.nilslice])),o dN (sN 5 t6 t24)]
(rt [o d28 (lN 5 t6),o d29 (cl 61 (l3 t0 t1 t28))]))))
(sr [o d31 (fA 0 t5),o d32 (ld t31),o d33 (cl 93 (l2 t0 t32))]
(.region [o d36 (cl 130 nl),o d37 (cl 61 (l3 t0 t1 t36))]))))) rN
def e66 : T Unit := (eN (eN (eN (eN eU .leaf) (eN eU (eN .leaf eU))) (eN .leaf eU)) (eN (eN (eN .leaf eU) .leaf) (eN (eN eU (eN .leaf eU)) eU)))
noncomputable def F67 : KF := .fast 8 (sr [o d2 (mv vF)]
(rt [o d4 (nc t0),o d5 (fA 3 t4),o d6 (ld t5),o d7 (gEq t6 (k 5)),o d2 (mv t7)])) (rT Q2 rN)
def e67 : T Unit := (eN .leaf (eN .leaf eU))
noncomputable def F69 : KF := .fast 17 (sr [o d2 (mv vF)]
(.seq (.draw [⟨D3,(mv t0),0,none,none,0⟩,⟨D4,(nc t3),0,none,none,1⟩,⟨D5,(fA 0 t4),0,none,none,3⟩,⟨D6,(ld t5),2,(some (Q5,none)),none,7⟩,⟨D7,(mv t0),0,none,none,0⟩,⟨D8,(nc t7),0,none,none,16⟩,⟨D9,(fA 1 t8),0,none,none,48⟩,⟨D10,(ld t9),2,(some (Q9,none)),none,112⟩,⟨D11,(gSub t6 t10),0,none,none,255⟩,⟨D12,(mv t0),0,none,none,0⟩,⟨D13,(nc t12),0,none,none,512⟩,⟨D14,(fA 2 t13),0,none,none,1536⟩,⟨D15,(ld t14),2,(some (Q14,none)),none,3584⟩,⟨D16,(gGeq t11 t15),0,none,none,8191⟩,⟨D2,(mv t16),0,none,none,16383⟩])
.ret)) (rT Q2 rN)
def e69 : T Unit := .leaf
noncomputable def F70 : KF := .fast 35 (sr [o d2 (mv (v (.str 0 0))),o d3 (mv (k 0))]
(sr [o d4 (g0 (opNewc 111 [.nilptr,.nilslice]))]
(.seq (sr [o d8 (mv t0),o d9 (ln t8),o d10 (mv (k 0))]
(.block 0 (.loop (sr [o d11 (gLss t10 t9)]
(.seq (.cond c11 .skip
(.exit 0))
(.seq (.block 1 (sr [o d12 (ia 1 t8 t10),o d13 (ld t12),o d6 (mv t13)]
(.seq (sr [o d15 (lS t6),o d16 (gGtr t15 (k 65535))]
(cs c16 (rt [o d2 (mv (v (.str 0 0))),o d3 (mv (k 3))])))
(sr [o d18 (lS t6),o d19 (gConvInt .u16 t18),o d20 (cl 132 (l2 t19 (k 2))),o d7 (mv t20)]
(.region [o d23 (cl 134 (l1 t7)),o d24 (cl 133 (l2 t23 (k 4))),o d25 (gAdd t7 t24),o d27 (gAdd t25 t6),o d29 (cl 134 (l1 t6)),o d30 (cl 133 (l2 t29 (k 4))),o d31 (gAdd t27 t30),o d32 (cl 50 (l2 t4 t31))])))))
(.region [o d33 (gAdd t10 (k 1)),o d10 (mv t33)])))))))
(rt [o d34 (cl 51 (l1 t4)),o d2 (mv t34),o d3 (mv (k 0))])))) (rT Q2 (rT Q3 rN))
def e70 : T Unit := (eN (eN (eN (eS .leaf eU) (eN eU .leaf)) (eN (eN eU .leaf) .leaf)) (eN (eN (eN .leaf eU) (eN .leaf eU)) .leaf))
noncomputable def F71 : KF := .fast 5 (sr [o d2 (mv (v (.str 0 0)))]
(rt [o d4 (cl 135 (l1 t0)),o d2 (mv t4)])) (rT Q2 rN)
def e71 : T Unit := (eN .leaf (eN .leaf eU))
noncomputable def F72 : KF := .fast 51 (sr [o d3 (g1 (opBox 24) t0),o d4 (g1 (opBox 9) t1),o d5 (g1 (opBox 9) t2),o d6 (mv (k 0))]
(.seq (sr [o d10 (ld t3),o d11 (ld t4),o d12 (gBuildSlice 9 1 1 [(.str 0 0)] [(0,1)] (l1 t11)),o d13 (cl 136 (l2 t10 t12)),o d7 (mv t13)]
(sr [o d15 (gNe t7 (k 0))]
(cs c15 (rt [o d6 (mv t7)]))))
(.seq (.draw [⟨D18,(ld t3),2,(some (Q3,none)),none,0⟩,⟨D19,(nc t18),0,none,none,1⟩,⟨D20,(fA 1 t19),0,none,none,3⟩,⟨D21,(ld t20),2,(some (Q20,none)),none,7⟩,⟨D22,(ld t4),2,(some (Q4,none)),none,0⟩,⟨D23,(gLookup true (.agg [(.str 0 0),(.int .i64 (.ofNat 0))]) true t21 t22),3,none,none,31⟩,⟨D17,(mv t23),0,none,none,63⟩,⟨D24,(gEx0 t17),0,none,none,127⟩,⟨D25,(gEx1 t17),0,none,none,127⟩,⟨D8,(g0 (opNewc 106 [(.str 0 0),z0])),1,none,none,0⟩,⟨dNO,(sN 2 t8 t24),3,none,none,767⟩,⟨D9,(mv t25),0,none,none,2047⟩])
(.seq (.seq (.draw [⟨D26,(ld t5),2,(some (Q5,none)),none,0⟩,⟨D27,(lS t26),0,none,none,1⟩,⟨D28,(ld t3),2,(some (Q3,none)),none,0⟩,⟨D29,(nc t28),0,none,none,4⟩,⟨D30,(fA 0 t29),0,none,none,12⟩,⟨D31,(ld t30),2,(some (Q30,none)),none,28⟩,⟨D32,(ld t3),2,(some (Q3,none)),none,0⟩,⟨D33,(cl 22 (l1 t32)),3,none,none,64⟩,⟨D34,(gSub t31 t33),0,none,none,252⟩,⟨D35,(gGtr t27 t34),0,none,none,511⟩,⟨D36,(mv t35),0,none,none,1023⟩,⟨D37,(mv t9),0,none,(some (Q36,false)),2047⟩,⟨D38,(g1 (opUn .not) t37),0,none,(some (Q36,false)),4095⟩,⟨D39,(mv t38),0,none,(some (Q36,false)),8191⟩,⟨D40,(ld t3),2,(some (Q3,none)),(some (Q39,true)),16383⟩,⟨D41,(nc t40),0,none,(some (Q39,true)),32767⟩,⟨D42,(fA 1 t41),0,none,(some (Q39,true)),65535⟩,⟨D43,(ld t42),2,(some (Q42,none)),(some (Q39,true)),131071⟩,⟨D44,(g1 opLenMap t43),3,none,(some (Q39,true)),262143⟩,⟨D45,(gGeq t44 (k 128)),0,none,(some (Q39,true)),524287⟩,⟨D46,(pk t39 t45 vF),0,none,(some (Q36,false)),1048575⟩,⟨D47,(pk t36 vT t46),0,none,none,2097151⟩])
(cs c47 (rt [o d6 (mv (k 6))])))
(rt [o d48 (ld t3),o d49 (gMkFunc 138 nl (cn t8 (l3 t5 t3 t4))),o d50 (cl 137 (l3 t48 vT t49)),o d6 (mv t50)]))))) (rT Q6 rN)
def e72 : T Unit := (eN (eN (eN eU .leaf) (eN .leaf (eN .leaf eU))) .leaf)
noncomputable def F73 : KF := .fast 19 (sr [o d2 (g1 (opBox 24) t0),o d3 (g1 (opBox 9) t1),o d4 (mv (k 0))]
(sr [o d8 (ld t2),o d9 (ld t3),o d10 (cl 139 (l3 t8 t9 (v .nilslice))),o d11 (gEx0 t10),o d12 (gEx1 t10),o d5 (g0 (opNewc 106 [(.str 0 0),z0])),o dN (sN 2 t5 t11),o d6 (mv t12)]
(.seq (sr [o d14 (gNe t6 (k 0))]
(cs c14 (rt [o d4 (mv t6)])))
(rt [o d16 (ld t2),o d17 (gMkFunc 140 nl (l3 t5 t2 t3)),o d18 (cl 137 (l3 t16 vF t17)),o d4 (mv t18)])))) (rT Q4 rN)
def e73 : T Unit := (eN .leaf (eN (eN eU .leaf) (eN .leaf (eS .leaf eU))))
noncomputable def F74 : KF := .fast 23 (sr [o d3 (g1 (opBox 24) t0),o d4 (g1 (opBox 9) t1),o d5 (g1 (opBox 9) t2),o d6 (mv (k 0))]
(sr [o d10 (ld t3),o d11 (ld t4),o d12 (ld t5),o d13 (gBuildSlice 9 1 1 [(.str 0 0)] [(0,1)] (l1 t12)),o d14 (cl 139 (l3 t10 t11 t13)),o d15 (gEx0 t14),o d16 (gEx1 t14),o d7 (g0 (opNewc 106 [(.str 0 0),z0])),o dN (sN 2 t7 t15),o d8 (mv t16)]
(.seq (sr [o d18 (gNe t8 (k 0))]
(cs c18 (rt [o d6 (mv t8)])))
(rt [o d20 (ld t3),o d21 (gMkFunc 141 nl (cn t3 (l3 t4 t7 t5))),o d22 (cl 137 (l3 t20 vF t21)),o d6 (mv t22)])))) (rT Q6 rN)
def e74 : T Unit := (eN .leaf (eN (eN .leaf (eS .leaf eU)) (eN (eN .leaf eU) .leaf)))
noncomputable def F76 : KF := .fast 9 (sr [o d4 (mv (k 0))]
(rt [o d6 (gBinS .mul t0 (k 8)),o d8 (gAdd t6 t1),o d4 (mv t8)])) (rT Q4 rN)
def e76 : T Unit := (eN .leaf (eN eU (eN .leaf eU)))
noncomputable def F85 : KF := .fast 80 (sr [o d6 (mv (v .nilslice)),o d7 (mv (k 0)),o d8 (mv (k 0))]
(.seq (sr [o d16 (nc t0),o d17 (fA 0 t16),o d18 (ld t17),o d19 (gLss t1 t18),g d21 (mv t1) c19 false,g d22 (gGtr t21 (k 1099511627776)) c19 false,o d23 (pk t19 vT t22),g d25 (mv t2) c23 false,g d26 (gLss t25 (k 1)) c23 false,o d27 (pk t23 vT t26),g d29 (mv t2) c27 false,g d30 (gGtr t29 (k 1048576)) c27 false,o d31 (pk t27 vT t30)]
(cs c31 (rt [o d6 (mv (v .nilslice)),o d7 (mv (k 0)),o d8 (mv (k 1))])))
(.seq (.block 0 (.loop (.seq (sr [o d33 (ln t6),o d35 (gLss t33 t2)]
(.cond c35 .skip
(.exit 0)))
(.block 1 (sr [o d38 (cl 156 (l1 t0)),o d39 (gEx0 t38),o d40 (gEx1 t38),o d9 (mv t39),o d10 (mv t40)]
(.seq (sr [o d42 (g1 (opUn .not) t10),g d44 (mv t9) c42 false,g d45 (mv t1) c42 false,g d46 (gGtr t44 t45) c42 false,o d47 (pk t42 vT t46)]
(cs c47 (sr [o d50 (cl 157 (l2 t0 t1))]
(.exit 0))))
(sr [o d53 (cl 157 (l2 t0 t9))]
(sr [o d56 (gBinS .and t9 (k 63)),o d57 (gBuild (zs 2) [(0,1),(1,1)] (l2 (k 0) t56)),o d58 (cl 158 (l2 t0 t57)),o d11 (mv t58)]
(sr [o d60 (cl 159 (l1 t11)),o d61 (cl 52 (l1 t60)),o d62 (ln t61),o d63 (mv (k 0))]
(.block 2 (.loop (sr [o d64 (gLss t63 t62)]
(.seq (.cond c64 .skip
(.exit 2))
(.seq (.block 3 (sr [o d65 (ia 1 t61 t63),o d66 (ld t65),o d13 (mv t66)]
(sr [o d69 (cl 160 (l2 t0 t13))]
(.region [o d72 (gBuildSlice 3 1 1 (zs 1) [(0,1)] (l1 t13)),o d73 (gAppend 3 1 8 t6 t72),o d6 (mv t73)]))))
(.region [o d74 (gAdd t63 (k 1)),o d63 (mv t74)])))))))))))))))
(.seq (.draw [⟨D75,(mv t6),0,none,none,0⟩,⟨D76,(mv t0),0,none,none,0⟩,⟨D77,(nc t76),0,none,none,2⟩,⟨D78,(fA 0 t77),0,none,none,6⟩,⟨D79,(ld t78),2,(some (Q78,none)),none,14⟩,⟨D6,(mv t75),0,none,none,1⟩,⟨D7,(mv t79),0,none,none,63⟩,⟨D8,(mv (k 0)),0,none,none,127⟩])
.ret)))) (rT Q6 (rT Q7 (rT Q8 rN)))
def e85 : T Unit := (eN (eN (eN (eS .leaf (eN eU (eN .leaf eU))) (eN .leaf (eN .leaf eU))) (eN (eN eU (eS eU (eS .leaf eU))) (eN eU (eN eU eU)))) (eN (eN (eN .leaf (eN .leaf eU)) (eN (eN .leaf eU) (eN eU .leaf))) (eN (eN (eN eU eU) (eN eU (eN .leaf eU))) (eN (eN eU (eN .leaf eU)) eU))))
noncomputable def F86 : KF := .fast 120 (sr [o d15 (nc t0),o d16 (fA 11 t15),o d17 (ld t16),o d19 (gBinS .quo t1 (k 8)),o d20 (cl 47 (l2 t17 t19)),o d21 (gEx0 t20),o d22 (gEx1 t20),o d23 (gExN 2 t20),o d4 (g0 (opNewc 69 [z0,z0,z0,(.str 0 0),(.str 0 0),(.bool false),(.bool false),(.bool false),(.bool false),(.bool false),z0,z0,z0,z0,z0,(.str 0 0),(.str 0 0),(.str 0 0),(.str 0 0),.nilslice,.nilslice])),o dN (sN 21 t4 t21),o d5 (mv t22),o d6 (mv t23)]
(sr [o d26 (nc t0),o d27 (fA 19 t26),o d28 (ld t27),o d30 (gLookup false .nilptr true t28 t1),o d31 (gEx0 t30),o d32 (gEx1 t30),o d8 (mv t32)]
(.seq (sr [o d34 (gNe t6 (k 0)),g d36 (mv t5) c34 false,g d37 (mv t1) c34 false,g d38 (gBinS .rem t37 (k 8)) c34 false,g d39 (ia 5 t36 t38) c34 false,g d40 (fA 1 t39) c34 false,g d41 (ld t40) c34 false,g d42 (gNe t41 (v (.str 1 82))) c34 false,o d43 (pk t34 vT t42),g d45 (mv t8) c43 false,o d46 (pk t43 vT t45)]
(cs c46 .ret))
(sr [o d49 (gBinS .rem t1 (k 8)),o d50 (ia 5 t5 t49),o d51 (lN 5 t50),o d9 (g0 (opNewc 84 [z0,(.str 0 0),z0,z0,z0])),o dN (sN 5 t9 t51)]
(.seq (.draw [⟨D53,(mv t0),0,none,none,0⟩,⟨D54,(nc t53),0,none,none,1⟩,⟨D55,(fA 0 t54),0,none,none,3⟩,⟨D56,(fA 3 t55),0,none,none,7⟩,⟨D57,(lN 4 t56),2,(some (Q56,some 4)),none,15⟩,⟨D58,(lN 21 t4),2,(some (Q4,some 21)),none,0⟩,⟨D59,(lN 5 t9),2,(some (Q9,some 5)),none,0⟩,⟨D60,(mv t0),0,none,none,0⟩,⟨D61,(cl 30 (l1 t60)),3,none,none,128⟩,⟨D62,(cl 161 (cn t57 (l3 t58 t59 t61))),3,none,none,511⟩,⟨D52,(mv t62),0,none,none,1023⟩,⟨D63,(gEx0 t52),0,none,none,2047⟩,⟨D64,(gEx1 t52),0,none,none,2047⟩,⟨D65,(gExN 2 t52),0,none,none,2047⟩,⟨D10,(g0 (opNewc 84 [z0,(.str 0 0),z0,z0,z0])),1,none,none,0⟩,⟨dNO,(sN 5 t10 t63),3,none,none,20479⟩,⟨D11,(mv t64),0,none,none,57343⟩,⟨D12,(mv t65),0,none,none,131071⟩])
(.seq (sr [o d67 (lN 21 t4),o d68 (lN 5 t9),o d69 (lN 5 t10),o d71 (gBuild [z0,z0,z0,z0,.nilslice] [] nl),o d72 (cl 154 (cn t0 (cn t67 (cn t68 (l3 t69 t11 t71))))),o d73 (g1 (opUn .not) t72),g d75 (mv t0) c73 false,g d76 (nc t75) c73 false,g d77 (fA 10 t76) c73 false,g d78 (ld t77) c73 false,g d79 (cl 42 (l1 t78)) c73 false,o d80 (pk t73 vT t79)]
(cs c80 .ret))
(.seq (.seq (.draw [⟨D81,(fA 3 t10),0,none,none,0⟩,⟨D82,(ld t81),2,(some (Q81,none)),none,1⟩,⟨D83,(mv t0),0,none,none,0⟩,⟨D84,(cl 30 (l1 t83)),3,none,none,4⟩,⟨D85,(gGtr t82 t84),0,none,none,15⟩,⟨D86,(mv t85),0,none,none,31⟩,⟨D87,(fA 2 t4),0,none,(some (Q86,false)),63⟩,⟨D88,(ld t87),2,(some (Q87,none)),(some (Q86,false)),127⟩,⟨D89,(mv t0),0,none,(some (Q86,false)),63⟩,⟨D90,(cl 30 (l1 t89)),3,none,(some (Q86,false)),319⟩,⟨D91,(gGtr t88 t90),0,none,(some (Q86,false)),1023⟩,⟨D92,(pk t86 vT t91),0,none,none,2047⟩])
(cs c92 (rt [o d94 (lN 21 t4),o d95 (fA 0 t10),o d96 (ld t95),o d97 (lN 5 t10),o d98 (cl 155 (cn t0 (l3 t94 t96 t97)))])))
(.draw [⟨D99,(mv t0),0,none,none,0⟩,⟨D100,(nc t99),0,none,none,1⟩,⟨D101,(fA 14 t100),0,none,none,3⟩,⟨D102,(ld t101),2,(some (Q101,none)),none,7⟩,⟨D103,(mv t1),0,none,none,0⟩,⟨D104,(mv t0),0,none,none,0⟩,⟨D105,(fA 19 t4),0,none,none,0⟩,⟨D106,(ld t105),2,(some (Q105,none)),none,64⟩,⟨D107,(fA 0 t10),0,none,none,0⟩,⟨D108,(ld t107),2,(some (Q107,none)),none,256⟩,⟨D109,(ia 5 t106 t108),0,none,none,960⟩,⟨D110,(fA 0 t109),0,none,none,1984⟩,⟨D111,(lN 2 t110),2,(some (Q110,some 2)),none,4032⟩,⟨D112,(cl 163 (l2 t104 t111)),3,none,none,8160⟩,⟨D113,(fA 5 t4),0,none,none,0⟩,⟨D114,(fA 9 t113),0,none,none,16384⟩,⟨D115,(ld t114),2,(some (Q114,none)),none,49152⟩,⟨D116,(mv t0),0,none,none,0⟩,⟨D117,(cl 30 (l1 t116)),3,none,none,147424⟩,⟨D118,(gBuild [z0,(.str 0 0),z0,z0] [(0,1),(1,1),(2,1),(3,1)] (cn t103 (l3 t112 t115 t117))),0,none,none,524272⟩,⟨D119,(cl 162 (l2 t102 t118)),3,none,none,1048575⟩])))))))) rN
def e86 : T Unit := (eN (eN (eN (eS .leaf (eN .leaf (eN .leaf eU))) (eN (eN .leaf (eN .leaf eU)) (eS .leaf (eN .leaf eU)))) (eN (eN (eN .leaf eU) .leaf) (eN eU (eN eU .leaf)))) (eN (eN (eS (eS (eN .leaf eU) .leaf) .leaf) (eN eU (eN .leaf eU))) (eN (eN .leaf (eN .leaf eU)) (eS .leaf (eN eU .leaf)))))
noncomputable def F87 : KF := .fast 42 (sr [o d2 (g1 (opBox 94) t0),o d4 (g0 (opNewc 164 [z0,(.str 0 0),z0,z0])),o d5 (mv vF)]
(sr [o d8 (ld t2),o d10 (cl 164 (l2 t8 t1)),o d6 (mv t10)]
(sr [o d12 (gMkFunc 166 nl (l1 t2)),o d13 (cl 165 (l2 t6 t12)),o d7 (mv t13)]
(.seq (sr [o d15 (gLss t7 (k 0))]
(cs c15 (rt [o d16 (gBuild [z0,(.str 0 0),z0,z0] [] nl),o dN (sN 4 t4 t16),o d5 (mv vF)])))
(.seq (.draw [⟨D17,(ld t2),2,(some (Q2,none)),none,0⟩,⟨D18,(mv t6),0,none,none,0⟩,⟨D19,(mv t7),0,none,none,0⟩,⟨D20,(ia 4 t18 t19),0,none,none,6⟩,⟨D21,(fA 0 t20),0,none,none,14⟩,⟨D22,(ld t21),2,(some (Q21,none)),none,30⟩,⟨D23,(cl 168 (l2 t17 t22)),3,none,none,63⟩])
(.seq (.draw [⟨D24,(ld t2),2,(some (Q2,none)),none,0⟩,⟨D25,(nc t24),0,none,none,1⟩,⟨D26,(fA 4 t25),0,none,none,3⟩,⟨D27,(ld t26),2,(some (Q26,none)),none,7⟩,⟨D28,(mv t6),0,none,none,0⟩,⟨D29,(mv t7),0,none,none,0⟩,⟨D30,(ia 4 t28 t29),0,none,none,48⟩,⟨D31,(fA 0 t30),0,none,none,112⟩,⟨D32,(ld t31),2,(some (Q31,none)),none,240⟩,⟨D33,(mv t6),0,none,none,0⟩,⟨D34,(mv t7),0,none,none,0⟩,⟨D35,(ia 4 t33 t34),0,none,none,1536⟩,⟨D36,(fA 1 t35),0,none,none,3584⟩,⟨D37,(ld t36),2,(some (Q36,none)),none,7680⟩,⟨dNO,(g3 (opMapUpd false) t27 t32 t37),3,none,none,16383⟩])
(rt [o d40 (ia 4 t6 t7),o d41 (lN 4 t40),o dN (sN 4 t4 t41),o d5 (mv vT)]))))))) (rC Q4 (some 4) (rT Q5 rN))
def e87 : T Unit := (eN (eN (eN (eS .leaf (eN .leaf eU)) .leaf) .leaf) (eN (eN .leaf eU) (eN eU (eN (eN .leaf eU) .leaf))))
noncomputable def F88 : KF := .fast 119 (sr [o d14 (nc t0),o d15 (fA 11 t14),o d16 (ld t15),o d18 (gBinS .quo t1 (k 8)),o d19 (cl 47 (l2 t16 t18)),o d20 (gEx0 t19),o d21 (gEx1 t19),o d22 (gExN 2 t19),o d4 (g0 (opNewc 69 [z0,z0,z0,(.str 0 0),(.str 0 0),(.bool false),(.bool false),(.bool false),(.bool false),(.bool false),z0,z0,z0,z0,z0,(.str 0 0),(.str 0 0),(.str 0 0),(.str 0 0),.nilslice,.nilslice])),o dN (sN 21 t4 t20),o d5 (mv t21)]
(sr [o d25 (gBinS .rem t1 (k 8)),o d26 (ia 5 t5 t25),o d27 (lN 5 t26),o d7 (g0 (opNewc 84 [z0,(.str 0 0),z0,z0,z0])),o dN (sN 5 t7 t27)]
(.seq (.draw [⟨D29,(mv t0),0,none,none,0⟩,⟨D30,(nc t29),0,none,none,1⟩,⟨D31,(fA 0 t30),0,none,none,3⟩,⟨D32,(fA 3 t31),0,none,none,7⟩,⟨D33,(lN 4 t32),2,(some (Q32,some 4)),none,15⟩,⟨D34,(lN 21 t4),2,(some (Q4,some 21)),none,0⟩,⟨D35,(lN 5 t7),2,(some (Q7,some 5)),none,0⟩,⟨D36,(mv t0),0,none,none,0⟩,⟨D37,(cl 30 (l1 t36)),3,none,none,128⟩,⟨D38,(cl 161 (cn t33 (l3 t34 t35 t37))),3,none,none,511⟩,⟨D28,(mv t38),0,none,none,1023⟩,⟨D39,(gEx0 t28),0,none,none,2047⟩,⟨D40,(gEx1 t28),0,none,none,2047⟩,⟨D41,(gExN 2 t28),0,none,none,2047⟩,⟨D8,(g0 (opNewc 84 [z0,(.str 0 0),z0,z0,z0])),1,none,none,0⟩,⟨dNO,(sN 5 t8 t39),3,none,none,20479⟩,⟨D9,(mv t40),0,none,none,57343⟩,⟨D10,(mv t41),0,none,none,131071⟩])
(.seq (sr [o d43 (lN 21 t4),o d44 (lN 5 t7),o d45 (lN 5 t8),o d47 (gBuild [z0,z0,z0,z0,.nilslice] [] nl),o d48 (cl 154 (cn t0 (cn t43 (cn t44 (l3 t45 t9 t47))))),o d49 (g1 (opUn .not) t48)]
(cs c49 (rt [o d51 (nc t0),o d52 (fA 14 t51),o d53 (ld t52),o d55 (cl 81 (l2 t53 t1))])))
(sr [o d57 (fA 19 t4),o d58 (ld t57),o d59 (fA 0 t8),o d60 (ld t59),o d61 (ia 5 t58 t60),o d62 (fA 0 t61),o d63 (lN 2 t62),o d64 (cl 163 (l2 t0 t63)),o d11 (mv t64)]
(.seq (sr [o d67 (nc t0),o d68 (fA 0 t67),o d69 (fA 0 t68),o d70 (ld t69),o d71 (gEq t11 t70)]
(cs c71 (sr [o d73 (nc t0),o d74 (fA 14 t73),o d75 (ld t74),o d77 (cl 81 (l2 t75 t1))]
(sr [o d79 (fA 0 t4),o d80 (ld t79),o d81 (fA 0 t8),o d82 (ld t81),o d83 (fA 20 t4),o d84 (ld t83),o d85 (gBuild [(.str 0 0),z0,z0,z0,(.str 0 0),.nilslice] [(0,1),(2,1),(3,1),(5,1)] (cn (v (.str 3 7892834)) (l3 t80 t82 t84))),o d86 (gBuildSlice 46 6 1 [(.str 0 0),z0,z0,z0,(.str 0 0),.nilslice] [(0,6)] (l1 t85)),o d87 (cl 45 (l2 t0 t86))]
(rt [o d89 (lN 21 t4),o d90 (lN 5 t8),o d91 (gBuild [z0,z0,z0,z0,.nilslice] [] nl),o d92 (cl 82 (cn t0 (cn t89 (l3 t90 (k 2) t91))))])))))
(.seq (.draw [⟨D94,(mv t0),0,none,none,0⟩,⟨D95,(nc t94),0,none,none,1⟩,⟨D96,(fA 19 t95),0,none,none,3⟩,⟨D97,(ld t96),2,(some (Q96,none)),none,7⟩,⟨D98,(mv t1),0,none,none,0⟩,⟨D99,(mv t0),0,none,none,0⟩,⟨D100,(nc t99),0,none,none,32⟩,⟨D101,(fA 0 t100),0,none,none,96⟩,⟨D102,(fA 0 t101),0,none,none,224⟩,⟨D103,(ld t102),2,(some (Q102,none)),none,480⟩,⟨D104,(lN 21 t4),2,(some (Q4,some 21)),none,0⟩,⟨D105,(fA 0 t8),0,none,none,0⟩,⟨D106,(ld t105),2,(some (Q105,none)),none,2048⟩,⟨D107,(cl 169 (l3 t103 t104 t106)),3,none,none,8160⟩,⟨D93,(mv t107),0,none,none,16352⟩,⟨D108,(gEx0 t93),0,none,none,32736⟩,⟨D109,(gEx1 t93),0,none,none,32736⟩,⟨dNO,(g3 (opMapUpd false) t97 t98 t108),3,none,none,65535⟩])
(.region [o d111 (fA 0 t4),o d112 (ld t111),o d113 (fA 0 t8),o d114 (ld t113),o d116 (gBuild [(.str 0 0),z0,z0,z0,(.str 0 0),.nilslice] [(0,1),(2,1),(3,1),(4,1)] (cn (v (.str 4 1818323300)) (l3 t112 t114 t11))),o d117 (gBuildSlice 46 6 1 [(.str 0 0),z0,z0,z0,(.str 0 0),.nilslice] [(0,6)] (l1 t116)),o d118 (cl 45 (l2 t0 t117))])))))))) rN
def e88 : T Unit := (eN (eN (eS (eN (eN .leaf (eS eU eU)) (eN eU .leaf)) (eN (eN .leaf eU) (eN eU (eN .leaf eU)))) (eN (eS (eN .leaf (eN .leaf eU)) .leaf) (eN (eS (eS .leaf eU) (eN .leaf eU)) .leaf))) (eN (eN eU (eN .leaf (eS .leaf (eN .leaf eU)))) (eN (eN .leaf (eN (eN eU .leaf) .leaf)) (eN eU .leaf))))
noncomputable def F89 : KF := .fast 55 (sr [o d2 (mv (v .nilptr)),o d3 (mv (k 0))]
(sr [o d13 (g0 opMkMap),o d14 (gBuild [.nilptr,.nilmap] [(0,1),(1,1)] (l2 t0 t13)),o d15 (g1 (opBox 181) t14),o d4 (mv t15)]
(.seq (sr [o d17 (cl 42 (l1 t0))]
(cs c17 (rt [o d2 (mv (v .nilptr)),o d3 (mv (k 7))])))
(sr [o d19 (cl 170 (l1 t0)),o d5 (mv t19)]
(.seq (sr [o d20 (mv t5),o d21 (ln t20),o d22 (mv (k 0))]
(.block 0 (.loop (sr [o d23 (gLss t22 t21)]
(.seq (.cond c23 .skip
(.exit 0))
(.seq (.block 1 (sr [o d24 (ia 1 t20 t22),o d25 (ld t24),o d7 (mv t25)]
(sr [o d29 (cl 171 (l3 t4 t7 t5)),o d8 (mv t29)]
(sr [o d31 (gNe t8 (k 0))]
(cs c31 (rt [o d2 (mv (v .nilptr)),o d3 (mv t8)]))))))
(.region [o d33 (gAdd t22 (k 1)),o d22 (mv t33)])))))))
(.seq (sr [o d35 (nc t4),o d36 (fA 1 t35),o d37 (ld t36),o d38 (g1 opLenMap t37),o d39 (gGtr t38 (k 32))]
(cs c39 (rt [o d2 (mv (v .nilptr)),o d3 (mv (k 8))])))
(.seq (sr [o d41 (cl 46 (l1 t4)),o d42 (ln t41),o d43 (mv (k 0))]
(.block 2 (.loop (sr [o d44 (gLss t43 t42)]
(.seq (.cond c44 .skip
(.exit 2))
(.seq (.block 3 (sr [o d45 (ia 1 t41 t43),o d46 (ld t45),o d10 (mv t46)]
(sr [o d49 (cl 172 (l2 t4 t10)),o d11 (mv t49)]
(sr [o d51 (gNe t11 (k 0))]
(cs c51 (rt [o d2 (mv (v .nilptr)),o d3 (mv t11)]))))))
(.region [o d53 (gAdd t43 (k 1)),o d43 (mv t53)])))))))
(rt [o d2 (mv t4),o d3 (mv (k 0))])))))))) (rT Q2 (rT Q3 rN))
def e89 : T Unit := (eN (eN (eN (eN eU (eN eU .leaf)) (eN eU (eS eU eU))) (eN (eS eU (eN eU .leaf)) (eN (eN .leaf eU) (eS eU eU)))) (eN .leaf (eN (eN eU .leaf) (eN .leaf (eN eU .leaf)))))
noncomputable def F90 : KF := .fast 60 (sr [o d2 (mv (k 0)),o d3 (mv (k 0))]
(sr [o d12 (cl 173 (l2 t0 (v (.str 1 104)))),o d13 (gEx0 t12),o d14 (gEx1 t12),o d4 (mv t13),o d5 (mv t14)]
(.seq (sr [o d16 (gEq t5 (k 4))]
(cs c16 (rt [o d2 (mv (k 0)),o d3 (mv (k 0))])))
(.seq (sr [o d18 (gNe t5 (k 0))]
(cs c18 (rt [o d2 (mv (k 0)),o d3 (mv t5)])))
(sr [o d22 (cl 174 (l1 t4)),o d23 (gEx0 t22),o d24 (gEx1 t22),o d6 (mv t23),o d7 (mv t24)]
(.seq (sr [o d26 (ln t6),o d27 (gNe t26 (k 1)),g d29 (mv t7) c27 false,g d30 (mv t4) c27 false,g d31 (lS t30) c27 false,g d32 (gNe t29 t31) c27 false,o d33 (pk t27 vT t32)]
(cs c33 (rt [o d2 (mv (k 0)),o d3 (mv (k 8))])))
(sr [o d36 (ia 1 t6 (k 0)),o d37 (ld t36),o d38 (cl 175 (l1 t37)),o d39 (gEx0 t38),o d40 (gEx1 t38),o d8 (mv t39),o d9 (mv t40)]
(.seq (.seq (.draw [⟨D41,(mv t9),0,none,none,0⟩,⟨D42,(gEql true (.leaf 7) t41 (v .nilIface)),0,none,none,1⟩,⟨D43,(mv t42),0,none,none,3⟩,⟨D44,(mv t8),0,none,(some (Q43,false)),7⟩,⟨D45,(cl 71 (l1 t44)),3,none,(some (Q43,false)),15⟩,⟨D46,(mv t6),0,none,(some (Q43,false)),7⟩,⟨D47,(ia 1 t46 (k 0)),0,none,(some (Q43,false)),39⟩,⟨D48,(ld t47),2,(some (Q47,none)),(some (Q43,false)),103⟩,⟨D49,(gNe t45 t48),0,none,(some (Q43,false)),255⟩,⟨D50,(pk t43 vT t49),0,none,none,511⟩,⟨D51,(mv t50),0,none,none,1023⟩,⟨D52,(mv t8),0,none,(some (Q51,false)),2047⟩,⟨D53,(gLss t52 (k 0)),0,none,(some (Q51,false)),4095⟩,⟨D54,(pk t51 vT t53),0,none,none,8191⟩,⟨D55,(mv t54),0,none,none,16383⟩,⟨D56,(mv t8),0,none,(some (Q55,false)),32767⟩,⟨D57,(gGtr t56 (k 1099511627776)),0,none,(some (Q55,false)),65535⟩,⟨D58,(pk t55 vT t57),0,none,none,131071⟩])
(cs c58 (rt [o d2 (mv (k 0)),o d3 (mv (k 8))])))
(rt [o d2 (mv t8),o d3 (mv (k 0))]))))))))) (rT Q2 (rT Q3 rN))
def e90 : T Unit := (eN (eN (eN .leaf (eS .leaf (eN .leaf eU))) (eN (eN eU eU) .leaf)) (eN (eN (eN .leaf eU) (eN eU eU)) (eN (eS (eN eU .leaf) (eS .leaf eU)) (eN .leaf eU))))
noncomputable def F91 : KF := .fast 15 (sr [o d2 (mv (v .nilptr)),o d3 (mv (k 0))]
(.seq (sr [o d5 (gLss t0 (k 0)),g d7 (mv t0) c5 false,g d8 (gGtr t7 (k 1099511627776)) c5 false,o d9 (pk t5 vT t8)]
(cs c9 (rt [o d2 (mv (v .nilptr)),o d3 (mv (k 1))])))
(rt [o d11 (g0 opMkMap),o d12 (g0 opMkMap),o d13 (gBuild [z0,.nilmap,.nilmap,.nilmap,.nilmap,.nilmap,.nilmap,.nilmap,.nilmap,.nilmap,.nilmap,.nilmap,.nilmap,.nilmap,.nilmap,.nilmap,.nilmap,.nilmap,.nilmap,.nilmap,.nilmap,.nilmap,.nilmap,.nilmap,.nilmap,.nilmap,.nilmap,.nilmap,.nilmap,.nilmap,.nilmap,.nilmap,.nilmap,.nilmap,.nilmap,.nilmap,.nilmap,.nilmap,.nilmap,.nilmap,.nilmap,.nilmap,.nilmap,.nilmap,.nilmap,.nilmap,.nilmap,.nilmap,.nilmap,.nilmap,.nilmap,.nilmap,.nilmap,.nilmap,.nilmap,.nilmap,.nilmap,.nilmap,.nilmap,.nilmap,.nilmap,.nilmap,.nilmap,.nilmap,.nilmap,.nilmap,.nilmap,.nilmap,.nilmap,.nilmap,.nilmap,.nilmap,.nilmap,.nilmap,.nilmap,.nilmap,.nilmap,.nilmap,.nilmap,.nilmap,.nilmap,.nilmap,.nilmap,.nilmap,.nilmap,.nilmap,.nilmap,.nilmap,.nilmap,.nilmap,.nilmap,.nilmap,.nilmap,.nilmap,.nilmap,.nilmap,.nilmap,.nilmap,.nilmap,.nilmap,.nilmap,.nilmap,.nilmap,.nilmap,.nilmap,.nilmap,.nilmap,.nilmap,.nilmap,.nilmap,.nilmap,.nilmap,.nilmap,.nilmap,.nilmap,.nilmap,.nilmap,.nilmap,.nilmap,.nilmap,.nilmap,.nilmap,.nilmap,.nilmap,.nilmap,.nilmap,.nilmap,.nilmap,.nilmap,.nilmap,.nilmap,.nilmap,.nilmap,.nilmap,.nilmap,.nilmap,.nilmap,.nilmap,.nilmap,.nilmap,.nilmap,.nilmap,.nilmap,.nilmap,.nilmap,.nilmap,.nilmap,.nilmap,.nilmap,.nilmap,.nilmap,.nilmap,.nilmap,.nilmap,.nilmap,.nilmap,.nilmap,.nilmap,.nilmap,.nilmap,.nilmap,.nilmap,.nilmap,.nilmap,.nilmap,.nilmap,.nilmap,.nilmap,.nilmap,.nilmap,.nilmap,.nilmap,.nilmap,.nilmap,.nilmap,.nilmap,.nilmap,.nilmap,.nilmap,.nilmap,.nilmap,.nilmap,.nilmap,.nilmap,.nilmap,.nilmap,.nilmap,.nilmap,.nilmap,.nilmap,.nilmap,.nilmap,.nilmap,.nilmap,.nilmap,.nilmap,.nilmap,.nilmap,.nilmap,.nilmap,.nilmap,.nilmap,.nilmap,.nilmap,.nilmap,.nilmap,.nilmap,.nilmap,.nilmap,.nilmap,.nilmap,.nilmap,.nilmap,.nilmap,.nilmap,.nilmap,.nilmap,.nilmap,.nilmap,.nilmap,.nilmap,.nilmap,.nilmap,.nilmap,.nilmap,.nilmap,.nilmap,.nilmap,.nilmap,.nilmap,.nilmap,.nilmap,.nilmap,.nilmap,.nilmap,.nilmap,.nilmap,.nilmap,.nilmap,.nilmap,.nilmap,.nilmap,.nilmap,.nilmap,.nilmap,.nilmap,.nilmap,.nilmap,.nilmap,.nilmap,.nilmap,.nilmap,.nilmap,.nilmap,.nilmap,.nilmap,.nilmap,.nilmap,.nilmap] [(0,1),(257,1),(258,1)] (l3 t0 t11 t12)),o d14 (g1 (opBox 251) t13),o d2 (mv t14),o d3 (mv (k 0))]))) (rT Q2 (rT Q3 rN))
def e91 : T Unit := (eN (eN (eS .leaf eU) eU) .leaf)
noncomputable def F92 : KF := .fast 5 (sr [o d2 (mv vF)]
(rt [o d4 (cl 176 (l2 t0 (v (.func (.func 177) [] [])))),o d2 (mv t4)])) (rT Q2 rN)
def e92 : T Unit := (eN .leaf (eN .leaf eU))
noncomputable def F93 : KF := .fast 32 (sr [o d11 (nc t0),o d12 (fA 11 t11),o d13 (ld t12),o d15 (cl 47 (l2 t13 t1)),o d16 (gEx0 t15),o d17 (gEx1 t15),o d18 (gExN 2 t15),o d4 (g0 (opNewc 69 [z0,z0,z0,(.str 0 0),(.str 0 0),(.bool false),(.bool false),(.bool false),(.bool false),(.bool false),z0,z0,z0,z0,z0,(.str 0 0),(.str 0 0),(.str 0 0),(.str 0 0),.nilslice,.nilslice])),o dN (sN 21 t4 t16),o d5 (mv t17)]
(sr [o d19 (mv t5),o d20 (ln t19),o d21 (mv (k 0))]
(.block 0 (.loop (sr [o d22 (gLss t21 t20)]
(.seq (.cond c22 .skip
(.exit 0))
(.seq (.block 1 (sr [o d24 (ia 5 t19 t21),o d25 (lN 5 t24),o d8 (g0 (opNewc 84 [z0,(.str 0 0),z0,z0,z0])),o d7 (mv t21),o dN (sN 5 t8 t25)]
(.region [o d27 (lN 21 t4),o d29 (lN 5 t8),o d30 (cl 155 (cn t0 (l3 t27 t7 t29)))])))
(.region [o d31 (gAdd t21 (k 1)),o d21 (mv t31)])))))))) rN
def e93 : T Unit := (eN (eN (eS eU (eS eU .leaf)) (eN (eN eU .leaf) .leaf)) (eN (eN .leaf eU) (eN .leaf (eN eU .leaf))))
noncomputable def F95 : KF := .fast 4 (sr [o d1 (g1 (opBox 177) t0),o d2 (mv (v .nilFunc))]
(rt [o d3 (gMkFunc 183 nl (l1 t1)),o d2 (mv t3)])) (rT Q2 rN)
def e95 : T Unit := .leaf
noncomputable def F96 : KF := .fast 8 (sr [o d2 (mv (v .nilslice))]
(.seq (sr [o d4 (gEql false (.leaf 4) t0 (v .nilslice))]
(cs c4 (rt [o d2 (mv (v .nilslice))])))
(rt [o d5 (gBuildSlice 187 5 0 [(.str 0 0),(.str 0 0),(.str 0 0),(.str 0 0),(.str 0 0)] [] nl),o d7 (gAppend 187 5 80 t5 t0),o d2 (mv t7)]))) (rT Q2 rN)
def e96 : T Unit := (eN (eN eU .leaf) (eN .leaf eU))
noncomputable def F97 : KF := .fast 8 (sr [o d2 (mv (v .nilslice))]
(.seq (sr [o d4 (gEql false (.leaf 4) t0 (v .nilslice))]
(cs c4 (rt [o d2 (mv (v .nilslice))])))
(rt [o d5 (gBuildSlice 9 1 0 [(.str 0 0)] [] nl),o d7 (gAppend 9 1 16 t5 t0),o d2 (mv t7)]))) (rT Q2 rN)
def e97 : T Unit := (eN (eN eU .leaf) (eN .leaf eU))
noncomputable def F98 : KF := .fast 8 (sr [o d2 (mv (v .nilslice))]
(.seq (sr [o d4 (gEql false (.leaf 4) t0 (v .nilslice))]
(cs c4 (rt [o d2 (mv (v .nilslice))])))
(rt [o d5 (gBuildSlice 84 5 0 [z0,(.str 0 0),z0,z0,z0] [] nl),o d7 (gAppend 84 5 48 t5 t0),o d2 (mv t7)]))) (rT Q2 rN)
def e98 : T Unit := (eN (eN eU .leaf) (eN .leaf eU))
noncomputable def F99 : KF := .fast 9 (sr [o d4 (mv vF)]
(rt [o d7 (cl 184 (l2 t0 t1)),o d8 (gGeq t7 (k 0)),o d4 (mv t8)])) (rT Q4 rN)
def e99 : T Unit := (eN (eN eU .leaf) (eN eU .leaf))
noncomputable def F100 : KF := .fast 18 (sr [o d4 (mv vF)]
(rt [o d6 (lS t0),o d8 (lS t1),o d9 (gGeq t6 t8),g d11 (mv t0) c9 true,g d12 (mv t1) c9 true,g d13 (lS t12) c9 true,g d14 (gSliceStr t11 on (os t13)) c9 true,g d15 (mv t1) c9 true,g d16 (gEq t14 t15) c9 true,o d17 (pk t9 t16 vF),o d4 (mv t17)])) (rT Q4 rN)
def e100 : T Unit := (eN (eN (eN .leaf eU) .leaf) (eN eU (eN .leaf eU)))
noncomputable def F101 : KF := .fast 20 (sr [o d3 (nc t0),o d4 (fA 0 t3),o d5 (ld t4),o d6 (gEql false (.leaf 3) t5 (v .nilptr))]
(.cond c6 (.region [o d9 (g1 opUnsafeTo t0),o d10 (cl 185 (l1 t9)),o d11 (g1 (opUnsafeFrom 111 1) t10),o d12 (nc t0),o d13 (fA 0 t12),o dN (s1 t13 t11)])
(sr [o d15 (nc t0),o d16 (fA 0 t15),o d17 (ld t16),o d19 (gEql true (.leaf 3) t17 t0)]
(cs c19 .fail)))) rN
def e101 : T Unit := (eN (eS (eN eU (eN .leaf eU)) (eN .leaf eU)) (eN .leaf (eN .leaf eU)))
def F105 : KF := .slow ⟨50,[(.cell 2 none),(.cell 3 none)],(.seq (.region [⟨(some 2),(.newc 9 [(.str 0 0)]),none,0⟩,⟨(some 3),(.newc 34 [(.int .i64 (.ofNat 0))]),none,0⟩])
 (.seq (.seq (.region [⟨(some 8),(.lenStr (.t 0)),none,0⟩,⟨(some 9),(.bin .gtr (.t 8) (.v (.int .i64 (.ofNat 255)))),none,0⟩])
 (.cond (.t 9)
 (.seq (.region [⟨none,(.store 1 (.t 2) (.v (.str 0 0))),none,0⟩,⟨none,(.store 1 (.t 3) (.v (.int .i64 (.ofNat 3)))),none,0⟩])
 .ret)
 .skip))
 (.seq (.seq (.region [⟨(some 11),(.call 189 [(.t 0),(.v (.str 1 46))]),none,0⟩])
 (.block 0 (.rangeFunc (.t 11) [12] (.region [⟨(some 4),(.mv (.t 12)),none,0⟩]) (.block 1 (.seq (.seq (.region [⟨(some 14),(.bin .eql (.t 4) (.v (.str 0 0))),none,0⟩,⟨(some 16),(.mv (.t 4)),(some ((.t 14),false)),0⟩,⟨(some 17),(.lenStr (.t 16)),(some ((.t 14),false)),0⟩,⟨(some 18),(.bin .gtr (.t 17) (.v (.int .i64 (.ofNat 63)))),(some ((.t 14),false)),0⟩,⟨(some 19),(.pick (.t 14) (.v (.bool true)) (.t 18)),none,0⟩,⟨(some 21),(.mv (.t 4)),(some ((.t 19),false)),0⟩,⟨(some 22),(.idxStr (.t 21) (.v (.int .i64 (.ofNat 0)))),(some ((.t 19),false)),0⟩,⟨(some 23),(.bin .eql (.t 22) (.v (.int .u8 (.ofNat 45)))),(some ((.t 19),false)),0⟩,⟨(some 24),(.pick (.t 19) (.v (.bool true)) (.t 23)),none,0⟩,⟨(some 26),(.mv (.t 4)),(some ((.t 24),false)),0⟩,⟨(some 27),(.mv (.t 4)),(some ((.t 24),false)),0⟩,⟨(some 28),(.lenStr (.t 27)),(some ((.t 24),false)),0⟩,⟨(some 29),(.bin .sub (.t 28) (.v (.int .i64 (.ofNat 1)))),(some ((.t 24),false)),0⟩,⟨(some 30),(.idxStr (.t 26) (.t 29)),(some ((.t 24),false)),0⟩,⟨(some 31),(.bin .eql (.t 30) (.v (.int .u8 (.ofNat 45)))),(some ((.t 24),false)),0⟩,⟨(some 32),(.pick (.t 24) (.v (.bool true)) (.t 31)),none,0⟩])
 (.cond (.t 32)
 (.seq (.region [⟨none,(.store 1 (.t 2) (.v (.str 0 0))),none,0⟩,⟨none,(.store 1 (.t 3) (.v (.int .i64 (.ofNat 2)))),none,0⟩])
 .ret)
 .skip))
 (.seq (.region [⟨(some 34),(.bytesOfStr 5 (.t 4)),none,0⟩,⟨(some 35),(.lenSl (.t 34)),none,0⟩,⟨(some 36),(.mv (.v (.int .i64 (.ofNat 0)))),none,0⟩])
 (.block 2 (.loop (.seq (.region [⟨(some 37),(.bin .lss (.t 36) (.t 35)),none,0⟩])
 (.seq (.cond (.t 37)
 .skip
 (.exit 2))
 (.seq (.block 3 (.seq (.region [⟨(some 38),(.idxAddrSl 1 (.t 34) (.t 36)),none,0⟩,⟨(some 39),(.load1 (.t 38)),none,0⟩,⟨(some 6),(.mv (.t 39)),none,0⟩])
 (.seq (.region [⟨(some 41),(.call 190 [(.t 6)]),none,0⟩,⟨(some 42),(.un .not (.t 41)),none,0⟩,⟨(some 44),(.mv (.t 6)),(some ((.t 42),true)),0⟩,⟨(some 45),(.bin .neq (.t 44) (.v (.int .u8 (.ofNat 45)))),(some ((.t 42),true)),0⟩,⟨(some 46),(.pick (.t 42) (.t 45) (.v (.bool false))),none,0⟩])
 (.cond (.t 46)
 (.seq (.region [⟨none,(.store 1 (.t 2) (.v (.str 0 0))),none,0⟩,⟨none,(.store 1 (.t 3) (.v (.int .i64 (.ofNat 2)))),none,0⟩])
 .ret)
 .skip))))
 (.region [⟨(some 47),(.bin .add (.t 36) (.v (.int .i64 (.ofNat 1)))),none,0⟩,⟨(some 36),(.mv (.t 47)),none,0⟩]))))))))))))
 (.seq (.region [⟨(some 49),(.call 191 [(.t 0)]),none,0⟩,⟨none,(.store 1 (.t 2) (.t 49)),none,0⟩,⟨none,(.store 1 (.t 3) (.v (.int .i64 (.ofNat 0)))),none,0⟩])
 .ret))))⟩
def e105 : T Unit := (eN (eN (eN .leaf eU) (eN (eN .leaf eU) (eN (eN .leaf eU) (eN eU .leaf)))) (eN (eN eU (eN eU (eN .leaf eU))) (eN (eN (eN .leaf eU) .leaf) (eS .leaf eU))))
noncomputable def F106 : KF := .fast 44 (sr [o d1 (g1 (opBox 39) t0),o d2 (mv (v .nilslice)),o d3 (mv (k 0))]
(.seq (sr [o d9 (lN 5 t1),o d10 (cl 152 (l1 t9)),o d4 (mv t10)]
(sr [o d12 (gNe t4 (k 0))]
(cs c12 (rt [o d2 (mv (v .nilslice)),o d3 (mv t4)]))))
(sr [o d5 (mv (v .nilslice))]
(.seq (sr [o d14 (fA 4 t1),o d15 (ld t14),o d16 (ln t15),o d17 (mv (k 0))]
(.block 0 (.loop (sr [o d18 (gLss t17 t16)]
(.seq (.cond c18 .skip
(.exit 0))
(.seq (.block 1 (sr [o d20 (ia 1 t15 t17),o d21 (ld t20),o d6 (mv t17),o d7 (mv t21)]
(sr [o d8 (mv (v (.str 1 45)))]
(.seq (sr [o d23 (fA 4 t1),o d24 (ld t23),o d25 (ln t24),o d26 (gSub t25 (k 1)),o d27 (gEq t6 t26)]
(cs c27 (.region [o d8 (mv (v (.str 1 32)))])))
(.draw [⟨D28,(mv t5),0,none,none,0⟩,⟨D29,(fA 0 t1),0,none,none,0⟩,⟨D30,(ld t29),2,(some (Q29,none)),none,2⟩,⟨D31,(cl 71 (l1 t30)),3,none,none,6⟩,⟨D32,(mv t8),0,none,none,0⟩,⟨D33,(gAdd t31 t32),0,none,none,30⟩,⟨D34,(fA 1 t1),0,none,none,0⟩,⟨D35,(lN 3 t34),2,(some (Q34,some 3)),none,64⟩,⟨D36,(cl 192 (l1 t35)),3,none,none,206⟩,⟨D37,(gAdd t33 t36),0,none,none,510⟩,⟨D38,(mv t7),0,none,none,0⟩,⟨D39,(gAdd t37 t38),0,none,none,2046⟩,⟨D40,(gBuildSlice 9 1 1 [(.str 0 0)] [(0,1)] (l1 t39)),1,none,none,4094⟩,⟨D41,(gAppend 9 1 16 t28 t40),3,none,none,8191⟩,⟨D5,(mv t41),0,none,none,16383⟩])))))
(.region [o d42 (gAdd t17 (k 1)),o d17 (mv t42)])))))))
(rt [o d2 (mv t5),o d3 (mv (k 0))]))))) (rT Q2 (rT Q3 rN))
def e106 : T Unit := (eN (eN (eN (eN .leaf eU) .leaf) .leaf) (eN (eN eU .leaf) (eN (eS (eN .leaf eU) eU) .leaf)))
noncomputable def F107 : KF := .fast 17 (sr [o d6 (g0 (opNewc 39 [z0,z0,z0,z0,.nilslice]))]
(sr [o d13 (cl 129 (l3 t0 t1 t2)),o d14 (gEx0 t13),o d15 (gEx1 t13),o d7 (g0 (opNewc 39 [z0,z0,z0,z0,.nilslice])),o dN (sN 5 t7 t14)]
(rt [o d16 (lN 5 t7),o dN (sN 5 t6 t16)]))) (rC Q6 (some 5) rN)
def e107 : T Unit := (eN (eN (eN .leaf eU) (eN eU eU)) (eN (eN .leaf eU) (eN eU .leaf)))
noncomputable def F108 : KF := .fast 50 (sr [o d5 (ld t1),o d6 (nc t5),o d7 (fA 3 t6),o d8 (ld t7),o d9 (gAdd t8 (k 1)),o d10 (nc t5),o d11 (fA 3 t10),o dN (s1 t11 t9)]
(.seq (.seq (.draw [⟨D12,(ld t1),2,(some (Q1,none)),none,0⟩,⟨D13,(nc t12),0,none,none,1⟩,⟨D14,(fA 3 t13),0,none,none,3⟩,⟨D15,(ld t14),2,(some (Q14,none)),none,7⟩,⟨D16,(ld t1),2,(some (Q1,none)),none,0⟩,⟨D17,(nc t16),0,none,none,16⟩,⟨D18,(fA 0 t17),0,none,none,48⟩,⟨D19,(ld t18),2,(some (Q18,none)),none,112⟩,⟨D20,(gLeq t15 t19),0,none,none,255⟩])
(cs c20 (.draw [⟨D21,(ld t1),2,(some (Q1,none)),none,0⟩,⟨D22,(ld t1),2,(some (Q1,none)),none,0⟩,⟨D23,(nc t22),0,none,none,2⟩,⟨D24,(fA 2 t23),0,none,none,6⟩,⟨D25,(ld t24),2,(some (Q24,none)),none,14⟩,⟨D26,(mv t0),0,none,none,0⟩,⟨D27,(gBuildSlice 5 1 1 [(.int .u8 (.ofNat 0))] [(0,1)] (l1 t26)),1,none,none,32⟩,⟨D28,(gAppend 5 1 1 t25 t27),3,none,none,126⟩,⟨D29,(nc t21),0,none,none,255⟩,⟨D30,(fA 2 t29),0,none,none,511⟩,⟨dNO,(s1 t30 t28),3,none,none,1023⟩])))
(sr [o d31 (ld t1),o d32 (nc t31),o d33 (fA 4 t32),o d34 (ld t33),g d36 (mv t0) c34 true,g d37 (gEq t36 (v (.int .u8 (.ofNat 10)))) c34 true,o d38 (pk t34 t37 vF),o d4 (mv t38)]
(sr [o d39 (ld t1),o d41 (gEq t0 (v (.int .u8 (.ofNat 13)))),o d42 (nc t39),o d43 (fA 4 t42),o dN (s1 t43 t41)]
(sr [o d44 (mv t4)]
(cs c44 (.draw [⟨D45,(ld t2),2,(some (Q2,none)),none,0⟩,⟨D46,(ld t1),2,(some (Q1,none)),none,0⟩,⟨D47,(cl 109 (l1 t46)),3,none,none,2⟩,⟨D48,(gBuildSlice 141 2 1 [(.str 0 0),z0] [(0,2)] (l1 t47)),1,none,none,6⟩,⟨D49,(gAppend 141 2 24 t45 t48),3,none,none,15⟩,⟨dNO,(s1 t2 t49),3,none,none,31⟩]))))))) rN
def e108 : T Unit := (eN (eN .leaf (eN .leaf (eN (eN .leaf eU) .leaf))) (eN .leaf (eN (eN .leaf (eN .leaf eU)) .leaf)))
noncomputable def F109 : KF := .fast 53 (sr [o d2 (g0 (opNewc 141 [(.str 0 0),z0]))]
(.seq (.draw [⟨D5,(mv t0),0,none,none,0⟩,⟨D6,(nc t5),0,none,none,1⟩,⟨D7,(fA 2 t6),0,none,none,3⟩,⟨D8,(ld t7),2,(some (Q7,none)),none,7⟩,⟨D9,(mv t0),0,none,none,0⟩,⟨D10,(nc t9),0,none,none,16⟩,⟨D11,(fA 2 t10),0,none,none,48⟩,⟨D12,(ld t11),2,(some (Q11,none)),none,112⟩,⟨D13,(ln t12),0,none,none,240⟩,⟨D14,(gSub t13 (k 2)),0,none,none,496⟩,⟨D15,(gl opMax (l2 (k 0) t14)),0,none,none,1008⟩,⟨D16,(gSliceSl 1 t8 on (os t15) on),0,none,none,2047⟩,⟨D17,(g1 opStrOfBytes t16),3,none,none,4095⟩,⟨D3,(mv t17),0,none,none,8191⟩])
(sr [o d19 (gBuild [(.str 0 0),z0] [(0,1)] (l1 t3)),o d4 (g0 (opNewc 141 [(.str 0 0),z0])),o dN (sN 2 t4 t19)]
(.seq (.block 0 (.seq (.draw [⟨D21,(mv t0),0,none,none,0⟩,⟨D22,(nc t21),0,none,none,1⟩,⟨D23,(fA 3 t22),0,none,none,3⟩,⟨D24,(ld t23),2,(some (Q23,none)),none,7⟩,⟨D25,(mv t0),0,none,none,0⟩,⟨D26,(nc t25),0,none,none,16⟩,⟨D27,(fA 0 t26),0,none,none,48⟩,⟨D28,(ld t27),2,(some (Q27,none)),none,112⟩,⟨D29,(gGtr t24 t28),0,none,none,255⟩,⟨D20,(mv t29),0,none,none,511⟩])
(.cond c20 (.region [o d30 (gBuild [(.str 0 0),z0] [(1,1)] (l1 (k 3))),o dN (sN 2 t4 t30)])
(sr [o d33 (cl 48 (l1 t3)),o d34 (g1 (opUn .not) t33),o d31 (mv t34)]
(cs c31 (.region [o d35 (gBuild [(.str 0 0),z0] [(1,1)] (l1 (k 2))),o dN (sN 2 t4 t35)]))))))
(sr [o d39 (nc t0),o d40 (fA 2 t39),o dN (s1 t40 (v .nilslice)),o d41 (nc t0),o d42 (fA 3 t41),o dN (s1 t42 (k 0)),o d43 (nc t0),o d44 (fA 4 t43),o dN (s1 t44 vF)]
(sr [o d46 (nc t0),o d47 (fA 1 t46),o d48 (ld t47),o d49 (gAdd t48 (k 1)),o d50 (nc t0),o d51 (fA 1 t50),o dN (s1 t51 t49)]
(rt [o d52 (lN 2 t4),o dN (sN 2 t2 t52)]))))))) (rC Q2 (some 2) rN)
def e109 : T Unit := (eN (eN (eN (eN .leaf (eN .leaf eU)) (eN .leaf eU)) (eN (eN .leaf (eN .leaf eU)) (eN .leaf (eN .leaf eU)))) (eN (eN (eN (eN .leaf eU) (eN .leaf eU)) .leaf) .leaf))
noncomputable def F110 : KF := .fast 20 (sr [o d5 (gBuild [z0,z0,z0,(.str 0 0),(.str 0 0),(.bool false),(.bool false),(.bool false),(.bool false),(.bool false),z0,z0,z0,z0,z0,(.str 0 0),(.str 0 0),(.str 0 0),(.str 0 0),.nilslice,.nilslice] [] nl),o d6 (nc t0),o d7 (fA 6 t6),o dN (sN 21 t7 t5),o d8 (nc t0),o d9 (fA 27 t8),o dN (s1 t9 vF),o d10 (nc t0),o d11 (fA 28 t10),o dN (s1 t11 vF)]
(.region [o d14 (nc t0),o d15 (fA 3 t14),o d16 (ld t15),o d17 (gl opMin (l2 t16 (k 1))),o d18 (nc t0),o d19 (fA 3 t18),o dN (s1 t19 t17)])) rN
def e110 : T Unit := (eN (eS .leaf (eS eU .leaf)) (eN (eN eU .leaf) eU))
noncomputable def F111 : KF := .fast 63 (sr [o d3 (g1 (opBox 141) t1),o d4 (g0 (opNewc 39 [z0,z0,z0,z0,.nilslice])),o d5 (mv vF)]
(.seq (sr [o d7 (fA 1 t3),o d8 (ld t7),o d9 (gEq t8 (k 0)),g d11 (fA 0 t3) c9 true,g d12 (ld t11) c9 true,g d13 (gEq t12 (v (.str 1 46))) c9 true,o d14 (pk t9 t13 vF)]
(cs c14 (rt [o d16 (cl 193 (l1 t0)),o d17 (gEx0 t16),o d18 (gEx1 t16),o dN (sN 5 t4 t17),o d5 (mv t18)])))
(sr [o d19 (fA 0 t3),o d20 (ld t19),o d21 (cl 194 (l2 t20 (v (.str 1 46)))),o d6 (mv t21)]
(.seq (sr [o d22 (fA 1 t3),o d23 (ld t22),o d24 (gNe t23 (k 0)),g d26 (mv t6) c24 false,g d27 (cl 48 (l1 t26)) c24 false,g d28 (g1 (opUn .not) t27) c24 false,o d29 (pk t24 vT t28),g d31 (mv t6) c29 false,g d32 (lS t31) c29 false,g d33 (gGtr t32 (k 998)) c29 false,o d34 (pk t29 vT t33)]
(cs c34 (sr [o d36 (nc t0),o d37 (fA 27 t36),o dN (s1 t37 vT)]
(rt [o d38 (gBuild [z0,z0,z0,z0,.nilslice] [] nl),o dN (sN 5 t4 t38),o d5 (mv vF)]))))
(.seq (.seq (.draw [⟨D39,(mv t0),0,none,none,0⟩,⟨D40,(nc t39),0,none,none,1⟩,⟨D41,(fA 6 t40),0,none,none,3⟩,⟨D42,(fA 20 t41),0,none,none,7⟩,⟨D43,(ld t42),2,(some (Q42,none)),none,15⟩,⟨D44,(ln t43),0,none,none,31⟩,⟨D45,(mv t0),0,none,none,0⟩,⟨D46,(nc t45),0,none,none,64⟩,⟨D47,(fA 1 t46),0,none,none,192⟩,⟨D48,(ld t47),2,(some (Q47,none)),none,448⟩,⟨D49,(gLeq t44 t48),0,none,none,1023⟩])
(cs c49 (.region [o d52 (nc t0),o d53 (fA 6 t52),o d54 (fA 20 t53),o d55 (ld t54),o d57 (gBuildSlice 9 1 1 [(.str 0 0)] [(0,1)] (l1 t6)),o d58 (gAppend 9 1 16 t55 t57),o d59 (nc t0),o d60 (fA 6 t59),o d61 (fA 20 t60),o dN (s1 t61 t58)])))
(rt [o d62 (gBuild [z0,z0,z0,z0,.nilslice] [] nl),o dN (sN 5 t4 t62),o d5 (mv vF)])))))) (rC Q4 (some 5) (rT Q5 rN))
def e111 : T Unit := (eN (eN (eN (eN eU .leaf) (eS .leaf (eN eU .leaf))) (eN .leaf (eN (eN eU .leaf) .leaf))) (eN (eN .leaf (eN eU .leaf)) (eN (eN .leaf (eN eU eU)) (eN .leaf eU))))
noncomputable def F112 : KF := .fast 55 (sr [o d3 (g1 (opBox 214) t1),o d4 (g0 (opNewc 39 [z0,z0,z0,z0,.nilslice]))]
(sr [o d9 (nc t0),o d10 (fA 3 t9),o dN (s1 t10 (k 1))]
(sr [o d12 (cl 110 (l1 t0))]
(sr [o d14 (nc t0),o d15 (fA 0 t14),o d16 (ld t15),o d17 (gBuildSlice 9 1 1 [(.str 0 0)] [(0,1)] (l1 t16)),o d5 (mv t17)]
(.seq (sr [o d18 (fA 0 t3),o d19 (ld t18),o d20 (gEq t19 (v (.str 4 1330399301)))]
(cs c20 (.seq (.draw [⟨D22,(mv t0),0,none,none,0⟩,⟨D23,(nc t22),0,none,none,1⟩,⟨D24,(fA 4 t23),0,none,none,3⟩,⟨D25,(ld t24),2,(some (Q24,none)),none,7⟩,⟨D26,(mv t0),0,none,none,0⟩,⟨D27,(nc t26),0,none,none,16⟩,⟨D28,(fA 2 t27),0,none,none,48⟩,⟨D29,(ld t28),2,(some (Q28,none)),none,112⟩,⟨D30,(gAdd t25 t29),0,none,none,255⟩,⟨D31,(gl opMin (l2 t30 (k 253402300799))),0,none,none,511⟩,⟨D32,(cl 195 (l1 t31)),3,none,none,1023⟩,⟨D21,(mv t32),0,none,none,2047⟩,⟨D33,(gEx0 t21),0,none,none,4095⟩,⟨D34,(gEx1 t21),0,none,none,4095⟩,⟨D6,(mv t33),0,none,none,8191⟩,⟨D7,(mv t34),0,none,none,32767⟩])
(.draw [⟨D35,(mv t5),0,none,none,0⟩,⟨D36,(mv t0),0,none,none,0⟩,⟨D37,(nc t36),0,none,none,2⟩,⟨D38,(fA 1 t37),0,none,none,6⟩,⟨D39,(ld t38),2,(some (Q38,none)),none,14⟩,⟨D40,(cl 71 (l1 t39)),3,none,none,30⟩,⟨D41,(gAdd (v (.str 5 138602498387)) t40),0,none,none,62⟩,⟨D42,(mv t0),0,none,none,0⟩,⟨D43,(nc t42),0,none,none,128⟩,⟨D44,(fA 2 t43),0,none,none,384⟩,⟨D45,(ld t44),2,(some (Q44,none)),none,896⟩,⟨D46,(cl 71 (l1 t45)),3,none,none,1982⟩,⟨D47,(gAdd (v (.str 14 654529616693581374450631160649030)) t46),0,none,none,4030⟩,⟨D48,(gAdd t47 (v (.str 1 32))),0,none,none,8126⟩,⟨D49,(mv t6),0,none,none,0⟩,⟨D50,(gAdd t48 t49),0,none,none,32702⟩,⟨D51,(gBuildSlice 9 1 8 [(.str 0 0)] [(0,1),(1,1),(2,1),(3,1),(4,1),(5,1),(6,1),(7,1)] (cn (v (.str 10 336732148561499036600656)) (cn (v (.str 8 4993728158299144760)) (cn (v (.str 19 1856995843766869558578420604846646216901545541)) (cn (v (.str 3 5133124)) (cn t41 (l3 t50 (v (.str 9 1646539180951642850628)) (v (.str 11 107992429273620279695594573))))))))),1,none,none,65534⟩,⟨D52,(gAppend 9 1 16 t35 t51),3,none,none,131071⟩,⟨D5,(mv t52),0,none,none,262143⟩]))))
(rt [o d54 (cl 107 (l3 (k 250) (v (.str 0 0)) t5)),o dN (sN 5 t4 t54)])))))) (rC Q4 (some 5) rN)
def e112 : T Unit := (eN (eN .leaf (eN .leaf eU)) (eN (eN (eS .leaf (eN eU .leaf)) .leaf) (eN eU .leaf)))
noncomputable def F113 : KF := .fast 63 (sr [o d3 (g1 (opBox 214) t1),o d4 (g0 (opNewc 39 [z0,z0,z0,z0,.nilslice]))]
(.seq (sr [o d6 (fA 4 t3),o d7 (lN 14 t6),o d5 (g0 (opNewc 66 [(.bool false),(.bool false),(.bool false),(.bool false),(.bool false),z0,z0,z0,z0,z0,(.str 0 0),(.str 0 0),(.str 0 0),(.str 0 0)])),o dN (sN 14 t5 t7)]
(.block 0 (.seq (.draw [⟨D9,(fA 5 t5),0,none,none,0⟩,⟨D10,(ld t9),2,(some (Q9,none)),none,1⟩,⟨D11,(mv t0),0,none,none,0⟩,⟨D12,(nc t11),0,none,none,4⟩,⟨D13,(fA 1 t12),0,none,none,12⟩,⟨D14,(ld t13),2,(some (Q13,none)),none,28⟩,⟨D15,(gGtr t10 t14),0,none,none,63⟩,⟨D8,(mv t15),0,none,none,127⟩])
(.cond c8 (rt [o d16 (gBuildSlice 9 1 1 [(.str 0 0)] [(0,1)] (l1 (v (.str 4 1702521203)))),o d17 (cl 107 (l3 (k 552) (v (.str 5 224113405493)) t16)),o dN (sN 5 t4 t17)])
(.seq (.draw [⟨D19,(fA 6 t5),0,none,none,0⟩,⟨D20,(ld t19),2,(some (Q19,none)),none,1⟩,⟨D21,(mv t0),0,none,none,0⟩,⟨D22,(nc t21),0,none,none,4⟩,⟨D23,(fA 2 t22),0,none,none,12⟩,⟨D24,(ld t23),2,(some (Q23,none)),none,28⟩,⟨D25,(gGtr t20 t24),0,none,none,63⟩,⟨D26,(mv t25),0,none,none,127⟩,⟨D27,(fA 7 t5),0,none,(some (Q26,false)),255⟩,⟨D28,(ld t27),2,(some (Q27,none)),(some (Q26,false)),511⟩,⟨D29,(mv t0),0,none,(some (Q26,false)),255⟩,⟨D30,(nc t29),0,none,(some (Q26,false)),1279⟩,⟨D31,(fA 4 t30),0,none,(some (Q26,false)),3327⟩,⟨D32,(ld t31),2,(some (Q31,none)),(some (Q26,false)),7423⟩,⟨D33,(mv t0),0,none,(some (Q26,false)),255⟩,⟨D34,(nc t33),0,none,(some (Q26,false)),16639⟩,⟨D35,(fA 2 t34),0,none,(some (Q26,false)),49407⟩,⟨D36,(ld t35),2,(some (Q35,none)),(some (Q26,false)),114943⟩,⟨D37,(gAdd t32 t36),0,none,(some (Q26,false)),261375⟩,⟨D38,(gGtr t28 t37),0,none,(some (Q26,false)),524287⟩,⟨D39,(pk t26 vT t38),0,none,none,1048575⟩,⟨D18,(mv t39),0,none,none,2097151⟩])
(.cond c18 (rt [o d40 (gBuildSlice 9 1 1 [(.str 0 0)] [(0,1)] (l1 (v (.str 4 1684828008)))),o d41 (cl 107 (l3 (k 501) (v (.str 5 224113536565)) t40)),o dN (sN 5 t4 t41)])
(sr [o d44 (nc t0),o d45 (fA 5 t44),o d46 (ld t45),o d47 (g1 (opUn .not) t46),o d42 (mv t47)]
(cs c42 (rt [o d48 (gBuildSlice 9 1 1 [(.str 0 0)] [(0,1)] (l1 (v (.str 4 1836019570)))),o d49 (cl 107 (l3 (k 452) (v (.str 5 211228503604)) t48)),o dN (sN 5 t4 t49)])))))))))
(sr [o d51 (fA 2 t3),o d52 (lN 2 t51),o d53 (fA 4 t3),o d54 (lN 14 t53),o d55 (gBuild [z0,z0,z0,(.str 0 0),(.str 0 0),(.bool false),(.bool false),(.bool false),(.bool false),(.bool false),z0,z0,z0,z0,z0,(.str 0 0),(.str 0 0),(.str 0 0),(.str 0 0),.nilslice,.nilslice] [(3,2),(5,14)] (l2 t52 t54)),o d56 (nc t0),o d57 (fA 6 t56),o dN (sN 21 t57 t55)]
(sr [o d59 (nc t0),o d60 (fA 3 t59),o dN (s1 t60 (k 2))]
(rt [o d61 (gBuildSlice 9 1 1 [(.str 0 0)] [(0,1)] (l1 (v (.str 6 125779802219891)))),o d62 (cl 107 (l3 (k 250) (v (.str 5 206933405234)) t61)),o dN (sN 5 t4 t62)]))))) (rC Q4 (some 5) rN)
def e113 : T Unit := (eN (eN (eN .leaf (eN (eN eU .leaf) (eN eU .leaf))) .leaf) (eN .leaf (eN (eN (eN .leaf eU) .leaf) .leaf)))
noncomputable def F114 : KF := .fast 35 (sr [o d3 (g1 (opBox 214) t1),o d4 (g0 (opNewc 39 [z0,z0,z0,z0,.nilslice]))]
(.seq (sr [o d6 (nc t0),o d7 (fA 6 t6),o d8 (fA 19 t7),o d9 (ld t8),o d10 (ln t9),o d11 (gGeq t10 (k 8))]
(cs c11 (rt [o d12 (gBuildSlice 9 1 1 [(.str 0 0)] [(0,1)] (l1 (v (.str 4 2037277037)))),o d13 (cl 107 (l3 (k 452) (v (.str 5 219818569268)) t12)),o dN (sN 5 t4 t13)])))
(.seq (.draw [⟨D14,(mv t0),0,none,none,0⟩,⟨D15,(mv t0),0,none,none,0⟩,⟨D16,(nc t15),0,none,none,2⟩,⟨D17,(fA 6 t16),0,none,none,6⟩,⟨D18,(fA 19 t17),0,none,none,14⟩,⟨D19,(ld t18),2,(some (Q18,none)),none,30⟩,⟨D20,(fA 2 t3),0,none,none,0⟩,⟨D21,(lN 2 t20),2,(some (Q20,some 2)),none,64⟩,⟨D22,(fA 18 t3),0,none,none,0⟩,⟨D23,(lN 3 t22),2,(some (Q22,some 3)),none,256⟩,⟨D24,(gBuild [(.str 0 0),(.str 0 0),(.str 0 0),(.str 0 0),(.str 0 0)] [(0,2),(2,3)] (l2 t21 t23)),0,none,none,960⟩,⟨D25,(gBuildSlice 187 5 1 [(.str 0 0),(.str 0 0),(.str 0 0),(.str 0 0),(.str 0 0)] [(0,5)] (l1 t24)),1,none,none,1984⟩,⟨D26,(gAppend 187 5 80 t19 t25),3,none,none,4094⟩,⟨D27,(nc t14),0,none,none,8191⟩,⟨D28,(fA 6 t27),0,none,none,16383⟩,⟨D29,(fA 19 t28),0,none,none,32767⟩,⟨dNO,(s1 t29 t26),3,none,none,65535⟩])
(sr [o d31 (nc t0),o d32 (fA 3 t31),o dN (s1 t32 (k 3))]
(rt [o d33 (gBuildSlice 9 1 1 [(.str 0 0)] [(0,1)] (l1 (v (.str 9 2147777192798653212018)))),o d34 (cl 107 (l3 (k 250) (v (.str 5 228408241714)) t33)),o dN (sN 5 t4 t34)]))))) (rC Q4 (some 5) rN)
def e114 : T Unit := (eN (eN (eN (eN eU .leaf) .leaf) .leaf) (eN eU .leaf))
noncomputable def F115 : KF := .fast 10 (sr [o d3 (g1 (opBox 214) t1),o d4 (g0 (opNewc 39 [z0,z0,z0,z0,.nilslice]))]
(sr [o d6 (nc t0),o d7 (fA 3 t6),o dN (s1 t7 (k 4))]
(rt [o d8 (gBuildSlice 9 1 1 [(.str 0 0)] [(0,1)] (l1 (v (.str 2 28519)))),o d9 (cl 107 (l3 (k 354) (v (.str 0 0)) t8)),o dN (sN 5 t4 t9)]))) (rC Q4 (some 5) rN)
def e115 : T Unit := (eN .leaf (eN eU .leaf))
noncomputable def F117 : KF := .fast 16 (sr [o d3 (g1 (opBox 214) t1),o d4 (g0 (opNewc 39 [z0,z0,z0,z0,.nilslice]))]
(sr [o d6 (cl 110 (l1 t0))]
(sr [o d8 (nc t0),o d9 (fA 3 t8),o dN (s1 t9 (k 5))]
(rt [o d11 (nc t0),o d12 (fA 0 t11),o d13 (ld t12),o d14 (gBuildSlice 9 1 1 [(.str 0 0)] [(0,1)] (l1 t13)),o d15 (cl 107 (l3 (k 221) (v (.str 5 206933339698)) t14)),o dN (sN 5 t4 t15)])))) (rC Q4 (some 5) rN)
def e117 : T Unit := (eN (eN (eN .leaf eU) .leaf) (eN eU (eN .leaf eU)))
noncomputable def F121 : KF := .fast 14 (sr [o d2 (mv (v (.str 0 0)))]
(sr [o d8 (cl 196 (l2 t0 (v (.str 1 32)))),o d9 (gEx0 t8),o d10 (gEx1 t8),o d11 (gExN 2 t8),o d3 (mv t9)]
(rt [o d13 (cl 197 (l1 t3)),o d2 (mv t13)]))) (rT Q2 rN)
def e121 : T Unit := (eN (eN eU (eS eU .leaf)) (eN eU (eN .leaf eU)))
noncomputable def F122 : KF := .fast 37 (sr [o d4 (mv (v (.str 0 0)))]
(.seq (sr [o d8 (gEq t0 (v (.str 0 0))),g d10 (mv t1) c8 false,g d11 (gEq t10 (v (.str 0 0))) c8 false,o d12 (pk t8 vT t11)]
(cs c12 (rt [o d4 (mv t0)])))
(.seq (sr [o d15 (lS t1),o d16 (gEq t15 (k 1)),g d18 (mv t1) c16 true,g d19 (gIdxStr t18 (k 0)) c16 true,g d20 (gLss t19 (v (.int .u8 (.ofNat 128)))) c16 true,o d21 (pk t16 t20 vF)]
(cs c21 (rt [o d24 (gIdxStr t1 (k 0)),o d25 (cl 198 (l2 t0 t24)),o d4 (mv t25)])))
(.seq (sr [o d28 (cl 199 (l1 t1)),o d29 (gEx0 t28),o d30 (gEx1 t28),o d5 (g0 (opNewc 292 [(.bool false),(.bool false),(.bool false),(.bool false),(.bool false),(.bool false),(.bool false),(.bool false),(.bool false),(.bool false),(.bool false),(.bool false),(.bool false),(.bool false),(.bool false),(.bool false),(.bool false),(.bool false),(.bool false),(.bool false),(.bool false),(.bool false),(.bool false),(.bool false),(.bool false),(.bool false),(.bool false),(.bool false),(.bool false),(.bool false),(.bool false),(.bool false),(.bool false),(.bool false),(.bool false),(.bool false),(.bool false),(.bool false),(.bool false),(.bool false),(.bool false),(.bool false),(.bool false),(.bool false),(.bool false),(.bool false),(.bool false),(.bool false),(.bool false),(.bool false),(.bool false),(.bool false),(.bool false),(.bool false),(.bool false),(.bool false),(.bool false),(.bool false),(.bool false),(.bool false),(.bool false),(.bool false),(.bool false),(.bool false),(.bool false),(.bool false),(.bool false),(.bool false),(.bool false),(.bool false),(.bool false),(.bool false),(.bool false),(.bool false),(.bool false),(.bool false),(.bool false),(.bool false),(.bool false),(.bool false),(.bool false),(.bool false),(.bool false),(.bool false),(.bool false),(.bool false),(.bool false),(.bool false),(.bool false),(.bool false),(.bool false),(.bool false),(.bool false),(.bool false),(.bool false),(.bool false),(.bool false),(.bool false),(.bool false),(.bool false),(.bool false),(.bool false),(.bool false),(.bool false),(.bool false),(.bool false),(.bool false),(.bool false),(.bool false),(.bool false),(.bool false),(.bool false),(.bool false),(.bool false),(.bool false),(.bool false),(.bool false),(.bool false),(.bool false),(.bool false),(.bool false),(.bool false),(.bool false),(.bool false),(.bool false),(.bool false),(.bool false),(.bool false),(.bool false),(.bool false),(.bool false),(.bool false),(.bool false),(.bool false),(.bool false),(.bool false),(.bool false),(.bool false),(.bool false),(.bool false),(.bool false),(.bool false),(.bool false),(.bool false),(.bool false),(.bool false),(.bool false),(.bool false),(.bool false),(.bool false),(.bool false),(.bool false),(.bool false),(.bool false),(.bool false),(.bool false),(.bool false),(.bool false),(.bool false),(.bool false),(.bool false),(.bool false),(.bool false),(.bool false),(.bool false),(.bool false),(.bool false),(.bool false),(.bool false),(.bool false),(.bool false),(.bool false),(.bool false),(.bool false),(.bool false),(.bool false),(.bool false),(.bool false),(.bool false),(.bool false),(.bool false),(.bool false),(.bool false),(.bool false),(.bool false),(.bool false),(.bool false),(.bool false),(.bool false),(.bool false),(.bool false),(.bool false),(.bool false),(.bool false),(.bool false),(.bool false),(.bool false),(.bool false),(.bool false),(.bool false),(.bool false),(.bool false),(.bool false),(.bool false),(.bool false),(.bool false),(.bool false),(.bool false),(.bool false),(.bool false),(.bool false),(.bool false),(.bool false),(.bool false),(.bool false),(.bool false),(.bool false),(.bool false),(.bool false),(.bool false),(.bool false),(.bool false),(.bool false),(.bool false),(.bool false),(.bool false),(.bool false),(.bool false),(.bool false),(.bool false),(.bool false),(.bool false),(.bool false),(.bool false),(.bool false),(.bool false),(.bool false),(.bool false),(.bool false),(.bool false),(.bool false),(.bool false),(.bool false),(.bool false),(.bool false),(.bool false),(.bool false),(.bool false),(.bool false),(.bool false),(.bool false),(.bool false),(.bool false),(.bool false),(.bool false),(.bool false)])),o dN (sN 256 t5 t29),o d6 (mv t30)]
(sr [o d31 (mv t6)]
(cs c31 (rt [o d33 (cl 200 (l2 t0 t5)),o d4 (mv t33)]))))
(rt [o d36 (cl 201 (l2 t0 t1)),o d4 (mv t36)]))))) (rT Q4 rN)
def e122 : T Unit := (eN (eN (eN (eS .leaf eU) (eN eU (eN .leaf eU))) (eN .leaf (eN .leaf (eN .leaf eU)))) (eN (eN eU (eS .leaf eU)) (eN (eN eU (eN .leaf eU)) (eS eU .leaf))))
noncomputable def F123 : KF := .fast 44 (sr [o d2 (g0 (opNewc 214 [(.str 0 0),(.str 0 0),(.str 0 0),(.str 0 0),(.bool false),(.bool false),(.bool false),(.bool false),(.bool false),z0,z0,z0,z0,z0,(.str 0 0),(.str 0 0),(.str 0 0),(.str 0 0),(.str 0 0),(.str 0 0),(.str 0 0)])),o d3 (mv (k 0))]
(sr [o d13 (cl 122 (l2 t0 (v (.str 1 32)))),o d0 (mv t13)]
(sr [o d14 (g0 opMkMap),o dN (g3 (opMapUpd true) t14 (v (.str 4 1330398536)) (v (.func (.func 202) [] []))),o dN (g3 (opMapUpd true) t14 (v (.str 4 1330399301)) (v (.func (.func 202) [] []))),o dN (g3 (opMapUpd true) t14 (v (.str 4 1279869261)) (v (.func (.func 203) [] []))),o dN (g3 (opMapUpd true) t14 (v (.str 4 1414546258)) (v (.func (.func 204) [] []))),o dN (g3 (opMapUpd true) t14 (v (.str 4 1096040772)) (v (.func (.func 205) [] []))),o dN (g3 (opMapUpd true) t14 (v (.str 4 1413829458)) (v (.func (.func 205) [] []))),o dN (g3 (opMapUpd true) t14 (v (.str 4 1414092113)) (v (.func (.func 205) [] []))),o dN (g3 (opMapUpd true) t14 (v (.str 4 1347374926)) (v (.func (.func 206) [] []))),o dN (g3 (opMapUpd true) t14 (v (.str 4 1497780822)) (v (.func (.func 206) [] []))),o dN (g3 (opMapUpd true) t14 (v (.str 4 1347175752)) (v (.func (.func 206) [] []))),o d4 (mv t14)]
(sr [o d17 (cl 121 (l1 t0)),o d18 (gBuild [(.str 0 0),(.str 0 0),(.str 0 0),(.str 0 0),(.bool false),(.bool false),(.bool false),(.bool false),(.bool false),z0,z0,z0,z0,z0,(.str 0 0),(.str 0 0),(.str 0 0),(.str 0 0),(.str 0 0),(.str 0 0),(.str 0 0)] [(0,1)] (l1 t17)),o d5 (g0 (opNewc 214 [(.str 0 0),(.str 0 0),(.str 0 0),(.str 0 0),(.bool false),(.bool false),(.bool false),(.bool false),(.bool false),z0,z0,z0,z0,z0,(.str 0 0),(.str 0 0),(.str 0 0),(.str 0 0),(.str 0 0),(.str 0 0),(.str 0 0)])),o dN (sN 21 t5 t18)]
(sr [o d21 (fA 0 t5),o d22 (ld t21),o d23 (gLookup true .nilFunc true t4 t22),o d24 (gEx0 t23),o d25 (gEx1 t23),o d6 (mv t24),o d7 (mv t25)]
(.seq (sr [o d27 (g1 (opUn .not) t7)]
(cs c27 (rt [o d28 (gBuild [(.str 0 0),(.str 0 0),(.str 0 0),(.str 0 0),(.bool false),(.bool false),(.bool false),(.bool false),(.bool false),z0,z0,z0,z0,z0,(.str 0 0),(.str 0 0),(.str 0 0),(.str 0 0),(.str 0 0),(.str 0 0),(.str 0 0)] [] nl),o dN (sN 21 t2 t28),o d3 (mv (k 10))])))
(sr [o d31 (cl 196 (l2 t0 (v (.str 1 32)))),o d32 (gEx0 t31),o d33 (gEx1 t31),o d34 (gExN 2 t31),o d9 (mv t33),o d10 (mv t34)]
(.seq (sr [o d38 (gCallV t6 (l3 t5 t9 t10)),o d11 (mv t38)]
(sr [o d40 (gNe t11 (k 0))]
(cs c40 (rt [o d41 (gBuild [(.str 0 0),(.str 0 0),(.str 0 0),(.str 0 0),(.bool false),(.bool false),(.bool false),(.bool false),(.bool false),z0,z0,z0,z0,z0,(.str 0 0),(.str 0 0),(.str 0 0),(.str 0 0),(.str 0 0),(.str 0 0),(.str 0 0)] [] nl),o dN (sN 21 t2 t41),o d3 (mv t11)]))))
(rt [o d43 (lN 21 t5),o dN (sN 21 t2 t43),o d3 (mv (k 0))]))))))))) (rC Q2 (some 21) (rT Q3 rN))
def e123 : T Unit := (eN (eN (eN (eN eU .leaf) (eN (eS .leaf eU) .leaf)) (eN (eS .leaf (eS .leaf eU)) (eS .leaf eU))) (eN (eN (eN eU (eN .leaf eU)) .leaf) (eN (eN .leaf (eS .leaf eU)) (eN (eN .leaf eU) eU))))
noncomputable def F124 : KF := .fast 9 (sr [o d4 (mv vF)]
(rt [o d7 (cl 207 (l2 t0 t1)),o d8 (gGeq t7 (k 0)),o d4 (mv t8)])) (rT Q4 rN)
def e124 : T Unit := (eN (eN eU .leaf) (eN eU .leaf))
noncomputable def F125 : KF := .fast 2 (sr [o d0 (mv (v .nilslice))]
(rt [o d1 (gBuildSlice 9 1 10 [(.str 0 0)] [(0,1),(1,1),(2,1),(3,1),(4,1),(5,1),(6,1),(7,1),(8,1),(9,1)] (cn (v (.str 4 1330398536)) (cn (v (.str 4 1330399301)) (cn (v (.str 4 1279869261)) (cn (v (.str 4 1414546258)) (cn (v (.str 4 1096040772)) (cn (v (.str 4 1413829458)) (cn (v (.str 4 1414092113)) (l3 (v (.str 4 1347374926)) (v (.str 4 1497780822)) (v (.str 4 1347175752))))))))))),o d0 (mv t1)])) (rT Q0 rN)
def e125 : T Unit := .leaf
noncomputable def F126 : KF := .fast 27 (sr [o d4 (mv vF)]
(.seq (sr [o d5 (mv t1)]
(.block 0 (sr [o d7 (gEq t5 (v (.str 4 1279869261))),o d6 (mv t7)]
(.cond c6 (rt [o d9 (nc t0),o d10 (fA 3 t9),o d11 (ld t10),o d12 (gEq t11 (k 1)),o d4 (mv t12)])
(sr [o d14 (gEq t5 (v (.str 4 1414546258))),o d13 (mv t14)]
(cs c13 (rt [o d16 (nc t0),o d17 (fA 3 t16),o d18 (ld t17),o d19 (gEq t18 (k 2)),g d21 (mv t0) c19 false,g d22 (nc t21) c19 false,g d23 (fA 3 t22) c19 false,g d24 (ld t23) c19 false,g d25 (gEq t24 (k 3)) c19 false,o d26 (pk t19 vT t25),o d4 (mv t26)])))))))
(rt [o d4 (mv vT)]))) (rT Q4 rN)
def e126 : T Unit := (eN (eN .leaf (eN (eN .leaf eU) eU)) (eN .leaf (eN .leaf (eN .leaf eU))))
noncomputable def F127 : KF := .fast 9 (sr [o d2 (mv (k 0))]
(rt [o d4 (cl 46 (l1 t0)),o d5 (gBuildSlice 3 1 1 (zs 1) [(0,1)] (l1 (k 0))),o d6 (gAppend 3 1 8 t4 t5),o d7 (cl 208 (l1 t6)),o d8 (gAdd t7 (k 1)),o d2 (mv t8)])) (rT Q2 rN)
def e127 : T Unit := (eN .leaf (eN .leaf eU))
noncomputable def F128 : KF := .fast 73 (sr [o d3 (g1 (opBox 69) t1),o d4 (mv (k 0))]
(sr [o d12 (lN 21 t3),o d13 (cl 209 (l1 t12)),o d14 (gEx0 t13),o d15 (gEx1 t13),o d5 (mv t14),o d6 (mv t15)]
(.seq (.draw [⟨D17,(mv t0),0,none,none,0⟩,⟨D18,(nc t17),0,none,none,1⟩,⟨D19,(fA 1 t18),0,none,none,3⟩,⟨D20,(ld t19),2,(some (Q19,none)),none,7⟩,⟨D21,(fA 0 t3),0,none,none,0⟩,⟨D22,(ld t21),2,(some (Q21,none)),none,16⟩,⟨D23,(gLookup false (.agg [(.int .i64 (.ofNat 0)),(.int .i64 (.ofNat 0)),(.int .i64 (.ofNat 0)),(.str 0 0),(.str 0 0),(.bool false),(.bool false),(.bool false),(.bool false),(.bool false),(.int .i64 (.ofNat 0)),(.int .i64 (.ofNat 0)),(.int .i64 (.ofNat 0)),(.int .i64 (.ofNat 0)),(.int .i64 (.ofNat 0)),(.str 0 0),(.str 0 0),(.str 0 0),(.str 0 0),.nilslice,.nilslice,.nilslice]) true t20 t22),3,none,none,63⟩,⟨D16,(mv t23),0,none,none,127⟩,⟨D24,(gEx0 t16),0,none,none,255⟩,⟨D25,(gEx1 t16),0,none,none,255⟩,⟨D7,(g0 (opNewc 179 [z0,z0,z0,(.str 0 0),(.str 0 0),(.bool false),(.bool false),(.bool false),(.bool false),(.bool false),z0,z0,z0,z0,z0,(.str 0 0),(.str 0 0),(.str 0 0),(.str 0 0),.nilslice,.nilslice,.nilslice])),1,none,none,0⟩,⟨dNO,(sN 22 t7 t24),3,none,none,1535⟩,⟨D8,(mv t25),0,none,none,4095⟩])
(.seq (.block 0 (sr [o d28 (gNe t6 (k 0)),o d26 (mv t28)]
(.cond c26 (rt [o d4 (mv t6)])
(sr [o d30 (mv t8)]
(.cond c30 (rt [o d4 (mv (k 5))])
(sr [o d34 (nc t0),o d35 (fA 1 t34),o d36 (ld t35),o d37 (g1 opLenMap t36),o d38 (gGeq t37 (k 32)),o d32 (mv t38)]
(cs c32 (rt [o d4 (mv (k 6))]))))))))
(sr [o d41 (gBuildSlice 9 1 1 [(.str 0 0)] [(0,1)] (l1 t5)),o d42 (cl 70 (l1 t41)),o d43 (gEx0 t42),o d44 (gEx1 t42),o d9 (mv t43)]
(.seq (.draw [⟨D45,(mv t0),0,none,none,0⟩,⟨D46,(fA 0 t3),0,none,none,0⟩,⟨D47,(ld t46),2,(some (Q46,none)),none,2⟩,⟨D48,(cl 181 (l2 (v (.str 1 116)) t47)),3,none,none,6⟩,⟨D49,(fA 0 t3),0,none,none,0⟩,⟨D50,(ld t49),2,(some (Q49,none)),none,16⟩,⟨D51,(cl 181 (l2 (v (.str 1 109)) t50)),3,none,none,62⟩,⟨D52,(mv t9),0,none,none,0⟩,⟨D53,(cl 210 (cn t45 (l3 t48 t51 t52))),3,none,none,255⟩,⟨D6,(mv t53),0,none,none,511⟩])
(.seq (sr [o d55 (gEq t6 (k 0))]
(cs c55 (.seq (.draw [⟨D56,(fA 19 t3),0,none,none,0⟩,⟨D57,(ld t56),2,(some (Q56,none)),none,1⟩,⟨D58,(cl 96 (l1 t57)),3,none,none,3⟩,⟨D59,(fA 20 t3),0,none,none,0⟩,⟨D60,(ld t59),2,(some (Q59,none)),none,8⟩,⟨D61,(cl 97 (l1 t60)),3,none,none,31⟩,⟨D62,(fA 19 t3),0,none,none,31⟩,⟨dNO,(s1 t62 t58),3,none,none,127⟩,⟨D63,(fA 20 t3),0,none,none,255⟩,⟨dNO,(s1 t63 t61),3,none,none,511⟩])
(.draw [⟨D64,(mv t0),0,none,none,0⟩,⟨D65,(nc t64),0,none,none,1⟩,⟨D66,(fA 1 t65),0,none,none,3⟩,⟨D67,(ld t66),2,(some (Q66,none)),none,7⟩,⟨D68,(fA 0 t3),0,none,none,0⟩,⟨D69,(ld t68),2,(some (Q68,none)),none,16⟩,⟨D70,(lN 21 t3),2,(some (Q3,some 21)),none,0⟩,⟨D71,(cl 211 (l1 t70)),3,none,none,64⟩,⟨dNO,(g3 (opMapUpd false) t67 t69 t71),3,none,none,255⟩]))))
(rt [o d4 (mv t6)])))))))) (rT Q4 rN)
def e128 : T Unit := (eN (eN (eN (eN .leaf (eN eU .leaf)) eU) (eN .leaf (eN (eN .leaf (eS .leaf eU)) .leaf))) (eN (eN (eN eU .leaf) (eN .leaf (eN .leaf eU))) (eN (eS eU .leaf) (eN (eN .leaf eU) (eN .leaf eU)))))
noncomputable def F129 : KF := .fast 43 (sr [o d6 (g0 (opNewc 39 [z0,z0,z0,z0,.nilslice])),o d7 (mv (k 0))]
(sr [o d15 (cl 97 (l1 t2)),o d16 (gBuild [z0,z0,z0,z0,.nilslice] [(0,1),(4,1)] (l2 t0 t15)),o d8 (g0 (opNewc 39 [z0,z0,z0,z0,.nilslice])),o dN (sN 5 t8 t16)]
(.seq (sr [o d18 (gNe t1 (v (.str 0 0)))]
(cs c18 (sr [o d22 (gAdd t1 (v (.str 1 32))),o d23 (cl 212 (l2 t0 t22)),o d24 (gEx0 t23),o d25 (gEx1 t23),o d26 (gExN 2 t23),o d9 (g0 (opNewc 37 (zs 3))),o dN (sN 3 t9 t24),o d10 (mv t25),o d11 (mv t26)]
(.seq (sr [o d28 (g1 (opUn .not) t11),g d30 (mv t10) c28 false,g d31 (gNe t30 (v (.str 0 0))) c28 false,o d32 (pk t28 vT t31)]
(cs c32 (rt [o d33 (gBuild [z0,z0,z0,z0,.nilslice] [] nl),o dN (sN 5 t6 t33),o d7 (mv (k 2))])))
(.region [o d34 (lN 3 t9),o d35 (fA 1 t8),o dN (sN 3 t35 t34)])))))
(.seq (sr [o d36 (lN 5 t8),o d37 (cl 152 (l1 t36)),o d12 (mv t37)]
(sr [o d39 (gNe t12 (k 0))]
(cs c39 (rt [o d40 (gBuild [z0,z0,z0,z0,.nilslice] [] nl),o dN (sN 5 t6 t40),o d7 (mv t12)]))))
(rt [o d42 (lN 5 t8),o dN (sN 5 t6 t42),o d7 (mv (k 0))]))))) (rC Q6 (some 5) (rT Q7 rN))
def e129 : T Unit := (eN (eN (eN (eS .leaf (eN .leaf eU)) .leaf) (eN (eN .leaf eU) .leaf)) (eN (eN (eS eU eU) (eN (eN .leaf eU) eU)) (eN (eN eU eU) .leaf)))
noncomputable def F130 : KF := .fast 3 (sr [o d0 (g0 (opNewc 39 [z0,z0,z0,z0,.nilslice]))]
(rt [o d1 (gBuildSlice 9 1 1 [(.str 0 0)] [(0,1)] (l1 (v (.str 5 474147938676)))),o d2 (cl 107 (l3 (k 250) (v (.str 5 206933339698)) t1)),o dN (sN 5 t0 t2)])) (rC Q0 (some 5) rN)
def e130 : T Unit := .leaf
noncomputable def F132 : KF := .fast 25 (sr [o d4 (mv (v (.str 0 0)))]
(sr [o d8 (g2 (opMkSlice 5 1 1 [(.int .u8 (.ofNat 0))]) t1 t1),o d5 (mv t8)]
(.seq (sr [o d10 (ln t5),o d11 (mv (k 0))]
(.block 0 (.loop (sr [o d12 (gLss t11 t10)]
(.seq (.cond c12 .skip
(.exit 0))
(.seq (.block 1 (sr [o d6 (mv t11)]
(.region [o d18 (gBinS .mul (k 8) t6),o d19 (gBinS .shr t0 t18),o d20 (gConvInt .u8 t19),o d21 (ia 1 t5 t6),o dN (s1 t21 t20)])))
(.region [o d22 (gAdd t11 (k 1)),o d11 (mv t22)])))))))
(rt [o d24 (g1 opStrOfBytes t5),o d4 (mv t24)])))) (rT Q4 rN)
def e132 : T Unit := (eN (eN (eN eU .leaf) (eN .leaf (eN .leaf eU))) (eN (eN eU (eS .leaf eU)) (eN .leaf (eS eU eU))))
noncomputable def F133 : KF := .fast 25 (sr [o d4 (mv (v (.str 0 0)))]
(sr [o d8 (g2 (opMkSlice 5 1 1 [(.int .u8 (.ofNat 0))]) t1 t1),o d5 (mv t8)]
(.seq (sr [o d10 (ln t5),o d11 (mv (k 0))]
(.block 0 (.loop (sr [o d12 (gLss t11 t10)]
(.seq (.cond c12 .skip
(.exit 0))
(.seq (.block 1 (sr [o d6 (mv t11)]
(.region [o d18 (gBinS .mul (k 8) t6),o d19 (gBinS .shr t0 t18),o d20 (gConvInt .u8 t19),o d21 (ia 1 t5 t6),o dN (s1 t21 t20)])))
(.region [o d22 (gAdd t11 (k 1)),o d11 (mv t22)])))))))
(rt [o d24 (g1 opStrOfBytes t5),o d4 (mv t24)])))) (rT Q4 rN)
def e133 : T Unit := (eN (eN (eN eU .leaf) (eN .leaf (eN .leaf eU))) (eN (eN eU (eS .leaf eU)) (eN .leaf (eS eU eU))))
noncomputable def F134 : KF := .fast 30 (sr [o d2 (mv (v (.int .u32 (.ofNat 0))))]
(sr [o d3 (mv (v (.int .u32 (.ofNat 4294967295))))]
(.seq (sr [o d7 (g1 (opBytesOfStr 5) t0),o d8 (ln t7),o d9 (mv (k 0))]
(.block 0 (.loop (sr [o d10 (gLss t9 t8)]
(.seq (.cond c10 .skip
(.exit 0))
(.seq (.block 1 (sr [o d11 (ia 1 t7 t9),o d12 (ld t11),o d5 (mv t12)]
(sr [o d15 (gConvInt .u32 t5),o d16 (gBinS .xor t3 t15),o d3 (mv t16)]
(sr [o d17 (mv (k 0))]
(.block 2 (.loop (sr [o d18 (gLss t17 (k 8))]
(.seq (.cond c18 .skip
(.exit 2))
(.seq (.block 3 (.region [o d20 (gBinS .shr t3 (v (.int .u64 (.ofNat 1)))),o d22 (gBinS .and t3 (v (.int .u32 (.ofNat 1)))),o d23 (g1 (opUn .neg) t22),o d24 (gBinS .and t23 (v (.int .u32 (.ofNat 3988292384)))),o d25 (gBinS .xor t20 t24),o d3 (mv t25)]))
(.region [o d26 (gAdd t17 (k 1)),o d17 (mv t26)]))))))))))
(.region [o d27 (gAdd t9 (k 1)),o d9 (mv t27)])))))))
(rt [o d29 (g1 (opUn .xor) t3),o d2 (mv t29)])))) (rT Q2 rN)
def e134 : T Unit := (eN (eN (eS eU .leaf) (eN (eN eU .leaf) .leaf)) (eN (eN (eS .leaf eU) .leaf) (eN (eN .leaf eU) .leaf)))
noncomputable def F135 : KF := .fast 5 (sr [o d2 (mv (v (.str 0 0)))]
(rt [o d4 (cl 213 (l2 t0 (k 10))),o d2 (mv t4)])) (rT Q2 rN)
def e135 : T Unit := (eN .leaf (eN .leaf eU))
noncomputable def F136 : KF := .fast 30 (sr [o d4 (mv (k 0))]
(.seq (sr [o d8 (nc t0),o d9 (fA 2 t8),o d10 (ld t9)]
(cs c10 (rt [o d4 (mv (k 7))])))
(.seq (sr [o d11 (mv t1),o d12 (ln t11),o d13 (mv (k 0))]
(.block 0 (.loop (sr [o d14 (gLss t13 t12)]
(.seq (.cond c14 .skip
(.exit 0))
(.seq (.block 1 (sr [o d15 (ia 1 t11 t13),o d16 (ld t15),o d6 (mv t16)]
(sr [o d18 (gEq t6 (v (.str 0 0))),g d20 (mv t6) c18 false,g d21 (lS t20) c18 false,g d22 (gGtr t21 (k 32)) c18 false,o d23 (pk t18 vT t22),g d25 (mv t6) c23 false,g d26 (g1 (opBytesOfStr 5) t25) c23 false,g d27 (cl 214 (l2 t26 (v (.func (.func 215) [] [])))) c23 false,o d28 (pk t23 vT t27)]
(cs c28 (rt [o d4 (mv (k 2))])))))
(.region [o d29 (gAdd t13 (k 1)),o d13 (mv t29)])))))))
(rt [o d4 (mv (k 0))])))) (rT Q4 rN)
def e136 : T Unit := (eN (eN .leaf (eN .leaf (eN eU .leaf))) (eN (eN .leaf (eN .leaf eU)) (eN (eN .leaf eU) eU)))
noncomputable def F137 : KF := .fast 40 (sr [o d6 (mv (k 0))]
(sr [o d9 (nc t0),o d10 (fA 5 t9),o d11 (ld t10),o d12 (gAdd t11 (k 1)),o d13 (nc t0),o d14 (fA 5 t13),o dN (s1 t14 t12)]
(.seq (.draw [⟨D15,(mv t0),0,none,none,0⟩,⟨D16,(nc t15),0,none,none,1⟩,⟨D17,(fA 5 t16),0,none,none,3⟩,⟨D18,(ld t17),2,(some (Q17,none)),none,7⟩,⟨D19,(mv t0),0,none,none,0⟩,⟨D20,(nc t19),0,none,none,16⟩,⟨D21,(fA 3 t20),0,none,none,48⟩,⟨D22,(fA 0 t21),0,none,none,112⟩,⟨D23,(ld t22),2,(some (Q22,none)),none,240⟩,⟨D24,(gEq t18 t23),0,none,none,511⟩,⟨D7,(mv t24),0,none,none,1023⟩])
(.seq (sr [g d27 (mv t7) c1 false,g d28 (g1 (opUn .not) t27) c1 false,o d29 (pk t1 vT t28)]
(cs c29 (.region [o d31 (gCallV t2 nl)])))
(.seq (sr [o d32 (mv t7)]
(cs c32 (sr [o d35 (nc t0),o d36 (fA 3 t35),o d37 (fA 1 t36),o d38 (ld t37),o d39 (cl 84 (l2 t0 t38))]
(rt [o d6 (mv (k 7))]))))
(rt [o d6 (mv (k 0))])))))) (rT Q6 rN)
def e137 : T Unit := (eN (eN (eN (eN eU .leaf) (eN eU (eN .leaf eU))) (eN .leaf eU)) (eN (eN .leaf (eN eU (eN .leaf eU))) .leaf))
noncomputable def F138 : KF := .fast 16 (.draw [⟨D4,(ld t2),2,(some (Q2,none)),none,0⟩,⟨D5,(nc t4),0,none,none,1⟩,⟨D6,(fA 1 t5),0,none,none,3⟩,⟨D7,(ld t6),2,(some (Q6,none)),none,7⟩,⟨D8,(ld t3),2,(some (Q3,none)),none,0⟩,⟨D9,(fA 0 t0),0,none,none,0⟩,⟨D10,(ld t9),2,(some (Q9,none)),none,32⟩,⟨D11,(ld t1),2,(some (Q1,none)),none,0⟩,⟨D12,(gAdd t10 t11),0,none,none,224⟩,⟨D13,(fA 1 t0),0,none,none,0⟩,⟨D14,(ld t13),2,(some (Q13,none)),none,512⟩,⟨D15,(gBuild [(.str 0 0),z0] [(0,1),(1,1)] (l2 t12 t14)),0,none,none,2016⟩,⟨dNO,(g3 (opMapUpd true) t7 t8 t15),3,none,none,4095⟩]) rN
def e138 : T Unit := .leaf
noncomputable def F139 : KF := .fast 34 (sr [o d6 (g0 (opNewc 106 [(.str 0 0),z0])),o d7 (mv (k 0))]
(.seq (sr [o d14 (gBuildSlice 9 1 1 [(.str 0 0)] [(0,1)] (l1 t1)),o d15 (gAppend 9 1 16 t2 t14),o d16 (cl 136 (l2 t0 t15)),o d8 (mv t16)]
(sr [o d18 (gNe t8 (k 0))]
(cs c18 (rt [o d19 (gBuild [(.str 0 0),z0] [] nl),o dN (sN 2 t6 t19),o d7 (mv t8)]))))
(sr [o d23 (nc t0),o d24 (fA 1 t23),o d25 (ld t24),o d27 (gLookup true (.agg [(.str 0 0),(.int .i64 (.ofNat 0))]) true t25 t1),o d28 (gEx0 t27),o d29 (gEx1 t27),o d9 (g0 (opNewc 106 [(.str 0 0),z0])),o dN (sN 2 t9 t28),o d10 (mv t29)]
(.seq (sr [o d31 (g1 (opUn .not) t10)]
(cs c31 (rt [o d32 (gBuild [(.str 0 0),z0] [] nl),o dN (sN 2 t6 t32),o d7 (mv (k 4))])))
(rt [o d33 (lN 2 t9),o dN (sN 2 t6 t33),o d7 (mv (k 0))]))))) (rC Q6 (some 2) (rT Q7 rN))
def e139 : T Unit := (eN (eN (eN (eN eU eU) (eN eU .leaf)) (eN (eS .leaf eU) .leaf)) (eN (eN (eS .leaf eU) (eN .leaf eU)) (eN eU .leaf)))
noncomputable def F140 : KF := .fast 14 (.draw [⟨D3,(ld t1),2,(some (Q1,none)),none,0⟩,⟨D4,(nc t3),0,none,none,1⟩,⟨D5,(fA 1 t4),0,none,none,3⟩,⟨D6,(ld t5),2,(some (Q5,none)),none,7⟩,⟨D7,(ld t2),2,(some (Q2,none)),none,0⟩,⟨D8,(fA 0 t0),0,none,none,0⟩,⟨D9,(ld t8),2,(some (Q8,none)),none,32⟩,⟨D10,(fA 0 t0),0,none,none,0⟩,⟨D11,(ld t10),2,(some (Q10,none)),none,128⟩,⟨D12,(lS t11),0,none,none,384⟩,⟨D13,(gBuild [(.str 0 0),z0] [(0,1),(1,1)] (l2 t9 t12)),0,none,none,992⟩,⟨dNO,(g3 (opMapUpd true) t6 t7 t13),3,none,none,2047⟩]) rN
def e140 : T Unit := .leaf
noncomputable def F141 : KF := .fast 15 (.seq (.draw [⟨D4,(ld t0),2,(some (Q0,none)),none,0⟩,⟨D5,(nc t4),0,none,none,1⟩,⟨D6,(fA 1 t5),0,none,none,3⟩,⟨D7,(ld t6),2,(some (Q6,none)),none,7⟩,⟨D8,(ld t1),2,(some (Q1,none)),none,0⟩,⟨dNO,(g2 (opDelete true) t7 t8),3,none,none,31⟩])
(.draw [⟨D9,(ld t0),2,(some (Q0,none)),none,0⟩,⟨D10,(nc t9),0,none,none,1⟩,⟨D11,(fA 1 t10),0,none,none,3⟩,⟨D12,(ld t11),2,(some (Q11,none)),none,7⟩,⟨D13,(ld t3),2,(some (Q3,none)),none,0⟩,⟨D14,(lN 2 t2),2,(some (Q2,some 2)),none,0⟩,⟨dNO,(g3 (opMapUpd true) t12 t13 t14),3,none,none,63⟩])) rN
def e141 : T Unit := .leaf
noncomputable def F149 : KF := .fast 11 (sr [o d2 (mv (k 0))]
(.seq (sr [o d4 (gLss t0 (k 200)),g d6 (mv t0) c4 false,g d7 (gGtr t6 (k 599)) c4 false,o d8 (pk t4 vT t7)]
(cs c8 (rt [o d2 (mv (k 0))])))
(rt [o d10 (gBinS .quo t0 (k 100)),o d2 (mv t10)]))) (rT Q2 rN)
def e149 : T Unit := (eN .leaf (eN (eS .leaf eU) eU))
noncomputable def F152 : KF := .fast 52 (sr [o d1 (g1 (opBox 39) t0),o d2 (mv (k 0))]
(.seq (sr [o d6 (fA 0 t1),o d7 (ld t6),o d8 (cl 149 (l1 t7)),o d9 (gEq t8 (k 0)),g d11 (fA 0 t1) c9 false,g d12 (ld t11) c9 false,g d13 (fA 1 t1) c9 false,g d14 (lN 3 t13) c9 false,g d15 (cl 222 (l2 t12 t14)) c9 false,g d16 (g1 (opUn .not) t15) c9 false,o d17 (pk t9 vT t16)]
(cs c17 (rt [o d2 (mv (k 1))])))
(sr [o d18 (fA 4 t1),o d19 (ld t18),o d20 (ln t19),o d21 (gLss t20 (k 1)),g d23 (fA 4 t1) c21 false,g d24 (ld t23) c21 false,g d25 (ln t24) c21 false,g d26 (gGtr t25 (k 32)) c21 false,o d27 (pk t21 vT t26),o d3 (mv t27)]
(.seq (sr [o d28 (fA 4 t1),o d29 (ld t28),o d30 (ln t29),o d31 (mv (k 0))]
(.block 0 (.loop (sr [o d32 (gLss t31 t30)]
(.seq (.cond c32 .skip
(.exit 0))
(.seq (.block 1 (sr [o d33 (ia 1 t29 t31),o d34 (ld t33),o d5 (mv t34)]
(.seq (sr [o d36 (cl 223 (l1 t5)),o d37 (g1 (opUn .not) t36)]
(cs c37 (rt [o d2 (mv (k 2))])))
(.region [g d40 (fA 1 t1) c3 false,g d41 (lN 3 t40) c3 false,g d42 (cl 192 (l1 t41)) c3 false,g d43 (lS t42) c3 false,g d44 (gAdd (k 4) t43) c3 false,g d45 (mv t5) c3 false,g d46 (lS t45) c3 false,g d47 (gAdd t44 t46) c3 false,g d48 (gGtr t47 (k 510)) c3 false,o d49 (pk t3 vT t48),o d3 (mv t49)]))))
(.region [o d50 (gAdd t31 (k 1)),o d31 (mv t50)])))))))
(.seq (sr [o d51 (mv t3)]
(cs c51 (rt [o d2 (mv (k 3))])))
(rt [o d2 (mv (k 0))])))))) (rT Q2 rN)
def e152 : T Unit := (eN (eN (eN (eN .leaf (eS .leaf eU)) eU) .leaf) (eN .leaf (eN (eN .leaf (eN .leaf eU)) (eN (eN .leaf eU) .leaf))))
noncomputable def F154 : KF := .fast 79 (sr [o d7 (g1 (opBox 69) t1),o d8 (g1 (opBox 84) t2),o d9 (g1 (opBox 84) t3),o d11 (g1 (opBox 39) t5),o d12 (mv vF)]
(.seq (.seq (.draw [⟨D18,(lN 5 t9),2,(some (Q9,some 5)),none,0⟩,⟨D19,(lN 5 t8),2,(some (Q8,some 5)),none,0⟩,⟨D20,(gEql true (.fields [(0,none,(.leaf 1)),(1,none,(.leaf 2)),(2,none,(.leaf 1)),(3,none,(.leaf 1)),(4,none,(.leaf 1))]) t18 t19),0,none,none,3⟩,⟨D21,(mv t20),0,none,none,7⟩,⟨D22,(mv t0),0,none,(some (Q21,true)),15⟩,⟨D23,(nc t22),0,none,(some (Q21,true)),31⟩,⟨D24,(fA 11 t23),0,none,(some (Q21,true)),63⟩,⟨D25,(ld t24),2,(some (Q24,none)),(some (Q21,true)),127⟩,⟨D26,(fA 0 t7),0,none,(some (Q21,true)),15⟩,⟨D27,(ld t26),2,(some (Q26,none)),(some (Q21,true)),271⟩,⟨D28,(lN 5 t9),2,(some (Q9,some 5)),(some (Q21,true)),15⟩,⟨D29,(cl 229 (l3 t25 t27 t28)),3,none,(some (Q21,true)),2047⟩,⟨D30,(gNe t29 (k 0)),0,none,(some (Q21,true)),4095⟩,⟨D31,(pk t21 t30 vF),0,none,none,8191⟩])
(cs c31 (rt [o d12 (mv vF)])))
(.seq (sr [o d32 (mv t4),o d33 (ln t32),o d34 (mv (k 0))]
(.block 0 (.loop (sr [o d35 (gLss t34 t33)]
(.seq (.cond c35 .skip
(.exit 0))
(.seq (.block 1 (sr [o d36 (ia 1 t32 t34),o d37 (ld t36),o d14 (mv t37)]
(.region [o d39 (lN 21 t7),o d40 (fA 0 t9),o d41 (ld t40),o d43 (lN 5 t11),o d44 (cl 230 (cn t0 (cn t39 (l3 t41 t14 t43))))])))
(.region [o d45 (gAdd t34 (k 1)),o d34 (mv t45)])))))))
(.seq (.draw [⟨D47,(mv t0),0,none,none,0⟩,⟨D48,(nc t47),0,none,none,1⟩,⟨D49,(fA 11 t48),0,none,none,3⟩,⟨D50,(ld t49),2,(some (Q49,none)),none,7⟩,⟨D51,(fA 0 t7),0,none,none,0⟩,⟨D52,(ld t51),2,(some (Q51,none)),none,16⟩,⟨D53,(cl 47 (l2 t50 t52)),3,none,none,63⟩,⟨D46,(mv t53),0,none,none,127⟩,⟨D54,(gEx0 t46),0,none,none,255⟩,⟨D55,(gEx1 t46),0,none,none,255⟩,⟨D56,(gExN 2 t46),0,none,none,255⟩,⟨D15,(g0 (opNewc 69 [z0,z0,z0,(.str 0 0),(.str 0 0),(.bool false),(.bool false),(.bool false),(.bool false),(.bool false),z0,z0,z0,z0,z0,(.str 0 0),(.str 0 0),(.str 0 0),(.str 0 0),.nilslice,.nilslice])),1,none,none,0⟩,⟨dNO,(sN 21 t15 t54),3,none,none,2559⟩,⟨D16,(mv t55),0,none,none,7167⟩,⟨D17,(mv t56),0,none,none,16383⟩])
(.seq (.seq (.draw [⟨D57,(mv t16),0,none,none,0⟩,⟨D58,(cl 92 (l1 t57)),3,none,none,1⟩,⟨D59,(g1 (opUn .not) t58),0,none,none,3⟩,⟨D60,(mv t59),0,none,none,7⟩,⟨D61,(mv t0),0,none,(some (Q60,true)),15⟩,⟨D62,(nc t61),0,none,(some (Q60,true)),31⟩,⟨D63,(fA 11 t62),0,none,(some (Q60,true)),63⟩,⟨D64,(ld t63),2,(some (Q63,none)),(some (Q60,true)),127⟩,⟨D65,(fA 0 t7),0,none,(some (Q60,true)),15⟩,⟨D66,(ld t65),2,(some (Q65,none)),(some (Q60,true)),271⟩,⟨D67,(cl 94 (l2 t64 t66)),3,none,(some (Q60,true)),1023⟩,⟨D68,(gEq t67 (k 0)),0,none,(some (Q60,true)),2047⟩,⟨D69,(pk t60 t68 vF),0,none,none,4095⟩])
(cs c69 (.region [o d71 (fA 0 t7),o d72 (ld t71),o d73 (gBuild [(.str 0 0),z0,z0,z0,(.str 0 0),.nilslice] [(0,1),(2,1)] (l2 (v (.str 4 1701736295)) t72)),o d74 (gBuildSlice 46 6 1 [(.str 0 0),z0,z0,z0,(.str 0 0),.nilslice] [(0,6)] (l1 t73)),o d75 (cl 45 (l2 t0 t74))])))
(rt [o d76 (fA 1 t9),o d77 (ld t76),o d78 (gEq t77 (v (.str 1 82))),o d12 (mv t78)])))))) (rT Q12 rN)
def e154 : T Unit := (eN (eN (eN (eN .leaf (eN .leaf (eS .leaf eU))) (eN (eN .leaf eU) .leaf)) .leaf) .leaf)
noncomputable def F155 : KF := .fast 29 (sr [o d5 (g1 (opBox 69) t1),o d7 (g1 (opBox 84) t3)]
(sr [o d8 (fA 1 t7),o d9 (ld t8),o d10 (gEq t9 (v (.str 1 82)))]
(cs c10 (.draw [⟨D11,(mv t0),0,none,none,0⟩,⟨D12,(nc t11),0,none,none,1⟩,⟨D13,(fA 13 t12),0,none,none,3⟩,⟨D14,(ld t13),2,(some (Q13,none)),none,7⟩,⟨D15,(fA 0 t5),0,none,none,0⟩,⟨D16,(ld t15),2,(some (Q15,none)),none,16⟩,⟨D17,(mv t2),0,none,none,0⟩,⟨D18,(cl 76 (l2 t16 t17)),3,none,none,112⟩,⟨D19,(mv t0),0,none,none,0⟩,⟨D20,(nc t19),0,none,none,256⟩,⟨D21,(fA 0 t20),0,none,none,768⟩,⟨D22,(fA 3 t21),0,none,none,1792⟩,⟨D23,(lN 4 t22),2,(some (Q22,some 4)),none,3840⟩,⟨D24,(lN 21 t5),2,(some (Q5,some 21)),none,0⟩,⟨D25,(lN 5 t7),2,(some (Q7,some 5)),none,0⟩,⟨D26,(cl 232 (l3 t23 t24 t25)),3,none,none,32752⟩,⟨D27,(gl opMax (l2 (k 0) t26)),0,none,none,65520⟩,⟨D28,(cl 231 (l3 t14 t18 t27)),3,none,none,131071⟩])))) rN
def e155 : T Unit := .leaf
noncomputable def F156 : KF := .fast 32 (sr [o d2 (mv (k 0)),o d3 (mv vF)]
(sr [o d4 (mv (k 0)),o d5 (mv vF)]
(.seq (sr [o d9 (mv (k 0))]
(.block 0 (.loop (sr [o d10 (gLss t9 (k 5))]
(.seq (.cond c10 .skip
(.exit 0))
(.seq (.block 1 (sr [o d6 (mv t9)]
(sr [o d15 (cl 233 (l2 t0 t6)),o d16 (gEx0 t15),o d17 (gEx1 t15),o d7 (mv t16),o d8 (mv t17)]
(sr [g d20 (mv t5) c8 true,g d21 (g1 (opUn .not) t20) c8 true,g d22 (mv t21) c8 true,g d23 (mv t7) c22 false,g d24 (mv t4) c22 false,g d25 (gLss t23 t24) c22 false,g d26 (pk t22 vT t25) c8 true,o d27 (pk t8 t26 vF)]
(cs c27 (.region [o d4 (mv t7),o d5 (mv vT)]))))))
(.region [o d29 (gAdd t9 (k 1)),o d9 (mv t29)])))))))
(rt [o d2 (mv t4),o d3 (mv t5)])))) (rT Q2 (rT Q3 rN))
def e156 : T Unit := (eN (eN (eN (eS eU .leaf) (eN .leaf eU)) (eN (eS eU .leaf) .leaf)) (eN (eN eU .leaf) (eN (eS .leaf eU) (eN .leaf (eN .leaf eU)))))
noncomputable def F157 : KF := .fast 37 (sr [o d2 (g1 (opBox 93) t0)]
(sr [o d8 (ld t2),o d10 (nc t8),o d11 (fA 0 t10),o dN (s1 t11 t1)]
(sr [o d12 (gMkFunc 234 nl (l1 t2)),o d4 (mv t12)]
(.seq (sr [o d5 (mv (k 1))]
(.block 0 (.loop (.seq (sr [o d14 (gLss t5 (k 4))]
(.cond c14 .skip
(.exit 0)))
(.seq (.block 1 (sr [o d17 (ld t2),o d19 (nc t17),o d20 (fA 1 t19),o d21 (gIdxAddrArr 4 64 t20 t5),o d22 (lN 64 t21),o d23 (mv (k 0))]
(.block 2 (.loop (sr [o d24 (gLss t23 (k 64))]
(.seq (.cond c24 .skip
(.exit 2))
(.seq (.block 3 (sr [o d25 (g2 (opIdxArr 64 1 none) t22 t23),o d7 (mv t25)]
(.region [o d29 (gCallV t4 (l2 t5 t7))])))
(.region [o d30 (gAdd t23 (k 1)),o d23 (mv t30)]))))))))
(.region [o d16 (gAdd t5 (k 1)),o d5 (mv t16)]))))))
(.region [o d32 (ld t2),o d33 (nc t32),o d34 (fA 257 t33),o d35 (ld t34),o d36 (gCallV t4 (l2 (k 4) t35))]))))) rN
def e157 : T Unit := (eN (eN (eN .leaf (eN eU eU)) (eN (eN eU .leaf) .leaf)) (eN (eN eU eU) (eN (eN eU .leaf) (eN .leaf (eS .leaf eU)))))
noncomputable def F158 : KF := .fast 32 (sr [o d3 (g1 (opBox 256) t1),o d4 (mv (v .nilmap))]
(.seq (sr [o d6 (fA 0 t3),o d7 (ld t6),o d8 (gEq t7 (k 4))]
(cs c8 (rt [o d10 (nc t0),o d11 (fA 257 t10),o d12 (ld t11),o d4 (mv t12)])))
(.seq (.draw [⟨D13,(mv t0),0,none,none,0⟩,⟨D14,(fA 0 t3),0,none,none,0⟩,⟨D15,(ld t14),2,(some (Q14,none)),none,2⟩,⟨D16,(fA 1 t3),0,none,none,0⟩,⟨D17,(ld t16),2,(some (Q16,none)),none,8⟩,⟨D18,(nc t13),0,none,none,1⟩,⟨D19,(fA 1 t18),0,none,none,33⟩,⟨D20,(gIdxAddrArr 4 64 t19 t15),0,none,none,103⟩,⟨D21,(gIdxAddrArr 64 1 t20 t17),0,none,none,255⟩,⟨D5,(mv t21),0,none,none,511⟩])
(.seq (sr [o d23 (nc t5),o d24 (ld t23),o d25 (gEql false (.leaf 5) t24 (v .nilmap))]
(cs c25 (.region [o d27 (g0 opMkMap),o d28 (nc t5),o dN (s1 t28 t27)])))
(rt [o d30 (nc t5),o d31 (ld t30),o d4 (mv t31)]))))) (rT Q4 rN)
def e158 : T Unit := (eN (eN (eN (eN .leaf eU) (eN eU .leaf)) .leaf) (eN (eN (eN eU .leaf) eU) .leaf))
noncomputable def F159 : KF := .fast 4 (sr [o d1 (g1 (opBox 246) t0),o d2 (mv (v .nilFunc))]
(rt [o d3 (gMkFunc 237 nl (l1 t1)),o d2 (mv t3)])) (rT Q2 rN)
def e159 : T Unit := .leaf
noncomputable def F160 : KF := .fast 27 (sr [o d4 (mv vF)]
(sr [o d9 (nc t0),o d10 (fA 258 t9),o d11 (ld t10),o d13 (gLookup false (.agg [(.int .i64 (.ofNat 0)),(.int .i64 (.ofNat 0))]) true t11 t1),o d14 (gEx0 t13),o d15 (gEx1 t13),o d5 (g0 (opNewc 256 (zs 2))),o dN (sN 2 t5 t14),o d6 (mv t15)]
(.seq (sr [o d16 (mv t6)]
(cs c16 (sr [o d18 (lN 2 t5),o d19 (cl 158 (l2 t0 t18)),o dN (g2 (opDelete false) t19 t1)]
(.region [o d22 (nc t0),o d23 (fA 258 t22),o d24 (ld t23),o dN (g2 (opDelete false) t24 t1)]))))
(rt [o d4 (mv t6)])))) (rT Q4 rN)
def e160 : T Unit := (eN (eN (eN .leaf (eN eU .leaf)) (eN (eS .leaf eU) eU)) (eN (eN (eN .leaf eU) (eN eU eU)) (eN .leaf eU)))
noncomputable def F161 : KF := .fast 32 (sr [o d4 (g1 (opBox 29) t0),o d5 (g1 (opBox 69) t1),o d6 (g1 (opBox 84) t2),o d8 (g0 (opNewc 84 [z0,(.str 0 0),z0,z0,z0])),o d9 (mv (v .nilslice)),o d10 (mv (k 0))]
(.seq (sr [o d13 (lN 4 t4),o d14 (lN 21 t5),o d15 (lN 5 t6),o d17 (cl 224 (cn t13 (l3 t14 t15 t3))),o d11 (mv t17)]
(sr [o d19 (gNe t11 (k 0))]
(cs c19 (rt [o d20 (gBuild [z0,(.str 0 0),z0,z0,z0] [] nl),o dN (sN 5 t8 t20),o d9 (mv (v .nilslice)),o d10 (mv t11)]))))
(sr [o d23 (lN 4 t4),o d24 (lN 21 t5),o d25 (lN 5 t6),o d27 (cl 228 (cn t23 (l3 t24 t25 t3))),o d28 (gEx0 t27),o d29 (gEx1 t27),o dN (sN 5 t6 t28),o d12 (mv t29)]
(rt [o d30 (lN 5 t6),o dN (sN 5 t8 t30),o d9 (mv t12),o d10 (mv (k 0))])))) (rC Q8 (some 5) (rT Q9 (rT Q10 rN)))
def e161 : T Unit := (eN (eN (eN (eN .leaf eU) (eN eU eU)) (eN .leaf (eN .leaf eU))) (eN (eN (eN .leaf eU) .leaf) (eN .leaf (eN .leaf (eN .leaf eU)))))
noncomputable def F162 : KF := .fast 82 (sr [o d3 (g1 (opBox 164) t1),o d4 (mv (k 0))]
(.seq (.draw [⟨D8,(mv t0),0,none,none,0⟩,⟨D9,(nc t8),0,none,none,1⟩,⟨D10,(fA 4 t9),0,none,none,3⟩,⟨D11,(ld t10),2,(some (Q10,none)),none,7⟩,⟨D12,(fA 0 t3),0,none,none,0⟩,⟨D13,(ld t12),2,(some (Q12,none)),none,16⟩,⟨D14,(gLookup false (.str 0 0) true t11 t13),3,none,none,63⟩,⟨D7,(mv t14),0,none,none,127⟩,⟨D15,(gEx0 t7),0,none,none,255⟩,⟨D16,(gEx1 t7),0,none,none,255⟩,⟨D5,(mv t15),0,none,none,511⟩,⟨D6,(mv t16),0,none,none,2047⟩])
(.seq (.block 0 (sr [o d18 (fA 0 t3),o d19 (ld t18),o d20 (gLss t19 (k 0)),g d22 (fA 1 t3) c20 false,g d23 (ld t22) c20 false,g d24 (gEq t23 (v (.str 0 0))) c20 false,o d25 (pk t20 vT t24),g d27 (fA 1 t3) c25 false,g d28 (ld t27) c25 false,g d29 (lS t28) c25 false,g d30 (gGtr t29 (k 255)) c25 false,o d31 (pk t25 vT t30),g d33 (fA 2 t3) c31 false,g d34 (ld t33) c31 false,g d35 (gLss t34 (v (.int .i64 (.negSucc 8)))) c31 false,o d36 (pk t31 vT t35),g d38 (fA 2 t3) c36 false,g d39 (ld t38) c36 false,g d40 (gGtr t39 (k 9)) c36 false,o d41 (pk t36 vT t40),g d43 (fA 3 t3) c41 false,g d44 (ld t43) c41 false,g d45 (gLss t44 (k 0)) c41 false,o d46 (pk t41 vT t45),g d48 (fA 3 t3) c46 false,g d49 (ld t48) c46 false,g d50 (gGtr t49 (k 1099511627776)) c46 false,o d51 (pk t46 vT t50),o d17 (mv t51)]
(.cond c17 (rt [o d4 (mv (k 1))])
(sr [g d55 (mv t0) c6 false,g d56 (fA 0 t3) c6 false,g d57 (ld t56) c6 false,g d58 (cl 238 (l2 t55 t57)) c6 false,g d59 (gGeq t58 (k 0)) c6 false,o d60 (pk t6 vT t59),o d52 (mv t60)]
(.cond c52 (rt [o d4 (mv (k 11))])
(.seq (.draw [⟨D62,(mv t0),0,none,none,0⟩,⟨D63,(nc t62),0,none,none,1⟩,⟨D64,(fA 3 t63),0,none,none,3⟩,⟨D65,(ld t64),2,(some (Q64,none)),none,7⟩,⟨D66,(ln t65),0,none,none,15⟩,⟨D67,(mv t0),0,none,none,0⟩,⟨D68,(nc t67),0,none,none,32⟩,⟨D69,(fA 2 t68),0,none,none,96⟩,⟨D70,(ld t69),2,(some (Q69,none)),none,224⟩,⟨D71,(gGeq t66 t70),0,none,none,511⟩,⟨D61,(mv t71),0,none,none,1023⟩])
(cs c61 (rt [o d4 (mv (k 6))]))))))))
(.seq (.draw [⟨D72,(mv t0),0,none,none,0⟩,⟨D73,(mv t0),0,none,none,0⟩,⟨D74,(nc t73),0,none,none,2⟩,⟨D75,(fA 3 t74),0,none,none,6⟩,⟨D76,(ld t75),2,(some (Q75,none)),none,14⟩,⟨D77,(lN 4 t3),2,(some (Q3,some 4)),none,0⟩,⟨D78,(gBuildSlice 164 4 1 [z0,(.str 0 0),z0,z0] [(0,4)] (l1 t77)),1,none,none,32⟩,⟨D79,(gAppend 164 4 40 t76 t78),3,none,none,126⟩,⟨D80,(nc t72),0,none,none,255⟩,⟨D81,(fA 3 t80),0,none,none,511⟩,⟨dNO,(s1 t81 t79),3,none,none,1023⟩])
(rt [o d4 (mv (k 0))]))))) (rT Q4 rN)
def e162 : T Unit := (eN (eN (eN (eN .leaf (eN eU .leaf)) (eN (eS .leaf eU) .leaf)) (eN .leaf (eN .leaf (eN .leaf eU)))) (eN (eN (eN .leaf (eS eU eU)) .leaf) (eN .leaf (eN .leaf (eN eU .leaf)))))
noncomputable def F163 : KF := .fast 15 (sr [o d3 (g1 (opBox 62) t1),o d4 (mv (v (.str 0 0)))]
(.seq (sr [o d5 (fA 1 t3),o d6 (ld t5),o d7 (gEq t6 (v (.str 0 0)))]
(cs c7 (rt [o d9 (nc t0),o d10 (fA 0 t9),o d11 (fA 0 t10),o d12 (ld t11),o d4 (mv t12)])))
(rt [o d13 (fA 1 t3),o d14 (ld t13),o d4 (mv t14)]))) (rT Q4 rN)
def e163 : T Unit := (eN (eN .leaf (eN .leaf eU)) .leaf)
noncomputable def F164 : KF := .fast 15 (sr [o d2 (g1 (opBox 94) t0),o d3 (g1 (opBox 3) t1),o d4 (mv (v .nilslice))]
(sr [o d6 (ld t2),o d7 (nc t6),o d8 (fA 3 t7),o d9 (ld t8),o d10 (cl 239 (l1 t9)),o d5 (mv t10)]
(sr [o d12 (gMkFunc 241 nl (l2 t3 t2)),o d13 (cl 240 (l2 t5 t12))]
(rt [o d4 (mv t5)])))) (rT Q4 rN)
def e164 : T Unit := (eN (eN (eN eU .leaf) .leaf) (eN .leaf (eN eU .leaf)))
noncomputable def F165 : KF := .fast 19 (sr [o d4 (mv (k 0))]
(.seq (sr [o d7 (ln t0),o d8 (mv (k 0))]
(.block 0 (.loop (sr [o d9 (gLss t8 t7)]
(.seq (.cond c9 .skip
(.exit 0))
(.seq (.block 1 (sr [o d5 (mv t8)]
(sr [o d14 (ia 4 t0 t5),o d15 (lN 4 t14),o d16 (gCallV t1 (l1 t15))]
(cs c16 (rt [o d4 (mv t5)])))))
(.region [o d18 (gAdd t8 (k 1)),o d8 (mv t18)])))))))
(rt [o d4 (mv (v (.int .i64 (.negSucc 0))))]))) (rT Q4 rN)
def e165 : T Unit := (eN (eN (eS .leaf eU) (eN eU .leaf)) (eN (eN eU (eN .leaf eU)) (eN eU .leaf)))
noncomputable def F166 : KF := .fast 13 (sr [o d2 (g1 (opBox 164) t0),o d3 (mv vF)]
(.seq (.draw [⟨D4,(ld t1),2,(some (Q1,none)),none,0⟩,⟨D5,(fA 1 t2),0,none,none,0⟩,⟨D6,(ld t5),2,(some (Q5,none)),none,2⟩,⟨D7,(cl 167 (l2 t4 t6)),3,none,none,7⟩,⟨D8,(ld t1),2,(some (Q1,none)),none,0⟩,⟨D9,(nc t8),0,none,none,16⟩,⟨D10,(fA 1 t9),0,none,none,48⟩,⟨D11,(ld t10),2,(some (Q10,none)),none,112⟩,⟨D12,(gLss t7 t11),0,none,none,255⟩,⟨D3,(mv t12),0,none,none,511⟩])
.ret)) (rT Q3 rN)
def e166 : T Unit := .leaf
noncomputable def F167 : KF := .fast 23 (sr [o d4 (mv (k 0))]
(sr [o d5 (mv (k 0))]
(.seq (sr [o d9 (nc t0),o d10 (fA 4 t9),o d11 (ld t10),o d12 (g1 (opRange false) t11)]
(.block 0 (.loop (sr [o d13 (g1 (opNext false) t12),o d14 (gEx0 t13)]
(.seq (.cond c14 .skip
(.exit 0))
(.block 1 (sr [o d15 (g1 opEntry t12),o d16 (gEx1 t15),o d7 (mv t16)]
(sr [o d19 (gEq t7 t1)]
(cs c19 (.region [o d21 (gAdd t5 (k 1)),o d5 (mv t21)]))))))))))
(rt [o d4 (mv t5)])))) (rT Q4 rN)
def e167 : T Unit := (eN (eN (eN (eN .leaf eU) (eN .leaf eU)) (eN (eN .leaf eU) eU)) (eN (eN .leaf (eN .leaf eU)) .leaf))
noncomputable def F168 : KF := .fast 24 (sr [o d4 (mv vF)]
(sr [o d8 (cl 238 (l2 t0 t1)),o d5 (mv t8)]
(.seq (sr [o d10 (gGeq t5 (k 0))]
(cs c10 (.region [o d13 (nc t0),o d14 (fA 3 t13),o d15 (ld t14),o d18 (gAdd t5 (k 1)),o d19 (cl 244 (l3 t15 t5 t18)),o d20 (nc t0),o d21 (fA 3 t20),o dN (s1 t21 t19)])))
(rt [o d23 (gGeq t5 (k 0)),o d4 (mv t23)])))) (rT Q4 rN)
def e168 : T Unit := (eN (eN (eS (eN .leaf eU) .leaf) (eN eU (eN .leaf eU))) (eN (eN .leaf (eS .leaf eU)) (eN eU eU)))
noncomputable def F169 : KF := .fast 53 (sr [o d4 (g1 (opBox 69) t1),o d6 (mv (v .nilptr)),o d7 (mv (k 0))]
(sr [o d13 (cl 105 (l1 t0)),o d14 (gEx0 t13),o d15 (gEx1 t13),o d8 (mv t14),o d9 (mv t15)]
(sr [o d16 (lN 21 t4),o d17 (cl 245 (l1 t16)),o d10 (mv t17)]
(.seq (.block 0 (sr [o d20 (gNe t10 (k 0)),o d18 (mv t20)]
(.cond c18 (rt [o d6 (mv (v .nilptr)),o d7 (mv t10)])
(sr [o d24 (gLss t2 (k 0)),g d26 (mv t2) c24 false,g d27 (fA 19 t4) c24 false,g d28 (ld t27) c24 false,g d29 (ln t28) c24 false,g d30 (gGeq t26 t29) c24 false,o d31 (pk t24 vT t30),o d22 (mv t31)]
(.cond c22 (rt [o d6 (mv (v .nilptr)),o d7 (mv (k 1))])
(sr [o d34 (gNe t9 (k 0)),g d36 (mv t8) c34 false,g d37 (mv t0) c34 false,g d38 (gNe t36 t37) c34 false,o d39 (pk t34 vT t38),o d32 (mv t39)]
(cs c32 (rt [o d6 (mv (v .nilptr)),o d7 (mv (k 2))]))))))))
(.seq (.draw [⟨D40,(fA 19 t4),0,none,none,0⟩,⟨D41,(ld t40),2,(some (Q40,none)),none,1⟩,⟨D42,(cl 96 (l1 t41)),3,none,none,3⟩,⟨D43,(fA 20 t4),0,none,none,0⟩,⟨D44,(ld t43),2,(some (Q43,none)),none,8⟩,⟨D45,(cl 97 (l1 t44)),3,none,none,31⟩,⟨D46,(fA 19 t4),0,none,none,31⟩,⟨dNO,(s1 t46 t42),3,none,none,127⟩,⟨D47,(fA 20 t4),0,none,none,255⟩,⟨dNO,(s1 t47 t45),3,none,none,511⟩])
(rt [o d49 (lN 21 t4),o d51 (gBuild [(.str 0 0),z0,z0,z0,(.str 0 0),(.str 0 0),(.bool false),(.bool false),(.bool false),(.bool false),(.bool false),z0,z0,z0,z0,z0,(.str 0 0),(.str 0 0),(.str 0 0),(.str 0 0),.nilslice,.nilslice,z0,z0,z0,z0,z0,z0,z0,z0,.nilslice,.nilslice,z0] [(0,1),(1,21),(22,1)] (l3 t0 t49 t2)),o d52 (g1 (opBox 233) t51),o d6 (mv t52),o d7 (mv (k 0))])))))) (rT Q6 (rT Q7 rN))
def e169 : T Unit := (eN (eN (eN .leaf (eN .leaf (eN eU .leaf))) (eN eU (eN .leaf (eN eU .leaf)))) (eN (eN (eN .leaf eU) (eN eU (eN .leaf eU))) (eN (eS .leaf (eS .leaf eU)) (eN eU .leaf))))
noncomputable def F170 : KF := .fast 9 (sr [o d2 (mv (v .nilslice))]
(rt [o d4 (nc t0),o d5 (fA 1 t4),o d6 (ld t5),o d7 (cl 247 (l1 t6)),o d8 (cl 246 (l1 t7)),o d2 (mv t8)])) (rT Q2 rN)
def e170 : T Unit := (eN .leaf (eN .leaf eU))
noncomputable def F173 : KF := .fast 17 (sr [o d4 (mv (v (.str 0 0))),o d5 (mv (k 0))]
(sr [o d11 (cl 139 (l3 t0 t1 (v .nilslice))),o d12 (gEx0 t11),o d13 (gEx1 t11),o d6 (g0 (opNewc 106 [(.str 0 0),z0])),o dN (sN 2 t6 t12),o d7 (mv t13)]
(rt [o d14 (fA 0 t6),o d15 (ld t14),o d4 (mv t15),o d5 (mv t7)]))) (rT Q4 (rT Q5 rN))
def e173 : T Unit := (eN (eN (eN .leaf eU) (eN .leaf (eS .leaf eU))) (eN (eN .leaf eU) .leaf))
noncomputable def F175 : KF := .fast 18 (sr [o d2 (mv (k 0)),o d3 (mv (v .nilIface))]
(sr [o d8 (cl 252 (l1 t0)),o d9 (gEx0 t8),o d10 (gEx1 t8),o d4 (mv t9),o d5 (mv t10)]
(.seq (sr [o d12 (gEql true (.leaf 7) t5 (v .nilIface))]
(cs c12 (rt [o d16 (cl 253 (cn (v (.str 4 1768911937)) (cn t0 (l3 (k 0) (k 0) t5)))),o d2 (mv t4),o d3 (mv t16)])))
(rt [o d2 (mv t4),o d3 (mv (v .nilIface))])))) (rT Q2 (rT Q3 rN))
def e175 : T Unit := (eN (eN (eS eU .leaf) .leaf) (eN (eN eU (eN .leaf eU)) (eN eU (eS .leaf eU))))
noncomputable def F176 : KF := .fast 9 (sr [o d4 (mv vF)]
(rt [o d7 (cl 254 (l2 t0 t1)),o d8 (gGeq t7 (k 0)),o d4 (mv t8)])) (rT Q4 rN)
def e176 : T Unit := (eN (eN eU .leaf) (eN eU .leaf))
noncomputable def F177 : KF := .fast 6 (sr [o d1 (g1 (opBox 84) t0),o d2 (mv vF)]
(rt [o d3 (fA 1 t1),o d4 (ld t3),o d5 (gEq t4 (v (.str 1 82))),o d2 (mv t5)])) (rT Q2 rN)
def e177 : T Unit := .leaf
noncomputable def F178 : KF := .fast 18 (sr [o d2 (mv (k 0))]
(.seq (sr [o d6 (mv t0),o d7 (ln t6),o d8 (mv (k 0))]
(.block 0 (.loop (sr [o d9 (gLss t8 t7)]
(.seq (.cond c9 .skip
(.exit 0))
(.seq (.block 1 (sr [o d10 (ia 1 t6 t8),o d11 (ld t10),o d4 (mv t11)]
(sr [o d13 (gCallV t4 nl),o d5 (mv t13)]
(sr [o d15 (gNe t5 (k 0))]
(cs c15 (rt [o d2 (mv t5)]))))))
(.region [o d17 (gAdd t8 (k 1)),o d8 (mv t17)])))))))
(rt [o d2 (mv (k 0))]))) (rT Q2 rN)
def e178 : T Unit := (eN (eN (eN eU .leaf) (eN eU (eN .leaf eU))) .leaf)
noncomputable def F181 : KF := .fast 10 (sr [o d4 (mv (v (.str 0 0)))]
(rt [o d6 (gAdd t0 (v (.str 1 46))),o d8 (cl 71 (l1 t1)),o d9 (gAdd t6 t8),o d4 (mv t9)])) (rT Q4 rN)
def e181 : T Unit := (eN .leaf (eN eU (eN .leaf eU)))
noncomputable def F184 : KF := .fast 55 (sr [o d4 (mv (k 0))]
(.seq (sr [o d12 (gEq t1 (v (.str 0 0)))]
(cs c12 (rt [o d4 (mv (v (.int .i64 (.negSucc 0))))])))
(.seq (sr [o d14 (lS t1),o d15 (gEq t14 (k 1))]
(cs c15 (sr [o d17 (gIdxStr t1 (k 0)),o d18 (gConvInt .i32 t17),o d5 (mv t18)]
(.seq (sr [o d20 (gGeq t5 (v (.int .i32 (.ofNat 128))))]
(cs c20 (.region [o d5 (mv (v (.int .i32 (.ofNat 65533))))])))
(rt [o d23 (cl 256 (l2 t0 t5)),o d4 (mv t23)])))))
(.seq (sr [o d25 (lS t0),o d26 (cl 257 (l1 t25))]
(cs c26 (sr [o d29 (cl 199 (l1 t1)),o d30 (gEx0 t29),o d31 (gEx1 t29),o d6 (g0 (opNewc 292 [(.bool false),(.bool false),(.bool false),(.bool false),(.bool false),(.bool false),(.bool false),(.bool false),(.bool false),(.bool false),(.bool false),(.bool false),(.bool false),(.bool false),(.bool false),(.bool false),(.bool false),(.bool false),(.bool false),(.bool false),(.bool false),(.bool false),(.bool false),(.bool false),(.bool false),(.bool false),(.bool false),(.bool false),(.bool false),(.bool false),(.bool false),(.bool false),(.bool false),(.bool false),(.bool false),(.bool false),(.bool false),(.bool false),(.bool false),(.bool false),(.bool false),(.bool false),(.bool false),(.bool false),(.bool false),(.bool false),(.bool false),(.bool false),(.bool false),(.bool false),(.bool false),(.bool false),(.bool false),(.bool false),(.bool false),(.bool false),(.bool false),(.bool false),(.bool false),(.bool false),(.bool false),(.bool false),(.bool false),(.bool false),(.bool false),(.bool false),(.bool false),(.bool false),(.bool false),(.bool false),(.bool false),(.bool false),(.bool false),(.bool false),(.bool false),(.bool false),(.bool false),(.bool false),(.bool false),(.bool false),(.bool false),(.bool false),(.bool false),(.bool false),(.bool false),(.bool false),(.bool false),(.bool false),(.bool false),(.bool false),(.bool false),(.bool false),(.bool false),(.bool false),(.bool false),(.bool false),(.bool false),(.bool false),(.bool false),(.bool false),(.bool false),(.bool false),(.bool false),(.bool false),(.bool false),(.bool false),(.bool false),(.bool false),(.bool false),(.bool false),(.bool false),(.bool false),(.bool false),(.bool false),(.bool false),(.bool false),(.bool false),(.bool false),(.bool false),(.bool false),(.bool false),(.bool false),(.bool false),(.bool false),(.bool false),(.bool false),(.bool false),(.bool false),(.bool false),(.bool false),(.bool false),(.bool false),(.bool false),(.bool false),(.bool false),(.bool false),(.bool false),(.bool false),(.bool false),(.bool false),(.bool false),(.bool false),(.bool false),(.bool false),(.bool false),(.bool false),(.bool false),(.bool false),(.bool false),(.bool false),(.bool false),(.bool false),(.bool false),(.bool false),(.bool false),(.bool false),(.bool false),(.bool false),(.bool false),(.bool false),(.bool false),(.bool false),(.bool false),(.bool false),(.bool false),(.bool false),(.bool false),(.bool false),(.bool false),(.bool false),(.bool false),(.bool false),(.bool false),(.bool false),(.bool false),(.bool false),(.bool false),(.bool false),(.bool false),(.bool false),(.bool false),(.bool false),(.bool false),(.bool false),(.bool false),(.bool false),(.bool false),(.bool false),(.bool false),(.bool false),(.bool false),(.bool false),(.bool false),(.bool false),(.bool false),(.bool false),(.bool false),(.bool false),(.bool false),(.bool false),(.bool false),(.bool false),(.bool false),(.bool false),(.bool false),(.bool false),(.bool false),(.bool false),(.bool false),(.bool false),(.bool false),(.bool false),(.bool false),(.bool false),(.bool false),(.bool false),(.bool false),(.bool false),(.bool false),(.bool false),(.bool false),(.bool false),(.bool false),(.bool false),(.bool false),(.bool false),(.bool false),(.bool false),(.bool false),(.bool false),(.bool false),(.bool false),(.bool false),(.bool false),(.bool false),(.bool false),(.bool false),(.bool false),(.bool false),(.bool false),(.bool false),(.bool false),(.bool false),(.bool false),(.bool false),(.bool false),(.bool false),(.bool false),(.bool false),(.bool false),(.bool false),(.bool false),(.bool false),(.bool false),(.bool false),(.bool false)])),o dN (sN 256 t6 t30),o d7 (mv t31)]
(sr [o d32 (mv t7)]
(cs c32 (.seq (sr [o d8 (mv (k 0))]
(.block 0 (.loop (.seq (sr [o d35 (lS t0),o d36 (gLss t8 t35)]
(.cond c36 .skip
(.exit 0)))
(.seq (.block 1 (sr [o d41 (gIdxStr t0 t8),o d42 (cl 258 (l2 t6 t41))]
(cs c42 (rt [o d4 (mv t8)]))))
(.region [o d38 (gAdd t8 (k 1)),o d8 (mv t38)]))))))
(rt [o d4 (mv (v (.int .i64 (.negSucc 0))))])))))))
(.seq (sr [o d45 (g1 (opRange true) t0)]
(.block 2 (.loop (sr [o d46 (g1 (opNext true) t45),o d47 (gEx0 t46)]
(.seq (.cond c47 .skip
(.exit 2))
(.block 3 (sr [o d48 (gEx1 t46),o d49 (gExN 2 t46),o d9 (mv t48),o d10 (mv t49)]
(sr [o d52 (cl 256 (l2 t1 t10)),o d53 (gGeq t52 (k 0))]
(cs c53 (rt [o d4 (mv t9)]))))))))))
(rt [o d4 (mv (v (.int .i64 (.negSucc 0))))])))))) (rT Q4 rN)
def e184 : T Unit := (eN (eN (eN (eN .leaf (eS eU .leaf)) (eN .leaf (eN eU eU))) (eN (eN (eS .leaf eU) .leaf) (eN (eS .leaf eU) eU))) (eN (eN (eS .leaf (eS .leaf eU)) (eN .leaf (eN .leaf eU))) (eN (eS (eS .leaf eU) (eS eU .leaf)) (eN (eN .leaf eU) .leaf))))
noncomputable def F188 : KF := .fast 8 (sr [o d2 (mv (k 0))]
(.seq (cs (kvR (.bool false)) (rt [o d4 (gConvInt .u32 t0),o d5 (cl 268 (l1 t4)),o d2 (mv t5)]))
(rt [o d7 (cl 269 (l1 t0)),o d2 (mv t7)]))) (rT Q2 rN)
def e188 : T Unit := (eN (eN eU .leaf) (eN .leaf eU))
noncomputable def F189 : KF := .fast 8 (sr [o d4 (mv (v .nilFunc))]
(rt [o d7 (cl 270 (l3 t0 t1 (k 0))),o d4 (mv t7)])) (rT Q4 rN)
def e189 : T Unit := (eN (eN eU .leaf) (eN eU .leaf))
noncomputable def F190 : KF := .fast 25 (sr [o d2 (mv vF)]
(rt [o d4 (gGeq t0 (v (.int .u8 (.ofNat 97)))),g d6 (mv t0) c4 true,g d7 (gLeq t6 (v (.int .u8 (.ofNat 122)))) c4 true,o d8 (pk t4 t7 vF),g d10 (mv t0) c8 false,g d11 (gGeq t10 (v (.int .u8 (.ofNat 65)))) c8 false,g d12 (mv t11) c8 false,g d13 (mv t0) c12 true,g d14 (gLeq t13 (v (.int .u8 (.ofNat 90)))) c12 true,g d15 (pk t12 t14 vF) c8 false,o d16 (pk t8 vT t15),g d18 (mv t0) c16 false,g d19 (gGeq t18 (v (.int .u8 (.ofNat 48)))) c16 false,g d20 (mv t19) c16 false,g d21 (mv t0) c20 true,g d22 (gLeq t21 (v (.int .u8 (.ofNat 57)))) c20 true,g d23 (pk t20 t22 vF) c16 false,o d24 (pk t16 vT t23),o d2 (mv t24)])) (rT Q2 rN)
def e190 : T Unit := (eN .leaf (eN (eS .leaf (eS .leaf eU)) eU))
noncomputable def F191 : KF := .fast 78 (sr [o d2 (mv (v (.str 0 0)))]
(sr [o d3 (mv vT),o d4 (mv vF)]
(.seq (sr [o d5 (mv (k 0))]
(.block 0 (.loop (.seq (sr [o d13 (lS t0),o d14 (gLss t5 t13)]
(.cond c14 .skip
(.exit 0)))
(.seq (.block 1 (sr [o d19 (gIdxStr t0 t5),o d6 (mv t19)]
(.seq (sr [o d21 (gGeq t6 (v (.int .u8 (.ofNat 128))))]
(cs c21 (sr [o d3 (mv vF)]
(.exit 0))))
(.region [g d24 (mv t6) c4 false,g d25 (gLeq (v (.int .u8 (.ofNat 65))) t24) c4 false,g d26 (mv t25) c4 false,g d27 (mv t6) c26 true,g d28 (gLeq t27 (v (.int .u8 (.ofNat 90)))) c26 true,g d29 (pk t26 t28 vF) c4 false,o d30 (pk t4 vT t29),o d4 (mv t30)]))))
(.region [o d16 (gAdd t5 (k 1)),o d5 (mv t16)]))))))
(.seq (sr [o d31 (mv t3)]
(cs c31 (.seq (sr [o d33 (g1 (opUn .not) t4)]
(cs c33 (rt [o d2 (mv t0)])))
(sr [o d7 (g0 (opNewc 111 [.nilptr,.nilslice]))]
(sr [o d8 (mv (k 0))]
(sr [o d36 (lS t0),o d37 (cl 271 (l2 t7 t36))]
(.seq (sr [o d9 (mv (k 0))]
(.block 2 (.loop (.seq (sr [o d40 (lS t0),o d41 (gLss t9 t40)]
(.cond c41 .skip
(.exit 2)))
(.seq (.block 3 (sr [o d46 (gIdxStr t0 t9),o d10 (mv t46)]
(sr [o d48 (gLeq (v (.int .u8 (.ofNat 65))) t10),g d50 (mv t10) c48 true,g d51 (gLeq t50 (v (.int .u8 (.ofNat 90)))) c48 true,o d52 (pk t48 t51 vF)]
(cs c52 (sr [o d54 (gAdd t10 (v (.int .u8 (.ofNat 32)))),o d10 (mv t54)]
(.seq (sr [o d57 (gLss t8 t9)]
(cs c57 (.region [o d61 (gSliceStr t0 (os t8) (os t9)),o d62 (cl 50 (l2 t7 t61))])))
(sr [o d64 (cl 272 (l2 t7 t10))]
(.region [o d66 (gAdd t9 (k 1)),o d8 (mv t66)]))))))))
(.region [o d43 (gAdd t9 (k 1)),o d9 (mv t43)]))))))
(.seq (sr [o d69 (lS t0),o d70 (gLss t8 t69)]
(cs c70 (.region [o d73 (gSliceStr t0 (os t8) on),o d74 (cl 50 (l2 t7 t73))])))
(rt [o d75 (cl 51 (l1 t7)),o d2 (mv t75)])))))))))
(rt [o d77 (cl 273 (l2 (v (.func (.func 274) [] [])) t0)),o d2 (mv t77)]))))) (rT Q2 rN)
def e191 : T Unit := (eN (eN (eN (eN .leaf (eS .leaf eU)) (eN (eN eU eU) (eS .leaf eU))) (eN (eS (eN eU (eS .leaf eU)) (eS .leaf (eN .leaf eU))) (eN (eN eU (eN .leaf eU)) (eN .leaf eU)))) (eN (eN (eN (eN .leaf eU) (eN eU .leaf)) (eN .leaf (eS eU (eN .leaf eU)))) (eN (eS (eN eU .leaf) (eN .leaf (eS .leaf eU))) (eN (eS eU (eS .leaf eU)) (eS eU (eN .leaf eU))))))
noncomputable def F192 : KF := .fast 20 (sr [o d1 (g1 (opBox 37) t0),o d2 (mv (v (.str 0 0)))]
(.seq (sr [o d3 (lN 3 t1),o d4 (gBuild (zs 3) [] nl),o d5 (gEql false (.fields [(0,none,(.leaf 1)),(1,none,(.leaf 1)),(2,none,(.leaf 1))]) t3 t4)]
(cs c5 (rt [o d2 (mv (v (.str 0 0)))])))
(.seq (.draw [⟨D6,(gIdxAddrArr 3 1 t1 (k 0)),0,none,none,0⟩,⟨D7,(ld t6),2,(some (Q6,none)),none,1⟩,⟨D8,(cl 71 (l1 t7)),3,none,none,3⟩,⟨D9,(gAdd t8 (v (.str 1 46))),0,none,none,7⟩,⟨D10,(gIdxAddrArr 3 1 t1 (k 1)),0,none,none,0⟩,⟨D11,(ld t10),2,(some (Q10,none)),none,16⟩,⟨D12,(cl 71 (l1 t11)),3,none,none,55⟩,⟨D13,(gAdd t9 t12),0,none,none,127⟩,⟨D14,(gAdd t13 (v (.str 1 46))),0,none,none,255⟩,⟨D15,(gIdxAddrArr 3 1 t1 (k 2)),0,none,none,0⟩,⟨D16,(ld t15),2,(some (Q15,none)),none,512⟩,⟨D17,(cl 71 (l1 t16)),3,none,none,1655⟩,⟨D18,(gAdd t14 t17),0,none,none,4095⟩,⟨D19,(gAdd t18 (v (.str 1 32))),0,none,none,8191⟩,⟨D2,(mv t19),0,none,none,16383⟩])
.ret))) (rT Q2 rN)
def e192 : T Unit := .leaf
noncomputable def F193 : KF := .fast 96 (sr [o d2 (g0 (opNewc 39 [z0,z0,z0,z0,.nilslice])),o d3 (mv vF)]
(sr [o d9 (nc t0),o d10 (fA 6 t9),o d11 (fA 20 t10),o d12 (ld t11),o d13 (cl 27 (l1 t12)),o d14 (gEx0 t13),o d15 (gEx1 t13),o d4 (mv t14),o d5 (mv t15)]
(sr [o d16 (gBuild [z0,z0,z0,z0,.nilslice] [] nl),o d6 (g0 (opNewc 39 [z0,z0,z0,z0,.nilslice])),o dN (sN 5 t6 t16)]
(.seq (.block 0 (sr [o d66 (lS t4),o d68 (nc t0),o d69 (fA 1 t68),o d70 (ld t69),o d71 (gGtr t66 t70),o d64 (mv t71)]
(.cond c64 (.region [o d72 (gBuildSlice 9 1 1 [(.str 0 0)] [(0,1)] (l1 (v (.str 4 1702521203)))),o d73 (cl 107 (l3 (k 552) (v (.str 5 224113405493)) t72)),o dN (sN 5 t6 t73)])
(sr [o d76 (nc t0),o d77 (fA 27 t76),o d78 (ld t77),g d80 (mv t5) c78 false,g d81 (gNe t80 (k 0)) c78 false,o d82 (pk t78 vT t81),o d74 (mv t82)]
(.cond c74 (.region [o d83 (gBuildSlice 9 1 1 [(.str 0 0)] [(0,1)] (l1 (v (.str 4 1836216166)))),o d84 (cl 107 (l3 (k 554) (v (.str 5 206933732917)) t83)),o dN (sN 5 t6 t84)])
(sr [o d87 (nc t0),o d88 (fA 5 t87),o d89 (ld t88),o d90 (g1 (opUn .not) t89),o d85 (mv t90)]
(.cond c85 (.region [o d91 (gBuildSlice 9 1 1 [(.str 0 0)] [(0,1)] (l1 (v (.str 4 1836019570)))),o d92 (cl 107 (l3 (k 452) (v (.str 5 211228503604)) t91)),o dN (sN 5 t6 t92)])
(sr [o d19 (nc t0),o d20 (fA 4 t19),o d21 (ld t20),o d22 (nc t0),o d23 (fA 6 t22),o d24 (fA 1 t23),o dN (s1 t24 t21)]
(.seq (.draw [⟨D25,(mv t0),0,none,none,0⟩,⟨D26,(mv t0),0,none,none,0⟩,⟨D27,(nc t26),0,none,none,2⟩,⟨D28,(fA 4 t27),0,none,none,6⟩,⟨D29,(ld t28),2,(some (Q28,none)),none,14⟩,⟨D30,(mv t0),0,none,none,0⟩,⟨D31,(nc t30),0,none,none,32⟩,⟨D32,(fA 6 t31),0,none,none,96⟩,⟨D33,(fA 5 t32),0,none,none,224⟩,⟨D34,(fA 6 t33),0,none,none,480⟩,⟨D35,(ld t34),2,(some (Q34,none)),none,992⟩,⟨D36,(gAdd t29 t35),0,none,none,2046⟩,⟨D37,(mv t0),0,none,none,0⟩,⟨D38,(nc t37),0,none,none,4096⟩,⟨D39,(fA 6 t38),0,none,none,12288⟩,⟨D40,(fA 5 t39),0,none,none,28672⟩,⟨D41,(fA 7 t40),0,none,none,61440⟩,⟨D42,(ld t41),2,(some (Q41,none)),none,126976⟩,⟨D43,(gl opMax (l2 t36 t42)),0,none,none,262142⟩,⟨D44,(mv t0),0,none,none,0⟩,⟨D45,(nc t44),0,none,none,524288⟩,⟨D46,(fA 4 t45),0,none,none,1572864⟩,⟨D47,(ld t46),2,(some (Q46,none)),none,3670016⟩,⟨D48,(mv t0),0,none,none,0⟩,⟨D49,(nc t48),0,none,none,8388608⟩,⟨D50,(fA 2 t49),0,none,none,25165824⟩,⟨D51,(ld t50),2,(some (Q50,none)),none,58720256⟩,⟨D52,(gAdd t47 t51),0,none,none,133693440⟩,⟨D53,(gl opMin (l2 t43 t52)),0,none,none,268435454⟩,⟨D54,(nc t25),0,none,none,536870911⟩,⟨D55,(fA 6 t54),0,none,none,1073741823⟩,⟨D56,(fA 2 t55),0,none,none,2147483647⟩,⟨dNO,(s1 t56 t53),3,none,none,4294967295⟩])
(sr [o d59 (nc t0),o d60 (fA 3 t59),o dN (s1 t60 (k 1)),o d61 (nc t0),o d62 (fA 28 t61),o dN (s1 t62 vT)]
(rt [o d63 (gBuild [z0,z0,z0,z0,.nilslice] [] nl),o dN (sN 5 t2 t63),o d3 (mv vF)])))))))))))
(sr [o d94 (cl 110 (l1 t0))]
(rt [o d95 (lN 5 t6),o dN (sN 5 t2 t95),o d3 (mv vT)])))))) (rC Q2 (some 5) (rT Q3 rN))
def e193 : T Unit := (eN (eN (eN (eN .leaf (eN (eN .leaf eU) .leaf)) (eN (eN eU .leaf) eU)) (eN .leaf eU)) (eN (eN (eN (eN (eN .leaf eU) .leaf) .leaf) (eN (eN eU .leaf) (eS .leaf (eN .leaf eU)))) (eN (eN (eN .leaf (eN .leaf eU)) (eN .leaf (eN .leaf eU))) (eS .leaf (eN (eN .leaf eU) .leaf)))))
noncomputable def F194 : KF := .fast 8 (sr [o d4 (mv (v (.str 0 0)))]
(rt [o d7 (cl 275 (l2 t0 t1)),o d4 (mv t7)])) (rT Q4 rN)
def e194 : T Unit := (eN (eN eU .leaf) (eN eU .leaf))
noncomputable def F195 : KF := .fast 50 (sr [o d2 (mv (v (.str 0 0))),o d3 (mv (k 0))]
(.seq (sr [o d7 (gLss t0 (k 0)),g d9 (mv t0) c7 false,g d10 (gGeq t9 (k 253402300800)) c7 false,o d11 (pk t7 vT t10)]
(cs c11 (rt [o d2 (mv (v (.str 0 0))),o d3 (mv (k 1))])))
(sr [o d14 (gBinS .quo t0 (k 86400)),o d15 (cl 276 (l1 t14)),o d16 (gEx0 t15),o d17 (gEx1 t15),o d4 (g0 (opNewc 362 (zs 3))),o dN (sN 3 t4 t16)]
(sr [o d19 (gBinS .rem t0 (k 86400)),o d0 (mv t19)]
(.seq (.draw [⟨D20,(fA 0 t4),0,none,none,0⟩,⟨D21,(ld t20),2,(some (Q20,none)),none,1⟩,⟨D22,(cl 277 (l2 t21 (k 4))),3,none,none,3⟩,⟨D23,(gAdd t22 (v (.str 1 45))),0,none,none,7⟩,⟨D24,(fA 1 t4),0,none,none,0⟩,⟨D25,(ld t24),2,(some (Q24,none)),none,16⟩,⟨D26,(cl 277 (l2 t25 (k 2))),3,none,none,55⟩,⟨D27,(gAdd t23 t26),0,none,none,127⟩,⟨D28,(gAdd t27 (v (.str 1 45))),0,none,none,255⟩,⟨D29,(fA 2 t4),0,none,none,0⟩,⟨D30,(ld t29),2,(some (Q29,none)),none,512⟩,⟨D31,(cl 277 (l2 t30 (k 2))),3,none,none,1655⟩,⟨D32,(gAdd t28 t31),0,none,none,4095⟩,⟨D33,(gAdd t32 (v (.str 1 84))),0,none,none,8191⟩,⟨D34,(mv t0),0,none,none,0⟩,⟨D35,(gBinS .quo t34 (k 3600)),0,none,none,16384⟩,⟨D36,(cl 277 (l2 t35 (k 2))),3,none,none,52855⟩,⟨D37,(gAdd t33 t36),0,none,none,131071⟩,⟨D38,(gAdd t37 (v (.str 1 58))),0,none,none,262143⟩,⟨D39,(mv t0),0,none,none,0⟩,⟨D40,(gBinS .quo t39 (k 60)),0,none,none,524288⟩,⟨D41,(gBinS .rem t40 (k 60)),0,none,none,1572864⟩,⟨D42,(cl 277 (l2 t41 (k 2))),3,none,none,3788407⟩,⟨D43,(gAdd t38 t42),0,none,none,8388607⟩,⟨D44,(gAdd t43 (v (.str 1 58))),0,none,none,16777215⟩,⟨D45,(mv t0),0,none,none,0⟩,⟨D46,(gBinS .rem t45 (k 60)),0,none,none,33554432⟩,⟨D47,(cl 277 (l2 t46 (k 2))),3,none,none,108646007⟩,⟨D48,(gAdd t44 t47),0,none,none,268435455⟩,⟨D49,(gAdd t48 (v (.str 1 90))),0,none,none,536870911⟩,⟨D2,(mv t49),0,none,none,1073741823⟩,⟨D3,(mv (k 0)),0,none,none,2147483647⟩])
.ret))))) (rT Q2 (rT Q3 rN))
def e195 : T Unit := (eN (eN (eS .leaf (eN .leaf eU)) (eN eU eU)) (eN (eS eU .leaf) .leaf))
noncomputable def F196 : KF := .fast 13 (sr [o d4 (mv (v (.str 0 0))),o d5 (mv (v (.str 0 0))),o d6 (mv vF)]
(rt [o d9 (cl 278 (l2 t0 t1)),o d10 (gEx0 t9),o d11 (gEx1 t9),o d12 (gExN 2 t9),o d4 (mv t10),o d5 (mv t11),o d6 (mv t12)])) (rT Q4 (rT Q5 (rT Q6 rN)))
def e196 : T Unit := (eN (eN .leaf (eN .leaf eU)) (eN .leaf (eN .leaf eU)))
noncomputable def F197 : KF := .fast 30 (sr [o d2 (mv (v (.str 0 0)))]
(sr [o d7 (g1 (opBytesOfStr 5) t0),o d3 (mv t7)]
(.seq (sr [o d8 (mv t3),o d9 (ln t8),o d10 (mv (k 0))]
(.block 0 (.loop (sr [o d11 (gLss t10 t9)]
(.seq (.cond c11 .skip
(.exit 0))
(.seq (.block 1 (sr [o d13 (ia 1 t8 t10),o d14 (ld t13),o d4 (mv t10),o d5 (mv t14)]
(sr [o d16 (gGeq t5 (v (.int .u8 (.ofNat 97)))),g d18 (mv t5) c16 true,g d19 (gLeq t18 (v (.int .u8 (.ofNat 122)))) c16 true,o d20 (pk t16 t19 vF)]
(cs c20 (.region [o d24 (gSub t5 (v (.int .u8 (.ofNat 97)))),o d25 (gAdd t24 (v (.int .u8 (.ofNat 65)))),o d26 (ia 1 t3 t4),o dN (s1 t26 t25)])))))
(.region [o d27 (gAdd t10 (k 1)),o d10 (mv t27)])))))))
(rt [o d29 (g1 opStrOfBytes t3),o d2 (mv t29)])))) (rT Q2 rN)
def e197 : T Unit := (eN (eN (eS (eN .leaf eU) .leaf) (eN (eS eU .leaf) .leaf)) (eN (eN (eN .leaf eU) (eN .leaf eU)) (eN .leaf (eN eU eU))))
noncomputable def F198 : KF := .fast 23 (sr [o d4 (mv (v (.str 0 0)))]
(.seq (.block 0 (.loop (.seq (sr [o d6 (lS t0),o d7 (gGtr t6 (k 0)),g d9 (mv t0) c7 true,g d10 (mv t0) c7 true,g d11 (lS t10) c7 true,g d12 (gSub t11 (k 1)) c7 true,g d13 (gIdxStr t9 t12) c7 true,g d14 (mv t1) c7 true,g d15 (gEq t13 t14) c7 true,o d16 (pk t7 t15 vF)]
(.cond c16 .skip
(.exit 0)))
(.block 1 (.region [o d19 (lS t0),o d20 (gSub t19 (k 1)),o d21 (gSliceStr t0 on (os t20)),o d0 (mv t21)])))))
(rt [o d4 (mv t0)]))) (rT Q4 rN)
def e198 : T Unit := (eN (eN (eN (eN .leaf eU) (eN .leaf eU)) (eN .leaf eU)) (eN (eS .leaf (eN .leaf eU)) .leaf))
noncomputable def F199 : KF := .fast 21 (sr [o d2 (g0 (opNewc 292 [(.bool false),(.bool false),(.bool false),(.bool false),(.bool false),(.bool false),(.bool false),(.bool false),(.bool false),(.bool false),(.bool false),(.bool false),(.bool false),(.bool false),(.bool false),(.bool false),(.bool false),(.bool false),(.bool false),(.bool false),(.bool false),(.bool false),(.bool false),(.bool false),(.bool false),(.bool false),(.bool false),(.bool false),(.bool false),(.bool false),(.bool false),(.bool false),(.bool false),(.bool false),(.bool false),(.bool false),(.bool false),(.bool false),(.bool false),(.bool false),(.bool false),(.bool false),(.bool false),(.bool false),(.bool false),(.bool false),(.bool false),(.bool false),(.bool false),(.bool false),(.bool false),(.bool false),(.bool false),(.bool false),(.bool false),(.bool false),(.bool false),(.bool false),(.bool false),(.bool false),(.bool false),(.bool false),(.bool false),(.bool false),(.bool false),(.bool false),(.bool false),(.bool false),(.bool false),(.bool false),(.bool false),(.bool false),(.bool false),(.bool false),(.bool false),(.bool false),(.bool false),(.bool false),(.bool false),(.bool false),(.bool false),(.bool false),(.bool false),(.bool false),(.bool false),(.bool false),(.bool false),(.bool false),(.bool false),(.bool false),(.bool false),(.bool false),(.bool false),(.bool false),(.bool false),(.bool false),(.bool false),(.bool false),(.bool false),(.bool false),(.bool false),(.bool false),(.bool false),(.bool false),(.bool false),(.bool false),(.bool false),(.bool false),(.bool false),(.bool false),(.bool false),(.bool false),(.bool false),(.bool false),(.bool false),(.bool false),(.bool false),(.bool false),(.bool false),(.bool false),(.bool false),(.bool false),(.bool false),(.bool false),(.bool false),(.bool false),(.bool false),(.bool false),(.bool false),(.bool false),(.bool false),(.bool false),(.bool false),(.bool false),(.bool false),(.bool false),(.bool false),(.bool false),(.bool false),(.bool false),(.bool false),(.bool false),(.bool false),(.bool false),(.bool false),(.bool false),(.bool false),(.bool false),(.bool false),(.bool false),(.bool false),(.bool false),(.bool false),(.bool false),(.bool false),(.bool false),(.bool false),(.bool false),(.bool false),(.bool false),(.bool false),(.bool false),(.bool false),(.bool false),(.bool false),(.bool false),(.bool false),(.bool false),(.bool false),(.bool false),(.bool false),(.bool false),(.bool false),(.bool false),(.bool false),(.bool false),(.bool false),(.bool false),(.bool false),(.bool false),(.bool false),(.bool false),(.bool false),(.bool false),(.bool false),(.bool false),(.bool false),(.bool false),(.bool false),(.bool false),(.bool false),(.bool false),(.bool false),(.bool false),(.bool false),(.bool false),(.bool false),(.bool false),(.bool false),(.bool false),(.bool false),(.bool false),(.bool false),(.bool false),(.bool false),(.bool false),(.bool false),(.bool false),(.bool false),(.bool false),(.bool false),(.bool false),(.bool false),(.bool false),(.bool false),(.bool false),(.bool false),(.bool false),(.bool false),(.bool false),(.bool false),(.bool false),(.bool false),(.bool false),(.bool false),(.bool false),(.bool false),(.bool false),(.bool false),(.bool false),(.bool false),(.bool false),(.bool false),(.bool false),(.bool false),(.bool false),(.bool false),(.bool false),(.bool false),(.bool false),(.bool false),(.bool false),(.bool false),(.bool false),(.bool false),(.bool false),(.bool false),(.bool false),(.bool false),(.bool false),(.bool false),(.bool false),(.bool false),(.bool false),(.bool false),(.bool false)])),o d3 (mv vF)]
(.seq (sr [o d4 (mv (k 0))]
(.block 0 (.loop (.seq (sr [o d8 (lS t0),o d9 (gLss t4 t8)]
(.cond c9 .skip
(.exit 0)))
(.seq (.block 1 (sr [o d14 (gIdxStr t0 t4),o d5 (mv t14)]
(.seq (sr [o d16 (gGeq t5 (v (.int .u8 (.ofNat 128))))]
(cs c16 (rt [o d17 (lN 256 t2),o dN (sN 256 t2 t17),o d3 (mv vF)])))
(.region [o d19 (gIdxAddrArr 256 1 t2 t5),o dN (s1 t19 vT)]))))
(.region [o d11 (gAdd t4 (k 1)),o d4 (mv t11)]))))))
(rt [o d20 (lN 256 t2),o dN (sN 256 t2 t20),o d3 (mv vT)]))) (rC Q2 (some 256) (rT Q3 rN))
def e199 : T Unit := (eN (eN (eS .leaf (eS .leaf eU)) (eN eU .leaf)) (eN (eN eU .leaf) (eN .leaf (eS .leaf eU))))
noncomputable def F202 : KF := .fast 24 (sr [o d6 (mv (k 0))]
(sr [o d11 (cl 105 (l1 t1)),o d12 (gEx0 t11),o d13 (gEx1 t11),o d7 (mv t12),o d8 (mv t13)]
(.seq (sr [o d15 (g1 (opUn .not) t2),g d17 (mv t8) c15 false,g d18 (gNe t17 (k 0)) c15 false,o d19 (pk t15 vT t18)]
(cs c19 (rt [o d6 (mv (k 2))])))
(sr [o d22 (nc t0),o d23 (fA 1 t22),o dN (s1 t23 t7)]
(rt [o d6 (mv (k 0))]))))) (rT Q6 rN)
def e202 : T Unit := (eN (eN (eN eU eU) (eN (eN .leaf eU) (eN .leaf eU))) (eN (eN (eN .leaf eU) eU) .leaf))
noncomputable def F203 : KF := .fast 44 (sr [o d6 (mv (k 0))]
(sr [o d12 (cl 281 (l3 t0 t1 (v (.str 5 250405147206)))),o d13 (gEx0 t12),o d14 (gEx1 t12),o d7 (mv t13),o d8 (mv t14)]
(.seq (sr [o d16 (gEq t8 (k 0)),g d18 (mv t0) c16 true,g d19 (nc t18) c16 true,g d20 (fA 2 t19) c16 true,g d21 (fA 1 t20) c16 true,g d22 (ld t21) c16 true,g d23 (gEq t22 (v (.str 0 0))) c16 true,o d24 (pk t16 t23 vF),g d26 (mv t0) c24 true,g d27 (nc t26) c24 true,g d28 (fA 2 t27) c24 true,g d29 (fA 0 t28) c24 true,g d30 (ld t29) c24 true,g d31 (gNe t30 (v (.str 0 0))) c24 true,o d32 (pk t24 t31 vF)]
(cs c32 (.region [o d8 (mv (k 2))])))
(.seq (sr [o d34 (gEq t8 (k 0))]
(cs c34 (.region [o d38 (cl 282 (l1 t7)),o d39 (gEx0 t38),o d40 (gEx1 t38),o d41 (nc t0),o d42 (fA 4 t41),o dN (sN 14 t42 t39),o d8 (mv t40)])))
(rt [o d6 (mv t8)]))))) (rT Q6 rN)
def e203 : T Unit := (eN (eN (eN .leaf eU) (eN (eN .leaf (eN .leaf eU)) .leaf)) (eN (eN (eN .leaf (eN .leaf eU)) (eS eU (eS .leaf eU))) (eN (eS (eN .leaf eU) (eN .leaf eU)) (eN .leaf eU))))
noncomputable def F204 : KF := .fast 35 (sr [o d6 (mv (k 0))]
(sr [o d12 (cl 281 (l3 t0 t1 (v (.str 3 3821396)))),o d13 (gEx0 t12),o d14 (gEx1 t12),o d7 (mv t13),o d8 (mv t14)]
(.seq (sr [o d16 (gEq t8 (k 0)),g d18 (mv t0) c16 true,g d19 (nc t18) c16 true,g d20 (fA 2 t19) c16 true,g d21 (lN 2 t20) c16 true,g d22 (cl 283 (l1 t21)) c16 true,o d23 (pk t16 t22 vF)]
(cs c23 (.region [o d8 (mv (k 2))])))
(.seq (sr [o d25 (gEq t8 (k 0))]
(cs c25 (.region [o d29 (cl 284 (l1 t7)),o d30 (gEx0 t29),o d31 (gEx1 t29),o d32 (nc t0),o d33 (fA 18 t32),o dN (sN 3 t33 t30),o d8 (mv t31)])))
(rt [o d6 (mv t8)]))))) (rT Q6 rN)
def e204 : T Unit := (eN (eN (eN .leaf (eS eU (eN .leaf eU))) (eN (eN eU .leaf) (eN eU .leaf))) (eN (eN .leaf (eS .leaf eU)) (eN (eS eU .leaf) (eN .leaf eU))))
noncomputable def F205 : KF := .fast 8 (sr [o d6 (mv (k 0))]
(.seq (sr [o d7 (mv t2)]
(cs c7 (rt [o d6 (mv (k 2))])))
(rt [o d6 (mv (k 0))]))) (rT Q6 rN)
def e205 : T Unit := .leaf
noncomputable def F207 : KF := .fast 19 (sr [o d4 (mv (k 0))]
(.seq (sr [o d7 (ln t0),o d8 (mv (k 0))]
(.block 0 (.loop (sr [o d9 (gLss t8 t7)]
(.seq (.cond c9 .skip
(.exit 0))
(.seq (.block 1 (sr [o d5 (mv t8)]
(sr [o d14 (ia 1 t0 t5),o d15 (ld t14),o d16 (gEq t1 t15)]
(cs c16 (rt [o d4 (mv t5)])))))
(.region [o d18 (gAdd t8 (k 1)),o d8 (mv t18)])))))))
(rt [o d4 (mv (v (.int .i64 (.negSucc 0))))]))) (rT Q4 rN)
def e207 : T Unit := (eN (eN (eS .leaf eU) (eN eU .leaf)) (eN (eN eU (eN .leaf eU)) (eN eU .leaf)))
noncomputable def F208 : KF := .fast 25 (sr [o d2 (mv (k 0))]
(.seq (sr [o d6 (ln t0),o d7 (gLss t6 (k 1))]
(cs c7 (.region [o d8 (g1 (opMkIface 9) (v (.str 22 43569427165811886929444707632401303150185065025727603))),o dN (g0 (opBad 4))])))
(sr [o d10 (ia 1 t0 (k 0)),o d11 (ld t10),o d3 (mv t11)]
(.seq (sr [o d4 (mv (k 1))]
(.block 0 (.loop (.seq (sr [o d14 (ln t0),o d15 (gLss t4 t14)]
(.cond c15 .skip
(.exit 0)))
(.seq (.block 1 (.region [o d21 (ia 1 t0 t4),o d22 (ld t21),o d23 (gl opMax (l2 t3 t22)),o d3 (mv t23)]))
(.region [o d17 (gAdd t4 (k 1)),o d4 (mv t17)]))))))
(rt [o d2 (mv t3)]))))) (rT Q2 rN)
def e208 : T Unit := (eN (eN (eN .leaf (eN .leaf eU)) (eN (eS .leaf eU) (eN eU eU))) (eN (eS eU eU) (eN (eN .leaf eU) .leaf)))
noncomputable def F209 : KF := .fast 8 (sr [o d1 (g1 (opBox 69) t0),o d2 (mv (v (.str 0 0))),o d3 (mv (k 0))]
(rt [o d4 (lN 21 t1),o d5 (cl 286 (l1 t4)),o d6 (gEx0 t5),o d7 (gEx1 t5),o d2 (mv t6),o d3 (mv t7)])) (rT Q2 (rT Q3 rN))
def e209 : T Unit := .leaf
noncomputable def F210 : KF := .fast 14 (sr [o d4 (g1 (opBox 91) t0),o d5 (g1 (opBox 9) t1),o d6 (g1 (opBox 9) t2),o d7 (g1 (opBox 9) t3),o d8 (mv (k 0))]
(rt [o d9 (gMkFunc 287 nl (l3 t4 t5 t7)),o d10 (gMkFunc 288 nl (l2 t4 t5)),o d11 (gMkFunc 289 nl (l3 t4 t5 t6)),o d12 (gBuildSlice 100 1 3 [.nilFunc] [(0,1),(1,1),(2,1)] (l3 t9 t10 t11)),o d13 (cl 178 (l1 t12)),o d8 (mv t13)])) (rT Q8 rN)
def e210 : T Unit := .leaf
noncomputable def F211 : KF := .fast 24 (sr [o d1 (g1 (opBox 69) t0),o d2 (g0 (opNewc 179 [z0,z0,z0,(.str 0 0),(.str 0 0),(.bool false),(.bool false),(.bool false),(.bool false),(.bool false),z0,z0,z0,z0,z0,(.str 0 0),(.str 0 0),(.str 0 0),(.str 0 0),.nilslice,.nilslice,.nilslice]))]
(sr [o d5 (lN 21 t1),o d6 (gBuild [z0,z0,z0,(.str 0 0),(.str 0 0),(.bool false),(.bool false),(.bool false),(.bool false),(.bool false),z0,z0,z0,z0,z0,(.str 0 0),(.str 0 0),(.str 0 0),(.str 0 0),.nilslice,.nilslice,.nilslice] [(0,21)] (l1 t5)),o d3 (g0 (opNewc 179 [z0,z0,z0,(.str 0 0),(.str 0 0),(.bool false),(.bool false),(.bool false),(.bool false),(.bool false),z0,z0,z0,z0,z0,(.str 0 0),(.str 0 0),(.str 0 0),(.str 0 0),.nilslice,.nilslice,.nilslice])),o dN (sN 22 t3 t6)]
(.seq (sr [o d7 (fA 19 t1),o d8 (ld t7),o d9 (ln t8),o d10 (mv (k 0))]
(.block 0 (.loop (sr [o d11 (gLss t10 t9)]
(.seq (.cond c11 .skip
(.exit 0))
(.seq (.block 1 (sr [o d4 (mv t10)]
(.region [o d13 (fA 21 t3),o d14 (ld t13),o d16 (fA 2 t1),o d17 (ld t16),o d18 (gBuild [z0,(.str 0 0),z0,z0,z0] [(0,1),(1,1),(3,1)] (l3 t4 (v (.str 1 82)) t17)),o d19 (gBuildSlice 84 5 1 [z0,(.str 0 0),z0,z0,z0] [(0,5)] (l1 t18)),o d20 (gAppend 84 5 48 t14 t19),o d21 (fA 21 t3),o dN (s1 t21 t20)])))
(.region [o d22 (gAdd t10 (k 1)),o d10 (mv t22)])))))))
(rt [o d23 (lN 22 t3),o dN (sN 22 t2 t23)])))) (rC Q2 (some 22) rN)
def e211 : T Unit := (eN (eN .leaf (eN eU .leaf)) (eN .leaf (eN .leaf (eN .leaf eU))))
noncomputable def F212 : KF := .fast 69 (sr [o d4 (g0 (opNewc 37 (zs 3))),o d5 (mv (v (.str 0 0))),o d6 (mv vF)]
(sr [o d18 (cl 196 (l2 t1 (v (.str 1 32)))),o d19 (gEx0 t18),o d20 (gEx1 t18),o d21 (gExN 2 t18),o d7 (mv t19),o d8 (mv t20),o d9 (mv t21)]
(sr [o d23 (cl 219 (l2 t7 (v (.str 1 46)))),o d10 (mv t23)]
(sr [o d11 (g0 (opNewc 37 (zs 3)))]
(.seq (sr [o d25 (g1 (opUn .not) t9),g d27 (mv t10) c25 false,g d28 (ln t27) c25 false,g d29 (gNe t28 (k 3)) c25 false,o d30 (pk t25 vT t29)]
(cs c30 (rt [o d31 (gBuild (zs 3) [] nl),o dN (sN 3 t4 t31),o d5 (mv (v (.str 0 0))),o d6 (mv vF)])))
(.seq (sr [o d32 (mv t10),o d33 (ln t32),o d34 (mv (k 0))]
(.block 0 (.loop (sr [o d35 (gLss t34 t33)]
(.seq (.cond c35 .skip
(.exit 0))
(.seq (.block 1 (sr [o d37 (ia 1 t32 t34),o d38 (ld t37),o d12 (mv t34),o d13 (mv t38)]
(sr [o d41 (cl 175 (l1 t13)),o d42 (gEx0 t41),o d43 (gEx1 t41),o d14 (mv t42),o d15 (mv t43)]
(.seq (sr [o d45 (gEql true (.leaf 7) t15 (v .nilIface)),g d47 (mv t14) c45 false,g d48 (cl 71 (l1 t47)) c45 false,g d49 (mv t13) c45 false,g d50 (gNe t48 t49) c45 false,o d51 (pk t45 vT t50)]
(cs c51 (rt [o d52 (gBuild (zs 3) [] nl),o dN (sN 3 t4 t52),o d5 (mv (v (.str 0 0))),o d6 (mv vF)])))
(.region [o d55 (gIdxAddrArr 3 1 t11 t12),o dN (s1 t55 t14)])))))
(.region [o d56 (gAdd t34 (k 1)),o d34 (mv t56)])))))))
(.seq (sr [o d57 (lN 3 t11),o d58 (gBuild (zs 3) [] nl),o d59 (gEql false (.fields [(0,none,(.leaf 1)),(1,none,(.leaf 1)),(2,none,(.leaf 1))]) t57 t58),g d61 (mv t0) c59 false,g d62 (lN 3 t11) c59 false,g d63 (cl 222 (l2 t61 t62)) c59 false,g d64 (g1 (opUn .not) t63) c59 false,o d65 (pk t59 vT t64)]
(cs c65 (rt [o d66 (gBuild (zs 3) [] nl),o dN (sN 3 t4 t66),o d5 (mv (v (.str 0 0))),o d6 (mv vF)])))
(rt [o d67 (lN 3 t11),o dN (sN 3 t4 t67),o d5 (mv t8),o d6 (mv vT)])))))))) (rC Q4 (some 3) (rT Q5 (rT Q6 rN)))
def e212 : T Unit := (eN (eN (eN (eN (eN .leaf eU) (eS eU .leaf)) (eN eU .leaf)) (eN (eN (eN eU eU) (eN .leaf (eS .leaf eU))) (eN (eS .leaf eU) eU))) (eN (eN (eN .leaf (eN eU .leaf)) (eN .leaf eU)) (eN .leaf (eN (eN .leaf eU) .leaf))))
noncomputable def F213 : KF := .fast 54 (sr [o d4 (mv (v (.str 0 0)))]
(.seq (sr [o d11 (gEq t1 (k 10))]
(cs c11 (.seq (sr [o d13 (gLeq (k 0) t0),g d15 (mv t0) c13 true,g d16 (gLss t15 (k 100)) c13 true,o d17 (pk t13 t16 vF)]
(cs c17 (rt [o d19 (cl 290 (l1 t0)),o d4 (mv t19)])))
(sr [o d5 (g0 (opNewc 375 [(.int .u8 (.ofNat 0)),(.int .u8 (.ofNat 0)),(.int .u8 (.ofNat 0)),(.int .u8 (.ofNat 0)),(.int .u8 (.ofNat 0)),(.int .u8 (.ofNat 0)),(.int .u8 (.ofNat 0)),(.int .u8 (.ofNat 0)),(.int .u8 (.ofNat 0)),(.int .u8 (.ofNat 0)),(.int .u8 (.ofNat 0)),(.int .u8 (.ofNat 0)),(.int .u8 (.ofNat 0)),(.int .u8 (.ofNat 0)),(.int .u8 (.ofNat 0)),(.int .u8 (.ofNat 0)),(.int .u8 (.ofNat 0)),(.int .u8 (.ofNat 0)),(.int .u8 (.ofNat 0)),(.int .u8 (.ofNat 0)),(.int .u8 (.ofNat 0)),(.int .u8 (.ofNat 0)),(.int .u8 (.ofNat 0)),(.int .u8 (.ofNat 0))]))]
(sr [o d21 (gConvInt .u64 t0),o d6 (mv t21)]
(.seq (sr [o d23 (gLss t0 (k 0))]
(cs c23 (.region [o d25 (g1 (opUn .neg) t6),o d6 (mv t25)])))
(sr [o d27 (cl 291 (l1 t6)),o d7 (mv t27)]
(sr [o d29 (gAdd (k 1) t7),o d30 (gSliceArr 24 1 t5 (os (k 1)) (os t29) on),o d32 (cl 292 (l2 t30 t6))]
(.seq (sr [o d34 (gLss t0 (k 0))]
(cs c34 (sr [o d35 (gIdxAddrArr 24 1 t5 (k 0)),o dN (s1 t35 (v (.int .u8 (.ofNat 45))))]
(rt [o d37 (gAdd (k 1) t7),o d38 (gSliceArr 24 1 t5 on (os t37) on),o d39 (g1 opStrOfBytes t38),o d4 (mv t39)]))))
(rt [o d41 (gAdd (k 1) t7),o d42 (gSliceArr 24 1 t5 (os (k 1)) (os t41) on),o d43 (g1 opStrOfBytes t42),o d4 (mv t43)]))))))))))
(sr [o d46 (gConvInt .u64 t0),o d49 (gLss t0 (k 0)),o d50 (cl 293 (cn (v .nilslice) (cn t46 (l3 t1 t49 vF)))),o d51 (gEx0 t50),o d52 (gEx1 t50),o d9 (mv t52)]
(rt [o d4 (mv t9)])))) (rT Q4 rN)
def e213 : T Unit := (eN (eN (eN (eS .leaf eU) (eS eU eU)) (eN (eS (eS .leaf eU) (eS .leaf eU)) (eS (eS .leaf eU) (eN eU .leaf)))) (eN (eN (eN (eN .leaf eU) (eN eU .leaf)) (eN .leaf (eN .leaf eU))) (eN .leaf (eN .leaf (eN eU eU)))))
noncomputable def F214 : KF := .fast 9 (sr [o d4 (mv vF)]
(rt [o d7 (cl 294 (l2 t0 t1)),o d8 (gGeq t7 (k 0)),o d4 (mv t8)])) (rT Q4 rN)
def e214 : T Unit := (eN (eN eU .leaf) (eN eU .leaf))
noncomputable def F215 : KF := .fast 9 (sr [o d2 (mv vF)]
(rt [o d4 (gLss t0 (v (.int .u8 (.ofNat 33)))),g d6 (mv t0) c4 false,g d7 (gGtr t6 (v (.int .u8 (.ofNat 126)))) c4 false,o d8 (pk t4 vT t7),o d2 (mv t8)])) (rT Q2 rN)
def e215 : T Unit := (eN .leaf (eN eU eU))
noncomputable def F219 : KF := .fast 8 (sr [o d4 (mv (v .nilslice))]
(rt [o d7 (cl 295 (cn t0 (l3 t1 (k 0) (v (.int .i64 (.negSucc 0)))))),o d4 (mv t7)])) (rT Q4 rN)
def e219 : T Unit := (eN (eN eU .leaf) (eN eU .leaf))
noncomputable def F221 : KF := .fast 157 (sr [o d1 (g1 (opBox 214) t0),o d2 (mv (v (.str 0 0))),o d3 (mv (k 0))]
(.seq (.seq (.draw [⟨D16,(cl 125 nl),3,none,none,0⟩,⟨D17,(fA 0 t1),0,none,none,0⟩,⟨D18,(ld t17),2,(some (Q17,none)),none,2⟩,⟨D19,(cl 124 (l2 t16 t18)),3,none,none,7⟩,⟨D20,(g1 (opUn .not) t19),0,none,none,15⟩])
(cs c20 (rt [o d2 (mv (v (.str 0 0))),o d3 (mv (k 10))])))
(sr [o d21 (fA 0 t1),o d22 (ld t21),o d23 (gBuild [(.str 0 0),(.str 0 0),(.str 0 0),(.str 0 0),(.bool false),(.bool false),(.bool false),(.bool false),(.bool false),z0,z0,z0,z0,z0,(.str 0 0),(.str 0 0),(.str 0 0),(.str 0 0),(.str 0 0),(.str 0 0),(.str 0 0)] [(0,1)] (l1 t22)),o d4 (g0 (opNewc 214 [(.str 0 0),(.str 0 0),(.str 0 0),(.str 0 0),(.bool false),(.bool false),(.bool false),(.bool false),(.bool false),z0,z0,z0,z0,z0,(.str 0 0),(.str 0 0),(.str 0 0),(.str 0 0),(.str 0 0),(.str 0 0),(.str 0 0)])),o dN (sN 21 t4 t23)]
(sr [o d24 (fA 0 t1),o d25 (ld t24),o d5 (mv t25)]
(.seq (sr [o d26 (fA 0 t1),o d27 (ld t26)]
(.block 0 (sr [o d57 (gEq t27 (v (.str 4 1279869261))),o d56 (mv t57)]
(.cond c56 (.seq (.draw [⟨D58,(fA 2 t1),0,none,none,0⟩,⟨D59,(lN 2 t58),2,(some (Q58,some 2)),none,1⟩,⟨D60,(fA 4 t1),0,none,none,0⟩,⟨D61,(lN 14 t60),2,(some (Q60,some 14)),none,4⟩,⟨D62,(fA 2 t4),0,none,none,3⟩,⟨dNO,(sN 2 t62 t59),3,none,none,19⟩,⟨D63,(fA 4 t4),0,none,none,63⟩,⟨dNO,(sN 14 t63 t61),3,none,none,127⟩])
(sr [o d65 (fA 2 t1),o d66 (lN 2 t65),o d67 (cl 297 (l1 t66)),o d68 (gEx0 t67),o d69 (gEx1 t67),o d6 (mv t68),o d7 (mv t69)]
(sr [o d71 (fA 4 t1),o d72 (lN 14 t71),o d73 (cl 298 (l1 t72)),o d74 (gEx0 t73),o d75 (gEx1 t73),o d8 (mv t74),o d9 (mv t75)]
(.seq (.block 1 (sr [o d77 (lN 21 t1),o d78 (lN 21 t4),o d79 (gEql true (.fields [(0,none,(.leaf 2)),(1,none,(.leaf 2)),(2,(some 2),(.fields [(0,none,(.leaf 2)),(1,none,(.leaf 2))])),(4,(some 14),(.fields [(0,(some 5),(.fields [(0,none,(.leaf 0)),(1,none,(.leaf 0)),(2,none,(.leaf 0)),(3,none,(.leaf 0)),(4,none,(.leaf 0))])),(5,none,(.leaf 1)),(6,none,(.leaf 1)),(7,none,(.leaf 1)),(8,none,(.leaf 1)),(9,none,(.leaf 1)),(10,none,(.leaf 2)),(11,none,(.leaf 2)),(12,none,(.leaf 2)),(13,none,(.leaf 2))])),(18,(some 3),(.fields [(0,none,(.leaf 2)),(1,none,(.leaf 2)),(2,none,(.leaf 2))]))]) t77 t78),g d81 (fA 2 t1) c79 false,g d82 (fA 1 t81) c79 false,g d83 (ld t82) c79 false,g d84 (gEq t83 (v (.str 0 0))) c79 false,g d85 (mv t84) c79 false,g d86 (fA 2 t1) c85 true,g d87 (fA 0 t86) c85 true,g d88 (ld t87) c85 true,g d89 (gNe t88 (v (.str 0 0))) c85 true,g d90 (pk t85 t89 vF) c79 false,o d91 (pk t79 vT t90),o d76 (mv t91)]
(.cond c76 (rt [o d2 (mv (v (.str 0 0))),o d3 (mv (k 2))])
(sr [o d94 (gNe t7 (k 0)),o d92 (mv t94)]
(.cond c92 (rt [o d2 (mv (v (.str 0 0))),o d3 (mv t7)])
(sr [o d98 (gNe t9 (k 0)),o d96 (mv t98)]
(cs c96 (rt [o d2 (mv (v (.str 0 0))),o d3 (mv t9)]))))))))
(.region [o d101 (gAdd t5 (v (.str 6 64103717684768))),o d103 (gAdd t101 t6),o d104 (gAdd t103 (v (.str 1 32))),o d106 (gAdd t104 t8),o d107 (cl 122 (l2 t106 (v (.str 1 32)))),o d5 (mv t107)])))))
(sr [o d109 (gEq t27 (v (.str 4 1414546258))),o d108 (mv t109)]
(.cond c108 (.seq (.draw [⟨D110,(fA 2 t1),0,none,none,0⟩,⟨D111,(lN 2 t110),2,(some (Q110,some 2)),none,1⟩,⟨D112,(fA 18 t1),0,none,none,0⟩,⟨D113,(lN 3 t112),2,(some (Q112,some 3)),none,4⟩,⟨D114,(fA 2 t4),0,none,none,3⟩,⟨dNO,(sN 2 t114 t111),3,none,none,19⟩,⟨D115,(fA 18 t4),0,none,none,63⟩,⟨dNO,(sN 3 t115 t113),3,none,none,127⟩])
(sr [o d117 (fA 2 t1),o d118 (lN 2 t117),o d119 (cl 297 (l1 t118)),o d120 (gEx0 t119),o d121 (gEx1 t119),o d10 (mv t120),o d11 (mv t121)]
(sr [o d123 (fA 18 t1),o d124 (lN 3 t123),o d125 (cl 299 (l1 t124)),o d126 (gEx0 t125),o d127 (gEx1 t125),o d12 (mv t126),o d13 (mv t127)]
(.seq (.block 2 (sr [o d129 (lN 21 t1),o d130 (lN 21 t4),o d131 (gEql true (.fields [(0,none,(.leaf 2)),(1,none,(.leaf 2)),(2,(some 2),(.fields [(0,none,(.leaf 2)),(1,none,(.leaf 2))])),(4,(some 14),(.fields [(0,(some 5),(.fields [(0,none,(.leaf 0)),(1,none,(.leaf 0)),(2,none,(.leaf 0)),(3,none,(.leaf 0)),(4,none,(.leaf 0))])),(5,none,(.leaf 1)),(6,none,(.leaf 1)),(7,none,(.leaf 1)),(8,none,(.leaf 1)),(9,none,(.leaf 1)),(10,none,(.leaf 2)),(11,none,(.leaf 2)),(12,none,(.leaf 2)),(13,none,(.leaf 2))])),(18,(some 3),(.fields [(0,none,(.leaf 2)),(1,none,(.leaf 2)),(2,none,(.leaf 2))]))]) t129 t130),g d133 (fA 2 t1) c131 false,g d134 (lN 2 t133) c131 false,g d135 (cl 283 (l1 t134)) c131 false,o d136 (pk t131 vT t135),o d128 (mv t136)]
(.cond c128 (rt [o d2 (mv (v (.str 0 0))),o d3 (mv (k 2))])
(sr [o d139 (gNe t11 (k 0)),o d137 (mv t139)]
(.cond c137 (rt [o d2 (mv (v (.str 0 0))),o d3 (mv t11)])
(sr [o d143 (gNe t13 (k 0)),o d141 (mv t143)]
(cs c141 (rt [o d2 (mv (v (.str 0 0))),o d3 (mv t13)]))))))))
(.region [o d146 (gAdd t5 (v (.str 4 978277408))),o d148 (gAdd t146 t10),o d149 (gAdd t148 (v (.str 1 32))),o d151 (gAdd t149 t12),o d152 (cl 122 (l2 t151 (v (.str 1 32)))),o d5 (mv t152)])))))
(sr [o d28 (fA 1 t1),o d29 (ld t28),o d30 (fA 1 t4),o dN (s1 t30 t29)]
(.seq (sr [o d31 (fA 1 t1),o d32 (ld t31),o d33 (gNe t32 (v (.str 0 0)))]
(cs c33 (.region [o d35 (fA 1 t1),o d36 (ld t35),o d37 (gAdd (v (.str 1 32)) t36),o d38 (gAdd t5 t37),o d5 (mv t38)])))
(sr [o d41 (cl 123 (l1 t5)),o d42 (gEx0 t41),o d43 (gEx1 t41),o d14 (g0 (opNewc 214 [(.str 0 0),(.str 0 0),(.str 0 0),(.str 0 0),(.bool false),(.bool false),(.bool false),(.bool false),(.bool false),z0,z0,z0,z0,z0,(.str 0 0),(.str 0 0),(.str 0 0),(.str 0 0),(.str 0 0),(.str 0 0),(.str 0 0)])),o dN (sN 21 t14 t42),o d15 (mv t43)]
(sr [o d44 (lN 21 t1),o d45 (lN 21 t4),o d46 (gEql true (.fields [(0,none,(.leaf 2)),(1,none,(.leaf 2)),(2,(some 2),(.fields [(0,none,(.leaf 2)),(1,none,(.leaf 2))])),(4,(some 14),(.fields [(0,(some 5),(.fields [(0,none,(.leaf 0)),(1,none,(.leaf 0)),(2,none,(.leaf 0)),(3,none,(.leaf 0)),(4,none,(.leaf 0))])),(5,none,(.leaf 1)),(6,none,(.leaf 1)),(7,none,(.leaf 1)),(8,none,(.leaf 1)),(9,none,(.leaf 1)),(10,none,(.leaf 2)),(11,none,(.leaf 2)),(12,none,(.leaf 2)),(13,none,(.leaf 2))])),(18,(some 3),(.fields [(0,none,(.leaf 2)),(1,none,(.leaf 2)),(2,none,(.leaf 2))]))]) t44 t45),g d48 (mv t15) c46 false,g d49 (gNe t48 (k 0)) c46 false,o d50 (pk t46 vT t49),g d52 (lN 21 t14) c50 false,g d53 (lN 21 t1) c50 false,g d54 (gEql true (.fields [(0,none,(.leaf 2)),(1,none,(.leaf 2)),(2,(some 2),(.fields [(0,none,(.leaf 2)),(1,none,(.leaf 2))])),(4,(some 14),(.fields [(0,(some 5),(.fields [(0,none,(.leaf 0)),(1,none,(.leaf 0)),(2,none,(.leaf 0)),(3,none,(.leaf 0)),(4,none,(.leaf 0))])),(5,none,(.leaf 1)),(6,none,(.leaf 1)),(7,none,(.leaf 1)),(8,none,(.leaf 1)),(9,none,(.leaf 1)),(10,none,(.leaf 2)),(11,none,(.leaf 2)),(12,none,(.leaf 2)),(13,none,(.leaf 2))])),(18,(some 3),(.fields [(0,none,(.leaf 2)),(1,none,(.leaf 2)),(2,none,(.leaf 2))]))]) t52 t53) c50 false,o d55 (pk t50 vT t54)]
(cs c55 (rt [o d2 (mv (v (.str 0 0))),o d3 (mv (k 2))]))))))))))))
(.seq (sr [o d154 (lS t5),o d155 (gGtr t154 (k 510))]
(cs c155 (rt [o d2 (mv (v (.str 0 0))),o d3 (mv (k 3))])))
(rt [o d2 (mv t5),o d3 (mv (k 0))]))))))) (rT Q2 (rT Q3 rN))
def e221 : T Unit := (eN (eN (eN (eN (eN .leaf (eN .leaf (eN .leaf eU))) (eN (eN .leaf (eN .leaf eU)) (eN eU eU))) (eN (eN (eN eU .leaf) (eN .leaf (eN .leaf eU))) (eN .leaf eU))) (eN (eN (eN (eN .leaf (eN .leaf eU)) (eN .leaf (eN .leaf eU))) (eN (eN eU .leaf) (eN eU (eN .leaf eU)))) (eN (eN .leaf eU) (eN (eN .leaf (eS .leaf eU)) (eN .leaf eU))))) (eN (eN (eN (eN (eN .leaf eU) .leaf) .leaf) (eN (eN (eN .leaf (eN .leaf eU)) (eN eU .leaf)) (eN (eN .leaf (eN .leaf eU)) (eN eU .leaf)))) (eN (eN .leaf (eN (eS .leaf (eN .leaf eU)) (eN eU .leaf))) (eN (eN .leaf eU) (eN eU (eN eU .leaf))))))
noncomputable def F222 : KF := .fast 40 (sr [o d3 (g1 (opBox 37) t1),o d4 (mv vF)]
(.seq (.draw [⟨D5,(lN 3 t3),2,(some (Q3,some 3)),none,0⟩,⟨D6,(gBuild (zs 3) [] nl),0,none,none,0⟩,⟨D7,(gEql false (.fields [(0,none,(.leaf 1)),(1,none,(.leaf 1)),(2,none,(.leaf 1))]) t5 t6),0,none,none,3⟩,⟨D8,(mv t7),0,none,none,7⟩,⟨D9,(gIdxAddrArr 3 1 t3 (k 0)),0,none,(some (Q8,false)),15⟩,⟨D10,(ld t9),2,(some (Q9,none)),(some (Q8,false)),31⟩,⟨D11,(mv t0),0,none,(some (Q8,false)),15⟩,⟨D12,(cl 149 (l1 t11)),3,none,(some (Q8,false)),79⟩,⟨D13,(gEq t10 t12),0,none,(some (Q8,false)),255⟩,⟨D14,(mv t13),0,none,(some (Q8,false)),511⟩,⟨D15,(gIdxAddrArr 3 1 t3 (k 0)),0,none,(some (Q14,true)),1023⟩,⟨D16,(ld t15),2,(some (Q15,none)),(some (Q14,true)),2047⟩,⟨D17,(gNe t16 (k 3)),0,none,(some (Q14,true)),4095⟩,⟨D18,(pk t14 t17 vF),0,none,(some (Q8,false)),8191⟩,⟨D19,(mv t18),0,none,(some (Q8,false)),16383⟩,⟨D20,(gIdxAddrArr 3 1 t3 (k 1)),0,none,(some (Q19,true)),32767⟩,⟨D21,(ld t20),2,(some (Q20,none)),(some (Q19,true)),65535⟩,⟨D22,(gGeq t21 (k 0)),0,none,(some (Q19,true)),131071⟩,⟨D23,(pk t19 t22 vF),0,none,(some (Q8,false)),262143⟩,⟨D24,(mv t23),0,none,(some (Q8,false)),524287⟩,⟨D25,(gIdxAddrArr 3 1 t3 (k 1)),0,none,(some (Q24,true)),1048575⟩,⟨D26,(ld t25),2,(some (Q25,none)),(some (Q24,true)),2097151⟩,⟨D27,(gLeq t26 (k 999)),0,none,(some (Q24,true)),4194303⟩,⟨D28,(pk t24 t27 vF),0,none,(some (Q8,false)),8388607⟩,⟨D29,(mv t28),0,none,(some (Q8,false)),16777215⟩,⟨D30,(gIdxAddrArr 3 1 t3 (k 2)),0,none,(some (Q29,true)),33554431⟩,⟨D31,(ld t30),2,(some (Q30,none)),(some (Q29,true)),67108863⟩,⟨D32,(gGeq t31 (k 0)),0,none,(some (Q29,true)),134217727⟩,⟨D33,(pk t29 t32 vF),0,none,(some (Q8,false)),268435455⟩,⟨D34,(mv t33),0,none,(some (Q8,false)),536870911⟩,⟨D35,(gIdxAddrArr 3 1 t3 (k 2)),0,none,(some (Q34,true)),1073741823⟩,⟨D36,(ld t35),2,(some (Q35,none)),(some (Q34,true)),2147483647⟩,⟨D37,(gLeq t36 (k 999)),0,none,(some (Q34,true)),4294967295⟩,⟨D38,(pk t34 t37 vF),0,none,(some (Q8,false)),8589934591⟩,⟨D39,(pk t8 vT t38),0,none,none,17179869183⟩,⟨D4,(mv t39),0,none,none,34359738367⟩])
.ret)) (rT Q4 rN)
def e222 : T Unit := .leaf
noncomputable def F223 : KF := .fast 7 (sr [o d2 (mv vF)]
(rt [o d4 (g1 (opBytesOfStr 5) t0),o d5 (cl 214 (l2 t4 (v (.func (.func 300) [] [])))),o d6 (g1 (opUn .not) t5),o d2 (mv t6)])) (rT Q2 rN)
def e223 : T Unit := (eN .leaf (eN .leaf eU))
noncomputable def F224 : KF := .fast 38 (sr [o d4 (g1 (opBox 29) t0),o d5 (g1 (opBox 69) t1),o d6 (g1 (opBox 84) t2),o d8 (mv (k 0))]
(.seq (.block 0 (sr [o d10 (lN 4 t4),o d11 (cl 59 (l1 t10)),o d12 (gNe t11 (k 0)),g d14 (mv t3) c12 false,g d15 (gLss t14 (k 0)) c12 false,o d16 (pk t12 vT t15),g d18 (mv t3) c16 false,g d19 (gGtr t18 (k 1099511627776)) c16 false,o d20 (pk t16 vT t19),o d9 (mv t20)]
(.cond c9 (rt [o d8 (mv (k 1))])
(sr [o d22 (fA 1 t6),o d23 (ld t22),o d24 (gNe t23 (v (.str 1 82))),g d26 (fA 0 t6) c24 false,g d27 (ld t26) c24 false,g d28 (gLss t27 (k 0)) c24 false,o d29 (pk t24 vT t28),g d31 (fA 0 t6) c29 false,g d32 (ld t31) c29 false,g d33 (fA 19 t5) c29 false,g d34 (ld t33) c29 false,g d35 (ln t34) c29 false,g d36 (gGeq t32 t35) c29 false,o d37 (pk t29 vT t36),o d21 (mv t37)]
(cs c21 (rt [o d8 (mv (k 9))]))))))
(rt [o d8 (mv (k 0))]))) (rT Q8 rN)
def e224 : T Unit := (eN (eN (eN (eN eU .leaf) .leaf) .leaf) (eN (eN eU (eN eU eU)) .leaf))
noncomputable def F228 : KF := .fast 64 (sr [o d4 (g1 (opBox 29) t0),o d5 (g1 (opBox 69) t1),o d6 (g1 (opBox 84) t2),o d8 (g0 (opNewc 84 [z0,(.str 0 0),z0,z0,z0])),o d9 (mv (v .nilslice))]
(sr [o d16 (lN 21 t5),o d17 (cl 303 (l1 t16)),o d18 (gEx0 t17),o d19 (gEx1 t17),o d10 (mv t18),o d11 (mv t19)]
(sr [g d22 (mv t3) c11 true,g d23 (mv t10) c11 true,g d24 (gGeq t22 t23) c11 true,o d25 (pk t11 t24 vF),o d11 (mv t25)]
(sr [g d28 (fA 5 t5) c11 true,g d29 (lN 14 t28) c11 true,g d30 (cl 304 (l1 t29)) c11 true,o d31 (pk t11 t30 vF),o d12 (mv t31)]
(.seq (.block 0 (sr [o d34 (lN 4 t4),o d35 (lN 21 t5),o d36 (cl 305 (l2 t34 t35)),o d37 (gGeq t3 t36),g d39 (mv t12) c37 false,o d40 (pk t37 vT t39),o d32 (mv t40)]
(.cond c32 (sr [o d41 (fA 1 t6),o dN (s1 t41 (v (.str 1 70)))]
(sr [o d42 (lN 21 t5),o d44 (cl 226 (cn t42 (l3 t6 (v (.str 6 110386773320038)) t12))),o d13 (mv t44)]
(rt [o d45 (lN 5 t6),o dN (sN 5 t8 t45),o d9 (mv t13)])))
(sr [g d50 (mv t3) c11 false,g d51 (fA 1 t5) c11 false,g d52 (ld t51) c11 false,g d53 (gSub t50 t52) c11 false,g d54 (fA 3 t4) c11 false,g d55 (ld t54) c11 false,g d56 (gGeq t53 t55) c11 false,o d57 (pk t11 vT t56),o d47 (mv t57)]
(cs c47 (sr [o d58 (lN 21 t5),o d60 (cl 226 (cn t58 (l3 t6 (v (.str 7 28259069671007588)) t11))),o d14 (mv t60)]
(rt [o d61 (lN 5 t6),o dN (sN 5 t8 t61),o d9 (mv t14)])))))))
(rt [o d63 (lN 5 t6),o dN (sN 5 t8 t63),o d9 (mv (v .nilslice))])))))) (rC Q8 (some 5) (rT Q9 rN))
def e228 : T Unit := (eN (eN (eN (eN (eN eU eU) (eN .leaf eU)) (eN eU .leaf)) (eN (eN .leaf eU) (eN .leaf (eN eU .leaf)))) (eN (eN (eN .leaf eU) (eN .leaf (eN eU eU))) (eN (eN (eS eU eU) .leaf) (eN .leaf eU))))
noncomputable def F231 : KF := .fast 30 (sr [o d6 (mv (k 0))]
(.seq (sr [o d8 (gLss t1 (k 0)),g d10 (mv t2) c8 false,g d11 (gLss t10 (k 0)) c8 false,o d12 (pk t8 vT t11),g d14 (mv t2) c12 false,g d15 (gGtr t14 (k 2199023255552)) c12 false,o d16 (pk t12 vT t15)]
(cs c16 (rt [o d6 (mv (k 1))])))
(sr [o d19 (cl 160 (l2 t0 t1))]
(sr [o d24 (nc t0),o d25 (fA 0 t24),o d26 (ld t25),o d27 (gAdd t26 (k 1)),o d28 (gl opMax (l2 t2 t27)),o d29 (cl 236 (l3 t0 t1 t28))]
(rt [o d6 (mv (k 0))]))))) (rT Q6 rN)
def e231 : T Unit := (eN (eN (eN (eN .leaf eU) (eN .leaf eU)) (eN (eN .leaf eU) .leaf)) (eN (eN (eS .leaf eU) (eS .leaf eU)) (eN .leaf (eS eU .leaf))))
noncomputable def F232 : KF := .fast 50 (sr [o d3 (g1 (opBox 29) t0),o d4 (g1 (opBox 69) t1),o d5 (g1 (opBox 84) t2),o d6 (mv (k 0))]
(.seq (sr [o d11 (fA 1 t5),o d12 (ld t11),o d13 (gNe t12 (v (.str 1 82)))]
(cs c13 (rt [o d6 (mv (k 0))])))
(.seq (.draw [⟨D14,(fA 3 t5),0,none,none,0⟩,⟨D15,(ld t14),2,(some (Q14,none)),none,1⟩,⟨D16,(lN 4 t3),2,(some (Q3,some 4)),none,0⟩,⟨D17,(lN 21 t4),2,(some (Q4,some 21)),none,0⟩,⟨D18,(cl 305 (l2 t16 t17)),3,none,none,12⟩,⟨D19,(gl opMin (l2 t15 t18)),0,none,none,31⟩,⟨D7,(mv t19),0,none,none,63⟩])
(sr [o d20 (fA 4 t5),o d21 (ld t20),o d22 (gBinS .and t21 (k 1)),o d23 (gEq t22 (k 0)),o d8 (mv t23)]
(.seq (sr [o d25 (lN 21 t4),o d26 (cl 303 (l1 t25)),o d27 (gEx0 t26),o d28 (gEx1 t26),o d9 (mv t27),o d10 (mv t28)]
(sr [g d31 (mv t8) c10 true,g d32 (mv t31) c10 true,g d33 (fA 5 t4) c32 false,g d34 (lN 14 t33) c32 false,g d35 (cl 304 (l1 t34)) c32 false,g d36 (pk t32 vT t35) c10 true,o d37 (pk t10 t36 vF)]
(cs c37 (.region [o d40 (gl opMin (l2 t7 t9)),o d7 (mv t40)]))))
(.seq (sr [o d41 (mv t8)]
(cs c41 (.region [o d43 (fA 1 t4),o d44 (ld t43),o d45 (fA 3 t3),o d46 (ld t45),o d47 (gAdd t44 t46),o d48 (gl opMin (l2 t7 t47)),o d7 (mv t48)])))
(rt [o d6 (mv t7)]))))))) (rT Q6 rN)
def e232 : T Unit := (eN (eN (eN (eN eU (eN .leaf eU)) (eN (eN .leaf eU) .leaf)) (eN .leaf (eN eU .leaf))) (eN (eN (eN eU .leaf) (eN .leaf (eN eU .leaf))) (eN .leaf (eN (eN .leaf eU) .leaf))))
noncomputable def F233 : KF := .fast 37 (sr [o d4 (mv (k 0)),o d5 (mv vF)]
(sr [o d6 (g0 (opNewc 3 (zs 1))),o d7 (g0 (opNewc 4 [(.bool false)])),o dN (s1 t6 (k 0)),o dN (s1 t7 vF)]
(sr [o d11 (gMkFunc 310 nl (l2 t7 t6)),o d8 (mv t11)]
(.seq (sr [o d13 (gEq t1 (k 4))]
(cs c13 (sr [o d16 (nc t0),o d17 (fA 257 t16),o d18 (ld t17),o d19 (gCallV t8 (l1 t18))]
(.seq (.draw [⟨D20,(ld t6),2,(some (Q6,none)),none,0⟩,⟨D21,(ld t7),2,(some (Q7,none)),none,0⟩,⟨D4,(mv t20),0,none,none,1⟩,⟨D5,(mv t21),0,none,none,7⟩])
.ret))))
(.seq (sr [o d24 (nc t0),o d25 (fA 1 t24),o d26 (gIdxAddrArr 4 64 t25 t1),o d27 (lN 64 t26),o d28 (mv (k 0))]
(.block 0 (.loop (sr [o d29 (gLss t28 (k 64))]
(.seq (.cond c29 .skip
(.exit 0))
(.seq (.block 1 (sr [o d30 (g2 (opIdxArr 64 1 none) t27 t28),o d10 (mv t30)]
(.region [o d33 (gCallV t8 (l1 t10))])))
(.region [o d34 (gAdd t28 (k 1)),o d28 (mv t34)])))))))
(.seq (.draw [⟨D35,(ld t6),2,(some (Q6,none)),none,0⟩,⟨D36,(ld t7),2,(some (Q7,none)),none,0⟩,⟨D4,(mv t35),0,none,none,1⟩,⟨D5,(mv t36),0,none,none,7⟩])
.ret)))))) (rT Q4 (rT Q5 rN))
def e233 : T Unit := (eN (eN (eN (eS .leaf eU) .leaf) (eN eU (eN .leaf (eN .leaf eU)))) (eN .leaf (eN .leaf (eN eU (eS .leaf eU)))))
noncomputable def F234 : KF := .fast 31 (sr [o d8 (cl 235 (l1 t1)),o d9 (g1 (opRange false) t8)]
(.block 0 (.loop (sr [o d10 (g1 (opNext false) t9),o d11 (gEx0 t10)]
(.seq (.cond c11 .skip
(.exit 0))
(.block 1 (sr [o d12 (g1 opEntry t9),o d13 (gEx0 t12),o d14 (gEx1 t12),o d5 (mv t13),o d6 (mv t14)]
(.seq (.draw [⟨D15,(mv t6),0,none,none,0⟩,⟨D16,(ld t2),2,(some (Q2,none)),none,0⟩,⟨D17,(nc t16),0,none,none,2⟩,⟨D18,(fA 0 t17),0,none,none,6⟩,⟨D19,(ld t18),2,(some (Q18,none)),none,14⟩,⟨D20,(gSub t15 t19),0,none,none,31⟩,⟨D21,(mv t0),0,none,none,0⟩,⟨D22,(gBinS .mul (k 6) t21),0,none,none,64⟩,⟨D23,(gBinS .shl (k 1) t22),0,none,none,192⟩,⟨D24,(gLss t20 t23),0,none,none,511⟩])
(cs c24 (sr [o dN (g2 (opDelete false) t1 t5)]
(.region [o d27 (ld t2),o d30 (cl 236 (l3 t27 t5 t6))]))))))))))) rN
def e234 : T Unit := (eN (eN (eN .leaf (eN eU .leaf)) (eN (eN eU .leaf) .leaf)) (eN (eN (eN eU .leaf) (eN eU .leaf)) (eN .leaf eU)))
noncomputable def F235 : KF := .fast 9 (sr [o d2 (mv (v .nilmap))]
(.seq (sr [o d4 (gEql false (.leaf 5) t0 (v .nilmap))]
(cs c4 (rt [o d2 (mv (v .nilmap))])))
(rt [o d6 (g1 (opMkIface 246) t0),o d7 (cl 311 (l1 t6)),o d8 (g1 (opTyAssert 246 false) t7),o d2 (mv t8)]))) (rT Q2 rN)
def e235 : T Unit := (eN .leaf (eN eU eU))
noncomputable def F236 : KF := .fast 42 (sr [o d8 (gBuild (zs 2) [(0,1)] (l1 (k 4))),o d6 (g0 (opNewc 256 (zs 2))),o dN (sN 2 t6 t8)]
(.seq (sr [o d9 (mv (k 0))]
(.block 0 (.loop (sr [o d10 (gLss t9 (k 4))]
(.seq (.cond c10 .skip
(.exit 0))
(.seq (.block 1 (sr [o d7 (mv t9)]
(.seq (.draw [⟨D12,(mv t2),0,none,none,0⟩,⟨D13,(mv t0),0,none,none,0⟩,⟨D14,(nc t13),0,none,none,2⟩,⟨D15,(fA 0 t14),0,none,none,6⟩,⟨D16,(ld t15),2,(some (Q15,none)),none,14⟩,⟨D17,(gSub t12 t16),0,none,none,31⟩,⟨D18,(mv t7),0,none,none,0⟩,⟨D19,(gAdd t18 (k 1)),0,none,none,64⟩,⟨D20,(gBinS .mul (k 6) t19),0,none,none,192⟩,⟨D21,(gBinS .shl (k 1) t20),0,none,none,448⟩,⟨D22,(gLss t17 t21),0,none,none,1023⟩])
(cs c22 (sr [o d26 (gBinS .mul (k 6) t7),o d27 (gBinS .shr t2 t26),o d28 (gBinS .and t27 (k 63)),o d29 (gBuild (zs 2) [(0,1),(1,1)] (l2 t7 t28)),o dN (sN 2 t6 t29)]
(.exit 0))))))
(.region [o d30 (gAdd t9 (k 1)),o d9 (mv t30)])))))))
(.seq (.draw [⟨D31,(mv t0),0,none,none,0⟩,⟨D32,(nc t31),0,none,none,1⟩,⟨D33,(fA 258 t32),0,none,none,3⟩,⟨D34,(ld t33),2,(some (Q33,none)),none,7⟩,⟨D35,(mv t1),0,none,none,0⟩,⟨D36,(lN 2 t6),2,(some (Q6,some 2)),none,0⟩,⟨dNO,(g3 (opMapUpd false) t34 t35 t36),3,none,none,63⟩])
(.region [o d38 (lN 2 t6),o d39 (cl 158 (l2 t0 t38)),o dN (g3 (opMapUpd false) t39 t1 t2)])))) rN
def e236 : T Unit := (eN (eN .leaf (eN .leaf (eN (eS .leaf eU) .leaf))) (eN (eN (eN .leaf (eN .leaf eU)) (eN (eS .leaf eU) .leaf)) (eN eU (eN eU .leaf))))
noncomputable def F238 : KF := .fast 11 (sr [o d3 (g1 (opBox 3) t1),o d4 (mv (k 0))]
(rt [o d6 (nc t0),o d7 (fA 3 t6),o d8 (ld t7),o d9 (gMkFunc 312 nl (l1 t3)),o d10 (cl 165 (l2 t8 t9)),o d4 (mv t10)])) (rT Q4 rN)
def e238 : T Unit := (eN .leaf (eN eU .leaf))
noncomputable def F239 : KF := .fast 8 (sr [o d2 (mv (v .nilslice))]
(.seq (sr [o d4 (gEql false (.leaf 4) t0 (v .nilslice))]
(cs c4 (rt [o d2 (mv (v .nilslice))])))
(rt [o d5 (gBuildSlice 164 4 0 [z0,(.str 0 0),z0,z0] [] nl),o d7 (gAppend 164 4 40 t5 t0),o d2 (mv t7)]))) (rT Q2 rN)
def e239 : T Unit := (eN (eN eU .leaf) (eN .leaf eU))
noncomputable def F240 : KF := .fast 9 (.region [o d6 (ln t0),o d8 (cl 313 (l3 t0 t6 t1))]) rN
def e240 : T Unit := (eN (eN .leaf eU) (eN eU (eN .leaf eU)))
noncomputable def F244 : KF := .fast 33 (sr [o d6 (mv (v .nilslice))]
(sr [o d12 (ln t0),o d13 (gSliceSl 4 t0 (os t1) (os t2) (os t12))]
(.seq (sr [o d16 (gEq t1 t2)]
(cs c16 (rt [o d6 (mv t0)])))
(sr [o d19 (ln t0),o d7 (mv t19)]
(.seq (.draw [⟨D20,(mv t0),0,none,none,0⟩,⟨D21,(mv t1),0,none,none,0⟩,⟨D22,(gSliceSl 4 t20 on (os t21) on),0,none,none,3⟩,⟨D23,(mv t0),0,none,none,0⟩,⟨D24,(mv t2),0,none,none,0⟩,⟨D25,(gSliceSl 4 t23 (os t24) on on),0,none,none,24⟩,⟨D26,(gAppend 164 4 40 t22 t25),3,none,none,63⟩,⟨D0,(mv t26),0,none,none,127⟩])
(sr [o d29 (ln t0),o d31 (gSliceSl 4 t0 (os t29) (os t7) on),o dN (g1 (opClear [z0,(.str 0 0),z0,z0]) t31)]
(rt [o d6 (mv t0)]))))))) (rT Q6 rN)
def e244 : T Unit := (eN (eN (eN (eS eU .leaf) (eS .leaf eU)) (eN (eN eU .leaf) (eS .leaf (eN .leaf eU)))) (eN (eN .leaf (eS .leaf eU)) (eN (eS eU .leaf) (eN .leaf eU))))
noncomputable def F245 : KF := .fast 11 (sr [o d1 (g1 (opBox 69) t0),o d2 (mv (k 0))]
(sr [o d6 (lN 21 t1),o d7 (cl 286 (l1 t6)),o d8 (gEx0 t7),o d9 (gEx1 t7),o d4 (mv t9)]
(rt [o d2 (mv t4)]))) (rT Q2 rN)
def e245 : T Unit := (eN (eN (eN .leaf eU) .leaf) (eN eU eU))
noncomputable def F246 : KF := .fast 9 (sr [o d2 (mv (v .nilslice))]
(sr [o d5 (cl 315 (l1 t0)),o d3 (mv t5)]
(sr [o d7 (cl 316 (l1 t3))]
(rt [o d2 (mv t3)])))) (rT Q2 rN)
def e246 : T Unit := (eN (eN eU (eS .leaf eU)) .leaf)
noncomputable def F247 : KF := .fast 4 (sr [o d1 (g1 (opBox 102) t0),o d2 (mv (v .nilFunc))]
(rt [o d3 (gMkFunc 317 nl (l1 t1)),o d2 (mv t3)])) (rT Q2 rN)
def e247 : T Unit := .leaf
noncomputable def F252 : KF := .fast 77 (sr [o d2 (mv (k 0)),o d3 (mv (v .nilIface))]
(sr [o d12 (lS t0),o d4 (mv t12)]
(.seq (sr [g d14 (mv t4) (kvR (.bool false)) true,g d15 (gLss (k 0) t14) (kvR (.bool false)) true,g d16 (mv t15) (kvR (.bool false)) true,g d17 (mv t4) c16 true,g d18 (gLss t17 (k 10)) c16 true,g d19 (pk t16 t18 vF) (kvR (.bool false)) true,o d20 (pk vF t19 vF),g d22 (mv vT) c20 false,g d23 (mv t4) c22 true,g d24 (gLss (k 0) t23) c22 true,g d25 (mv t24) c22 true,g d26 (mv t4) c25 true,g d27 (gLss t26 (k 19)) c25 true,g d28 (pk t25 t27 vF) c22 true,g d29 (pk t22 t28 vF) c20 false,o d30 (pk t20 vT t29)]
(cs c30 (sr [o d5 (mv t0)]
(.seq (sr [o d33 (gIdxStr t0 (k 0)),o d34 (gEq t33 (v (.int .u8 (.ofNat 45)))),g d36 (mv t0) c34 false,g d37 (gIdxStr t36 (k 0)) c34 false,g d38 (gEq t37 (v (.int .u8 (.ofNat 43)))) c34 false,o d39 (pk t34 vT t38)]
(cs c39 (sr [o d41 (gSliceStr t0 (os (k 1)) on),o d0 (mv t41)]
(sr [o d43 (lS t0),o d44 (gLss t43 (k 1))]
(cs c44 (rt [o d45 (g1 (opMkIface 405) (k 2)),o d2 (mv (k 0)),o d3 (mv t45)]))))))
(sr [o d6 (mv (k 0))]
(.seq (sr [o d47 (g1 (opBytesOfStr 5) t0),o d48 (ln t47),o d49 (mv (k 0))]
(.block 0 (.loop (sr [o d50 (gLss t49 t48)]
(.seq (.cond c50 .skip
(.exit 0))
(.seq (.block 1 (sr [o d51 (ia 1 t47 t49),o d52 (ld t51),o d8 (mv t52)]
(sr [o d54 (gSub t8 (v (.int .u8 (.ofNat 48)))),o d8 (mv t54)]
(.seq (sr [o d56 (gGtr t8 (v (.int .u8 (.ofNat 9))))]
(cs c56 (rt [o d57 (g1 (opMkIface 405) (k 2)),o d2 (mv (k 0)),o d3 (mv t57)])))
(.region [o d59 (gBinS .mul t6 (k 10)),o d61 (gConvInt .i64 t8),o d62 (gAdd t59 t61),o d6 (mv t62)])))))
(.region [o d63 (gAdd t49 (k 1)),o d49 (mv t63)])))))))
(.seq (sr [o d65 (gIdxStr t5 (k 0)),o d66 (gEq t65 (v (.int .u8 (.ofNat 45))))]
(cs c66 (.region [o d68 (g1 (opUn .neg) t6),o d6 (mv t68)])))
(rt [o d2 (mv t6),o d3 (mv (v .nilIface))]))))))))
(sr [o d72 (cl 321 (l3 t0 (k 10) (k 0))),o d73 (gEx0 t72),o d74 (gEx1 t72),o d9 (mv t73),o d10 (mv t74)]
(rt [o d2 (mv t9),o d3 (mv t10)]))))) (rT Q2 (rT Q3 rN))
def e252 : T Unit := (eN (eN (eN (eN (eN .leaf eU) (eN .leaf (eN .leaf eU))) (eN (eN eU eU) .leaf)) (eN (eN (eN eU (eN .leaf eU)) .leaf) (eN (eN .leaf eU) (eN .leaf (eS .leaf eU))))) (eN (eN (eS .leaf (eS eU (eN .leaf eU))) .leaf) (eN (eS (eN .leaf (eN .leaf eU)) (eN .leaf (eS .leaf eU))) (eN (eN eU (eN .leaf eU)) (eN .leaf eU)))))
noncomputable def F254 : KF := .fast 19 (sr [o d4 (mv (k 0))]
(.seq (sr [o d7 (ln t0),o d8 (mv (k 0))]
(.block 0 (.loop (sr [o d9 (gLss t8 t7)]
(.seq (.cond c9 .skip
(.exit 0))
(.seq (.block 1 (sr [o d5 (mv t8)]
(sr [o d14 (ia 5 t0 t5),o d15 (lN 5 t14),o d16 (gCallV t1 (l1 t15))]
(cs c16 (rt [o d4 (mv t5)])))))
(.region [o d18 (gAdd t8 (k 1)),o d8 (mv t18)])))))))
(rt [o d4 (mv (v (.int .i64 (.negSucc 0))))]))) (rT Q4 rN)
def e254 : T Unit := (eN (eN (eS .leaf eU) (eN eU .leaf)) (eN (eN eU (eN .leaf eU)) (eN eU .leaf)))
noncomputable def F256 : KF := .fast 187 (sr [o d4 (mv (k 0))]
(.block 0 (sr [o d162 (gLeq (v (.int .i32 (.ofNat 0))) t1),g d164 (mv t1) c162 true,g d165 (gLss t164 (v (.int .i32 (.ofNat 128)))) c162 true,o d166 (pk t162 t165 vF),o d160 (mv t166)]
(.cond c160 (rt [o d169 (gConvInt .u8 t1),o d170 (cl 326 (l2 t0 t169)),o d4 (mv t170)])
(sr [o d173 (gEq t1 (v (.int .i32 (.ofNat 65533)))),o d171 (mv t173)]
(.cond c171 (.seq (sr [o d175 (g1 (opRange true) t0)]
(.block 9 (.loop (sr [o d176 (g1 (opNext true) t175),o d177 (gEx0 t176)]
(.seq (.cond c177 .skip
(.exit 9))
(.block 10 (sr [o d178 (gEx1 t176),o d179 (gExN 2 t176),o d5 (mv t178),o d6 (mv t179)]
(sr [o d181 (gEq t6 (v (.int .i32 (.ofNat 65533))))]
(cs c181 (rt [o d4 (mv t5)]))))))))))
(rt [o d4 (mv (v (.int .i64 (.negSucc 0))))]))
(sr [o d185 (cl 327 (l1 t1)),o d186 (g1 (opUn .not) t185),o d183 (mv t186)]
(.cond c183 (rt [o d4 (mv (v (.int .i64 (.negSucc 0))))])
.fail)))))))) (rT Q4 rN)
def e256 : T Unit := (eN (eN (eN (eN (eN (eN .leaf (eN .leaf eU)) (eN (eS .leaf eU) eU)) (eS (eN (eS .leaf eU) .leaf) (eN .leaf eU))) (eN (eN (eN eU .leaf) eU) (eN (eN eU .leaf) (eN .leaf (eS .leaf eU))))) (eN (eN (eN .leaf (eS (eN .leaf eU) (eN .leaf eU))) (eN (eS (eN .leaf eU) eU) (eN eU (eS .leaf eU)))) (eN (eS (eN (eN .leaf eU) .leaf) (eN (eS .leaf eU) eU)) (eN (eS eU (eN .leaf eU)) (eN .leaf (eN .leaf eU)))))) (eN (eN (eN (eN (eN eU (eN .leaf eU)) (eS eU (eN .leaf eU))) (eN (eN eU .leaf) (eN eU .leaf))) (eN (eN (eN eU .leaf) .leaf) (eS eU (eN (eN .leaf eU) eU)))) (eN (eN (eN .leaf (eN eU .leaf)) (eS (eN eU .leaf) (eN (eS .leaf eU) .leaf))) (eN (eS .leaf (eN (eN .leaf eU) .leaf)) (eN .leaf (eN .leaf (eN .leaf eU)))))))
noncomputable def F257 : KF := .fast 5 (sr [o d2 (mv vF)]
(rt [o d4 (gGtr t0 (k 8)),o d2 (mv t4)])) (rT Q2 rN)
def e257 : T Unit := (eN .leaf (eN .leaf eU))
noncomputable def F258 : KF := .fast 10 (sr [o d4 (mv vF)]
(rt [o d7 (nc t0),o d8 (gIdxAddrArr 256 1 t7 t1),o d9 (ld t8),o d4 (mv t9)])) (rT Q4 rN)
def e258 : T Unit := (eN (eN eU .leaf) (eN eU .leaf))
noncomputable def F269 : KF := .fast 25 (sr [o d2 (mv (k 0))]
(.seq (sr [o d4 (gGeq t0 (v (.int .u64 (.ofNat 4294967296))))]
(cs c4 (sr [o d6 (gBinS .shr t0 (v (.int .u64 (.ofNat 32)))),o d0 (mv t6)]
(.region [o d2 (mv (k 32))]))))
(.seq (sr [o d8 (gGeq t0 (v (.int .u64 (.ofNat 65536))))]
(cs c8 (sr [o d10 (gBinS .shr t0 (v (.int .u64 (.ofNat 16)))),o d0 (mv t10)]
(.region [o d12 (gAdd t2 (k 16)),o d2 (mv t12)]))))
(.seq (sr [o d14 (gGeq t0 (v (.int .u64 (.ofNat 256))))]
(cs c14 (sr [o d16 (gBinS .shr t0 (v (.int .u64 (.ofNat 8)))),o d0 (mv t16)]
(.region [o d18 (gAdd t2 (k 8)),o d2 (mv t18)]))))
(rt [o d21 (gConvInt .u8 t0),o d22 (gIdxStr (v (.str 256 1013866857139168856493015739252390649739422828853819106890363778118420553376247557433637691341895324351018602695588957474325319502760499485336098898398377509666851054660423406800006203933793007272033180812049178612605246075062580585469430410618860250057463399279570354286669047577758927328864388992123306212451509403152394148136105363817402562688186708175358218852349079190158732807302672745370040257219644697201681238697346923541678507645485296520536209706771857694240900605172937619415410180424934769249448772944216470541052485265558808433676546390051204254346932932316488017972311616136051587427851453983453479168)) t21),o d23 (gConvInt .i64 t22),o d24 (gAdd t2 t23),o d2 (mv t24)]))))) (rT Q2 rN)
def e269 : T Unit := (eN (eN .leaf (eN (eN .leaf eU) .leaf)) (eN (eS eU (eS .leaf eU)) (eS (eS .leaf eU) (eS .leaf eU))))
noncomputable def F270 : KF := .fast 8 (sr [o d3 (g1 (opBox 9) t0),o d4 (g1 (opBox 9) t1),o d5 (g1 (opBox 3) t2),o d6 (mv (v .nilFunc))]
(rt [o d7 (gMkFunc 335 nl (l3 t4 t3 t5)),o d6 (mv t7)])) (rT Q6 rN)
def e270 : T Unit := .leaf
noncomputable def F271 : KF := .fast 25 (sr [o d5 (cl 101 (l1 t0))]
(.seq (sr [o d7 (gLss t1 (k 0))]
(cs c7 (.region [o d8 (g1 (opMkIface 9) (v (.str 36 226187813140227768008177986391742176399534891738691412630441701833056540972817830802547))),o dN (g0 (opBad 4))])))
(.seq (.draw [⟨D9,(mv t0),0,none,none,0⟩,⟨D10,(nc t9),0,none,none,1⟩,⟨D11,(fA 1 t10),0,none,none,3⟩,⟨D12,(ld t11),2,(some (Q11,none)),none,7⟩,⟨D13,(g1 opCapSl t12),0,none,none,15⟩,⟨D14,(mv t0),0,none,none,0⟩,⟨D15,(nc t14),0,none,none,32⟩,⟨D16,(fA 1 t15),0,none,none,96⟩,⟨D17,(ld t16),2,(some (Q16,none)),none,224⟩,⟨D18,(ln t17),0,none,none,480⟩,⟨D19,(gSub t13 t18),0,none,none,1023⟩,⟨D20,(mv t1),0,none,none,0⟩,⟨D21,(gLss t19 t20),0,none,none,4095⟩])
(cs c21 (.region [o d24 (cl 338 (l2 t0 t1))]))))) rN
def e271 : T Unit := (eN (eN (eS (eN .leaf eU) .leaf) eU) (eN .leaf (eN .leaf (eN eU .leaf))))
noncomputable def F275 : KF := .fast 13 (sr [o d4 (mv (v (.str 0 0)))]
(.seq (sr [o d7 (cl 100 (l2 t0 t1))]
(cs c7 (rt [o d10 (lS t1),o d11 (gSliceStr t0 (os t10) on),o d4 (mv t11)])))
(rt [o d4 (mv t0)]))) (rT Q4 rN)
def e275 : T Unit := (eN (eN eU (eN eU eU)) (eN (eS .leaf eU) .leaf))
noncomputable def F276 : KF := .fast 53 (sr [o d2 (g0 (opNewc 362 (zs 3))),o d3 (mv (k 0))]
(.seq (sr [o d7 (gLss t0 (k 0)),g d9 (mv t0) c7 false,g d10 (gGeq t9 (k 2932897)) c7 false,o d11 (pk t7 vT t10)]
(cs c11 (rt [o d12 (gBuild (zs 3) [] nl),o dN (sN 3 t2 t12),o d3 (mv (k 1))])))
(sr [o d14 (gBinS .quo t0 (k 366)),o d15 (gAdd (k 1970) t14),o d4 (mv t15)]
(.seq (.block 0 (.loop (.seq (sr [o d17 (gAdd t4 (k 1)),o d18 (cl 343 (l1 t17)),o d19 (cl 343 (l1 (k 1970))),o d20 (gSub t18 t19),o d22 (gLeq t20 t0)]
(.cond c22 .skip
(.exit 0)))
(.block 1 (.region [o d24 (gAdd t4 (k 1)),o d4 (mv t24)])))))
(sr [o d26 (gBuild (zs 3) [(0,1),(1,1)] (l2 t4 (k 1))),o d5 (g0 (opNewc 362 (zs 3))),o dN (sN 3 t5 t26)]
(sr [o d29 (cl 343 (l1 t4)),o d30 (cl 343 (l1 (k 1970))),o d31 (gSub t29 t30),o d32 (gSub t0 t31),o d0 (mv t32)]
(.seq (.block 2 (.loop (.seq (sr [o d35 (fA 1 t5),o d36 (ld t35),o d37 (cl 344 (l2 t4 t36)),o d38 (gGeq t0 t37)]
(.cond c38 .skip
(.exit 2)))
(.block 3 (sr [o d41 (fA 1 t5),o d42 (ld t41),o d43 (cl 344 (l2 t4 t42)),o d44 (gSub t0 t43),o d0 (mv t44)]
(.region [o d45 (fA 1 t5),o d46 (ld t45),o d47 (gAdd t46 (k 1)),o d48 (fA 1 t5),o dN (s1 t48 t47)]))))))
(sr [o d50 (gAdd t0 (k 1)),o d51 (fA 2 t5),o dN (s1 t51 t50)]
(rt [o d52 (lN 3 t5),o dN (sN 3 t2 t52),o d3 (mv (k 0))]))))))))) (rC Q2 (some 3) (rT Q3 rN))
def e276 : T Unit := (eN (eN (eS .leaf (eN .leaf (eN .leaf eU))) (eN (eN eU .leaf) (eS (eN .leaf eU) eU))) (eN (eN (eS .leaf eU) (eN eU (eN eU eU))) (eN (eN eU .leaf) (eN (eS .leaf eU) .leaf))))
noncomputable def F277 : KF := .fast 16 (sr [o d4 (mv (v (.str 0 0)))]
(sr [o d7 (cl 71 (l1 t0)),o d5 (mv t7)]
(rt [o d10 (lS t5),o d11 (gSub t1 t10),o d12 (gl opMax (l2 (k 0) t11)),o d13 (cl 345 (l2 (v (.str 1 48)) t12)),o d15 (gAdd t13 t5),o d4 (mv t15)]))) (rT Q4 rN)
def e277 : T Unit := (eN (eN (eS eU .leaf) (eN .leaf eU)) (eN (eN .leaf eU) .leaf))
noncomputable def F278 : KF := .fast 23 (sr [o d4 (mv (v (.str 0 0))),o d5 (mv (v (.str 0 0))),o d6 (mv vF)]
(.seq (sr [o d10 (cl 346 (l2 t0 t1)),o d7 (mv t10)]
(sr [o d12 (gGeq t7 (k 0))]
(cs c12 (.seq (.draw [⟨D13,(mv t0),0,none,none,0⟩,⟨D14,(mv t7),0,none,none,0⟩,⟨D15,(gSliceStr t13 on (os t14)),0,none,none,3⟩,⟨D16,(mv t0),0,none,none,0⟩,⟨D17,(mv t7),0,none,none,0⟩,⟨D18,(mv t1),0,none,none,0⟩,⟨D19,(lS t18),0,none,none,32⟩,⟨D20,(gAdd t17 t19),0,none,none,112⟩,⟨D21,(gSliceStr t16 (os t20) on),0,none,none,248⟩,⟨D4,(mv t15),0,none,none,7⟩,⟨D5,(mv t21),0,none,none,1023⟩,⟨D6,(mv vT),0,none,none,2047⟩])
.ret))))
(rt [o d4 (mv t0),o d5 (mv (v (.str 0 0))),o d6 (mv vF)]))) (rT Q4 (rT Q5 (rT Q6 rN)))
def e278 : T Unit := (eN (eN (eN (eN .leaf eU) .leaf) (eN .leaf eU)) (eN (eN .leaf eU) (eN eU .leaf)))
noncomputable def F281 : KF := .fast 61 (sr [o d6 (mv (v (.str 0 0))),o d7 (mv (k 0))]
(.seq (sr [o d13 (lS t1),o d15 (lS t2),o d16 (gLss t13 t15),g d18 (mv t1) c16 false,g d19 (mv t2) c16 false,g d20 (lS t19) c16 false,g d21 (gSliceStr t18 on (os t20)) c16 false,g d22 (cl 197 (l1 t21)) c16 false,g d23 (mv t2) c16 false,g d24 (gNe t22 t23) c16 false,o d25 (pk t16 vT t24)]
(cs c25 (rt [o d6 (mv (v (.str 0 0))),o d7 (mv (k 2))])))
(sr [o d29 (lS t2),o d30 (gSliceStr t1 (os t29) on),o d31 (cl 348 (l1 t30)),o d32 (gEx0 t31),o d33 (gEx1 t31),o d34 (gExN 2 t31),o d8 (g0 (opNewc 62 [(.str 0 0),(.str 0 0)])),o dN (sN 2 t8 t32),o d1 (mv t33),o d9 (mv t34)]
(.seq (sr [o d36 (gNe t9 (k 0))]
(cs c36 (rt [o d6 (mv (v (.str 0 0))),o d7 (mv t9)])))
(sr [o d40 (cl 349 (l2 t1 (v (.str 1 32)))),o d41 (gEx0 t40),o d42 (gEx1 t40),o d10 (mv t41),o d11 (mv t42)]
(.seq (sr [o d44 (gNe t1 (v (.str 0 0))),g d46 (mv t11) c44 true,g d47 (g1 (opUn .not) t46) c44 true,o d48 (pk t44 t47 vF),g d50 (mv t11) c48 false,g d51 (mv t50) c48 false,g d52 (mv t10) c51 true,g d53 (gEq t52 (v (.str 0 0))) c51 true,g d54 (pk t51 t53 vF) c48 false,o d55 (pk t48 vT t54)]
(cs c55 (rt [o d6 (mv (v (.str 0 0))),o d7 (mv (k 2))])))
(sr [o d57 (lN 2 t8),o d58 (nc t0),o d59 (fA 2 t58),o dN (sN 2 t59 t57)]
(rt [o d6 (mv t10),o d7 (mv (k 0))])))))))) (rT Q6 (rT Q7 rN))
def e281 : T Unit := (eN (eN (eN (eS .leaf (eN .leaf eU)) (eN eU .leaf)) (eN (eS (eS eU .leaf) .leaf) (eN (eN eU .leaf) .leaf))) (eN (eN (eN (eN .leaf eU) (eN .leaf eU)) (eN .leaf (eS eU .leaf))) (eN (eN (eS .leaf eU) (eN .leaf eU)) (eN (eN .leaf eU) .leaf))))
noncomputable def F282 : KF := .fast 41 (sr [o d2 (g0 (opNewc 66 [(.bool false),(.bool false),(.bool false),(.bool false),(.bool false),z0,z0,z0,z0,z0,(.str 0 0),(.str 0 0),(.str 0 0),(.str 0 0)])),o d3 (mv (k 0))]
(sr [o d4 (g0 (opNewc 66 [(.bool false),(.bool false),(.bool false),(.bool false),(.bool false),z0,z0,z0,z0,z0,(.str 0 0),(.str 0 0),(.str 0 0),(.str 0 0)]))]
(sr [o d5 (mv (v (.func (.func 350) [] [])))]
(sr [o d8 (g0 opMkMap),o d9 (gMkFunc 354 nl (l1 t4)),o dN (g3 (opMapUpd true) t8 (v (.str 4 1163544915)) t9),o d11 (fA 10 t4),o d12 (gBuildSlice 9 1 2 [(.str 0 0)] [(0,1),(1,1)] (l2 (v (.str 4 1414087223)) (v (.str 8 4993728158299144760)))),o d13 (gCallV t5 (l2 t11 t12)),o dN (g3 (opMapUpd true) t8 (v (.str 4 1497648962)) t13),o d15 (fA 11 t4),o d16 (gBuildSlice 9 1 2 [(.str 0 0)] [(0,1),(1,1)] (l2 (v (.str 4 1280070982)) (v (.str 4 1397900360)))),o d17 (gCallV t5 (l2 t15 t16)),o dN (g3 (opMapUpd true) t8 (v (.str 3 5522770)) t17),o d18 (gMkFunc 356 nl (l1 t4)),o dN (g3 (opMapUpd true) t8 (v (.str 5 293288169029)) t18),o d19 (gMkFunc 358 nl (l1 t4)),o dN (g3 (opMapUpd true) t8 (v (.str 7 23168111302430536)) t19),o d20 (gMkFunc 360 nl (l1 t4)),o dN (g3 (opMapUpd true) t8 (v (.str 9 1407236483992863395656)) t20),o d21 (gMkFunc 363 nl (l1 t4)),o dN (g3 (opMapUpd true) t8 (v (.str 2 22850)) t21),o d22 (gMkFunc 365 nl (l1 t4)),o dN (g3 (opMapUpd true) t8 (v (.str 11 107992429273620279695594573)) t22),o d24 (cl 353 (l2 t0 t8)),o d6 (mv t24)]
(.seq (.block 0 (sr [o d27 (gNe t6 (k 0)),o d25 (mv t27)]
(.cond c25 (rt [o d28 (gBuild [(.bool false),(.bool false),(.bool false),(.bool false),(.bool false),z0,z0,z0,z0,z0,(.str 0 0),(.str 0 0),(.str 0 0),(.str 0 0)] [] nl),o dN (sN 14 t2 t28),o d3 (mv t6)])
(sr [o d31 (fA 0 t4),o d32 (fA 1 t31),o d33 (ld t32),g d35 (fA 0 t4) c33 true,g d36 (fA 2 t35) c33 true,g d37 (ld t36) c33 true,o d38 (pk t33 t37 vF),o d30 (mv t38)]
(cs c30 (rt [o d39 (gBuild [(.bool false),(.bool false),(.bool false),(.bool false),(.bool false),z0,z0,z0,z0,z0,(.str 0 0),(.str 0 0),(.str 0 0),(.str 0 0)] [] nl),o dN (sN 14 t2 t39),o d3 (mv (k 9))]))))))
(rt [o d40 (lN 14 t4),o dN (sN 14 t2 t40),o d3 (mv (k 0))])))))) (rC Q2 (some 14) (rT Q3 rN))
def e282 : T Unit := (eN (eN (eN eU (eS eU (eN .leaf eU))) .leaf) (eN (eN (eN eU .leaf) .leaf) (eN .leaf (eS eU .leaf))))
noncomputable def F283 : KF := .fast 6 (sr [o d1 (g1 (opBox 62) t0),o d2 (mv vF)]
(rt [o d3 (lN 2 t1),o d4 (gBuild [(.str 0 0),(.str 0 0)] [] nl),o d5 (gEql false (.fields [(0,none,(.leaf 2)),(1,none,(.leaf 2))]) t3 t4),o d2 (mv t5)])) (rT Q2 rN)
def e283 : T Unit := .leaf
noncomputable def F284 : KF := .fast 17 (sr [o d2 (g0 (opNewc 185 [(.str 0 0),(.str 0 0),(.str 0 0)])),o d3 (mv (k 0))]
(sr [o d4 (g0 (opNewc 185 [(.str 0 0),(.str 0 0),(.str 0 0)]))]
(sr [o d7 (g0 opMkMap),o d8 (gMkFunc 366 nl (l1 t4)),o dN (g3 (opMapUpd true) t7 (v (.str 6 98158412844878)) t8),o d9 (gMkFunc 368 nl (l1 t4)),o dN (g3 (opMapUpd true) t7 (v (.str 5 362123842127)) t9),o d11 (cl 353 (l2 t0 t7)),o d5 (mv t11)]
(.seq (sr [o d13 (gNe t5 (k 0))]
(cs c13 (rt [o d14 (gBuild [(.str 0 0),(.str 0 0),(.str 0 0)] [] nl),o dN (sN 3 t2 t14),o d3 (mv t5)])))
(rt [o d16 (lN 3 t4),o dN (sN 3 t2 t16),o d3 (mv (k 0))]))))) (rC Q2 (some 3) (rT Q3 rN))
def e284 : T Unit := (eN (eN (eS .leaf eU) (eN eU .leaf)) (eN .leaf (eN .leaf (eN .leaf eU))))
noncomputable def F286 : KF := .fast 117 (sr [o d1 (g1 (opBox 69) t0),o d2 (mv (v (.str 0 0))),o d3 (mv (k 0))]
(.seq (sr [o d11 (fA 0 t1),o d12 (ld t11),o d13 (gLss t12 (k 1)),g d15 (fA 0 t1) c13 false,g d16 (ld t15) c13 false,g d17 (gGtr t16 (k 2147483647)) c13 false,o d18 (pk t13 vT t17),g d20 (fA 1 t1) c18 false,g d21 (ld t20) c18 false,g d22 (gLss t21 (k 0)) c18 false,o d23 (pk t18 vT t22),g d25 (fA 1 t1) c23 false,g d26 (ld t25) c23 false,g d27 (gGtr t26 (k 1099511627776)) c23 false,o d28 (pk t23 vT t27),g d30 (fA 2 t1) c28 false,g d31 (ld t30) c28 false,g d32 (fA 1 t1) c28 false,g d33 (ld t32) c28 false,g d34 (gLss t31 t33) c28 false,o d35 (pk t28 vT t34),g d37 (fA 2 t1) c35 false,g d38 (ld t37) c35 false,g d39 (fA 1 t1) c35 false,g d40 (ld t39) c35 false,g d41 (gSub t38 t40) c35 false,g d42 (gGtr t41 (k 1048576)) c35 false,o d43 (pk t35 vT t42)]
(cs c43 (rt [o d2 (mv (v (.str 0 0))),o d3 (mv (k 1))])))
(.seq (.draw [⟨D44,(fA 0 t1),0,none,none,0⟩,⟨D45,(ld t44),2,(some (Q44,none)),none,1⟩,⟨D46,(cl 71 (l1 t45)),3,none,none,3⟩,⟨D47,(gAdd (v (.str 2 8273)) t46),0,none,none,7⟩,⟨D48,(gAdd t47 (v (.str 1 32))),0,none,none,15⟩,⟨D49,(fA 1 t1),0,none,none,0⟩,⟨D50,(ld t49),2,(some (Q49,none)),none,32⟩,⟨D51,(cl 71 (l1 t50)),3,none,none,103⟩,⟨D52,(gAdd t48 t51),0,none,none,255⟩,⟨D53,(gAdd t52 (v (.str 1 32))),0,none,none,511⟩,⟨D54,(fA 2 t1),0,none,none,0⟩,⟨D55,(ld t54),2,(some (Q54,none)),none,1024⟩,⟨D56,(cl 71 (l1 t55)),3,none,none,3303⟩,⟨D57,(gAdd t53 t56),0,none,none,8191⟩,⟨D58,(gBuildSlice 9 1 1 [(.str 0 0)] [(0,1)] (l1 t57)),1,none,none,16383⟩,⟨D4,(g0 (opNewc 22 [.nilslice])),1,none,none,0⟩,⟨dNO,(s1 t4 t58),3,none,none,65535⟩])
(sr [o d5 (g0 (opNewc 34 (zs 1))),o dN (s1 t5 (k 0))]
(sr [o d59 (gMkFunc 371 nl (l2 t5 t4)),o d6 (mv t59)]
(sr [o d61 (fA 3 t1),o d62 (lN 2 t61),o d63 (fA 5 t1),o d64 (lN 14 t63),o d65 (gBuild [(.str 0 0),(.str 0 0),(.str 0 0),(.str 0 0),(.bool false),(.bool false),(.bool false),(.bool false),(.bool false),z0,z0,z0,z0,z0,(.str 0 0),(.str 0 0),(.str 0 0),(.str 0 0),(.str 0 0),(.str 0 0),(.str 0 0)] [(0,1),(2,2),(4,14)] (l3 (v (.str 4 1279869261)) t62 t64)),o d66 (gCallV t6 (l1 t65))]
(.seq (sr [o d67 (fA 19 t1),o d68 (ld t67),o d69 (ln t68),o d70 (mv (k 0))]
(.block 0 (.loop (sr [o d71 (gLss t70 t69)]
(.seq (.cond c71 .skip
(.exit 0))
(.seq (.block 1 (sr [o d72 (ia 5 t68 t70),o d73 (lN 5 t72),o d8 (g0 (opNewc 187 [(.str 0 0),(.str 0 0),(.str 0 0),(.str 0 0),(.str 0 0)])),o dN (sN 5 t8 t73)]
(.region [o d75 (fA 0 t8),o d76 (lN 2 t75),o d77 (fA 2 t8),o d78 (lN 3 t77),o d79 (gBuild [(.str 0 0),(.str 0 0),(.str 0 0),(.str 0 0),(.bool false),(.bool false),(.bool false),(.bool false),(.bool false),z0,z0,z0,z0,z0,(.str 0 0),(.str 0 0),(.str 0 0),(.str 0 0),(.str 0 0),(.str 0 0),(.str 0 0)] [(0,1),(2,2),(18,3)] (l3 (v (.str 4 1414546258)) t76 t78)),o d80 (gCallV t6 (l1 t79))])))
(.region [o d81 (gAdd t70 (k 1)),o d70 (mv t81)])))))))
(sr [o d83 (fA 20 t1),o d84 (ld t83),o d85 (cl 27 (l1 t84)),o d86 (gEx0 t85),o d87 (gEx1 t85),o d9 (mv t86),o d10 (mv t87)]
(.seq (.block 2 (sr [o d89 (ld t5),o d90 (gNe t89 (k 0)),o d88 (mv t90)]
(.cond c88 (.seq (.draw [⟨D91,(ld t5),2,(some (Q5,none)),none,0⟩,⟨D2,(mv (v (.str 0 0))),0,none,none,0⟩,⟨D3,(mv t91),0,none,none,3⟩])
.ret)
(sr [o d93 (fA 19 t1),o d94 (ld t93),o d95 (ln t94),o d96 (gLss t95 (k 1)),g d98 (fA 19 t1) c96 false,g d99 (ld t98) c96 false,g d100 (ln t99) c96 false,g d101 (gGtr t100 (k 8)) c96 false,o d102 (pk t96 vT t101),o d92 (mv t102)]
(.cond c92 (rt [o d2 (mv (v (.str 0 0))),o d3 (mv (k 3))])
(sr [o d105 (gNe t10 (k 0)),o d103 (mv t105)]
(.cond c103 (rt [o d2 (mv (v (.str 0 0))),o d3 (mv t10)])
(sr [o d109 (lS t9),o d110 (gGtr t109 (k 4096)),o d107 (mv t110)]
(cs c107 (rt [o d2 (mv (v (.str 0 0))),o d3 (mv (k 3))]))))))))))
(rt [o d111 (ld t4),o d112 (cl 372 (l2 t111 (v (.str 2 2573)))),o d113 (gAdd t112 (v (.str 2 2573))),o d114 (gAdd t113 (v (.str 2 2573))),o d116 (gAdd t114 t9),o d2 (mv t116),o d3 (mv (k 0))])))))))))) (rT Q2 (rT Q3 rN))
def e286 : T Unit := (eN (eN (eN eU (eN (eN .leaf (eN eU eU)) (eN (eN .leaf eU) .leaf))) (eN (eN (eN eU (eN eU .leaf)) (eN .leaf eU)) (eN (eS .leaf (eN eU .leaf)) .leaf))) (eN (eN (eN eU .leaf) (eN .leaf (eN .leaf (eN eU .leaf)))) (eN (eN .leaf (eS (eN eU .leaf) .leaf)) .leaf)))
noncomputable def F287 : KF := .fast 11 (sr [o d3 (mv (k 0))]
(.seq (.draw [⟨D4,(ld t0),2,(some (Q0,none)),none,0⟩,⟨D5,(nc t4),0,none,none,1⟩,⟨D6,(fA 0 t5),0,none,none,3⟩,⟨D7,(ld t6),2,(some (Q6,none)),none,7⟩,⟨D8,(ld t1),2,(some (Q1,none)),none,0⟩,⟨D9,(ld t2),2,(some (Q2,none)),none,0⟩,⟨D10,(cl 72 (l3 t7 t8 t9)),3,none,none,63⟩,⟨D3,(mv t10),0,none,none,127⟩])
.ret)) (rT Q3 rN)
def e287 : T Unit := .leaf
noncomputable def F288 : KF := .fast 9 (sr [o d2 (mv (k 0))]
(.seq (.draw [⟨D3,(ld t0),2,(some (Q0,none)),none,0⟩,⟨D4,(nc t3),0,none,none,1⟩,⟨D5,(fA 0 t4),0,none,none,3⟩,⟨D6,(ld t5),2,(some (Q5,none)),none,7⟩,⟨D7,(ld t1),2,(some (Q1,none)),none,0⟩,⟨D8,(cl 73 (l2 t6 t7)),3,none,none,31⟩,⟨D2,(mv t8),0,none,none,63⟩])
.ret)) (rT Q2 rN)
def e288 : T Unit := .leaf
noncomputable def F289 : KF := .fast 11 (sr [o d3 (mv (k 0))]
(.seq (.draw [⟨D4,(ld t0),2,(some (Q0,none)),none,0⟩,⟨D5,(nc t4),0,none,none,1⟩,⟨D6,(fA 0 t5),0,none,none,3⟩,⟨D7,(ld t6),2,(some (Q6,none)),none,7⟩,⟨D8,(ld t1),2,(some (Q1,none)),none,0⟩,⟨D9,(ld t2),2,(some (Q2,none)),none,0⟩,⟨D10,(cl 74 (l3 t7 t8 t9)),3,none,none,63⟩,⟨D3,(mv t10),0,none,none,127⟩])
.ret)) (rT Q3 rN)
def e289 : T Unit := .leaf
noncomputable def F290 : KF := .fast 15 (sr [o d2 (mv (v (.str 0 0)))]
(.seq (sr [o d4 (gLss t0 (k 10))]
(cs c4 (rt [o d7 (gAdd t0 (k 1)),o d8 (gSliceStr (v (.str 36 237927390410950444456928663707796224754864904193074819559483181009558347043374296609072)) (os t0) (os t7)),o d2 (mv t8)])))
(rt [o d10 (gBinS .mul t0 (k 2)),o d12 (gBinS .mul t0 (k 2)),o d13 (gAdd t12 (k 2)),o d14 (gSliceStr (v (.str 200 9938655150514779720929161263213647789093395803754561035662628441001274968862597953692946393464194303251501229616933063375291039650253924995779037586872666250072396106842829501851083234932712366962979930255066872747696324303968523733872590022915936937156789320557469720923390131174387415513794469201054844961267015441141542819553679203788501627738430154234325528792480477051962324423099068299719245009424585859096469223093538032153047611602695245052081125123941502624659711709950000)) (os t10) (os t13)),o d2 (mv t14)]))) (rT Q2 rN)
def e290 : T Unit := (eN (eN eU .leaf) (eN (eS .leaf eU) (eS eU .leaf)))
noncomputable def F291 : KF := .fast 15 (sr [o d2 (mv (k 0))]
(sr [o d5 (cl 269 (l1 t0)),o d6 (cl 373 (l1 t5)),o d3 (mv t6)]
(rt [o d10 (gIdxAddrArr 20 1 (v (.ptr 0 0)) t3),o d11 (ld t10),o d12 (gGeq t0 t11),o d13 (cl 374 (l1 t12)),o d14 (gAdd t3 t13),o d2 (mv t14)]))) (rT Q2 rN)
def e291 : T Unit := (eN (eN .leaf (eS .leaf eU)) (eN (eN .leaf eU) (eN .leaf eU)))
noncomputable def F292 : KF := .fast 167 (sr [o d18 (ln t0),o d4 (mv t18)]
(.seq (.block 0 (.loop (.seq (sr [o d20 (gGeq t4 (k 8))]
(.cond c20 .skip
(.exit 0)))
(.block 1 (sr [o d22 (gBinS .rem t1 (v (.int .u64 (.ofNat 100000000)))),o d23 (gConvInt .u32 t22),o d5 (mv t23)]
(sr [o d25 (gBinS .quo t1 (v (.int .u64 (.ofNat 100000000)))),o d1 (mv t25)]
(sr [o d27 (gBinS .quo t5 (v (.int .u32 (.ofNat 10000)))),o d29 (gBinS .rem t5 (v (.int .u32 (.ofNat 10000)))),o d6 (mv t27),o d7 (mv t29)]
(sr [o d31 (gBinS .quo t7 (v (.int .u32 (.ofNat 100)))),o d32 (gBinS .mul t31 (v (.int .u32 (.ofNat 2)))),o d34 (gBinS .rem t7 (v (.int .u32 (.ofNat 100)))),o d35 (gBinS .mul t34 (v (.int .u32 (.ofNat 2)))),o d8 (mv t32),o d9 (mv t35)]
(sr [o d37 (gBinS .quo t6 (v (.int .u32 (.ofNat 100)))),o d38 (gBinS .mul t37 (v (.int .u32 (.ofNat 2)))),o d40 (gBinS .rem t6 (v (.int .u32 (.ofNat 100)))),o d41 (gBinS .mul t40 (v (.int .u32 (.ofNat 2)))),o d10 (mv t38),o d11 (mv t41)]
(.seq (.draw [⟨D42,(mv t0),0,none,none,0⟩,⟨D43,(mv t4),0,none,none,0⟩,⟨D44,(gSub t43 (k 1)),0,none,none,2⟩,⟨D45,(mv t0),0,none,none,0⟩,⟨D46,(mv t4),0,none,none,0⟩,⟨D47,(gSub t46 (k 2)),0,none,none,16⟩,⟨D48,(mv t9),0,none,none,0⟩,⟨D49,(gAdd t48 (v (.int .u32 (.ofNat 1)))),0,none,none,64⟩,⟨D50,(gIdxStr (v (.str 200 9938655150514779720929161263213647789093395803754561035662628441001274968862597953692946393464194303251501229616933063375291039650253924995779037586872666250072396106842829501851083234932712366962979930255066872747696324303968523733872590022915936937156789320557469720923390131174387415513794469201054844961267015441141542819553679203788501627738430154234325528792480477051962324423099068299719245009424585859096469223093538032153047611602695245052081125123941502624659711709950000)) t49),0,none,none,192⟩,⟨D51,(mv t9),0,none,none,0⟩,⟨D52,(gIdxStr (v (.str 200 9938655150514779720929161263213647789093395803754561035662628441001274968862597953692946393464194303251501229616933063375291039650253924995779037586872666250072396106842829501851083234932712366962979930255066872747696324303968523733872590022915936937156789320557469720923390131174387415513794469201054844961267015441141542819553679203788501627738430154234325528792480477051962324423099068299719245009424585859096469223093538032153047611602695245052081125123941502624659711709950000)) t51),0,none,none,512⟩,⟨D53,(ia 1 t42 t44),0,none,none,455⟩,⟨dNO,(s1 t53 t50),3,none,none,2503⟩,⟨D54,(ia 1 t45 t47),0,none,none,8191⟩,⟨dNO,(s1 t54 t52),3,none,none,16383⟩])
(.seq (.draw [⟨D55,(mv t0),0,none,none,0⟩,⟨D56,(mv t4),0,none,none,0⟩,⟨D57,(gSub t56 (k 3)),0,none,none,2⟩,⟨D58,(mv t0),0,none,none,0⟩,⟨D59,(mv t4),0,none,none,0⟩,⟨D60,(gSub t59 (k 4)),0,none,none,16⟩,⟨D61,(mv t8),0,none,none,0⟩,⟨D62,(gAdd t61 (v (.int .u32 (.ofNat 1)))),0,none,none,64⟩,⟨D63,(gIdxStr (v (.str 200 9938655150514779720929161263213647789093395803754561035662628441001274968862597953692946393464194303251501229616933063375291039650253924995779037586872666250072396106842829501851083234932712366962979930255066872747696324303968523733872590022915936937156789320557469720923390131174387415513794469201054844961267015441141542819553679203788501627738430154234325528792480477051962324423099068299719245009424585859096469223093538032153047611602695245052081125123941502624659711709950000)) t62),0,none,none,192⟩,⟨D64,(mv t8),0,none,none,0⟩,⟨D65,(gIdxStr (v (.str 200 9938655150514779720929161263213647789093395803754561035662628441001274968862597953692946393464194303251501229616933063375291039650253924995779037586872666250072396106842829501851083234932712366962979930255066872747696324303968523733872590022915936937156789320557469720923390131174387415513794469201054844961267015441141542819553679203788501627738430154234325528792480477051962324423099068299719245009424585859096469223093538032153047611602695245052081125123941502624659711709950000)) t64),0,none,none,512⟩,⟨D66,(ia 1 t55 t57),0,none,none,455⟩,⟨dNO,(s1 t66 t63),3,none,none,2503⟩,⟨D67,(ia 1 t58 t60),0,none,none,8191⟩,⟨dNO,(s1 t67 t65),3,none,none,16383⟩])
(.seq (.draw [⟨D68,(mv t0),0,none,none,0⟩,⟨D69,(mv t4),0,none,none,0⟩,⟨D70,(gSub t69 (k 5)),0,none,none,2⟩,⟨D71,(mv t0),0,none,none,0⟩,⟨D72,(mv t4),0,none,none,0⟩,⟨D73,(gSub t72 (k 6)),0,none,none,16⟩,⟨D74,(mv t11),0,none,none,0⟩,⟨D75,(gAdd t74 (v (.int .u32 (.ofNat 1)))),0,none,none,64⟩,⟨D76,(gIdxStr (v (.str 200 9938655150514779720929161263213647789093395803754561035662628441001274968862597953692946393464194303251501229616933063375291039650253924995779037586872666250072396106842829501851083234932712366962979930255066872747696324303968523733872590022915936937156789320557469720923390131174387415513794469201054844961267015441141542819553679203788501627738430154234325528792480477051962324423099068299719245009424585859096469223093538032153047611602695245052081125123941502624659711709950000)) t75),0,none,none,192⟩,⟨D77,(mv t11),0,none,none,0⟩,⟨D78,(gIdxStr (v (.str 200 9938655150514779720929161263213647789093395803754561035662628441001274968862597953692946393464194303251501229616933063375291039650253924995779037586872666250072396106842829501851083234932712366962979930255066872747696324303968523733872590022915936937156789320557469720923390131174387415513794469201054844961267015441141542819553679203788501627738430154234325528792480477051962324423099068299719245009424585859096469223093538032153047611602695245052081125123941502624659711709950000)) t77),0,none,none,512⟩,⟨D79,(ia 1 t68 t70),0,none,none,455⟩,⟨dNO,(s1 t79 t76),3,none,none,2503⟩,⟨D80,(ia 1 t71 t73),0,none,none,8191⟩,⟨dNO,(s1 t80 t78),3,none,none,16383⟩])
(.seq (.draw [⟨D81,(mv t0),0,none,none,0⟩,⟨D82,(mv t4),0,none,none,0⟩,⟨D83,(gSub t82 (k 7)),0,none,none,2⟩,⟨D84,(mv t0),0,none,none,0⟩,⟨D85,(mv t4),0,none,none,0⟩,⟨D86,(gSub t85 (k 8)),0,none,none,16⟩,⟨D87,(mv t10),0,none,none,0⟩,⟨D88,(gAdd t87 (v (.int .u32 (.ofNat 1)))),0,none,none,64⟩,⟨D89,(gIdxStr (v (.str 200 9938655150514779720929161263213647789093395803754561035662628441001274968862597953692946393464194303251501229616933063375291039650253924995779037586872666250072396106842829501851083234932712366962979930255066872747696324303968523733872590022915936937156789320557469720923390131174387415513794469201054844961267015441141542819553679203788501627738430154234325528792480477051962324423099068299719245009424585859096469223093538032153047611602695245052081125123941502624659711709950000)) t88),0,none,none,192⟩,⟨D90,(mv t10),0,none,none,0⟩,⟨D91,(gIdxStr (v (.str 200 9938655150514779720929161263213647789093395803754561035662628441001274968862597953692946393464194303251501229616933063375291039650253924995779037586872666250072396106842829501851083234932712366962979930255066872747696324303968523733872590022915936937156789320557469720923390131174387415513794469201054844961267015441141542819553679203788501627738430154234325528792480477051962324423099068299719245009424585859096469223093538032153047611602695245052081125123941502624659711709950000)) t90),0,none,none,512⟩,⟨D92,(ia 1 t81 t83),0,none,none,455⟩,⟨dNO,(s1 t92 t89),3,none,none,2503⟩,⟨D93,(ia 1 t84 t86),0,none,none,8191⟩,⟨dNO,(s1 t93 t91),3,none,none,16383⟩])
(.region [o d95 (gSub t4 (k 8)),o d4 (mv t95)]))))))))))))))
(sr [o d97 (gConvInt .u32 t1),o d12 (mv t97)]
(.seq (sr [o d99 (gGeq t4 (k 4))]
(cs c99 (sr [o d101 (gBinS .rem t12 (v (.int .u32 (.ofNat 10000)))),o d13 (mv t101)]
(sr [o d103 (gBinS .quo t12 (v (.int .u32 (.ofNat 10000)))),o d12 (mv t103)]
(sr [o d105 (gBinS .quo t13 (v (.int .u32 (.ofNat 100)))),o d106 (gBinS .mul t105 (v (.int .u32 (.ofNat 2)))),o d108 (gBinS .rem t13 (v (.int .u32 (.ofNat 100)))),o d109 (gBinS .mul t108 (v (.int .u32 (.ofNat 2)))),o d14 (mv t106),o d15 (mv t109)]
(.seq (.draw [⟨D110,(mv t0),0,none,none,0⟩,⟨D111,(mv t4),0,none,none,0⟩,⟨D112,(gSub t111 (k 1)),0,none,none,2⟩,⟨D113,(mv t0),0,none,none,0⟩,⟨D114,(mv t4),0,none,none,0⟩,⟨D115,(gSub t114 (k 2)),0,none,none,16⟩,⟨D116,(mv t15),0,none,none,0⟩,⟨D117,(gAdd t116 (v (.int .u32 (.ofNat 1)))),0,none,none,64⟩,⟨D118,(gIdxStr (v (.str 200 9938655150514779720929161263213647789093395803754561035662628441001274968862597953692946393464194303251501229616933063375291039650253924995779037586872666250072396106842829501851083234932712366962979930255066872747696324303968523733872590022915936937156789320557469720923390131174387415513794469201054844961267015441141542819553679203788501627738430154234325528792480477051962324423099068299719245009424585859096469223093538032153047611602695245052081125123941502624659711709950000)) t117),0,none,none,192⟩,⟨D119,(mv t15),0,none,none,0⟩,⟨D120,(gIdxStr (v (.str 200 9938655150514779720929161263213647789093395803754561035662628441001274968862597953692946393464194303251501229616933063375291039650253924995779037586872666250072396106842829501851083234932712366962979930255066872747696324303968523733872590022915936937156789320557469720923390131174387415513794469201054844961267015441141542819553679203788501627738430154234325528792480477051962324423099068299719245009424585859096469223093538032153047611602695245052081125123941502624659711709950000)) t119),0,none,none,512⟩,⟨D121,(ia 1 t110 t112),0,none,none,455⟩,⟨dNO,(s1 t121 t118),3,none,none,2503⟩,⟨D122,(ia 1 t113 t115),0,none,none,8191⟩,⟨dNO,(s1 t122 t120),3,none,none,16383⟩])
(.seq (.draw [⟨D123,(mv t0),0,none,none,0⟩,⟨D124,(mv t4),0,none,none,0⟩,⟨D125,(gSub t124 (k 3)),0,none,none,2⟩,⟨D126,(mv t0),0,none,none,0⟩,⟨D127,(mv t4),0,none,none,0⟩,⟨D128,(gSub t127 (k 4)),0,none,none,16⟩,⟨D129,(mv t14),0,none,none,0⟩,⟨D130,(gAdd t129 (v (.int .u32 (.ofNat 1)))),0,none,none,64⟩,⟨D131,(gIdxStr (v (.str 200 9938655150514779720929161263213647789093395803754561035662628441001274968862597953692946393464194303251501229616933063375291039650253924995779037586872666250072396106842829501851083234932712366962979930255066872747696324303968523733872590022915936937156789320557469720923390131174387415513794469201054844961267015441141542819553679203788501627738430154234325528792480477051962324423099068299719245009424585859096469223093538032153047611602695245052081125123941502624659711709950000)) t130),0,none,none,192⟩,⟨D132,(mv t14),0,none,none,0⟩,⟨D133,(gIdxStr (v (.str 200 9938655150514779720929161263213647789093395803754561035662628441001274968862597953692946393464194303251501229616933063375291039650253924995779037586872666250072396106842829501851083234932712366962979930255066872747696324303968523733872590022915936937156789320557469720923390131174387415513794469201054844961267015441141542819553679203788501627738430154234325528792480477051962324423099068299719245009424585859096469223093538032153047611602695245052081125123941502624659711709950000)) t132),0,none,none,512⟩,⟨D134,(ia 1 t123 t125),0,none,none,455⟩,⟨dNO,(s1 t134 t131),3,none,none,2503⟩,⟨D135,(ia 1 t126 t128),0,none,none,8191⟩,⟨dNO,(s1 t135 t133),3,none,none,16383⟩])
(.region [o d137 (gSub t4 (k 4)),o d4 (mv t137)]))))))))
(.seq (sr [o d139 (gGeq t4 (k 2))]
(cs c139 (sr [o d141 (gBinS .rem t12 (v (.int .u32 (.ofNat 100)))),o d142 (gBinS .mul t141 (v (.int .u32 (.ofNat 2)))),o d16 (mv t142)]
(sr [o d144 (gBinS .quo t12 (v (.int .u32 (.ofNat 100)))),o d12 (mv t144)]
(.seq (.draw [⟨D145,(mv t0),0,none,none,0⟩,⟨D146,(mv t4),0,none,none,0⟩,⟨D147,(gSub t146 (k 1)),0,none,none,2⟩,⟨D148,(mv t0),0,none,none,0⟩,⟨D149,(mv t4),0,none,none,0⟩,⟨D150,(gSub t149 (k 2)),0,none,none,16⟩,⟨D151,(mv t16),0,none,none,0⟩,⟨D152,(gAdd t151 (v (.int .u32 (.ofNat 1)))),0,none,none,64⟩,⟨D153,(gIdxStr (v (.str 200 9938655150514779720929161263213647789093395803754561035662628441001274968862597953692946393464194303251501229616933063375291039650253924995779037586872666250072396106842829501851083234932712366962979930255066872747696324303968523733872590022915936937156789320557469720923390131174387415513794469201054844961267015441141542819553679203788501627738430154234325528792480477051962324423099068299719245009424585859096469223093538032153047611602695245052081125123941502624659711709950000)) t152),0,none,none,192⟩,⟨D154,(mv t16),0,none,none,0⟩,⟨D155,(gIdxStr (v (.str 200 9938655150514779720929161263213647789093395803754561035662628441001274968862597953692946393464194303251501229616933063375291039650253924995779037586872666250072396106842829501851083234932712366962979930255066872747696324303968523733872590022915936937156789320557469720923390131174387415513794469201054844961267015441141542819553679203788501627738430154234325528792480477051962324423099068299719245009424585859096469223093538032153047611602695245052081125123941502624659711709950000)) t154),0,none,none,512⟩,⟨D156,(ia 1 t145 t147),0,none,none,455⟩,⟨dNO,(s1 t156 t153),3,none,none,2503⟩,⟨D157,(ia 1 t148 t150),0,none,none,8191⟩,⟨dNO,(s1 t157 t155),3,none,none,16383⟩])
(.region [o d159 (gSub t4 (k 2)),o d4 (mv t159)]))))))
(sr [o d161 (gGtr t4 (k 0))]
(cs c161 (.region [o d164 (gAdd (v (.int .u32 (.ofNat 48))) t12),o d165 (gConvInt .u8 t164),o d166 (ia 1 t0 (k 0)),o dN (s1 t166 t165)])))))))) rN
def e292 : T Unit := (eN (eN (eN (eN (eS (eN .leaf (eS .leaf eU)) .leaf) (eN .leaf (eN eU .leaf))) (eN (eS .leaf (eN .leaf (eN .leaf eU))) (eN .leaf (eN (eS .leaf eU) .leaf)))) (eN (eN (eS .leaf (eN .leaf (eN .leaf eU))) (eN .leaf (eS eU .leaf))) (eN (eS .leaf (eN eU (eN .leaf eU))) (eN .leaf (eN (eS .leaf eU) .leaf))))) (eN (eN (eN .leaf eU) (eN .leaf (eS .leaf eU))) (eN (eN (eN .leaf (eN eU .leaf)) (eS .leaf (eN (eN .leaf eU) .leaf))) (eN (eN .leaf eU) (eN (eN .leaf (eN .leaf eU)) .leaf)))))
noncomputable def F294 : KF := .fast 19 (sr [o d4 (mv (k 0))]
(.seq (sr [o d7 (ln t0),o d8 (mv (k 0))]
(.block 0 (.loop (sr [o d9 (gLss t8 t7)]
(.seq (.cond c9 .skip
(.exit 0))
(.seq (.block 1 (sr [o d5 (mv t8)]
(sr [o d14 (ia 1 t0 t5),o d15 (ld t14),o d16 (gCallV t1 (l1 t15))]
(cs c16 (rt [o d4 (mv t5)])))))
(.region [o d18 (gAdd t8 (k 1)),o d8 (mv t18)])))))))
(rt [o d4 (mv (v (.int .i64 (.negSucc 0))))]))) (rT Q4 rN)
def e294 : T Unit := (eN (eN (eS .leaf eU) (eN eU .leaf)) (eN (eN eU (eN .leaf eU)) (eN eU .leaf)))
noncomputable def F295 : KF := .fast 66 (sr [o d8 (mv (v .nilslice))]
(.seq (sr [o d13 (gEq t3 (k 0))]
(cs c13 (rt [o d8 (mv (v .nilslice))])))
(.seq (sr [o d15 (gEq t1 (v (.str 0 0)))]
(cs c15 (rt [o d18 (cl 377 (l2 t0 t3)),o d8 (mv t18)])))
(.seq (sr [o d20 (gLss t3 (k 0))]
(cs c20 (.region [o d23 (cl 378 (l2 t0 t1)),o d24 (gAdd t23 (k 1)),o d3 (mv t24)])))
(sr [o d27 (lS t0),o d28 (gAdd t27 (k 1)),o d29 (gl opMin (l2 t3 t28)),o d3 (mv t29)]
(sr [o d31 (g2 (opMkSlice 9 1 16 [(.str 0 0)]) t3 t3),o d9 (mv t31)]
(sr [o d33 (gSub t3 (k 1)),o d3 (mv t33)]
(sr [o d10 (mv (k 0))]
(.seq (.block 0 (.loop (.seq (sr [o d36 (gLss t10 t3)]
(.cond c36 .skip
(.exit 0)))
(.block 1 (sr [o d39 (cl 337 (l2 t0 t1)),o d11 (mv t39)]
(.seq (sr [o d41 (gLss t11 (k 0))]
(cs c41 (.exit 0)))
(sr [o d47 (gAdd t11 t2),o d48 (gSliceStr t0 on (os t47)),o d49 (ia 1 t9 t10),o dN (s1 t49 t48)]
(sr [o d53 (lS t1),o d54 (gAdd t11 t53),o d55 (gSliceStr t0 (os t54) on),o d0 (mv t55)]
(.region [o d57 (gAdd t10 (k 1)),o d10 (mv t57)])))))))))
(sr [o d61 (ia 1 t9 t10),o dN (s1 t61 t0)]
(rt [o d64 (gAdd t10 (k 1)),o d65 (gSliceSl 1 t9 on (os t64) on),o d8 (mv t65)]))))))))))) (rT Q8 rN)
def e295 : T Unit := (eN (eN (eN (eS (eS eU eU) (eS .leaf eU)) (eN (eS eU eU) (eN eU eU))) (eN (eS (eN eU eU) (eN eU .leaf)) (eN (eN eU eU) (eS .leaf eU)))) (eN (eN (eN (eN .leaf eU) (eS .leaf eU)) (eN eU eU)) (eN (eN (eN eU eU) (eS eU eU)) (eN .leaf (eN .leaf (eN .leaf eU))))))
noncomputable def F297 : KF := .fast 53 (sr [o d1 (g1 (opBox 62) t0),o d2 (mv (v (.str 0 0))),o d3 (mv (k 0))]
(.seq (sr [o d9 (lN 2 t1),o d10 (cl 380 (l1 t9)),o d4 (mv t10)]
(sr [o d12 (gNe t4 (k 0))]
(cs c12 (rt [o d2 (mv (v (.str 0 0))),o d3 (mv t4)]))))
(.seq (sr [o d14 (fA 1 t1),o d15 (ld t14),o d16 (gEq t15 (v (.str 0 0)))]
(cs c16 (rt [o d17 (fA 0 t1),o d18 (ld t17),o d19 (gAdd (v (.str 1 60)) t18),o d20 (gAdd t19 (v (.str 1 62))),o d2 (mv t20),o d3 (mv (k 0))])))
(sr [o d21 (fA 0 t1),o d22 (ld t21),o d5 (mv t22)]
(.seq (sr [o d24 (cl 381 (l1 t5)),o d25 (g1 (opUn .not) t24)]
(cs c25 (sr [o d6 (g0 (opNewc 111 [.nilptr,.nilslice]))]
(sr [o d26 (cl 272 (l2 t6 (v (.int .u8 (.ofNat 34)))))]
(.seq (sr [o d28 (g1 (opBytesOfStr 5) t5),o d29 (ln t28),o d30 (mv (k 0))]
(.block 0 (.loop (sr [o d31 (gLss t30 t29)]
(.seq (.cond c31 .skip
(.exit 0))
(.seq (.block 1 (sr [o d32 (ia 1 t28 t30),o d33 (ld t32),o d8 (mv t33)]
(.seq (sr [o d35 (gEq t8 (v (.int .u8 (.ofNat 34)))),g d37 (mv t8) c35 false,g d38 (gEq t37 (v (.int .u8 (.ofNat 92)))) c35 false,o d39 (pk t35 vT t38)]
(cs c39 (.region [o d40 (cl 272 (l2 t6 (v (.int .u8 (.ofNat 92)))))])))
(.region [o d42 (cl 272 (l2 t6 t8))]))))
(.region [o d43 (gAdd t30 (k 1)),o d30 (mv t43)])))))))
(sr [o d44 (cl 272 (l2 t6 (v (.int .u8 (.ofNat 34)))))]
(.region [o d45 (cl 51 (l1 t6)),o d5 (mv t45)])))))))
(rt [o d47 (gAdd (v (.str 1 60)) t5),o d48 (gAdd t47 (v (.str 1 64))),o d49 (fA 1 t1),o d50 (ld t49),o d51 (gAdd t48 t50),o d52 (gAdd t51 (v (.str 1 62))),o d2 (mv t52),o d3 (mv (k 0))])))))) (rT Q2 (rT Q3 rN))
def e297 : T Unit := (eN (eN (eN (eN (eN .leaf eU) .leaf) (eN .leaf (eN .leaf eU))) (eN (eN .leaf (eN .leaf eU)) .leaf)) (eN (eN eU (eN (eN .leaf eU) .leaf)) (eN (eS eU .leaf) (eN eU .leaf))))
noncomputable def F298 : KF := .fast 87 (sr [o d1 (g1 (opBox 66) t0),o d2 (mv (v (.str 0 0))),o d3 (mv (k 0))]
(.seq (sr [o d9 (lN 14 t1),o d10 (cl 382 (l1 t9)),o d4 (mv t10)]
(sr [o d12 (gNe t4 (k 0))]
(cs c12 (rt [o d2 (mv (v (.str 0 0))),o d3 (mv t4)]))))
(sr [o d5 (g0 (opNewc 22 [.nilslice]))]
(sr [o d14 (gMkFunc 383 nl (l1 t5)),o d6 (mv t14)]
(sr [o d16 (fA 7 t1),o d17 (ld t16),o d18 (cl 195 (l1 t17)),o d19 (gEx0 t18),o d20 (gEx1 t18),o d7 (mv t19)]
(.seq (.draw [⟨D21,(mv t6),0,none,none,0⟩,⟨D22,(fA 0 t1),0,none,none,0⟩,⟨D23,(fA 0 t22),0,none,none,2⟩,⟨D24,(ld t23),2,(some (Q23,none)),none,6⟩,⟨D25,(fA 5 t1),0,none,none,0⟩,⟨D26,(ld t25),2,(some (Q25,none)),none,16⟩,⟨D27,(cl 71 (l1 t26)),3,none,none,48⟩,⟨D28,(gCallV t21 (l3 t24 (v (.str 4 1163544915)) t27)),3,none,none,127⟩])
(sr [o d30 (fA 10 t1),o d31 (ld t30),o d32 (gNe t31 (v (.str 0 0))),o d33 (fA 10 t1),o d34 (ld t33),o d35 (gCallV t6 (l3 t32 (v (.str 4 1497648962)) t34))]
(sr [o d37 (fA 11 t1),o d38 (ld t37),o d39 (gNe t38 (v (.str 0 0))),o d40 (fA 11 t1),o d41 (ld t40),o d42 (gCallV t6 (l3 t39 (v (.str 3 5522770)) t41))]
(.seq (.draw [⟨D43,(mv t6),0,none,none,0⟩,⟨D44,(fA 12 t1),0,none,none,0⟩,⟨D45,(ld t44),2,(some (Q44,none)),none,2⟩,⟨D46,(gNe t45 (v (.str 0 0))),0,none,none,6⟩,⟨D47,(fA 12 t1),0,none,none,0⟩,⟨D48,(ld t47),2,(some (Q47,none)),none,16⟩,⟨D49,(cl 384 (l1 t48)),3,none,none,48⟩,⟨D50,(gCallV t43 (l3 t46 (v (.str 5 293288169029)) t49)),3,none,none,127⟩])
(.seq (.draw [⟨D51,(mv t6),0,none,none,0⟩,⟨D52,(fA 0 t1),0,none,none,0⟩,⟨D53,(fA 1 t52),0,none,none,2⟩,⟨D54,(ld t53),2,(some (Q53,none)),none,6⟩,⟨D55,(fA 6 t1),0,none,none,0⟩,⟨D56,(ld t55),2,(some (Q55,none)),none,16⟩,⟨D57,(cl 71 (l1 t56)),3,none,none,48⟩,⟨D58,(gCallV t51 (l3 t54 (v (.str 7 23168111302430536)) t57)),3,none,none,127⟩])
(sr [o d60 (fA 0 t1),o d61 (fA 2 t60),o d62 (ld t61),o d64 (gCallV t6 (l3 t62 (v (.str 9 1407236483992863395656)) t7))]
(.seq (.draw [⟨D65,(mv t6),0,none,none,0⟩,⟨D66,(fA 0 t1),0,none,none,0⟩,⟨D67,(fA 3 t66),0,none,none,2⟩,⟨D68,(ld t67),2,(some (Q67,none)),none,6⟩,⟨D69,(fA 8 t1),0,none,none,0⟩,⟨D70,(ld t69),2,(some (Q69,none)),none,16⟩,⟨D71,(cl 71 (l1 t70)),3,none,none,48⟩,⟨D72,(gAdd t71 (v (.str 1 59))),0,none,none,112⟩,⟨D73,(fA 13 t1),0,none,none,0⟩,⟨D74,(ld t73),2,(some (Q73,none)),none,256⟩,⟨D75,(gAdd t72 t74),0,none,none,1008⟩,⟨D76,(gCallV t65 (l3 t68 (v (.str 2 22850)) t75)),3,none,none,2047⟩])
(.seq (.draw [⟨D77,(mv t6),0,none,none,0⟩,⟨D78,(fA 0 t1),0,none,none,0⟩,⟨D79,(fA 4 t78),0,none,none,2⟩,⟨D80,(ld t79),2,(some (Q79,none)),none,6⟩,⟨D81,(fA 9 t1),0,none,none,0⟩,⟨D82,(ld t81),2,(some (Q81,none)),none,16⟩,⟨D83,(cl 71 (l1 t82)),3,none,none,48⟩,⟨D84,(gCallV t77 (l3 t80 (v (.str 11 107992429273620279695594573)) t83)),3,none,none,127⟩])
(rt [o d85 (ld t5),o d86 (cl 372 (l2 t85 (v (.str 1 32)))),o d2 (mv t86),o d3 (mv (k 0))])))))))))))))) (rT Q2 (rT Q3 rN))
def e298 : T Unit := (eN (eN .leaf (eN (eN .leaf (eN .leaf eU)) eU)) (eN (eN (eS eU .leaf) .leaf) (eN (eS (eN eU .leaf) .leaf) (eN .leaf (eS .leaf (eN .leaf eU))))))
end Go.Ab.Lit
