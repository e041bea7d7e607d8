/- A part of the proof: AbK1, AbKG, AbV1, AbV2, AbV3, AbV4. -/
import Derived.Test.YtkejpghmemnhfaaGreatDoorNAK
import Derived.Test.YtkejpghmemnhfaaGreatDoorProg
import Derived.KernelRfl
import Derived.Test.YtkejpghmemnhfaaGreatDoorNAE
import Derived.Lib.Bytealg

set_option linter.unusedVariables false
set_option linter.unusedSimpArgs false

namespace Go.Ab.Lit
open Go.Ab
noncomputable def F299 : KF := .fast 62 (sr [o d1 (g1 (opBox 185) t0),o d2 (mv (v (.str 0 0))),o d3 (mv (k 0))]
(.seq (sr [o d9 (lN 3 t1),o d10 (cl 385 (l1 t9)),o d4 (mv t10)]
(sr [o d12 (gNe t4 (k 0))]
(cs c12 (rt [o d2 (mv (v (.str 0 0))),o d3 (mv t4)]))))
(sr [o d5 (mv (v .nilslice)),o d6 (mv (v .nilslice))]
(.seq (sr [o d14 (fA 0 t1),o d15 (ld t14),o d16 (gEq t15 (v (.str 1 78)))]
(cs c16 (.region [o d18 (gBuildSlice 9 1 1 [(.str 0 0)] [(0,1)] (l1 (v (.str 5 353350600014)))),o d19 (gAppend 9 1 16 t6 t18),o d6 (mv t19)])))
(.seq (sr [o d20 (cl 386 nl),o d21 (ln t20),o d22 (mv (k 0))]
(.block 0 (.loop (sr [o d23 (gLss t22 t21)]
(.seq (.cond c23 .skip
(.exit 0))
(.seq (.block 1 (sr [o d24 (ia 2 t20 t22),o d25 (lN 2 t24),o d8 (g0 (opNewc 444 [(.str 0 0),(.str 0 0)])),o dN (sN 2 t8 t25)]
(sr [o d26 (fA 0 t1),o d27 (ld t26),o d28 (gIdxAddrArr 2 1 t8 (k 0)),o d29 (ld t28),o d30 (cl 302 (l2 t27 t29))]
(cs c30 (.region [o d32 (gIdxAddrArr 2 1 t8 (k 1)),o d33 (ld t32),o d34 (gBuildSlice 9 1 1 [(.str 0 0)] [(0,1)] (l1 t33)),o d35 (gAppend 9 1 16 t6 t34),o d6 (mv t35)])))))
(.region [o d36 (gAdd t22 (k 1)),o d22 (mv t36)])))))))
(.seq (sr [o d38 (ln t6),o d39 (gGtr t38 (k 0))]
(cs c39 (.region [o d42 (cl 372 (l2 t6 (v (.str 1 44)))),o d43 (gAdd (v (.str 7 17268131992194894)) t42),o d44 (gBuildSlice 9 1 1 [(.str 0 0)] [(0,1)] (l1 t43)),o d45 (gAppend 9 1 16 t5 t44),o d5 (mv t45)])))
(.seq (sr [o d46 (fA 1 t1),o d47 (ld t46),o d48 (gNe t47 (v (.str 0 0)))]
(cs c48 (.draw [⟨D49,(mv t5),0,none,none,0⟩,⟨D50,(fA 1 t1),0,none,none,0⟩,⟨D51,(ld t50),2,(some (Q50,none)),none,2⟩,⟨D52,(gAdd (v (.str 6 67432333136463)) t51),0,none,none,6⟩,⟨D53,(gAdd t52 (v (.str 1 59))),0,none,none,14⟩,⟨D54,(fA 2 t1),0,none,none,0⟩,⟨D55,(ld t54),2,(some (Q54,none)),none,32⟩,⟨D56,(cl 384 (l1 t55)),3,none,none,96⟩,⟨D57,(gAdd t53 t56),0,none,none,254⟩,⟨D58,(gBuildSlice 9 1 1 [(.str 0 0)] [(0,1)] (l1 t57)),1,none,none,510⟩,⟨D59,(gAppend 9 1 16 t49 t58),3,none,none,1023⟩,⟨D5,(mv t59),0,none,none,2047⟩])))
(rt [o d61 (cl 372 (l2 t5 (v (.str 1 32)))),o d2 (mv t61),o d3 (mv (k 0))])))))))) (rT Q2 (rT Q3 rN))
def e299 : T Unit := (eN (eN .leaf (eN (eN (eN eU .leaf) .leaf) (eN (eN .leaf eU) .leaf))) (eN (eN (eS .leaf (eN .leaf eU)) (eN (eN .leaf eU) eU)) (eN eU (eN .leaf (eN .leaf eU)))))
noncomputable def F300 : KF := .fast 9 (sr [o d2 (mv vF)]
(rt [o d4 (gLss t0 (v (.int .u8 (.ofNat 32)))),g d6 (mv t0) c4 false,g d7 (gGtr t6 (v (.int .u8 (.ofNat 126)))) c4 false,o d8 (pk t4 vT t7),o d2 (mv t8)])) (rT Q2 rN)
def e300 : T Unit := (eN .leaf (eN eU eU))
noncomputable def F302 : KF := .fast 9 (sr [o d4 (mv vF)]
(rt [o d7 (cl 337 (l2 t0 t1)),o d8 (gGeq t7 (k 0)),o d4 (mv t8)])) (rT Q4 rN)
def e302 : T Unit := (eN (eN eU .leaf) (eN eU .leaf))
noncomputable def F303 : KF := .fast 15 (sr [o d1 (g1 (opBox 69) t0),o d2 (mv (k 0)),o d3 (mv vF)]
(.seq (sr [o d4 (fA 5 t1),o d5 (fA 0 t4),o d6 (fA 3 t5),o d7 (ld t6),o d8 (g1 (opUn .not) t7)]
(cs c8 (rt [o d2 (mv (k 0)),o d3 (mv vF)])))
(rt [o d9 (fA 1 t1),o d10 (ld t9),o d11 (fA 5 t1),o d12 (fA 8 t11),o d13 (ld t12),o d14 (gAdd t10 t13),o d2 (mv t14),o d3 (mv vT)]))) (rT Q2 (rT Q3 rN))
def e303 : T Unit := .leaf
noncomputable def F305 : KF := .fast 10 (sr [o d2 (g1 (opBox 29) t0),o d3 (g1 (opBox 69) t1),o d4 (mv (k 0))]
(rt [o d5 (fA 1 t3),o d6 (ld t5),o d7 (fA 2 t2),o d8 (ld t7),o d9 (gAdd t6 t8),o d4 (mv t9)])) (rT Q4 rN)
def e305 : T Unit := .leaf
noncomputable def F312 : KF := .fast 8 (sr [o d2 (g1 (opBox 164) t0),o d3 (mv vF)]
(rt [o d4 (fA 0 t2),o d5 (ld t4),o d6 (ld t1),o d7 (gEq t5 t6),o d3 (mv t7)])) (rT Q3 rN)
def e312 : T Unit := .leaf
noncomputable def F313 : KF := .fast 63 (sr [o d6 (mv (k 20))]
(sr [o d7 (mv (k 0)),o d8 (mv t6)]
(.seq (.block 0 (.loop (.seq (sr [o d13 (gLeq t8 t1)]
(.cond c13 .skip
(.exit 0)))
(.block 1 (sr [o d18 (cl 388 (cn t0 (l3 t7 t8 t2)))]
(sr [o d7 (mv t8)]
(.region [o d22 (gAdd t8 t6),o d8 (mv t22)])))))))
(sr [o d27 (cl 388 (cn t0 (l3 t7 t1 t2)))]
(.block 2 (.loop (.seq (sr [o d30 (gLss t6 t1)]
(.cond c30 .skip
(.exit 2)))
(.block 3 (sr [o d32 (gBinS .mul (k 2) t6),o d7 (mv (k 0)),o d8 (mv t32)]
(.seq (.block 4 (.loop (.seq (sr [o d35 (gLeq t8 t1)]
(.cond c35 .skip
(.exit 4)))
(.block 5 (sr [o d40 (gAdd t7 t6),o d43 (cl 389 (cn t0 (cn t7 (l3 t40 t8 t2))))]
(sr [o d7 (mv t8)]
(.region [o d47 (gBinS .mul (k 2) t6),o d48 (gAdd t8 t47),o d8 (mv t48)])))))))
(.seq (sr [o d51 (gAdd t7 t6),o d9 (mv t51)]
(sr [o d54 (gLss t9 t1)]
(cs c54 (.region [o d60 (cl 389 (cn t0 (cn t7 (l3 t9 t1 t2))))]))))
(.region [o d62 (gBinS .mul t6 (k 2)),o d6 (mv t62)])))))))))))) rN
def e313 : T Unit := (eN (eN (eN (eS (eN .leaf eU) (eN .leaf eU)) (eS (eS eU eU) (eN eU eU))) (eN (eS (eS .leaf eU) (eS eU eU)) (eN (eS eU .leaf) eU))) (eN (eN (eN (eS eU eU) (eS eU eU)) (eN (eS eU eU) (eS eU eU))) (eN (eS (eN eU .leaf) eU) (eN (eS eU eU) (eS .leaf eU)))))
noncomputable def F315 : KF := .fast 5 (sr [o d2 (mv (v .nilslice))]
(rt [o d4 (cl 390 (l2 (v .nilslice) t0)),o d2 (mv t4)])) (rT Q2 rN)
def e315 : T Unit := (eN .leaf (eN .leaf eU))
noncomputable def F316 : KF := .fast 11 (sr [o d4 (ln t0),o d2 (mv t4)]
(.region [o d8 (gConvInt .u64 t2),o d9 (cl 188 (l1 t8)),o d10 (cl 391 (cn t0 (l3 (k 0) t2 t9)))])) rN
def e316 : T Unit := (eN (eN eU .leaf) (eN eU (eS .leaf eU)))
noncomputable def F317 : KF := .fast 14 (sr [o d4 (ld t1),o d5 (g1 (opRange false) t4)]
(.block 0 (.loop (sr [o d6 (g1 (opNext false) t5),o d7 (gEx0 t6)]
(.seq (.cond c7 .skip
(.exit 0))
(.block 1 (sr [o d8 (g1 opEntry t5),o d9 (gEx0 t8),o d3 (mv t9)]
(sr [o d12 (gCallV t0 (l1 t3)),o d13 (g1 (opUn .not) t12)]
(cs c13 .ret))))))))) rN
def e317 : T Unit := (eN (eN (eN .leaf eU) .leaf) (eN .leaf (eN eU .leaf)))
noncomputable def F326 : KF := .fast 8 (sr [o d4 (mv (k 0))]
(rt [o d7 (cl 395 (l2 t0 t1)),o d4 (mv t7)])) (rT Q4 rN)
def e326 : T Unit := (eN (eN eU .leaf) (eN eU .leaf))
noncomputable def F335 : KF := .fast 52 (.seq (sr [o d9 (ld t1),o d10 (lS t9),o d11 (gEq t10 (k 0))]
(cs c11 (.seq (.block 0 (.loop (.seq (sr [o d12 (ld t2),o d13 (lS t12),o d14 (gGtr t13 (k 0))]
(.cond c14 .skip
(.exit 0)))
(.block 1 (sr [o d16 (ld t2),o d17 (cl 336 (l1 t16)),o d18 (gEx0 t17),o d19 (gEx1 t17),o d6 (mv t19)]
(.seq (sr [o d21 (ld t2),o d23 (gSliceStr t21 on (os t6)),o d24 (gCallV t0 (l1 t23)),o d25 (g1 (opUn .not) t24)]
(cs c25 .ret))
(.region [o d26 (ld t2),o d28 (gSliceStr t26 (os t6) on),o dN (s1 t2 t28)])))))))
.ret)))
(.seq (.block 2 (.loop (.block 3 (sr [o d29 (ld t2),o d30 (ld t1),o d31 (cl 337 (l2 t29 t30)),o d7 (mv t31)]
(.seq (sr [o d33 (gLss t7 (k 0))]
(cs c33 (.exit 2)))
(sr [o d34 (ld t2),o d36 (ld t3),o d37 (gAdd t7 t36),o d38 (gSliceStr t34 on (os t37)),o d8 (mv t38)]
(.seq (sr [o d41 (gCallV t0 (l1 t8)),o d42 (g1 (opUn .not) t41)]
(cs c42 .ret))
(.region [o d43 (ld t2),o d45 (ld t1),o d46 (lS t45),o d47 (gAdd t7 t46),o d48 (gSliceStr t43 (os t47) on),o dN (s1 t2 t48)]))))))))
(.region [o d50 (ld t2),o d51 (gCallV t0 (l1 t50))]))) rN
def e335 : T Unit := (eN (eN (eN (eN .leaf eU) .leaf) (eN (eN (eN .leaf eU) eU) (eN (eN .leaf eU) (eN .leaf eU)))) (eN (eS .leaf (eN .leaf (eN eU .leaf))) (eN (eN eU (eN .leaf eU)) (eN (eN .leaf eU) eU))))
noncomputable def F337 : KF := .fast 8 (sr [o d4 (mv (k 0))]
(rt [o d7 (cl 346 (l2 t0 t1)),o d4 (mv t7)])) (rT Q4 rN)
def e337 : T Unit := (eN (eN eU .leaf) (eN eU .leaf))
noncomputable def F338 : KF := .fast 30 (.seq (.draw [⟨D5,(mv t0),0,none,none,0⟩,⟨D6,(nc t5),0,none,none,1⟩,⟨D7,(fA 1 t6),0,none,none,3⟩,⟨D8,(ld t7),2,(some (Q7,none)),none,7⟩,⟨D9,(g1 opCapSl t8),0,none,none,15⟩,⟨D10,(gBinS .mul (k 2) t9),0,none,none,31⟩,⟨D11,(mv t1),0,none,none,0⟩,⟨D12,(gAdd t10 t11),0,none,none,127⟩,⟨D13,(cl 398 (l1 t12)),3,none,none,255⟩,⟨D14,(mv t0),0,none,none,0⟩,⟨D15,(nc t14),0,none,none,512⟩,⟨D16,(fA 1 t15),0,none,none,1536⟩,⟨D17,(ld t16),2,(some (Q16,none)),none,3584⟩,⟨D18,(ln t17),0,none,none,7680⟩,⟨D19,(gSliceSl 1 t13 on (os t18) on),0,none,none,16383⟩,⟨D4,(mv t19),0,none,none,32767⟩])
(sr [o d22 (nc t0),o d23 (fA 1 t22),o d24 (ld t23),o d25 (g2 (opCopy 1) t4 t24)]
(.region [o d28 (nc t0),o d29 (fA 1 t28),o dN (s1 t29 t4)]))) rN
def e338 : T Unit := (eN (eN (eN .leaf (eN eU .leaf)) (eN (eN .leaf eU) .leaf)) (eN (eN (eN .leaf eU) .leaf) (eN (eN eU .leaf) .leaf)))
noncomputable def F343 : KF := .fast 16 (sr [o d2 (mv (k 0))]
(sr [o d4 (gSub t0 (k 1)),o d0 (mv t4)]
(rt [o d6 (gBinS .mul (k 365) t0),o d8 (gBinS .quo t0 (k 4)),o d9 (gAdd t6 t8),o d11 (gBinS .quo t0 (k 100)),o d12 (gSub t9 t11),o d14 (gBinS .quo t0 (k 400)),o d15 (gAdd t12 t14),o d2 (mv t15)]))) (rT Q2 rN)
def e343 : T Unit := (eN (eN (eN .leaf eU) .leaf) (eN (eS eU .leaf) (eS .leaf eU)))
noncomputable def F344 : KF := .fast 25 (sr [o d4 (mv (k 0))]
(sr [o d6 (gBuild (zs 12) [(0,1),(1,1),(2,1),(3,1),(4,1),(5,1),(6,1),(7,1),(8,1),(9,1),(10,1),(11,1)] (cn (k 31) (cn (k 28) (cn (k 31) (cn (k 30) (cn (k 31) (cn (k 30) (cn (k 31) (cn (k 31) (cn (k 30) (l3 (k 31) (k 30) (k 31)))))))))))),o d5 (g0 (opNewc 462 (zs 12))),o dN (sN 12 t5 t6)]
(.seq (.block 0 (sr [o d9 (gLss t1 (k 1)),g d11 (mv t1) c9 false,g d12 (gGtr t11 (k 12)) c9 false,o d13 (pk t9 vT t12),o d7 (mv t13)]
(.cond c7 (rt [o d4 (mv (k 0))])
(sr [o d16 (gEq t1 (k 2)),g d18 (mv t0) c16 true,g d19 (cl 401 (l1 t18)) c16 true,o d20 (pk t16 t19 vF),o d14 (mv t20)]
(cs c14 (rt [o d4 (mv (k 29))]))))))
(rt [o d22 (gSub t1 (k 1)),o d23 (gIdxAddrArr 12 1 t5 t22),o d24 (ld t23),o d4 (mv t24)])))) (rT Q4 rN)
def e344 : T Unit := (eN (eN (eN .leaf eU) (eN .leaf eU)) (eN (eN (eN .leaf eU) (eN .leaf eU)) (eN .leaf (eN .leaf eU))))
noncomputable def F345 : KF := .fast 125 (sr [o d4 (mv (v (.str 0 0)))]
(.seq (sr [o d11 (mv t1)]
(.block 0 (sr [o d13 (gEq t11 (k 0)),o d12 (mv t13)]
(.cond c12 (rt [o d4 (mv (v (.str 0 0)))])
(sr [o d15 (gEq t11 (k 1)),o d14 (mv t15)]
(cs c14 (rt [o d4 (mv t0)])))))))
(.seq (sr [o d18 (gLss t1 (k 0))]
(cs c18 (.region [o d19 (g1 (opMkIface 9) (v (.str 30 803580537721259243851759705503370192090912361681467747059054990345794675))),o dN (g0 (opBad 4))])))
(sr [o d22 (lS t0),o d23 (gConvInt .u64 t22),o d25 (gConvInt .u64 t1),o d26 (cl 402 (l2 t23 t25)),o d27 (gEx0 t26),o d28 (gEx1 t26),o d5 (mv t27),o d6 (mv t28)]
(.seq (sr [o d30 (gGtr t5 (v (.int .u64 (.ofNat 0)))),g d32 (mv t6) c30 false,g d33 (gGtr t32 (v (.int .u64 (.ofNat 9223372036854775807)))) c30 false,o d34 (pk t30 vT t33)]
(cs c34 (.region [o d35 (g1 (opMkIface 9) (v (.str 38 15205868538892748611404032008587509992881420136446891654521229512433839121896133884415997043))),o dN (g0 (opBad 4))])))
(sr [o d37 (gConvInt .i64 t6),o d7 (mv t37)]
(.seq (sr [o d39 (lS t0),o d40 (gEq t39 (k 0))]
(cs c40 (rt [o d4 (mv (v (.str 0 0)))])))
(.seq (sr [o d42 (gIdxStr t0 (k 0))]
(.block 1 (.seq (sr [o d44 (gEq t42 (v (.int .u8 (.ofNat 32)))),o d43 (mv t44)]
(.cond c43 .skip
(sr [o d45 (gEq t42 (v (.int .u8 (.ofNat 45)))),o d43 (mv t45)]
(.cond c43 .skip
(sr [o d46 (gEq t42 (v (.int .u8 (.ofNat 48)))),o d43 (mv t46)]
(.cond c43 .skip
(sr [o d47 (gEq t42 (v (.int .u8 (.ofNat 61)))),o d43 (mv t47)]
(.cond c43 .skip
(.region [o d48 (gEq t42 (v (.int .u8 (.ofNat 9)))),o d43 (mv t48)])))))))))
(cs c43 (.block 2 (sr [o d51 (gLeq t7 (k 128)),g d53 (mv t0) c51 true,g d54 (cl 49 (l2 (v (.str 128 22559286398272199626406967100097565284617750323981886402940245478617433826572669883320279507125651579120955467277978774294436363145338556548122030511620282274857147410179198152320278538195588281656857468496941900403218909156701224341824390342378319957753789576104947230111026941299415379430319225678334009376)) t53)) c51 true,o d55 (pk t51 t54 vF),o d49 (mv t55)]
(.cond c49 (rt [o d57 (gSliceStr (v (.str 128 22559286398272199626406967100097565284617750323981886402940245478617433826572669883320279507125651579120955467277978774294436363145338556548122030511620282274857147410179198152320278538195588281656857468496941900403218909156701224341824390342378319957753789576104947230111026941299415379430319225678334009376)) on (os t7)),o d4 (mv t57)])
(sr [o d60 (gLeq t7 (k 128)),g d62 (mv t0) c60 true,g d63 (cl 49 (l2 (v (.str 128 31723996497570280724634797484512201181493711393099527754134720204305766318617817023419143056895447533138843625859657651351551135673132345145796605406966021949017863545564497401700391694337546021079955815073824547442026591001611096730690548918969512440591266591397582042343631636202302877323886411110157200685)) t62)) c60 true,o d64 (pk t60 t63 vF),o d58 (mv t64)]
(.cond c58 (rt [o d66 (gSliceStr (v (.str 128 31723996497570280724634797484512201181493711393099527754134720204305766318617817023419143056895447533138843625859657651351551135673132345145796605406966021949017863545564497401700391694337546021079955815073824547442026591001611096730690548918969512440591266591397582042343631636202302877323886411110157200685)) on (os t7)),o d4 (mv t66)])
(sr [o d69 (gLeq t7 (k 64)),g d71 (mv t0) c69 true,g d72 (cl 49 (l2 (v (.str 64 2523822669165665336390404705544629859290233566229156400512670389406449699778550019162705750243181821682829526246867962513647789705778177872269863342321712)) t71)) c69 true,o d73 (pk t69 t72 vF),o d67 (mv t73)]
(.cond c67 (rt [o d75 (gSliceStr (v (.str 64 2523822669165665336390404705544629859290233566229156400512670389406449699778550019162705750243181821682829526246867962513647789705778177872269863342321712)) on (os t7)),o d4 (mv t75)])
(sr [o d78 (gLeq t7 (k 128)),g d80 (mv t0) c78 true,g d81 (cl 49 (l2 (v (.str 128 43003639696706380537838281034560983823802586555090470955604842943614483231904151965079282810458273322699321359498647038498769317245801623419857620662776163086446437250654096477860530963435340161908384549322295497643636045579961708901602744090158672419468161379450055657399145106852010567039046023949324205373)) t80)) c78 true,o d82 (pk t78 t81 vF),o d76 (mv t82)]
(.cond c76 (rt [o d84 (gSliceStr (v (.str 128 43003639696706380537838281034560983823802586555090470955604842943614483231904151965079282810458273322699321359498647038498769317245801623419857620662776163086446437250654096477860530963435340161908384549322295497643636045579961708901602744090158672419468161379450055657399145106852010567039046023949324205373)) on (os t7)),o d4 (mv t84)])
(sr [o d87 (gLeq t7 (k 64)),g d89 (mv t0) c87 true,g d90 (cl 49 (l2 (v (.str 64 473216750468562250573200882289618098616918793667966825096125698013709318708478128593007328170596591565530536171287742971308960569833408351050599376685321)) t89)) c87 true,o d91 (pk t87 t90 vF),o d85 (mv t91)]
(cs c85 (rt [o d93 (gSliceStr (v (.str 64 473216750468562250573200882289618098616918793667966825096125698013709318708478128593007328170596591565530536171287742971308960569833408351050599376685321)) on (os t7)),o d4 (mv t93)]))))))))))))))))
(sr [o d8 (mv t7)]
(.seq (sr [o d96 (gGtr t7 (k 8192))]
(cs c96 (sr [o d98 (lS t0),o d99 (gBinS .quo (k 8192) t98),o d101 (lS t0),o d102 (gBinS .mul t99 t101),o d8 (mv t102)]
(sr [o d104 (gEq t8 (k 0))]
(cs c104 (.region [o d106 (lS t0),o d8 (mv t106)]))))))
(sr [o d9 (g0 (opNewc 111 [.nilptr,.nilslice]))]
(sr [o d108 (cl 271 (l2 t9 t7))]
(sr [o d110 (cl 50 (l2 t9 t0))]
(.seq (.block 3 (.loop (.seq (sr [o d111 (cl 403 (l1 t9)),o d113 (gLss t111 t7)]
(.cond c113 .skip
(.exit 3)))
(.block 4 (sr [o d115 (cl 403 (l1 t9)),o d116 (gSub t7 t115),o d117 (cl 403 (l1 t9)),o d119 (gl opMin (l3 t116 t117 t8)),o d10 (mv t119)]
(.region [o d120 (cl 51 (l1 t9)),o d122 (gSliceStr t120 on (os t10)),o d123 (cl 50 (l2 t9 t122))]))))))
(rt [o d124 (cl 51 (l1 t9)),o d4 (mv t124)]))))))))))))))) (rT Q4 rN)
def e345 : T Unit := (eN (eN (eN (eN (eN (eN .leaf eU) .leaf) (eN (eN eU eU) (eS .leaf eU))) (eN (eN .leaf (eN .leaf eU)) (eN (eS eU .leaf) .leaf))) (eN (eN (eN (eN .leaf eU) .leaf) (eS eU (eS eU eU))) (eN (eS (eS .leaf eU) .leaf) (eS (eN eU .leaf) .leaf)))) (eN (eN (eN (eS eU (eN eU eU)) eU) (eN (eN (eN eU .leaf) (eS eU .leaf)) (eS .leaf (eN eU eU)))) (eN (eN (eN eU (eN eU .leaf)) (eN (eN .leaf eU) .leaf)) (eN (eN .leaf (eN eU .leaf)) (eN (eN .leaf eU) (eS eU .leaf))))))
noncomputable def F346 : KF := .fast 143 (sr [o d4 (mv (k 0))]
(sr [o d15 (lS t1),o d5 (mv t15)]
(.seq (.block 0 (sr [o d18 (gEq t5 (k 0)),g d20 (mv t1) c18 false,g d21 (mv t0) c18 false,g d22 (gEq t20 t21) c18 false,o d23 (pk t18 vT t22),o d16 (mv t23)]
(.cond c16 (rt [o d4 (mv (k 0))])
(sr [o d26 (gEq t5 (k 1)),o d24 (mv t26)]
(.cond c24 (rt [o d29 (gIdxStr t1 (k 0)),o d30 (cl 395 (l2 t0 t29)),o d4 (mv t30)])
(sr [o d34 (lS t0),o d35 (gGeq t5 t34),o d31 (mv t35)]
(.cond c31 (rt [o d4 (mv (v (.int .i64 (.negSucc 0))))])
(sr [o d38 (ld (v (.ptr 3 0))),o d39 (gLeq t5 t38),g d41 (mv t0) c39 true,g d42 (lS t41) c39 true,g d43 (gLeq t42 (k 64)) c39 true,o d44 (pk t39 t43 vF),o d36 (mv t44)]
(cs c36 (rt [o d47 (cl 329 (l2 t0 t1)),o d4 (mv t47)]))))))))))
(sr [o d49 (gIdxStr t1 (k 0)),o d6 (mv t49)]
(sr [o d51 (gIdxStr t1 (k 1)),o d7 (mv t51)]
(sr [o d8 (mv (k 0))]
(sr [o d53 (lS t0),o d55 (gSub t53 t5),o d56 (gAdd t55 (k 1)),o d9 (mv t56)]
(sr [o d10 (mv (k 0))]
(.seq (.block 1 (.loop (.seq (sr [o d59 (gLss t8 t9)]
(.cond c59 .skip
(.exit 1)))
(.block 2 (.seq (sr [o d62 (gIdxStr t0 t8),o d64 (gNe t62 t6)]
(cs c64 (sr [o d67 (gAdd t8 (k 1)),o d69 (gSliceStr t0 (os t67) (os t9)),o d71 (cl 395 (l2 t69 t6)),o d11 (mv t71)]
(.seq (sr [o d73 (gLss t11 (k 0))]
(cs c73 (rt [o d4 (mv (v (.int .i64 (.negSucc 0))))])))
(.region [o d76 (gAdd t11 (k 1)),o d77 (gAdd t8 t76),o d8 (mv t77)])))))
(.seq (sr [o d80 (gAdd t8 (k 1)),o d81 (gIdxStr t0 t80),o d83 (gEq t81 t7),g d85 (mv t0) c83 true,g d86 (mv t8) c83 true,g d87 (mv t8) c83 true,g d88 (mv t5) c83 true,g d89 (gAdd t87 t88) c83 true,g d90 (gSliceStr t85 (os t86) (os t89)) c83 true,g d91 (mv t1) c83 true,g d92 (gEq t90 t91) c83 true,o d93 (pk t83 t92 vF)]
(cs c93 (rt [o d4 (mv t8)])))
(sr [o d96 (gAdd t8 (k 1)),o d8 (mv t96)]
(sr [o d98 (gAdd t10 (k 1)),o d10 (mv t98)]
(sr [o d100 (ld (v (.ptr 3 0))),o d101 (gLeq t5 t100),g d103 (mv t10) c101 true,g d104 (mv t8) c101 true,g d105 (cl 328 (l1 t104)) c101 true,g d106 (gGtr t103 t105) c101 true,o d107 (pk t101 t106 vF)]
(.cond c107 (sr [o d110 (gSliceStr t0 (os t8) on),o d112 (cl 329 (l2 t110 t1)),o d12 (mv t112)]
(.seq (sr [o d114 (gGeq t12 (k 0))]
(cs c114 (rt [o d117 (gAdd t12 t8),o d4 (mv t117)])))
(rt [o d4 (mv (v (.int .i64 (.negSucc 0))))])))
(sr [o d119 (ld (v (.ptr 3 0))),o d120 (gGtr t5 t119),g d122 (mv t10) c120 true,g d123 (mv t8) c120 true,g d124 (gBinS .shr t123 (v (.int .u64 (.ofNat 4)))) c120 true,g d125 (gAdd (k 4) t124) c120 true,g d126 (gGeq t122 t125) c120 true,o d127 (pk t120 t126 vF),g d129 (mv t8) c127 true,g d130 (mv t9) c127 true,g d131 (gLss t129 t130) c127 true,o d132 (pk t127 t131 vF)]
(cs c132 (sr [o d135 (gSliceStr t0 (os t8) on),o d137 (cl 404 (l2 t135 t1)),o d13 (mv t137)]
(.seq (sr [o d139 (gLss t13 (k 0))]
(cs c139 (rt [o d4 (mv (v (.int .i64 (.negSucc 0))))])))
(rt [o d142 (gAdd t8 t13),o d4 (mv t142)])))))))))))))))
(rt [o d4 (mv (v (.int .i64 (.negSucc 0))))])))))))))) (rT Q4 rN)
def e346 : T Unit := (eN (eN (eN (eS (eN (eN .leaf eU) (eS .leaf eU)) (eN (eS eU .leaf) (eN eU (eS .leaf eU)))) (eN (eN eU (eN .leaf (eS .leaf eU))) (eN (eS .leaf eU) (eN .leaf eU)))) (eN (eN (eS eU (eN eU (eN .leaf eU))) (eN (eS eU eU) (eN .leaf eU))) (eN (eN .leaf (eS .leaf (eS .leaf eU))) (eN eU (eS .leaf (eN .leaf eU)))))) (eN (eN (eN (eN eU (eS eU (eN .leaf eU))) (eN .leaf (eS .leaf (eN .leaf eU)))) (eN (eS (eS eU .leaf) .leaf) (eS (eN eU .leaf) (eS eU eU)))) (eN (eN (eS .leaf (eN .leaf eU)) (eS (eN eU .leaf) (eN eU .leaf))) (eN .leaf (eN (eN eU eU) (eN eU eU))))))
noncomputable def F348 : KF := .fast 150 (sr [o d2 (g0 (opNewc 62 [(.str 0 0),(.str 0 0)])),o d3 (mv (v (.str 0 0))),o d4 (mv (k 0))]
(sr [o d5 (mv (v (.func (.func 405) [] [])))]
(sr [o d21 (cl 349 (l2 t0 (v (.str 1 60)))),o d22 (gEx0 t21),o d23 (gEx1 t21),o d0 (mv t22),o d6 (mv t23)]
(.seq (sr [o d25 (g1 (opUn .not) t6)]
(cs c25 (rt [o d27 (gCallV t5 nl),o d28 (gEx0 t27),o d29 (gEx1 t27),o d30 (gExN 2 t27),o dN (sN 2 t2 t28),o d3 (mv t29),o d4 (mv t30)])))
(.seq (sr [o d33 (cl 349 (l2 t0 (v (.str 1 62)))),o d34 (gEx0 t33),o d35 (gEx1 t33),o d7 (mv t34),o d8 (mv t35)]
(sr [o d36 (mv t8)]
(cs c36 (rt [o d37 (gBuild [(.str 0 0),(.str 0 0)] [] nl),o dN (sN 2 t2 t37),o d3 (mv t7),o d4 (mv (k 0))]))))
(sr [o d9 (mv (v (.str 0 0))),o d10 (mv (v (.str 0 0)))]
(.seq (sr [o d40 (cl 49 (l2 t0 (v (.str 1 34))))]
(.cond c40 (sr [o d43 (cl 406 (l1 t0)),o d44 (gEx0 t43),o d45 (gEx1 t43),o d46 (gExN 2 t43),o d9 (mv t44),o d10 (mv t45),o d6 (mv t46)]
(sr [o d48 (g1 (opUn .not) t6),g d50 (mv t9) c48 false,g d51 (gEq t50 (v (.str 0 0))) c48 false,o d52 (pk t48 vT t51)]
(cs c52 (rt [o d54 (gCallV t5 nl),o d55 (gEx0 t54),o d56 (gEx1 t54),o d57 (gExN 2 t54),o dN (sN 2 t2 t55),o d3 (mv t56),o d4 (mv t57)]))))
(sr [o d59 (cl 184 (l2 t0 (v (.str 2 15936)))),o d11 (mv t59)]
(.seq (sr [o d61 (gLss t11 (k 0)),g d63 (mv t0) c61 false,g d64 (mv t11) c61 false,g d65 (gSliceStr t63 on (os t64)) c61 false,g d66 (cl 381 (l1 t65)) c61 false,g d67 (g1 (opUn .not) t66) c61 false,o d68 (pk t61 vT t67)]
(cs c68 (rt [o d70 (gCallV t5 nl),o d71 (gEx0 t70),o d72 (gEx1 t70),o d73 (gExN 2 t70),o dN (sN 2 t2 t71),o d3 (mv t72),o d4 (mv t73)])))
(.seq (.draw [⟨D74,(mv t0),0,none,none,0⟩,⟨D75,(mv t11),0,none,none,0⟩,⟨D76,(gSliceStr t74 on (os t75)),0,none,none,3⟩,⟨D77,(mv t0),0,none,none,0⟩,⟨D78,(mv t11),0,none,none,0⟩,⟨D79,(gSliceStr t77 (os t78) on),0,none,none,24⟩,⟨D9,(mv t76),0,none,none,7⟩,⟨D10,(mv t79),0,none,none,127⟩])
(sr [o d82 (cl 349 (l2 t10 (v (.str 1 62)))),o d83 (gEx0 t82),o d84 (gEx1 t82),o d12 (mv t83),o d13 (mv t84)]
(sr [o d85 (mv t13)]
(cs c85 (.seq (sr [o d87 (cl 191 (l1 t9)),o d88 (gNe t87 (v (.str 10 540221291356237673492336)))]
(cs c88 (rt [o d90 (gCallV t5 nl),o d91 (gEx0 t90),o d92 (gEx1 t90),o d93 (gExN 2 t90),o dN (sN 2 t2 t91),o d3 (mv t92),o d4 (mv t93)])))
(rt [o d94 (gBuild [(.str 0 0),(.str 0 0)] [(0,1)] (l1 (v (.str 10 540221291356237673492336)))),o dN (sN 2 t2 t94),o d3 (mv t12),o d4 (mv (k 0))]))))))))))
(sr [o d98 (cl 196 (l2 t10 (v (.str 1 62)))),o d99 (gEx0 t98),o d100 (gEx1 t98),o d101 (gExN 2 t98),o d14 (mv t99),o d15 (mv t100),o d6 (mv t101)]
(sr [o d104 (cl 349 (l2 t14 (v (.str 1 64)))),o d105 (gEx0 t104),o d106 (gEx1 t104),o d14 (mv t105),o d16 (mv t106)]
(.seq (sr [o d108 (g1 (opUn .not) t6),g d110 (mv t16) c108 false,g d111 (g1 (opUn .not) t110) c108 false,o d112 (pk t108 vT t111)]
(cs c112 (rt [o d114 (gCallV t5 nl),o d115 (gEx0 t114),o d116 (gEx1 t114),o d117 (gExN 2 t114),o dN (sN 2 t2 t115),o d3 (mv t116),o d4 (mv t117)])))
(sr [o d120 (cl 105 (l1 t14)),o d121 (gEx0 t120),o d122 (gEx1 t120),o d17 (mv t121),o d18 (mv t122)]
(.seq (sr [o d124 (gEq t18 (k 3)),g d126 (mv t14) c124 true,g d127 (cl 407 (l1 t126)) c124 true,o d128 (pk t124 t127 vF),g d130 (mv t18) c128 false,g d131 (gEq t130 (k 0)) c128 false,g d132 (mv t131) c128 false,g d133 (mv t9) c132 true,g d134 (lS t133) c132 true,g d135 (gGtr t134 (k 64)) c132 true,g d136 (pk t132 t135 vF) c128 false,o d137 (pk t128 vT t136)]
(cs c137 (rt [o d138 (gBuild [(.str 0 0),(.str 0 0)] [] nl),o dN (sN 2 t2 t138),o d3 (mv (v (.str 0 0))),o d4 (mv (k 3))])))
(.seq (sr [o d140 (gNe t18 (k 0))]
(cs c140 (rt [o d142 (gCallV t5 nl),o d143 (gEx0 t142),o d144 (gEx1 t142),o d145 (gExN 2 t142),o dN (sN 2 t2 t143),o d3 (mv t144),o d4 (mv t145)])))
(rt [o d148 (gBuild [(.str 0 0),(.str 0 0)] [(0,1),(1,1)] (l2 t9 t17)),o dN (sN 2 t2 t148),o d3 (mv t15),o d4 (mv (k 0))])))))))))))))) (rC Q2 (some 2) (rT Q3 (rT Q4 rN)))
def e348 : T Unit := (eN (eN (eN (eN (eN eU .leaf) (eN (eN eU eU) (eS eU .leaf))) (eN (eS eU eU) (eN (eN .leaf (eN .leaf eU)) .leaf))) (eN (eN (eN eU .leaf) eU) (eN eU (eN (eN .leaf eU) (eS eU .leaf))))) (eN (eN (eN (eN (eN eU .leaf) (eN eU (eN .leaf eU))) (eN (eS .leaf (eN .leaf eU)) (eN .leaf eU))) (eN (eN (eN .leaf eU) eU) (eN (eS eU eU) (eN eU (eN .leaf eU))))) (eN (eN (eN (eN eU .leaf) (eN eU (eN .leaf eU))) (eS (eN .leaf (eN .leaf eU)) .leaf)) (eN (eN (eN eU .leaf) (eS eU .leaf)) (eN eU (eS eU .leaf))))))
noncomputable def F349 : KF := .fast 11 (sr [o d4 (mv (v (.str 0 0))),o d5 (mv vF)]
(rt [o d8 (cl 408 (l2 t0 t1)),o d9 (gEx0 t8),o d10 (gEx1 t8),o d4 (mv t9),o d5 (mv t10)])) (rT Q4 (rT Q5 rN))
def e349 : T Unit := (eN (eN eU .leaf) (eN .leaf (eN .leaf eU)))
noncomputable def F350 : KF := .fast 6 (sr [o d2 (g1 (opBox 424) t0),o d3 (g1 (opBox 22) t1),o d4 (mv (v .nilFunc))]
(rt [o d5 (gMkFunc 351 nl (l2 t3 t2)),o d4 (mv t5)])) (rT Q4 rN)
def e350 : T Unit := .leaf
def F353 : KF := .slow ⟨51,[(.cell 4 none)],(.seq (.region [⟨(some 3),(.box 431 (.t 1)),none,0⟩,⟨(some 4),(.newc 34 [(.int .i64 (.ofNat 0))]),none,0⟩])
 (.seq (.seq (.region [⟨(some 14),(.bin .eql (.t 0) (.v (.str 0 0))),none,0⟩])
 (.cond (.t 14)
 (.seq (.region [⟨none,(.store 1 (.t 4) (.v (.int .i64 (.ofNat 0)))),none,0⟩])
 .ret)
 .skip))
 (.seq (.region [⟨(some 15),.mkMap,none,0⟩,⟨(some 5),(.newc 467 [.nilmap]),none,0⟩,⟨none,(.store 1 (.t 5) (.t 15)),none,0⟩])
 (.seq (.seq (.region [⟨(some 17),(.call 189 [(.t 0),(.v (.str 1 32))]),none,0⟩])
 (.block 0 (.rangeFunc (.t 17) [18] (.region [⟨(some 6),(.mv (.t 18)),none,0⟩]) (.block 1 (.seq (.region [⟨(some 21),(.call 196 [(.t 6),(.v (.str 1 61))]),none,0⟩,⟨(some 22),(.extract 0 (.t 21)),none,0⟩,⟨(some 23),(.extract 1 (.t 21)),none,0⟩,⟨(some 24),(.extract 2 (.t 21)),none,0⟩,⟨(some 7),(.mv (.t 22)),none,0⟩,⟨(some 8),(.mv (.t 23)),none,0⟩])
 (.seq (.region [⟨(some 26),(.call 362 [(.t 7)]),none,0⟩,⟨(some 7),(.mv (.t 26)),none,0⟩])
 (.seq (.region [⟨(some 28),(.load1 (.t 3)),none,0⟩,⟨(some 30),(.lookup true .nilFunc true (.t 28) (.t 7)),none,0⟩,⟨(some 31),(.extract 0 (.t 30)),none,0⟩,⟨(some 32),(.extract 1 (.t 30)),none,0⟩,⟨(some 10),(.mv (.t 31)),none,0⟩,⟨(some 11),(.mv (.t 32)),none,0⟩])
 (.seq (.block 2 (.seq (.region [⟨(some 35),(.bin .eql (.t 6) (.v (.str 0 0))),none,0⟩,⟨(some 33),(.mv (.t 35)),none,0⟩])
 (.cond (.t 33)
 (.seq (.region [⟨none,(.store 1 (.t 4) (.v (.int .i64 (.ofNat 2)))),none,0⟩])
 .ret)
 (.seq (.region [⟨(some 38),(.un .not (.t 11)),none,0⟩,⟨(some 36),(.mv (.t 38)),none,0⟩])
 (.cond (.t 36)
 (.seq (.region [⟨none,(.store 1 (.t 4) (.v (.int .i64 (.ofNat 10)))),none,0⟩])
 .ret)
 (.seq (.region [⟨(some 40),(.load1 (.t 5)),none,0⟩,⟨(some 42),(.lookup true (.bool false) false (.t 40) (.t 7)),none,0⟩,⟨(some 39),(.mv (.t 42)),none,0⟩])
 (.cond (.t 39)
 (.seq (.region [⟨none,(.store 1 (.t 4) (.v (.int .i64 (.ofNat 11)))),none,0⟩])
 .ret)
 .skip)))))))
 (.seq (.region [⟨(some 43),(.load1 (.t 5)),none,0⟩,⟨none,(.mapUpd true (.t 43) (.t 7) (.v (.bool true))),none,0⟩])
 (.seq (.region [⟨(some 47),(.callV (.t 10) [(.t 8)]),none,0⟩,⟨(some 12),(.mv (.t 47)),none,0⟩])
 (.seq (.region [⟨(some 49),(.bin .neq (.t 12) (.v (.int .i64 (.ofNat 0)))),none,0⟩])
 (.cond (.t 49)
 (.seq (.region [⟨none,(.store 1 (.t 4) (.t 12)),none,0⟩])
 .ret)
 .skip))))))))))))
 (.seq (.region [⟨none,(.store 1 (.t 4) (.v (.int .i64 (.ofNat 0)))),none,0⟩])
 .ret)))))⟩
def e353 : T Unit := (eN (eN (eN (eN (eN .leaf eU) .leaf) (eN .leaf (eN eU eU))) (eN (eN (eN .leaf eU) eU) (eN .leaf (eS eU .leaf)))) (eN (eN (eS (eS .leaf eU) (eN .leaf eU)) (eS (eS .leaf eU) .leaf)) (eN (eN eU eU) .leaf)))
noncomputable def F371 : KF := .fast 18 (sr [o d3 (g1 (opBox 214) t0)]
(sr [o d7 (lN 21 t3),o d8 (cl 221 (l1 t7)),o d9 (gEx0 t8),o d10 (gEx1 t8),o d4 (mv t9),o d5 (mv t10)]
(.seq (sr [o d11 (ld t1),o d12 (gEq t11 (k 0))]
(cs c12 (.region [o dN (s1 t1 t5)])))
(.region [o d14 (ld t2),o d16 (gBuildSlice 9 1 1 [(.str 0 0)] [(0,1)] (l1 t4)),o d17 (gAppend 9 1 16 t14 t16),o dN (s1 t2 t17)])))) rN
def e371 : T Unit := (eN (eN eU .leaf) (eN (eN eU .leaf) (eN .leaf (eN .leaf eU))))
noncomputable def F372 : KF := .fast 75 (sr [o d4 (mv (v (.str 0 0)))]
(.seq (sr [o d12 (ln t0)]
(.block 0 (sr [o d14 (gEq t12 (k 0)),o d13 (mv t14)]
(.cond c13 (rt [o d4 (mv (v (.str 0 0)))])
(sr [o d16 (gEq t12 (k 1)),o d15 (mv t16)]
(cs c15 (rt [o d18 (ia 1 t0 (k 0)),o d19 (ld t18),o d4 (mv t19)])))))))
(sr [o d5 (mv (k 0))]
(.seq (sr [o d21 (lS t1),o d22 (gGtr t21 (k 0))]
(cs c22 (.seq (sr [o d24 (lS t1),o d26 (ln t0),o d27 (gSub t26 (k 1)),o d28 (gBinS .quo (k 9223372036854775807) t27),o d29 (gGeq t24 t28)]
(cs c29 (.region [o d30 (g1 (opMkIface 9) (v (.str 36 232023140547069528372253906381035003553488466437483087989658184371904395368843875349619))),o dN (g0 (opBad 4))])))
(.region [o d33 (lS t1),o d35 (ln t0),o d36 (gSub t35 (k 1)),o d37 (gBinS .mul t33 t36),o d38 (gAdd t5 t37),o d5 (mv t38)]))))
(.seq (sr [o d39 (mv t0),o d40 (ln t39),o d41 (mv (k 0))]
(.block 1 (.loop (sr [o d42 (gLss t41 t40)]
(.seq (.cond c42 .skip
(.exit 1))
(.seq (.block 2 (sr [o d43 (ia 1 t39 t41),o d44 (ld t43),o d7 (mv t44)]
(.seq (sr [o d46 (lS t7),o d48 (gSub (k 9223372036854775807) t5),o d49 (gGtr t46 t48)]
(cs c49 (.region [o d50 (g1 (opMkIface 9) (v (.str 36 232023140547069528372253906381035003553488466437483087989658184371904395368843875349619))),o dN (g0 (opBad 4))])))
(.region [o d53 (lS t7),o d54 (gAdd t5 t53),o d5 (mv t54)]))))
(.region [o d55 (gAdd t41 (k 1)),o d41 (mv t55)])))))))
(sr [o d8 (g0 (opNewc 111 [.nilptr,.nilslice]))]
(sr [o d57 (cl 271 (l2 t8 t5))]
(sr [o d59 (ia 1 t0 (k 0)),o d60 (ld t59),o d61 (cl 50 (l2 t8 t60))]
(.seq (sr [o d63 (gSliceSl 1 t0 (os (k 1)) on on),o d64 (ln t63),o d65 (mv (k 0))]
(.block 3 (.loop (sr [o d66 (gLss t65 t64)]
(.seq (.cond c66 .skip
(.exit 3))
(.seq (.block 4 (sr [o d67 (ia 1 t63 t65),o d68 (ld t67),o d10 (mv t68)]
(sr [o d70 (cl 50 (l2 t8 t1))]
(.region [o d72 (cl 50 (l2 t8 t10))]))))
(.region [o d73 (gAdd t65 (k 1)),o d65 (mv t73)])))))))
(rt [o d74 (cl 51 (l1 t8)),o d4 (mv t74)])))))))))) (rT Q4 rN)
def e372 : T Unit := (eN (eN (eN (eN (eN eU .leaf) .leaf) (eN (eN eU .leaf) (eN .leaf eU))) (eN (eN .leaf (eS eU .leaf)) (eN (eN eU .leaf) (eN .leaf eU)))) (eN (eN (eN (eN .leaf eU) (eN .leaf (eN .leaf eU))) (eN eU eU)) (eN (eS .leaf (eN eU .leaf)) (eN (eS .leaf (eN .leaf eU)) (eN eU eU)))))
noncomputable def F373 : KF := .fast 6 (sr [o d2 (mv (k 0))]
(rt [o d4 (gBinS .mul t0 (k 78913)),o d5 (gBinS .shr t4 (v (.int .u64 (.ofNat 18)))),o d2 (mv t5)])) (rT Q2 rN)
def e373 : T Unit := (eN .leaf (eN .leaf eU))
noncomputable def F374 : KF := .fast 4 (sr [o d2 (mv (k 0))]
(.seq (sr [o d3 (mv t0)]
(cs c3 (rt [o d2 (mv (k 1))])))
(rt [o d2 (mv (k 0))]))) (rT Q2 rN)
def e374 : T Unit := .leaf
noncomputable def F378 : KF := .fast 34 (sr [o d4 (mv (k 0))]
(.seq (sr [o d8 (lS t1),o d9 (gEq t8 (k 0))]
(cs c9 (rt [o d11 (cl 418 (l1 t0)),o d12 (gAdd t11 (k 1)),o d4 (mv t12)])))
(.seq (sr [o d14 (lS t1),o d15 (gEq t14 (k 1))]
(cs c15 (rt [o d18 (gIdxStr t1 (k 0)),o d19 (cl 419 (l2 t0 t18)),o d4 (mv t19)])))
(sr [o d5 (mv (k 0))]
(.block 0 (.loop (.block 1 (sr [o d22 (cl 337 (l2 t0 t1)),o d6 (mv t22)]
(.seq (sr [o d24 (gEq t6 (v (.int .i64 (.negSucc 0))))]
(cs c24 (rt [o d4 (mv t5)])))
(sr [o d27 (gAdd t5 (k 1)),o d5 (mv t27)]
(.region [o d31 (lS t1),o d32 (gAdd t6 t31),o d33 (gSliceStr t0 (os t32) on),o d0 (mv t33)]))))))))))) (rT Q4 rN)
def e378 : T Unit := (eN (eN (eN (eN eU .leaf) (eS eU .leaf)) (eN (eN eU eU) (eN .leaf eU))) (eN (eN (eS eU eU) (eN eU eU)) (eN .leaf (eS eU .leaf))))
noncomputable def F380 : KF := .fast 67 (sr [o d1 (g1 (opBox 62) t0),o d2 (mv (k 0))]
(sr [o d8 (fA 1 t1),o d9 (ld t8),o d10 (cl 105 (l1 t9)),o d11 (gEx0 t10),o d12 (gEx1 t10),o d3 (mv t11),o d4 (mv t12)]
(.seq (.block 0 (sr [o d14 (fA 0 t1),o d15 (ld t14),o d16 (lS t15),o d17 (gGtr t16 (k 64)),g d19 (fA 1 t1) c17 false,g d20 (ld t19) c17 false,g d21 (lS t20) c17 false,g d22 (gGtr t21 (k 255)) c17 false,o d23 (pk t17 vT t22),o d13 (mv t23)]
(.cond c13 (rt [o d2 (mv (k 3))])
(sr [o d25 (fA 1 t1),o d26 (ld t25),o d27 (gEq t26 (v (.str 0 0))),g d29 (fA 0 t1) c27 true,g d30 (ld t29) c27 true,g d31 (gEq t30 (v (.str 0 0))) c27 true,g d32 (mv t31) c27 true,g d33 (fA 0 t1) c32 false,g d34 (ld t33) c32 false,g d35 (gEq t34 (v (.str 10 540221291356237673492336))) c32 false,g d36 (pk t32 vT t35) c27 true,o d37 (pk t27 t36 vF),o d24 (mv t37)]
(.cond c24 (rt [o d2 (mv (k 0))])
(sr [o d40 (gNe t4 (k 0)),g d42 (mv t3) c40 false,g d43 (fA 1 t1) c40 false,g d44 (ld t43) c40 false,g d45 (gNe t42 t44) c40 false,o d46 (pk t40 vT t45),g d48 (fA 0 t1) c46 false,g d49 (ld t48) c46 false,g d50 (gEq t49 (v (.str 0 0))) c46 false,o d51 (pk t46 vT t50),o d38 (mv t51)]
(cs c38 (rt [o d2 (mv (k 2))]))))))))
(.seq (sr [o d52 (fA 0 t1),o d53 (ld t52),o d54 (g1 (opBytesOfStr 5) t53),o d55 (ln t54),o d56 (mv (k 0))]
(.block 1 (.loop (sr [o d57 (gLss t56 t55)]
(.seq (.cond c57 .skip
(.exit 1))
(.seq (.block 2 (sr [o d58 (ia 1 t54 t56),o d59 (ld t58),o d6 (mv t59)]
(sr [o d61 (gLss t6 (v (.int .u8 (.ofNat 32)))),g d63 (mv t6) c61 false,g d64 (gGtr t63 (v (.int .u8 (.ofNat 126)))) c61 false,o d65 (pk t61 vT t64)]
(cs c65 (rt [o d2 (mv (k 2))])))))
(.region [o d66 (gAdd t56 (k 1)),o d56 (mv t66)])))))))
(rt [o d2 (mv (k 0))]))))) (rT Q2 rN)
def e380 : T Unit := (eN (eN (eN (eN (eN eU .leaf) .leaf) (eN .leaf eU)) (eN (eN (eS eU .leaf) .leaf) .leaf)) (eN (eN .leaf (eN (eN .leaf eU) .leaf)) (eN .leaf (eS (eN .leaf eU) (eN eU .leaf)))))
def F381 : KF := .slow ⟨34,[(.tmp 2)],(.seq (.region [⟨(some 2),(.mv (.v (.bool false))),none,0⟩])
 (.seq (.region [⟨(some 3),(.newc 4 [(.bool false)]),none,0⟩,⟨none,(.store 1 (.t 3) (.v (.bool true))),none,0⟩])
 (.seq (.seq (.region [⟨(some 8),(.call 189 [(.t 0),(.v (.str 1 46))]),none,0⟩])
 (.block 0 (.rangeFunc (.t 8) [9] (.region [⟨(some 4),(.mv (.t 9)),none,0⟩]) (.block 1 (.seq (.region [⟨(some 10),(.load1 (.t 3)),none,0⟩,⟨(some 12),(.mv (.t 4)),(some ((.t 10),true)),0⟩,⟨(some 13),(.bin .neq (.t 12) (.v (.str 0 0))),(some ((.t 10),true)),0⟩,⟨(some 14),(.pick (.t 10) (.t 13) (.v (.bool false))),none,0⟩,⟨none,(.store 1 (.t 3) (.t 14)),none,0⟩])
 (.seq (.region [⟨(some 16),(.bytesOfStr 5 (.t 4)),none,0⟩,⟨(some 17),(.lenSl (.t 16)),none,0⟩,⟨(some 18),(.mv (.v (.int .i64 (.ofNat 0)))),none,0⟩])
 (.block 2 (.loop (.seq (.region [⟨(some 19),(.bin .lss (.t 18) (.t 17)),none,0⟩])
 (.seq (.cond (.t 19)
 .skip
 (.exit 2))
 (.seq (.block 3 (.seq (.region [⟨(some 20),(.idxAddrSl 1 (.t 16) (.t 18)),none,0⟩,⟨(some 21),(.load1 (.t 20)),none,0⟩,⟨(some 6),(.mv (.t 21)),none,0⟩])
 (.region [⟨(some 22),(.load1 (.t 3)),none,0⟩,⟨(some 24),(.mv (.t 6)),(some ((.t 22),true)),0⟩,⟨(some 25),(.call 190 [(.t 24)]),(some ((.t 22),true)),0⟩,⟨(some 26),(.mv (.t 25)),(some ((.t 22),true)),0⟩,⟨(some 27),(.mv (.t 6)),(some ((.t 26),false)),0⟩,⟨(some 28),(.call 326 [(.v (.str 19 2798340796221665388410856747217401514599654177)),(.t 27)]),(some ((.t 26),false)),0⟩,⟨(some 29),(.bin .geq (.t 28) (.v (.int .i64 (.ofNat 0)))),(some ((.t 26),false)),0⟩,⟨(some 30),(.pick (.t 26) (.v (.bool true)) (.t 29)),(some ((.t 22),true)),0⟩,⟨(some 31),(.pick (.t 22) (.t 30) (.v (.bool false))),none,0⟩,⟨none,(.store 1 (.t 3) (.t 31)),none,0⟩])))
 (.region [⟨(some 32),(.bin .add (.t 18) (.v (.int .i64 (.ofNat 1)))),none,0⟩,⟨(some 18),(.mv (.t 32)),none,0⟩]))))))))))))
 (.seq (.region [⟨(some 33),(.load1 (.t 3)),none,0⟩,⟨(some 2),(.mv (.t 33)),none,0⟩])
 .ret))))⟩
def e381 : T Unit := (eN .leaf (eN .leaf (eN eU (eS eU eU))))
noncomputable def F382 : KF := .fast 145 (sr [o d1 (g1 (opBox 66) t0),o d2 (mv (k 0))]
(sr [o d8 (fA 0 t1),o d9 (lN 5 t8),o d3 (g0 (opNewc 64 [(.bool false),(.bool false),(.bool false),(.bool false),(.bool false)])),o dN (sN 5 t3 t9)]
(sr [o d4 (mv (v (.func (.func 420) [] [])))]
(sr [o d5 (mv (v (.func (.func 421) [] [])))]
(sr [o d6 (mv (v (.func (.func 422) [] [])))]
(sr [o d7 (mv (v (.int .i64 (.negSucc 999999998))))]
(.seq (sr [o d10 (fA 13 t1),o d11 (ld t10),o d12 (cl 49 (l2 t11 (v (.str 1 82))))]
(cs c12 (.region [o d7 (mv (k 1))])))
(.seq (.block 0 (sr [o d15 (fA 0 t3),o d16 (ld t15),o d17 (fA 5 t1),o d18 (ld t17),o d19 (gCallV t4 (l2 t16 t18)),o d20 (g1 (opUn .not) t19),g d22 (mv t4) c20 false,g d23 (fA 1 t3) c20 false,g d24 (ld t23) c20 false,g d25 (fA 6 t1) c20 false,g d26 (ld t25) c20 false,g d27 (gCallV t22 (l2 t24 t26)) c20 false,g d28 (g1 (opUn .not) t27) c20 false,o d29 (pk t20 vT t28),g d31 (mv t4) c29 false,g d32 (fA 2 t3) c29 false,g d33 (ld t32) c29 false,g d34 (fA 7 t1) c29 false,g d35 (ld t34) c29 false,g d36 (gCallV t31 (l2 t33 t35)) c29 false,g d37 (g1 (opUn .not) t36) c29 false,o d38 (pk t29 vT t37),g d40 (mv t4) c38 false,g d41 (fA 3 t3) c38 false,g d42 (ld t41) c38 false,g d43 (fA 8 t1) c38 false,g d44 (ld t43) c38 false,g d45 (gCallV t40 (l2 t42 t44)) c38 false,g d46 (g1 (opUn .not) t45) c38 false,o d47 (pk t38 vT t46),g d49 (mv t4) c47 false,g d50 (fA 4 t3) c47 false,g d51 (ld t50) c47 false,g d52 (fA 9 t1) c47 false,g d53 (ld t52) c47 false,g d54 (gCallV t49 (l2 t51 t53)) c47 false,g d55 (g1 (opUn .not) t54) c47 false,o d56 (pk t47 vT t55),o d13 (mv t56)]
(.cond c13 (rt [o d2 (mv (k 2))])
(sr [o d59 (fA 10 t1),o d60 (ld t59),o d61 (gBuildSlice 9 1 2 [(.str 0 0)] [(0,1),(1,1)] (l2 (v (.str 4 1414087223)) (v (.str 8 4993728158299144760)))),o d62 (gCallV t5 (l2 t60 t61)),o d63 (g1 (opUn .not) t62),g d65 (mv t5) c63 false,g d66 (fA 11 t1) c63 false,g d67 (ld t66) c63 false,g d68 (gBuildSlice 9 1 2 [(.str 0 0)] [(0,1),(1,1)] (l2 (v (.str 4 1280070982)) (v (.str 4 1397900360)))) c63 false,g d69 (gCallV t65 (l2 t67 t68)) c63 false,g d70 (g1 (opUn .not) t69) c63 false,o d71 (pk t63 vT t70),g d73 (mv t5) c71 false,g d74 (fA 13 t1) c71 false,g d75 (ld t74) c71 false,g d76 (gBuildSlice 9 1 4 [(.str 0 0)] [(0,1),(1,1),(2,1),(3,1)] (cn (v (.str 1 82)) (l3 (v (.str 1 78)) (v (.str 2 21586)) (v (.str 2 21582))))) c71 false,g d77 (gCallV t73 (l2 t75 t76)) c71 false,g d78 (g1 (opUn .not) t77) c71 false,o d79 (pk t71 vT t78),g d81 (fA 13 t1) c79 false,g d82 (ld t81) c79 false,g d83 (gEq t82 (v (.str 0 0))) c79 false,g d84 (fA 3 t3) c79 false,g d85 (ld t84) c79 false,g d86 (gEql false (.leaf 0) t83 t85) c79 false,o d87 (pk t79 vT t86),o d57 (mv t87)]
(.cond c57 (rt [o d2 (mv (k 2))])
(sr [o d90 (fA 0 t3),o d91 (ld t90),o d92 (fA 5 t1),o d93 (ld t92),o d94 (gCallV t6 (cn t91 (l3 t93 (k 0) (k 999999999)))),o d95 (g1 (opUn .not) t94),g d97 (mv t6) c95 false,g d98 (fA 1 t3) c95 false,g d99 (ld t98) c95 false,g d100 (fA 6 t1) c95 false,g d101 (ld t100) c95 false,g d102 (gCallV t97 (cn t99 (l3 t101 (k 1) (k 1048576)))) c95 false,g d103 (g1 (opUn .not) t102) c95 false,o d104 (pk t95 vT t103),g d106 (mv t6) c104 false,g d107 (fA 2 t3) c104 false,g d108 (ld t107) c104 false,g d109 (fA 7 t1) c104 false,g d110 (ld t109) c104 false,g d111 (gCallV t106 (cn t108 (l3 t110 (k 0) (k 253402300799)))) c104 false,g d112 (g1 (opUn .not) t111) c104 false,o d113 (pk t104 vT t112),g d115 (mv t6) c113 false,g d116 (fA 3 t3) c113 false,g d117 (ld t116) c113 false,g d118 (fA 8 t1) c113 false,g d119 (ld t118) c113 false,g d120 (mv t7) c113 false,g d121 (gCallV t115 (cn t117 (l3 t119 t120 (k 999999999)))) c113 false,g d122 (g1 (opUn .not) t121) c113 false,o d123 (pk t113 vT t122),g d125 (mv t6) c123 false,g d126 (fA 4 t3) c123 false,g d127 (ld t126) c123 false,g d128 (fA 9 t1) c123 false,g d129 (ld t128) c123 false,g d130 (gCallV t125 (cn t127 (l3 t129 (v (.int .i64 (.negSucc 8))) (k 9)))) c123 false,g d131 (g1 (opUn .not) t130) c123 false,o d132 (pk t123 vT t131),o d88 (mv t132)]
(.cond c88 (rt [o d2 (mv (k 1))])
(sr [o d134 (fA 12 t1),o d135 (ld t134),o d136 (lS t135),o d137 (gGtr t136 (k 100)),o d133 (mv t137)]
(.cond c133 (rt [o d2 (mv (k 3))])
(sr [o d139 (fA 1 t3),o d140 (ld t139),g d142 (fA 2 t3) c140 true,g d143 (ld t142) c140 true,o d144 (pk t140 t143 vF),o d138 (mv t144)]
(cs c138 (rt [o d2 (mv (k 9))]))))))))))))
(rt [o d2 (mv (k 0))]))))))))) (rT Q2 rN)
def e382 : T Unit := (eN (eN (eN (eS eU .leaf) (eN (eN eU .leaf) (eN (eN eU .leaf) .leaf))) (eN (eN (eN (eN eU .leaf) .leaf) .leaf) (eN (eN .leaf (eN .leaf eU)) (eN (eS .leaf eU) (eN eU eU))))) (eN (eN (eN (eN .leaf (eN .leaf (eN .leaf eU))) eU) (eN (eN (eN .leaf eU) (eN eU .leaf)) .leaf)) (eN .leaf (eN (eN .leaf eU) .leaf))))
noncomputable def F383 : KF := .fast 15 (sr [o d7 (mv t0)]
(cs c7 (.region [o d8 (ld t3),o d10 (gAdd t1 (v (.str 1 61))),o d12 (gAdd t10 t2),o d13 (gBuildSlice 9 1 1 [(.str 0 0)] [(0,1)] (l1 t12)),o d14 (gAppend 9 1 16 t8 t13),o dN (s1 t3 t14)]))) rN
def e383 : T Unit := (eN .leaf (eN (eN .leaf eU) (eN eU .leaf)))
noncomputable def F384 : KF := .fast 28 (sr [o d2 (mv (v (.str 0 0)))]
(sr [o d3 (g0 (opNewc 111 [.nilptr,.nilslice]))]
(.seq (sr [o d7 (g1 (opBytesOfStr 5) t0),o d8 (ln t7),o d9 (mv (k 0))]
(.block 0 (.loop (sr [o d10 (gLss t9 t8)]
(.seq (.cond c10 .skip
(.exit 0))
(.seq (.block 1 (sr [o d11 (ia 1 t7 t9),o d12 (ld t11),o d5 (mv t12)]
(.seq (sr [o d14 (cl 423 (l1 t5))]
(cs c14 (sr [o d16 (cl 272 (l2 t3 t5))]
(.exit 1))))
(sr [o d17 (cl 272 (l2 t3 (v (.int .u8 (.ofNat 43)))))]
(sr [o d19 (gBinS .shr t5 (v (.int .u64 (.ofNat 4)))),o d20 (gIdxStr (v (.str 16 93405612720827812017303888595717861680)) t19),o d21 (cl 272 (l2 t3 t20))]
(.region [o d23 (gBinS .and t5 (v (.int .u8 (.ofNat 15)))),o d24 (gIdxStr (v (.str 16 93405612720827812017303888595717861680)) t23),o d25 (cl 272 (l2 t3 t24))]))))))
(.region [o d26 (gAdd t9 (k 1)),o d9 (mv t26)])))))))
(rt [o d27 (cl 51 (l1 t3)),o d2 (mv t27)])))) (rT Q2 rN)
def e384 : T Unit := (eN (eN (eS (eN .leaf eU) (eN .leaf eU)) .leaf) (eN (eN eU .leaf) (eN .leaf (eN .leaf eU))))
noncomputable def F385 : KF := .fast 41 (sr [o d1 (g1 (opBox 185) t0),o d2 (mv (k 0))]
(.seq (.block 0 (sr [o d4 (gBuildSlice 9 1 9 [(.str 0 0)] [(0,1),(1,1),(2,1),(3,1),(4,1),(5,1),(6,1),(7,1),(8,1)] (cn (v (.str 0 0)) (cn (v (.str 1 78)) (cn (v (.str 1 83)) (cn (v (.str 1 70)) (cn (v (.str 1 68)) (cn (v (.str 2 18003)) (l3 (v (.str 2 17491)) (v (.str 2 17478)) (v (.str 3 4474451)))))))))),o d5 (fA 0 t1),o d6 (ld t5),o d7 (cl 124 (l2 t4 t6)),o d8 (g1 (opUn .not) t7),o d3 (mv t8)]
(.cond c3 (rt [o d2 (mv (k 2))])
(.seq (.draw [⟨D10,(fA 1 t1),0,none,none,0⟩,⟨D11,(ld t10),2,(some (Q10,none)),none,1⟩,⟨D12,(gEq t11 (v (.str 0 0))),0,none,none,3⟩,⟨D13,(fA 2 t1),0,none,none,0⟩,⟨D14,(ld t13),2,(some (Q13,none)),none,8⟩,⟨D15,(gEq t14 (v (.str 0 0))),0,none,none,24⟩,⟨D16,(gEql true (.leaf 0) t12 t15),0,none,none,63⟩,⟨D17,(mv t16),0,none,none,127⟩,⟨D18,(fA 1 t1),0,none,(some (Q17,false)),255⟩,⟨D19,(ld t18),2,(some (Q18,none)),(some (Q17,false)),511⟩,⟨D20,(gNe t19 (v (.str 0 0))),0,none,(some (Q17,false)),1023⟩,⟨D21,(mv t20),0,none,(some (Q17,false)),2047⟩,⟨D22,(fA 1 t1),0,none,(some (Q21,true)),4095⟩,⟨D23,(ld t22),2,(some (Q22,none)),(some (Q21,true)),8191⟩,⟨D24,(cl 369 (l1 t23)),3,none,(some (Q21,true)),16383⟩,⟨D25,(g1 (opUn .not) t24),0,none,(some (Q21,true)),32767⟩,⟨D26,(mv t25),0,none,(some (Q21,true)),65535⟩,⟨D27,(fA 1 t1),0,none,(some (Q26,false)),131071⟩,⟨D28,(ld t27),2,(some (Q27,none)),(some (Q26,false)),262143⟩,⟨D29,(cl 362 (l1 t28)),3,none,(some (Q26,false)),524287⟩,⟨D30,(fA 1 t1),0,none,(some (Q26,false)),131071⟩,⟨D31,(ld t30),2,(some (Q30,none)),(some (Q26,false)),1179647⟩,⟨D32,(gNe t29 t31),0,none,(some (Q26,false)),4194303⟩,⟨D33,(pk t26 vT t32),0,none,(some (Q21,true)),8388607⟩,⟨D34,(pk t21 t33 vF),0,none,(some (Q17,false)),16777215⟩,⟨D35,(pk t17 vT t34),0,none,none,33554431⟩,⟨D9,(mv t35),0,none,none,67108863⟩])
(.cond c9 (rt [o d2 (mv (k 2))])
(sr [o d37 (fA 2 t1),o d38 (ld t37),o d39 (lS t38),o d40 (gGtr t39 (k 256)),o d36 (mv t40)]
(cs c36 (rt [o d2 (mv (k 3))]))))))))
(rt [o d2 (mv (k 0))]))) (rT Q2 rN)
def e385 : T Unit := .leaf
noncomputable def F386 : KF := .fast 5 (sr [o d0 (mv (v .nilslice))]
(rt [o d1 (gBuild [(.str 0 0),(.str 0 0)] [(0,1),(1,1)] (l2 (v (.str 1 83)) (v (.str 7 23453980013319507)))),o d2 (gBuild [(.str 0 0),(.str 0 0)] [(0,1),(1,1)] (l2 (v (.str 1 70)) (v (.str 7 19512299698602310)))),o d3 (gBuild [(.str 0 0),(.str 0 0)] [(0,1),(1,1)] (l2 (v (.str 1 68)) (v (.str 5 383347606852)))),o d4 (gBuildSlice 444 2 3 [(.str 0 0),(.str 0 0)] [(0,2),(2,2),(4,2)] (l3 t1 t2 t3)),o d0 (mv t4)])) (rT Q0 rN)
def e386 : T Unit := .leaf
noncomputable def F388 : KF := .fast 53 (sr [o d11 (gAdd t1 (k 1)),o d8 (mv t11)]
(.block 0 (.loop (.seq (sr [o d14 (gLss t8 t2)]
(.cond c14 .skip
(.exit 0)))
(.seq (.block 1 (sr [o d9 (mv t8)]
(.block 2 (.loop (.seq (.seq (.draw [⟨D18,(mv t9),0,none,none,0⟩,⟨D19,(mv t1),0,none,none,0⟩,⟨D20,(gGtr t18 t19),0,none,none,3⟩,⟨D21,(mv t20),0,none,none,7⟩,⟨D22,(mv t3),0,none,(some (Q21,true)),15⟩,⟨D23,(mv t0),0,none,(some (Q21,true)),15⟩,⟨D24,(mv t9),0,none,(some (Q21,true)),15⟩,⟨D25,(ia 4 t23 t24),0,none,(some (Q21,true)),111⟩,⟨D26,(lN 4 t25),2,(some (Q25,some 4)),(some (Q21,true)),239⟩,⟨D27,(mv t0),0,none,(some (Q21,true)),15⟩,⟨D28,(mv t9),0,none,(some (Q21,true)),15⟩,⟨D29,(gSub t28 (k 1)),0,none,(some (Q21,true)),1039⟩,⟨D30,(ia 4 t27 t29),0,none,(some (Q21,true)),3599⟩,⟨D31,(lN 4 t30),2,(some (Q30,some 4)),(some (Q21,true)),7695⟩,⟨D32,(gCallV t22 (l2 t26 t31)),3,none,(some (Q21,true)),16383⟩,⟨D33,(gLss t32 (k 0)),0,none,(some (Q21,true)),32767⟩,⟨D34,(pk t21 t33 vF),0,none,none,65535⟩])
(.cond c34 .skip
(.exit 2)))
(.seq (.block 3 (.draw [⟨D37,(mv t0),0,none,none,0⟩,⟨D38,(mv t9),0,none,none,0⟩,⟨D39,(mv t0),0,none,none,0⟩,⟨D40,(mv t9),0,none,none,0⟩,⟨D41,(gSub t40 (k 1)),0,none,none,8⟩,⟨D42,(mv t0),0,none,none,0⟩,⟨D43,(mv t9),0,none,none,0⟩,⟨D44,(gSub t43 (k 1)),0,none,none,64⟩,⟨D45,(ia 4 t42 t44),0,none,none,224⟩,⟨D46,(lN 4 t45),2,(some (Q45,some 4)),none,480⟩,⟨D47,(mv t0),0,none,none,0⟩,⟨D48,(mv t9),0,none,none,0⟩,⟨D49,(ia 4 t47 t48),0,none,none,3072⟩,⟨D50,(lN 4 t49),2,(some (Q49,some 4)),none,7168⟩,⟨D51,(ia 4 t37 t38),0,none,none,16355⟩,⟨dNO,(sN 4 t51 t46),3,none,none,32739⟩,⟨D52,(ia 4 t39 t41),0,none,none,65535⟩,⟨dNO,(sN 4 t52 t50),3,none,none,131071⟩]))
(.region [o d36 (gSub t9 (k 1)),o d9 (mv t36)])))))))
(.region [o d16 (gAdd t8 (k 1)),o d8 (mv t16)])))))) rN
def e388 : T Unit := (eN (eN (eN .leaf eU) (eN eU .leaf)) (eN (eN eU (eN .leaf eU)) (eN (eN .leaf (eN .leaf eU)) (eN .leaf eU))))
def F390 : KF := .slow ⟨13,[(.tmp 4)],(.seq (.region [⟨(some 2),(.box 22 (.t 0)),none,0⟩,⟨(some 4),(.mv (.v .nilslice)),none,0⟩])
 (.seq (.seq (.region [⟨(some 6),(.mv (.t 1)),none,0⟩])
 (.block 0 (.rangeFunc (.t 6) [7] (.region [⟨(some 5),(.mv (.t 7)),none,0⟩]) (.block 1 (.region [⟨(some 8),(.load1 (.t 2)),none,0⟩,⟨(some 10),(.buildSlice 9 1 1 [(.str 0 0)] [(0,1,(.t 5))]),none,0⟩,⟨(some 11),(.append 9 1 16 (.t 8) (.t 10)),none,0⟩,⟨none,(.store 1 (.t 2) (.t 11)),none,0⟩])))))
 (.seq (.region [⟨(some 12),(.load1 (.t 2)),none,0⟩,⟨(some 4),(.mv (.t 12)),none,0⟩])
 .ret)))⟩
def e390 : T Unit := (eN .leaf (eN (eN .leaf eU) .leaf))
noncomputable def F391 : KF := .fast 134 (sr [o d8 (mv vT)]
(sr [o d9 (mv vT)]
(.block 0 (.loop (.block 1 (sr [o d21 (gSub t2 t1),o d10 (mv t21)]
(.seq (sr [o d23 (gLeq t10 (k 12))]
(cs c23 (rt [o d27 (cl 430 (l3 t0 t1 t2))])))
(.seq (sr [o d29 (gEq t3 (k 0))]
(cs c29 (rt [o d33 (cl 431 (l3 t0 t1 t2))])))
(.seq (sr [o d35 (g1 (opUn .not) t8)]
(cs c35 (sr [o d39 (cl 432 (l3 t0 t1 t2))]
(.region [o d41 (gSub t3 (k 1)),o d3 (mv t41)]))))
(sr [o d46 (cl 433 (l3 t0 t1 t2)),o d47 (gEx0 t46),o d48 (gEx1 t46),o d11 (mv t47),o d12 (mv t48)]
(.seq (sr [o d50 (gEq t12 (k 2))]
(cs c50 (sr [o d54 (cl 434 (l3 t0 t1 t2))]
(sr [o d56 (gSub t2 (k 1)),o d59 (gSub t11 t1),o d60 (gSub t56 t59),o d11 (mv t60)]
(.region [o d12 (mv (k 1))])))))
(.seq (sr [g d63 (mv t9) c8 true,o d64 (pk t8 t63 vF),g d66 (mv t12) c64 true,g d67 (gEq t66 (k 1)) c64 true,o d68 (pk t64 t67 vF)]
(cs c68 (sr [o d72 (cl 435 (l3 t0 t1 t2))]
(cs c72 .ret))))
(.seq (.seq (.draw [⟨D73,(mv t1),0,none,none,0⟩,⟨D74,(gGtr t73 (k 0)),0,none,none,1⟩,⟨D75,(mv t74),0,none,none,3⟩,⟨D76,(mv t0),0,none,(some (Q75,true)),7⟩,⟨D77,(mv t1),0,none,(some (Q75,true)),7⟩,⟨D78,(gSub t77 (k 1)),0,none,(some (Q75,true)),23⟩,⟨D79,(ia 1 t76 t78),0,none,(some (Q75,true)),63⟩,⟨D80,(ld t79),2,(some (Q79,none)),(some (Q75,true)),127⟩,⟨D81,(mv t0),0,none,(some (Q75,true)),7⟩,⟨D82,(mv t11),0,none,(some (Q75,true)),7⟩,⟨D83,(ia 1 t81 t82),0,none,(some (Q75,true)),775⟩,⟨D84,(ld t83),2,(some (Q83,none)),(some (Q75,true)),1799⟩,⟨D85,(cl 436 (l2 t80 t84)),3,none,(some (Q75,true)),4095⟩,⟨D86,(g1 (opUn .not) t85),0,none,(some (Q75,true)),8191⟩,⟨D87,(pk t75 t86 vF),0,none,none,16383⟩])
(cs c87 (sr [o d92 (cl 437 (cn t0 (l3 t1 t2 t11))),o d13 (mv t92)]
(sr [o d1 (mv t13)]
(.exit 1)))))
(sr [o d99 (cl 438 (cn t0 (l3 t1 t2 t11))),o d100 (gEx0 t99),o d101 (gEx1 t99),o d14 (mv t100),o d15 (mv t101)]
(sr [o d9 (mv t15)]
(sr [o d105 (gSub t14 t1),o d108 (gSub t2 t14),o d16 (mv t105),o d17 (mv t108)]
(sr [o d110 (gBinS .quo t10 (k 8)),o d18 (mv t110)]
(sr [o d113 (gLss t16 t17)]
(.cond c113 (sr [o d116 (gGeq t16 t18),o d8 (mv t116)]
(sr [o d121 (cl 391 (cn t0 (l3 t1 t14 t3)))]
(.region [o d123 (gAdd t14 (k 1)),o d1 (mv t123)])))
(sr [o d126 (gGeq t17 t18),o d8 (mv t126)]
(sr [o d129 (gAdd t14 (k 1)),o d132 (cl 391 (cn t0 (l3 t129 t2 t3)))]
(.region [o d2 (mv t14)])))))))))))))))))))))) rN
def e391 : T Unit := (eN (eN (eN (eN (eS (eS .leaf eU) .leaf) (eS (eN eU .leaf) (eS eU eU))) (eN (eS (eS eU eU) (eS eU .leaf)) (eN (eN eU .leaf) (eS eU (eN .leaf eU))))) (eN (eN (eS (eN eU .leaf) eU) (eS eU eU)) (eN (eS (eN eU eU) (eS eU .leaf)) (eN (eN eU .leaf) (eS eU (eN .leaf eU)))))) (eN (eN (eN (eN (eS eU eU) (eS eU .leaf)) (eN (eS eU .leaf) (eS .leaf (eS .leaf eU)))) (eN (eS (eS .leaf eU) .leaf) (eN eU (eN eU eU)))) (eN (eN (eN (eN .leaf eU) (eS eU .leaf)) (eS (eS eU .leaf) (eN .leaf (eN .leaf eU)))) (eN (eN (eS eU .leaf) (eN eU eU)) (eN (eN eU .leaf) (eS eU (eN .leaf eU)))))))
noncomputable def F395 : KF := .fast 8 (sr [o d4 (mv (k 0))]
(rt [o d7 (cl 441 (l2 t0 t1)),o d4 (mv t7)])) (rT Q4 rN)
def e395 : T Unit := (eN (eN eU .leaf) (eN eU .leaf))
noncomputable def F408 : KF := .fast 15 (sr [o d4 (mv (v (.str 0 0))),o d5 (mv vF)]
(.seq (sr [o d8 (cl 100 (l2 t0 t1)),o d9 (g1 (opUn .not) t8)]
(cs c9 (rt [o d4 (mv t0),o d5 (mv vF)])))
(rt [o d13 (lS t1),o d14 (gSliceStr t0 (os t13) on),o d4 (mv t14),o d5 (mv vT)]))) (rT Q4 (rT Q5 rN))
def e408 : T Unit := (eN (eN (eS .leaf eU) (eN eU .leaf)) (eN .leaf (eN eU eU)))
noncomputable def F420 : KF := .fast 10 (sr [o d4 (mv vF)]
(rt [g d7 (mv t1) c0 false,g d8 (gEq t7 (k 0)) c0 false,o d9 (pk t0 vT t8),o d4 (mv t9)])) (rT Q4 rN)
def e420 : T Unit := (eN (eN eU .leaf) (eN eU .leaf))
noncomputable def F421 : KF := .fast 12 (sr [o d4 (mv vF)]
(rt [o d6 (gEq t0 (v (.str 0 0))),g d8 (mv t1) c6 false,g d9 (mv t0) c6 false,g d10 (cl 124 (l2 t8 t9)) c6 false,o d11 (pk t6 vT t10),o d4 (mv t11)])) (rT Q4 rN)
def e421 : T Unit := (eN .leaf (eN eU (eN .leaf eU)))
noncomputable def F422 : KF := .fast 21 (sr [o d8 (mv vF)]
(rt [o d10 (g1 (opUn .not) t0),g d12 (mv t1) c10 false,g d13 (mv t2) c10 false,g d14 (gGeq t12 t13) c10 false,g d15 (mv t14) c10 false,g d16 (mv t1) c15 true,g d17 (mv t3) c15 true,g d18 (gLeq t16 t17) c15 true,g d19 (pk t15 t18 vF) c10 false,o d20 (pk t10 vT t19),o d8 (mv t20)])) (rT Q8 rN)
def e422 : T Unit := (eN .leaf (eN (eN .leaf eU) (eN eU .leaf)))
noncomputable def F430 : KF := .fast 49 (sr [o d9 (gAdd t1 (k 1)),o d6 (mv t9)]
(.block 0 (.loop (.seq (sr [o d12 (gLss t6 t2)]
(.cond c12 .skip
(.exit 0)))
(.seq (.block 1 (sr [o d7 (mv t6)]
(.block 2 (.loop (.seq (.seq (.draw [⟨D16,(mv t7),0,none,none,0⟩,⟨D17,(mv t1),0,none,none,0⟩,⟨D18,(gGtr t16 t17),0,none,none,3⟩,⟨D19,(mv t18),0,none,none,7⟩,⟨D20,(mv t0),0,none,(some (Q19,true)),15⟩,⟨D21,(mv t7),0,none,(some (Q19,true)),15⟩,⟨D22,(ia 1 t20 t21),0,none,(some (Q19,true)),63⟩,⟨D23,(ld t22),2,(some (Q22,none)),(some (Q19,true)),127⟩,⟨D24,(mv t0),0,none,(some (Q19,true)),15⟩,⟨D25,(mv t7),0,none,(some (Q19,true)),15⟩,⟨D26,(gSub t25 (k 1)),0,none,(some (Q19,true)),527⟩,⟨D27,(ia 1 t24 t26),0,none,(some (Q19,true)),1807⟩,⟨D28,(ld t27),2,(some (Q27,none)),(some (Q19,true)),3855⟩,⟨D29,(cl 436 (l2 t23 t28)),3,none,(some (Q19,true)),8191⟩,⟨D30,(pk t19 t29 vF),0,none,none,16383⟩])
(.cond c30 .skip
(.exit 2)))
(.seq (.block 3 (.draw [⟨D33,(mv t0),0,none,none,0⟩,⟨D34,(mv t7),0,none,none,0⟩,⟨D35,(mv t0),0,none,none,0⟩,⟨D36,(mv t7),0,none,none,0⟩,⟨D37,(gSub t36 (k 1)),0,none,none,8⟩,⟨D38,(mv t0),0,none,none,0⟩,⟨D39,(mv t7),0,none,none,0⟩,⟨D40,(gSub t39 (k 1)),0,none,none,64⟩,⟨D41,(ia 1 t38 t40),0,none,none,224⟩,⟨D42,(ld t41),2,(some (Q41,none)),none,480⟩,⟨D43,(mv t0),0,none,none,0⟩,⟨D44,(mv t7),0,none,none,0⟩,⟨D45,(ia 1 t43 t44),0,none,none,3072⟩,⟨D46,(ld t45),2,(some (Q45,none)),none,7168⟩,⟨D47,(ia 1 t33 t34),0,none,none,16355⟩,⟨dNO,(s1 t47 t42),3,none,none,32739⟩,⟨D48,(ia 1 t35 t37),0,none,none,65535⟩,⟨dNO,(s1 t48 t46),3,none,none,131071⟩]))
(.region [o d32 (gSub t7 (k 1)),o d7 (mv t32)])))))))
(.region [o d14 (gAdd t6 (k 1)),o d6 (mv t14)])))))) rN
def e430 : T Unit := (eN (eN (eN .leaf eU) (eN .leaf eU)) (eN (eN eU .leaf) (eN eU (eN .leaf (eS .leaf eU)))))
end Go.Ab.Lit

namespace Go.Ab
open Go.Proofs
theorem k4 : (cFunc Tryz.prog Lit.e4 Tryz.f4).map kF = some Lit.F4 := by kernel_rfl
theorem k11 : (cFunc Tryz.prog Lit.e11 Tryz.f11).map kF = some Lit.F11 := by kernel_rfl
theorem k12 : (cFunc Tryz.prog Lit.e12 Tryz.f12).map kF = some Lit.F12 := by kernel_rfl
theorem k13 : (cFunc Tryz.prog Lit.e13 Tryz.f13).map kF = some Lit.F13 := by kernel_rfl
theorem k16 : (cFunc Tryz.prog Lit.e16 Tryz.f16).map kF = some Lit.F16 := by kernel_rfl
theorem k17 : (cFunc Tryz.prog Lit.e17 Tryz.f17).map kF = some Lit.F17 := by kernel_rfl
theorem k18 : (cFunc Tryz.prog Lit.e18 Tryz.f18).map kF = some Lit.F18 := by kernel_rfl
theorem k19 : (cFunc Tryz.prog Lit.e19 Tryz.f19).map kF = some Lit.F19 := by kernel_rfl
theorem k20 : (cFunc Tryz.prog Lit.e20 Tryz.f20).map kF = some Lit.F20 := by kernel_rfl
theorem k21 : (cFunc Tryz.prog Lit.e21 Tryz.f21).map kF = some Lit.F21 := by kernel_rfl
theorem k27 : (cFunc Tryz.prog Lit.e27 Tryz.f27).map kF = some Lit.F27 := by kernel_rfl
theorem k30 : (cFunc Tryz.prog Lit.e30 Tryz.f30).map kF = some Lit.F30 := by kernel_rfl
theorem k31 : (cFunc Tryz.prog Lit.e31 Tryz.f31).map kF = some Lit.F31 := by kernel_rfl
theorem k33 : (cFunc Tryz.prog Lit.e33 Tryz.f33).map kF = some Lit.F33 := by kernel_rfl
theorem k34 : (cFunc Tryz.prog Lit.e34 Tryz.f34).map kF = some Lit.F34 := by kernel_rfl
theorem k35 : (cFunc Tryz.prog Lit.e35 Tryz.f35).map kF = some Lit.F35 := by kernel_rfl
theorem k37 : (cFunc Tryz.prog Lit.e37 Tryz.f37).map kF = some Lit.F37 := by kernel_rfl
theorem k41 : (cFunc Tryz.prog Lit.e41 Tryz.f41).map kF = some Lit.F41 := by kernel_rfl
theorem k42 : (cFunc Tryz.prog Lit.e42 Tryz.f42).map kF = some Lit.F42 := by kernel_rfl
theorem k44 : (cFunc Tryz.prog Lit.e44 Tryz.f44).map kF = some Lit.F44 := by kernel_rfl
theorem k45 : (cFunc Tryz.prog Lit.e45 Tryz.f45).map kF = some Lit.F45 := by kernel_rfl
theorem k46 : (cFunc Tryz.prog Lit.e46 Tryz.f46).map kF = some Lit.F46 := by kernel_rfl
theorem k47 : (cFunc Tryz.prog Lit.e47 Tryz.f47).map kF = some Lit.F47 := by kernel_rfl
theorem k48 : (cFunc Tryz.prog Lit.e48 Tryz.f48).map kF = some Lit.F48 := by kernel_rfl
theorem k49 : (cFunc Tryz.prog Lit.e49 Tryz.f49).map kF = some Lit.F49 := by kernel_rfl
theorem k50 : (cFunc Tryz.prog Lit.e50 Tryz.f50).map kF = some Lit.F50 := by kernel_rfl
theorem k51 : (cFunc Tryz.prog Lit.e51 Tryz.f51).map kF = some Lit.F51 := by kernel_rfl
theorem k54 : (cFunc Tryz.prog Lit.e54 Tryz.f54).map kF = some Lit.F54 := by kernel_rfl
theorem k56 : (cFunc Tryz.prog Lit.e56 Tryz.f56).map kF = some Lit.F56 := by kernel_rfl
theorem k57 : (cFunc Tryz.prog Lit.e57 Tryz.f57).map kF = some Lit.F57 := by kernel_rfl
theorem k58 : (cFunc Tryz.prog Lit.e58 Tryz.f58).map kF = some Lit.F58 := by kernel_rfl
theorem k59 : (cFunc Tryz.prog Lit.e59 Tryz.f59).map kF = some Lit.F59 := by kernel_rfl
theorem k60 : (cFunc Tryz.prog Lit.e60 Tryz.f60).map kF = some Lit.F60 := by kernel_rfl
theorem k61 : (cFunc Tryz.prog Lit.e61 Tryz.f61).map kF = some Lit.F61 := by kernel_rfl
theorem k62 : (cFunc Tryz.prog Lit.e62 Tryz.f62).map kF = some Lit.F62 := by kernel_rfl
theorem k63 : (cFunc Tryz.prog Lit.e63 Tryz.f63).map kF = some Lit.F63 := by kernel_rfl
theorem k64 : (cFunc Tryz.prog Lit.e64 Tryz.f64).map kF = some Lit.F64 := by kernel_rfl
theorem k65 : (cFunc Tryz.prog Lit.e65 Tryz.f65).map kF = some Lit.F65 := by kernel_rfl
theorem k66 : (cFunc Tryz.prog Lit.e66 Tryz.f66).map kF = some Lit.F66 := by kernel_rfl
theorem k67 : (cFunc Tryz.prog Lit.e67 Tryz.f67).map kF = some Lit.F67 := by kernel_rfl
theorem k69 : (cFunc Tryz.prog Lit.e69 Tryz.f69).map kF = some Lit.F69 := by kernel_rfl
theorem k70 : (cFunc Tryz.prog Lit.e70 Tryz.f70).map kF = some Lit.F70 := by kernel_rfl
theorem k71 : (cFunc Tryz.prog Lit.e71 Tryz.f71).map kF = some Lit.F71 := by kernel_rfl
theorem k72 : (cFunc Tryz.prog Lit.e72 Tryz.f72).map kF = some Lit.F72 := by kernel_rfl
theorem k73 : (cFunc Tryz.prog Lit.e73 Tryz.f73).map kF = some Lit.F73 := by kernel_rfl
theorem k74 : (cFunc Tryz.prog Lit.e74 Tryz.f74).map kF = some Lit.F74 := by kernel_rfl
theorem k76 : (cFunc Tryz.prog Lit.e76 Tryz.f76).map kF = some Lit.F76 := by kernel_rfl
theorem k85 : (cFunc Tryz.prog Lit.e85 Tryz.f85).map kF = some Lit.F85 := by kernel_rfl
theorem k86 : (cFunc Tryz.prog Lit.e86 Tryz.f86).map kF = some Lit.F86 := by kernel_rfl
theorem k87 : (cFunc Tryz.prog Lit.e87 Tryz.f87).map kF = some Lit.F87 := by kernel_rfl
theorem k88 : (cFunc Tryz.prog Lit.e88 Tryz.f88).map kF = some Lit.F88 := by kernel_rfl
theorem k89 : (cFunc Tryz.prog Lit.e89 Tryz.f89).map kF = some Lit.F89 := by kernel_rfl
theorem k90 : (cFunc Tryz.prog Lit.e90 Tryz.f90).map kF = some Lit.F90 := by kernel_rfl
theorem k91 : (cFunc Tryz.prog Lit.e91 Tryz.f91).map kF = some Lit.F91 := by kernel_rfl
theorem k92 : (cFunc Tryz.prog Lit.e92 Tryz.f92).map kF = some Lit.F92 := by kernel_rfl
theorem k93 : (cFunc Tryz.prog Lit.e93 Tryz.f93).map kF = some Lit.F93 := by kernel_rfl
theorem k95 : (cFunc Tryz.prog Lit.e95 Tryz.f95).map kF = some Lit.F95 := by kernel_rfl
theorem k96 : (cFunc Tryz.prog Lit.e96 Tryz.f96).map kF = some Lit.F96 := by kernel_rfl
theorem k97 : (cFunc Tryz.prog Lit.e97 Tryz.f97).map kF = some Lit.F97 := by kernel_rfl
theorem k98 : (cFunc Tryz.prog Lit.e98 Tryz.f98).map kF = some Lit.F98 := by kernel_rfl
theorem k99 : (cFunc Tryz.prog Lit.e99 Tryz.f99).map kF = some Lit.F99 := by kernel_rfl
theorem k100 : (cFunc Tryz.prog Lit.e100 Tryz.f100).map kF = some Lit.F100 := by kernel_rfl
theorem k101 : (cFunc Tryz.prog Lit.e101 Tryz.f101).map kF = some Lit.F101 := by kernel_rfl
theorem k105 : (cFunc Tryz.prog Lit.e105 Tryz.f105).map kF = some Lit.F105 := by kernel_rfl
theorem k106 : (cFunc Tryz.prog Lit.e106 Tryz.f106).map kF = some Lit.F106 := by kernel_rfl
theorem k107 : (cFunc Tryz.prog Lit.e107 Tryz.f107).map kF = some Lit.F107 := by kernel_rfl
theorem k108 : (cFunc Tryz.prog Lit.e108 Tryz.f108).map kF = some Lit.F108 := by kernel_rfl
theorem k109 : (cFunc Tryz.prog Lit.e109 Tryz.f109).map kF = some Lit.F109 := by kernel_rfl
theorem k110 : (cFunc Tryz.prog Lit.e110 Tryz.f110).map kF = some Lit.F110 := by kernel_rfl
theorem k111 : (cFunc Tryz.prog Lit.e111 Tryz.f111).map kF = some Lit.F111 := by kernel_rfl
theorem k112 : (cFunc Tryz.prog Lit.e112 Tryz.f112).map kF = some Lit.F112 := by kernel_rfl
theorem k113 : (cFunc Tryz.prog Lit.e113 Tryz.f113).map kF = some Lit.F113 := by kernel_rfl
theorem k114 : (cFunc Tryz.prog Lit.e114 Tryz.f114).map kF = some Lit.F114 := by kernel_rfl
theorem k115 : (cFunc Tryz.prog Lit.e115 Tryz.f115).map kF = some Lit.F115 := by kernel_rfl
theorem k117 : (cFunc Tryz.prog Lit.e117 Tryz.f117).map kF = some Lit.F117 := by kernel_rfl
theorem k121 : (cFunc Tryz.prog Lit.e121 Tryz.f121).map kF = some Lit.F121 := by kernel_rfl
theorem k122 : (cFunc Tryz.prog Lit.e122 Tryz.f122).map kF = some Lit.F122 := by kernel_rfl
theorem k123 : (cFunc Tryz.prog Lit.e123 Tryz.f123).map kF = some Lit.F123 := by kernel_rfl
theorem k124 : (cFunc Tryz.prog Lit.e124 Tryz.f124).map kF = some Lit.F124 := by kernel_rfl
theorem k125 : (cFunc Tryz.prog Lit.e125 Tryz.f125).map kF = some Lit.F125 := by kernel_rfl
theorem k126 : (cFunc Tryz.prog Lit.e126 Tryz.f126).map kF = some Lit.F126 := by kernel_rfl
theorem k127 : (cFunc Tryz.prog Lit.e127 Tryz.f127).map kF = some Lit.F127 := by kernel_rfl
theorem k128 : (cFunc Tryz.prog Lit.e128 Tryz.f128).map kF = some Lit.F128 := by kernel_rfl
theorem k129 : (cFunc Tryz.prog Lit.e129 Tryz.f129).map kF = some Lit.F129 := by kernel_rfl
theorem k130 : (cFunc Tryz.prog Lit.e130 Tryz.f130).map kF = some Lit.F130 := by kernel_rfl
theorem k132 : (cFunc Tryz.prog Lit.e132 Tryz.f132).map kF = some Lit.F132 := by kernel_rfl
theorem k133 : (cFunc Tryz.prog Lit.e133 Tryz.f133).map kF = some Lit.F133 := by kernel_rfl
theorem k134 : (cFunc Tryz.prog Lit.e134 Tryz.f134).map kF = some Lit.F134 := by kernel_rfl
theorem k135 : (cFunc Tryz.prog Lit.e135 Tryz.f135).map kF = some Lit.F135 := by kernel_rfl
theorem k136 : (cFunc Tryz.prog Lit.e136 Tryz.f136).map kF = some Lit.F136 := by kernel_rfl
theorem k137 : (cFunc Tryz.prog Lit.e137 Tryz.f137).map kF = some Lit.F137 := by kernel_rfl
theorem k138 : (cFunc Tryz.prog Lit.e138 Tryz.f138).map kF = some Lit.F138 := by kernel_rfl
theorem k139 : (cFunc Tryz.prog Lit.e139 Tryz.f139).map kF = some Lit.F139 := by kernel_rfl
theorem k140 : (cFunc Tryz.prog Lit.e140 Tryz.f140).map kF = some Lit.F140 := by kernel_rfl
theorem k141 : (cFunc Tryz.prog Lit.e141 Tryz.f141).map kF = some Lit.F141 := by kernel_rfl
theorem k149 : (cFunc Tryz.prog Lit.e149 Tryz.f149).map kF = some Lit.F149 := by kernel_rfl
theorem k152 : (cFunc Tryz.prog Lit.e152 Tryz.f152).map kF = some Lit.F152 := by kernel_rfl
theorem k154 : (cFunc Tryz.prog Lit.e154 Tryz.f154).map kF = some Lit.F154 := by kernel_rfl
theorem k155 : (cFunc Tryz.prog Lit.e155 Tryz.f155).map kF = some Lit.F155 := by kernel_rfl
theorem k156 : (cFunc Tryz.prog Lit.e156 Tryz.f156).map kF = some Lit.F156 := by kernel_rfl
theorem k157 : (cFunc Tryz.prog Lit.e157 Tryz.f157).map kF = some Lit.F157 := by kernel_rfl
theorem k158 : (cFunc Tryz.prog Lit.e158 Tryz.f158).map kF = some Lit.F158 := by kernel_rfl
theorem k159 : (cFunc Tryz.prog Lit.e159 Tryz.f159).map kF = some Lit.F159 := by kernel_rfl
theorem k160 : (cFunc Tryz.prog Lit.e160 Tryz.f160).map kF = some Lit.F160 := by kernel_rfl
theorem k161 : (cFunc Tryz.prog Lit.e161 Tryz.f161).map kF = some Lit.F161 := by kernel_rfl
theorem k162 : (cFunc Tryz.prog Lit.e162 Tryz.f162).map kF = some Lit.F162 := by kernel_rfl
theorem k163 : (cFunc Tryz.prog Lit.e163 Tryz.f163).map kF = some Lit.F163 := by kernel_rfl
theorem k164 : (cFunc Tryz.prog Lit.e164 Tryz.f164).map kF = some Lit.F164 := by kernel_rfl
theorem k165 : (cFunc Tryz.prog Lit.e165 Tryz.f165).map kF = some Lit.F165 := by kernel_rfl
theorem k166 : (cFunc Tryz.prog Lit.e166 Tryz.f166).map kF = some Lit.F166 := by kernel_rfl
theorem k167 : (cFunc Tryz.prog Lit.e167 Tryz.f167).map kF = some Lit.F167 := by kernel_rfl
theorem k168 : (cFunc Tryz.prog Lit.e168 Tryz.f168).map kF = some Lit.F168 := by kernel_rfl
theorem k169 : (cFunc Tryz.prog Lit.e169 Tryz.f169).map kF = some Lit.F169 := by kernel_rfl
theorem k170 : (cFunc Tryz.prog Lit.e170 Tryz.f170).map kF = some Lit.F170 := by kernel_rfl
theorem k173 : (cFunc Tryz.prog Lit.e173 Tryz.f173).map kF = some Lit.F173 := by kernel_rfl
theorem k175 : (cFunc Tryz.prog Lit.e175 Tryz.f175).map kF = some Lit.F175 := by kernel_rfl
theorem k176 : (cFunc Tryz.prog Lit.e176 Tryz.f176).map kF = some Lit.F176 := by kernel_rfl
theorem k177 : (cFunc Tryz.prog Lit.e177 Tryz.f177).map kF = some Lit.F177 := by kernel_rfl
theorem k178 : (cFunc Tryz.prog Lit.e178 Tryz.f178).map kF = some Lit.F178 := by kernel_rfl
theorem k181 : (cFunc Tryz.prog Lit.e181 Tryz.f181).map kF = some Lit.F181 := by kernel_rfl
theorem k184 : (cFunc Tryz.prog Lit.e184 Tryz.f184).map kF = some Lit.F184 := by kernel_rfl
theorem k188 : (cFunc Tryz.prog Lit.e188 Tryz.f188).map kF = some Lit.F188 := by kernel_rfl
theorem k189 : (cFunc Tryz.prog Lit.e189 Tryz.f189).map kF = some Lit.F189 := by kernel_rfl
theorem k190 : (cFunc Tryz.prog Lit.e190 Tryz.f190).map kF = some Lit.F190 := by kernel_rfl
theorem k191 : (cFunc Tryz.prog Lit.e191 Tryz.f191).map kF = some Lit.F191 := by kernel_rfl
theorem k192 : (cFunc Tryz.prog Lit.e192 Tryz.f192).map kF = some Lit.F192 := by kernel_rfl
theorem k193 : (cFunc Tryz.prog Lit.e193 Tryz.f193).map kF = some Lit.F193 := by kernel_rfl
theorem k194 : (cFunc Tryz.prog Lit.e194 Tryz.f194).map kF = some Lit.F194 := by kernel_rfl
theorem k195 : (cFunc Tryz.prog Lit.e195 Tryz.f195).map kF = some Lit.F195 := by kernel_rfl
theorem k196 : (cFunc Tryz.prog Lit.e196 Tryz.f196).map kF = some Lit.F196 := by kernel_rfl
theorem k197 : (cFunc Tryz.prog Lit.e197 Tryz.f197).map kF = some Lit.F197 := by kernel_rfl
theorem k198 : (cFunc Tryz.prog Lit.e198 Tryz.f198).map kF = some Lit.F198 := by kernel_rfl
theorem k199 : (cFunc Tryz.prog Lit.e199 Tryz.f199).map kF = some Lit.F199 := by kernel_rfl
theorem k202 : (cFunc Tryz.prog Lit.e202 Tryz.f202).map kF = some Lit.F202 := by kernel_rfl
theorem k203 : (cFunc Tryz.prog Lit.e203 Tryz.f203).map kF = some Lit.F203 := by kernel_rfl
theorem k204 : (cFunc Tryz.prog Lit.e204 Tryz.f204).map kF = some Lit.F204 := by kernel_rfl
theorem k205 : (cFunc Tryz.prog Lit.e205 Tryz.f205).map kF = some Lit.F205 := by kernel_rfl
theorem k207 : (cFunc Tryz.prog Lit.e207 Tryz.f207).map kF = some Lit.F207 := by kernel_rfl
theorem k208 : (cFunc Tryz.prog Lit.e208 Tryz.f208).map kF = some Lit.F208 := by kernel_rfl
theorem k209 : (cFunc Tryz.prog Lit.e209 Tryz.f209).map kF = some Lit.F209 := by kernel_rfl
theorem k210 : (cFunc Tryz.prog Lit.e210 Tryz.f210).map kF = some Lit.F210 := by kernel_rfl
theorem k211 : (cFunc Tryz.prog Lit.e211 Tryz.f211).map kF = some Lit.F211 := by kernel_rfl
theorem k212 : (cFunc Tryz.prog Lit.e212 Tryz.f212).map kF = some Lit.F212 := by kernel_rfl
theorem k213 : (cFunc Tryz.prog Lit.e213 Tryz.f213).map kF = some Lit.F213 := by kernel_rfl
theorem k214 : (cFunc Tryz.prog Lit.e214 Tryz.f214).map kF = some Lit.F214 := by kernel_rfl
theorem k215 : (cFunc Tryz.prog Lit.e215 Tryz.f215).map kF = some Lit.F215 := by kernel_rfl
theorem k219 : (cFunc Tryz.prog Lit.e219 Tryz.f219).map kF = some Lit.F219 := by kernel_rfl
theorem k221 : (cFunc Tryz.prog Lit.e221 Tryz.f221).map kF = some Lit.F221 := by kernel_rfl
theorem k222 : (cFunc Tryz.prog Lit.e222 Tryz.f222).map kF = some Lit.F222 := by kernel_rfl
theorem k223 : (cFunc Tryz.prog Lit.e223 Tryz.f223).map kF = some Lit.F223 := by kernel_rfl
theorem k224 : (cFunc Tryz.prog Lit.e224 Tryz.f224).map kF = some Lit.F224 := by kernel_rfl
theorem k228 : (cFunc Tryz.prog Lit.e228 Tryz.f228).map kF = some Lit.F228 := by kernel_rfl
theorem k231 : (cFunc Tryz.prog Lit.e231 Tryz.f231).map kF = some Lit.F231 := by kernel_rfl
theorem k232 : (cFunc Tryz.prog Lit.e232 Tryz.f232).map kF = some Lit.F232 := by kernel_rfl
theorem k233 : (cFunc Tryz.prog Lit.e233 Tryz.f233).map kF = some Lit.F233 := by kernel_rfl
theorem k234 : (cFunc Tryz.prog Lit.e234 Tryz.f234).map kF = some Lit.F234 := by kernel_rfl
theorem k235 : (cFunc Tryz.prog Lit.e235 Tryz.f235).map kF = some Lit.F235 := by kernel_rfl
theorem k236 : (cFunc Tryz.prog Lit.e236 Tryz.f236).map kF = some Lit.F236 := by kernel_rfl
theorem k238 : (cFunc Tryz.prog Lit.e238 Tryz.f238).map kF = some Lit.F238 := by kernel_rfl
theorem k239 : (cFunc Tryz.prog Lit.e239 Tryz.f239).map kF = some Lit.F239 := by kernel_rfl
theorem k240 : (cFunc Tryz.prog Lit.e240 Tryz.f240).map kF = some Lit.F240 := by kernel_rfl
theorem k244 : (cFunc Tryz.prog Lit.e244 Tryz.f244).map kF = some Lit.F244 := by kernel_rfl
theorem k245 : (cFunc Tryz.prog Lit.e245 Tryz.f245).map kF = some Lit.F245 := by kernel_rfl
theorem k246 : (cFunc Tryz.prog Lit.e246 Tryz.f246).map kF = some Lit.F246 := by kernel_rfl
theorem k247 : (cFunc Tryz.prog Lit.e247 Tryz.f247).map kF = some Lit.F247 := by kernel_rfl
theorem k252 : (cFunc Tryz.prog Lit.e252 Tryz.f252).map kF = some Lit.F252 := by kernel_rfl
theorem k254 : (cFunc Tryz.prog Lit.e254 Tryz.f254).map kF = some Lit.F254 := by kernel_rfl
theorem k256 : (cFunc Tryz.prog Lit.e256 Tryz.f256).map kF = some Lit.F256 := by kernel_rfl
theorem k257 : (cFunc Tryz.prog Lit.e257 Tryz.f257).map kF = some Lit.F257 := by kernel_rfl
theorem k258 : (cFunc Tryz.prog Lit.e258 Tryz.f258).map kF = some Lit.F258 := by kernel_rfl
theorem k269 : (cFunc Tryz.prog Lit.e269 Tryz.f269).map kF = some Lit.F269 := by kernel_rfl
theorem k270 : (cFunc Tryz.prog Lit.e270 Tryz.f270).map kF = some Lit.F270 := by kernel_rfl
theorem k271 : (cFunc Tryz.prog Lit.e271 Tryz.f271).map kF = some Lit.F271 := by kernel_rfl
theorem k275 : (cFunc Tryz.prog Lit.e275 Tryz.f275).map kF = some Lit.F275 := by kernel_rfl
theorem k276 : (cFunc Tryz.prog Lit.e276 Tryz.f276).map kF = some Lit.F276 := by kernel_rfl
theorem k277 : (cFunc Tryz.prog Lit.e277 Tryz.f277).map kF = some Lit.F277 := by kernel_rfl
theorem k278 : (cFunc Tryz.prog Lit.e278 Tryz.f278).map kF = some Lit.F278 := by kernel_rfl
theorem k281 : (cFunc Tryz.prog Lit.e281 Tryz.f281).map kF = some Lit.F281 := by kernel_rfl
theorem k282 : (cFunc Tryz.prog Lit.e282 Tryz.f282).map kF = some Lit.F282 := by kernel_rfl
theorem k283 : (cFunc Tryz.prog Lit.e283 Tryz.f283).map kF = some Lit.F283 := by kernel_rfl
theorem k284 : (cFunc Tryz.prog Lit.e284 Tryz.f284).map kF = some Lit.F284 := by kernel_rfl
theorem k286 : (cFunc Tryz.prog Lit.e286 Tryz.f286).map kF = some Lit.F286 := by kernel_rfl
theorem k287 : (cFunc Tryz.prog Lit.e287 Tryz.f287).map kF = some Lit.F287 := by kernel_rfl
theorem k288 : (cFunc Tryz.prog Lit.e288 Tryz.f288).map kF = some Lit.F288 := by kernel_rfl
theorem k289 : (cFunc Tryz.prog Lit.e289 Tryz.f289).map kF = some Lit.F289 := by kernel_rfl
theorem k290 : (cFunc Tryz.prog Lit.e290 Tryz.f290).map kF = some Lit.F290 := by kernel_rfl
theorem k291 : (cFunc Tryz.prog Lit.e291 Tryz.f291).map kF = some Lit.F291 := by kernel_rfl
theorem k292 : (cFunc Tryz.prog Lit.e292 Tryz.f292).map kF = some Lit.F292 := by kernel_rfl
theorem k294 : (cFunc Tryz.prog Lit.e294 Tryz.f294).map kF = some Lit.F294 := by kernel_rfl
theorem k295 : (cFunc Tryz.prog Lit.e295 Tryz.f295).map kF = some Lit.F295 := by kernel_rfl
theorem k297 : (cFunc Tryz.prog Lit.e297 Tryz.f297).map kF = some Lit.F297 := by kernel_rfl
theorem k298 : (cFunc Tryz.prog Lit.e298 Tryz.f298).map kF = some Lit.F298 := by kernel_rfl
theorem k299 : (cFunc Tryz.prog Lit.e299 Tryz.f299).map kF = some Lit.F299 := by kernel_rfl
theorem k300 : (cFunc Tryz.prog Lit.e300 Tryz.f300).map kF = some Lit.F300 := by kernel_rfl
theorem k302 : (cFunc Tryz.prog Lit.e302 Tryz.f302).map kF = some Lit.F302 := by kernel_rfl
theorem k303 : (cFunc Tryz.prog Lit.e303 Tryz.f303).map kF = some Lit.F303 := by kernel_rfl
theorem k305 : (cFunc Tryz.prog Lit.e305 Tryz.f305).map kF = some Lit.F305 := by kernel_rfl
theorem k312 : (cFunc Tryz.prog Lit.e312 Tryz.f312).map kF = some Lit.F312 := by kernel_rfl
theorem k313 : (cFunc Tryz.prog Lit.e313 Tryz.f313).map kF = some Lit.F313 := by kernel_rfl
theorem k315 : (cFunc Tryz.prog Lit.e315 Tryz.f315).map kF = some Lit.F315 := by kernel_rfl
theorem k316 : (cFunc Tryz.prog Lit.e316 Tryz.f316).map kF = some Lit.F316 := by kernel_rfl
theorem k317 : (cFunc Tryz.prog Lit.e317 Tryz.f317).map kF = some Lit.F317 := by kernel_rfl
theorem k326 : (cFunc Tryz.prog Lit.e326 Tryz.f326).map kF = some Lit.F326 := by kernel_rfl
theorem k335 : (cFunc Tryz.prog Lit.e335 Tryz.f335).map kF = some Lit.F335 := by kernel_rfl
theorem k337 : (cFunc Tryz.prog Lit.e337 Tryz.f337).map kF = some Lit.F337 := by kernel_rfl
theorem k338 : (cFunc Tryz.prog Lit.e338 Tryz.f338).map kF = some Lit.F338 := by kernel_rfl
theorem k343 : (cFunc Tryz.prog Lit.e343 Tryz.f343).map kF = some Lit.F343 := by kernel_rfl
theorem k344 : (cFunc Tryz.prog Lit.e344 Tryz.f344).map kF = some Lit.F344 := by kernel_rfl
theorem k345 : (cFunc Tryz.prog Lit.e345 Tryz.f345).map kF = some Lit.F345 := by kernel_rfl
theorem k346 : (cFunc Tryz.prog Lit.e346 Tryz.f346).map kF = some Lit.F346 := by kernel_rfl
theorem k348 : (cFunc Tryz.prog Lit.e348 Tryz.f348).map kF = some Lit.F348 := by kernel_rfl
theorem k349 : (cFunc Tryz.prog Lit.e349 Tryz.f349).map kF = some Lit.F349 := by kernel_rfl
theorem k350 : (cFunc Tryz.prog Lit.e350 Tryz.f350).map kF = some Lit.F350 := by kernel_rfl
theorem k353 : (cFunc Tryz.prog Lit.e353 Tryz.f353).map kF = some Lit.F353 := by kernel_rfl
theorem k371 : (cFunc Tryz.prog Lit.e371 Tryz.f371).map kF = some Lit.F371 := by kernel_rfl
theorem k372 : (cFunc Tryz.prog Lit.e372 Tryz.f372).map kF = some Lit.F372 := by kernel_rfl
theorem k373 : (cFunc Tryz.prog Lit.e373 Tryz.f373).map kF = some Lit.F373 := by kernel_rfl
theorem k374 : (cFunc Tryz.prog Lit.e374 Tryz.f374).map kF = some Lit.F374 := by kernel_rfl
theorem k378 : (cFunc Tryz.prog Lit.e378 Tryz.f378).map kF = some Lit.F378 := by kernel_rfl
theorem k380 : (cFunc Tryz.prog Lit.e380 Tryz.f380).map kF = some Lit.F380 := by kernel_rfl
theorem k381 : (cFunc Tryz.prog Lit.e381 Tryz.f381).map kF = some Lit.F381 := by kernel_rfl
theorem k382 : (cFunc Tryz.prog Lit.e382 Tryz.f382).map kF = some Lit.F382 := by kernel_rfl
theorem k383 : (cFunc Tryz.prog Lit.e383 Tryz.f383).map kF = some Lit.F383 := by kernel_rfl
theorem k384 : (cFunc Tryz.prog Lit.e384 Tryz.f384).map kF = some Lit.F384 := by kernel_rfl
theorem k385 : (cFunc Tryz.prog Lit.e385 Tryz.f385).map kF = some Lit.F385 := by kernel_rfl
theorem k386 : (cFunc Tryz.prog Lit.e386 Tryz.f386).map kF = some Lit.F386 := by kernel_rfl
theorem k388 : (cFunc Tryz.prog Lit.e388 Tryz.f388).map kF = some Lit.F388 := by kernel_rfl
theorem k390 : (cFunc Tryz.prog Lit.e390 Tryz.f390).map kF = some Lit.F390 := by kernel_rfl
theorem k391 : (cFunc Tryz.prog Lit.e391 Tryz.f391).map kF = some Lit.F391 := by kernel_rfl
theorem k395 : (cFunc Tryz.prog Lit.e395 Tryz.f395).map kF = some Lit.F395 := by kernel_rfl
theorem k408 : (cFunc Tryz.prog Lit.e408 Tryz.f408).map kF = some Lit.F408 := by kernel_rfl
theorem k420 : (cFunc Tryz.prog Lit.e420 Tryz.f420).map kF = some Lit.F420 := by kernel_rfl
theorem k421 : (cFunc Tryz.prog Lit.e421 Tryz.f421).map kF = some Lit.F421 := by kernel_rfl
theorem k422 : (cFunc Tryz.prog Lit.e422 Tryz.f422).map kF = some Lit.F422 := by kernel_rfl
theorem k430 : (cFunc Tryz.prog Lit.e430 Tryz.f430).map kF = some Lit.F430 := by kernel_rfl
end Go.Ab

namespace Go.Ab
section
variable {P : Program} {ρ : Nat → Int} {R : Inj} {w : World} {st st' : St} {v : AV} {args : List AV}
def OvOK (P : Program) (ρ : Nat → Int) (f : Nat) (o : Ov) : Prop :=
  (∀ args st v st', o args st = .ok (v, st') → Mono st st') ∧
  ∀ args st v st', o args st = .ok (v, st') → ∀ R w cargs, VRs ρ R args cargs.toList → Glob R → InvW P ρ R st w → Fresh R st.next st'.next → Conds ρ st'.tr →
    Upon P (fun cv w' => ∃ R', VR ρ R' v cv ∧ Step P ρ R st.heap w R' st'.heap w' st'.low st.next st'.next) ((callFunc f cargs).run P w)
theorem run_extern {f : Nat} {fn : Func} {e : Array Value → Sem Value} (hf : P.funcs[f]? = some fn) (hname : (fn.name == "runtime.NumGoroutine") = false) (hb : fn.body.isNone = true) (hn : Extern.findNext fn = none) (he : Extern.find fn = some e) (args : Array Value) {cv : Value} {w' : World}
    (hr : (e args).run P w = .ok cv w') : (callFunc f args).run P w = .ok (.value cv) w' := by
  have h1 : fn.name ≠ "runtime.NumGoroutine" := by simpa using hname
  have h2 : fn.body = none := by simpa using hb
  simp [callFunc, Sem.run, program, hf, h1, h2, hn, he, mark, hr]
theorem VRs.sing {a : AV} {vs : List Value} (h : VRs ρ R [a] vs) : ∃ v, vs = [v] ∧ VR ρ R a v := by
  cases h with | cons _ v _ m h hs => cases hs; exact ⟨v, rfl, h⟩
theorem VRs.pair {a b : AV} {vs : List Value} (h : VRs ρ R [a, b] vs) : ∃ v u, vs = [v, u] ∧ VR ρ R a v ∧ VR ρ R b u := by
  cases h with | cons _ v _ m h hs => obtain ⟨u, rfl, h2⟩ := hs.sing; exact ⟨v, u, rfl, h, h2⟩
theorem arr_eq {a : Array Value} {l : List Value} (h : a.toList = l) : a = l.toArray := by rw [← h]
theorem ovNoEscape_ok {f : Nat} {fn : Func} (hf : P.funcs[f]? = some fn) (hname : (fn.name == "runtime.NumGoroutine") = false) (hb : fn.body.isNone = true) (hn : Extern.findNext fn = none) (he : Extern.find fn = some Extern.AbiNoEscape.same) : OvOK P ρ f ovNoEscape := by
  have key : ∀ args st v st', ovNoEscape args st = .ok (v, st') → args = [v] ∧ st' = st := by
    intro args st v st' h
    unfold ovNoEscape at h
    split at h
    · obtain ⟨rfl, rfl⟩ := ok_inj h; exact ⟨rfl, rfl⟩
    · cases h
  refine ⟨fun args st v st' h => (key _ _ _ _ h).2 ▸ Mono.refl _, fun args st v st' h R w cargs hv gl iv hfr hcd => ?_⟩
  obtain ⟨rfl, rfl⟩ := key _ _ _ _ h
  obtain ⟨cv, hc, hr⟩ := hv.sing
  rw [run_extern hf hname hb hn he cargs (cv := cv) (w' := w) (by rw [arr_eq hc]; rw [show Extern.AbiNoEscape.same [cv].toArray = pure cv from rfl]; rfl)]
  exact ⟨R, hr, Step.refl iv.inv _ _⟩
theorem ovMapsClone_ok {f : Nat} {fn : Func} (hf : P.funcs[f]? = some fn) (hname : (fn.name == "runtime.NumGoroutine") = false) (hb : fn.body.isNone = true) (hn : Extern.findNext fn = none) (he : Extern.find fn = some Extern.MapsClone.clone) : OvOK P ρ f ovMapsClone := by
  have key : ∀ args st v st', ovMapsClone args st = .ok (v, st') → ∃ t r es clock, args = [.iface t (.map r)] ∧ st.heap.get r = some (.map es clock) ∧ v = .iface t (.map (st.new (.map es clock)).1) ∧ st' = (st.new (.map es clock)).2 := by
    intro args st v st' h
    unfold ovMapsClone at h
    split at h
    · split at h
      · simp only [St.newK_eq] at h
        obtain ⟨rfl, rfl⟩ := ok_inj h
        exact ⟨_, _, _, _, rfl, by assumption, rfl, rfl⟩
      · cases h
    · cases h
  refine ⟨fun args st v st' h => ?_, fun args st v st' h R w cargs hv gl iv hfr hcd => ?_⟩
  · obtain ⟨t, r, es, clock, _, _, _, rfl⟩ := key _ _ _ _ h; exact Mono.new _ _
  · obtain ⟨t, r, es, clock, rfl, hg, rfl, rfl⟩ := key _ _ _ _ h
    obtain ⟨cv, hc, hr⟩ := hv.sing
    cases hr with
    | iface _ _ cm hr =>
      cases hr with
      | map _ l hR =>
        obtain ⟨x, hx, ho⟩ := iv.inv.at hg hR
        cases ho with
        | map _ _ _ ces hes =>
          rw [run_extern hf hname hb hn he cargs (cv := .iface t (.map (some w.heap.size))) (w' := { w with heap := w.heap.push (.map ces clock) }) (by
            rw [arr_eq hc]
            rw [show Extern.MapsClone.clone [Value.iface t (.map (some l.b))].toArray = (do
              let .map entries clock ← getObj l.b | stuck "maps.clone: a map expected"
              pure (.iface t (.map (some (← newObj (.map entries clock)))))) from rfl]
            simp [run_getObj' (P := P) hx (by intros; simp)])]
          have hn0 : R st.next = none := hfr _ (Nat.le_refl _) (by simp [St.new])
          refine ⟨R.upd st.next ⟨w.heap.size, 0, 0⟩, .iface _ _ _ (.map _ ⟨w.heap.size, 0, 0⟩ (Inj.upd_eq _ _ _)), Step.alloc iv.inv hn0 rfl (.map _ _ _ _ ?_) _⟩
          exact hes.mono (Inj.upd_ext hn0 _)
theorem digits_size (n t : Nat) (acc : Array Value) : (Extern.BytealgMakeNoZero.digits n t acc).size = acc.size + n := by
  induction n generalizing t acc with
  | zero => rfl
  | succ n ih => simp [Extern.BytealgMakeNoZero.digits, ih]; omega
theorem ovMakeNoZero_ok {f : Nat} {fn : Func} {t elem : TypeId} (hf : P.funcs[f]? = some fn) (hname : (fn.name == "runtime.NumGoroutine") = false) (hb : fn.body.isNone = true) (hn : Extern.findNext fn = none)
    (he : Extern.find fn = some (Extern.BytealgMakeNoZero.makeNoZero fn.params fn.resultTypes)) (ht : fn.resultTypes[0]? = some t) (hu : P.underlying t = some (.slice elem)) : OvOK P ρ f (ovMakeNoZero elem) := by
  have key : ∀ args st v st', ovMakeNoZero elem args st = .ok (v, st') → ∃ n, args = [.int .i64 (.ofNat n)] ∧ n ≤ 70368744177664 ∧ v = .slice (st.new (.cells (some elem) .leaf 0)).1 0 n n false 1 ∧ st' = (st.new (.cells (some elem) .leaf 0)).2 := by
    intro args st v st' h
    unfold ovMakeNoZero at h
    split at h
    · split at h
      · rename_i hb
        simp only [St.newK_eq] at h
        obtain ⟨rfl, rfl⟩ := ok_inj h
        exact ⟨_, rfl, ble_true hb, rfl, rfl⟩
      · cases h
    · cases h
  refine ⟨fun args st v st' h => ?_, fun args st v st' h R w cargs hv gl iv hfr hcd => ?_⟩
  · obtain ⟨n, _, _, _, rfl⟩ := key _ _ _ _ h; exact Mono.new _ _
  · obtain ⟨n, rfl, hn46, rfl, rfl⟩ := key _ _ _ _ h
    obtain ⟨cv, hc, hr⟩ := hv.sing
    cases hr
    have hn0 : R st.next = none := hfr _ (Nat.le_refl _) (by simp [St.new])
    obtain ⟨C, hC, hC2⟩ : ∃ C, (Question.appendCap n 0 elem).cut (w.tape w.drawn (.appendCap n 0 elem)) = C ∧ n ≤ C := ⟨_, rfl, by simp only [Question.cut]; omega⟩
    obtain ⟨B, hB⟩ : ∃ B, (Question.extern "internal/bytealg.MakeNoZero.bytes" 0).cut (w.tape (w.drawn + 1) (.extern "internal/bytealg.MakeNoZero.bytes" 0)) = B := ⟨_, rfl⟩
    have hrun : (Extern.BytealgMakeNoZero.makeNoZero fn.params fn.resultTypes #[.int .i64 (Int.ofNat n)]).run P w = .ok (.slice (some ⟨w.heap.size, 0, none⟩) n C) { w with heap := w.heap.push (.cells (Extern.BytealgMakeNoZero.digits C B #[]) elem), drawn := w.drawn + 2 } := by
      rw [show Extern.BytealgMakeNoZero.makeNoZero fn.params fn.resultTypes #[.int .i64 (Int.ofNat n)] = (do
        let some t := fn.resultTypes[0]? | stuck "bytealg.MakeNoZero: no result type"
        let .slice elem ← underlying t | stuck "bytealg.MakeNoZero: slice type expected"
        if (Int.ofNat n) < 0 || (Int.ofNat n) > 2 ^ 48 then runtimePanic (.error "makeslice: len out of range")
        let cap ← choose (.appendCap (Int.ofNat n).toNat 0 elem)
        askRoom cap
        let bytes ← choose (.extern "internal/bytealg.MakeNoZero.bytes" 0)
        let a ← newRow elem (Extern.BytealgMakeNoZero.digits cap bytes #[])
        pure (.slice (some a) (Int.ofNat n).toNat cap)) from rfl]
      have h1 : (decide ((Int.ofNat n) < 0) || decide ((Int.ofNat n) > 2 ^ 48)) = false := by
        have : (Int.ofNat n) = (n : Int) := rfl
        simp only [this, Bool.or_eq_false_iff, decide_eq_false_iff_not]; omega
      have hroom : ∀ w : World, (askRoom C).run P w = .ok () w := fun w => by unfold askRoom; split <;> simp [mark, Sem.run]
      simp only [ht, Sem.run_bind, run_und hu, Result.andThen_ok, h1]
      simp only [Bool.false_eq_true, if_false, Sem.run_bind, run_choose, Question.forced, Result.andThen_ok, Int.toNat_natCast, Int.ofNat_eq_natCast, hC, hroom, newRow, run_newObj, Sem.run_pure]
      simp [hB]
      rfl
    rw [run_extern hf hname hb hn he cargs (by rw [arr_eq hc]; exact hrun)]
    have hsz := digits_size C B #[]
    have hsz : (Extern.BytealgMakeNoZero.digits C B #[]).size = C := by simpa using hsz
    have iv1 : Inv P ρ R st.heap { w with drawn := w.drawn + 2 } := iv.inv.congr rfl
    have step := Step.alloc (P := P) (w := { w with drawn := w.drawn + 2 }) iv1 hn0 (l := ⟨w.heap.size, 0, C⟩) rfl (.cells (some elem) .leaf 0 _ (Extern.BytealgMakeNoZero.digits C B #[]) elem (0, 0)
      ⟨fun e' h => by injection h with h; exact ⟨h, rfl, .inl rfl⟩, by simp [hsz], fun i v h => by simp [T.get_leaf] at h, fun i _ _ h => by omega⟩) st.low
    exact ⟨_, .slice _ 0 n n false 1 ⟨w.heap.size, 0, C⟩ _ C (Inj.upd_eq _ _ _) (.inr rfl) (Nat.le_refl _) hC2 (fun h => by cases h) (by simp), (Step.drew iv.inv st.low st.next (w.drawn + 2)).trans step (Nat.le_refl _) (Nat.le_refl _) (Nat.le_succ _)⟩
end
end Go.Ab

namespace Go.Ab
section
variable {P : Program} {ρ : Nat → Int} {R : Inj} {w : World} {st st' : St} {v : AV} {args : List AV}
theorem findByte_spec (c : Nat) (hc : c < 256) : ∀ (n b i : Nat), findByte c n b i = match (unpack n b).findIdx? (· == UInt8.ofNat c) with | some k => Int.ofNat (i + k) | none => Int.negSucc 0 := by
  intro n
  induction n with
  | zero => intro b i; simp [findByte, unpack]
  | succ n ih =>
    intro b i
    simp only [findByte, unpack, List.findIdx?_cons]
    have e8 : Nat.shiftRight b 8 = b / 256 := by show b >>> 8 = _; rw [Nat.shiftRight_eq_div_pow]
    have hm : Nat.mod b 256 = b % 256 := rfl
    rw [e8, hm]
    cases h : Nat.beq (b % 256) c with
    | true =>
      have := beq_true h
      have hb : (UInt8.ofNat (b % 256) == UInt8.ofNat c) = true := by rw [this]; simp
      rw [hb]; simp
    | false =>
      have hne : b % 256 ≠ c := beq_false' h
      have hb : (UInt8.ofNat (b % 256) == UInt8.ofNat c) = false := by
        simp only [beq_eq_false_iff_ne, ne_eq]
        intro e
        have := congrArg UInt8.toNat e
        rw [u8_toNat, UInt8.toNat_ofNat_of_lt' (by omega)] at this
        exact hne this
      rw [hb, ih]
      cases hf : (unpack n (b / 256)).findIdx? (· == UInt8.ofNat c) with
      | none => simp
      | some k =>
        simp only [Bool.false_eq_true, if_false, Option.map_some]
        congr 1
        show Nat.succ i + k = i + (k + 1)
        omega
theorem countByte_spec (c : Nat) (hc : c < 256) : ∀ (n b i : Nat), (countByte c n b i : Int) = (unpack n b).foldl (fun (n : Int) x => if x == UInt8.ofNat c then n + 1 else n) (i : Int) := by
  intro n
  induction n with
  | zero => intro b i; simp [countByte, unpack]
  | succ n ih =>
    intro b i
    simp only [countByte, unpack, List.foldl_cons]
    have e8 : Nat.shiftRight b 8 = b / 256 := by show b >>> 8 = _; rw [Nat.shiftRight_eq_div_pow]
    have hm : Nat.mod b 256 = b % 256 := rfl
    rw [e8, hm]
    cases h : Nat.beq (b % 256) c with
    | true =>
      have := beq_true h
      have hb : (UInt8.ofNat (b % 256) == UInt8.ofNat c) = true := by rw [this]; simp
      rw [hb]
      simp only [if_true]
      rw [ih]; rfl
    | false =>
      have hne : b % 256 ≠ c := beq_false' h
      have hb : (UInt8.ofNat (b % 256) == UInt8.ofNat c) = false := by
        simp only [beq_eq_false_iff_ne, ne_eq]
        intro e
        have := congrArg UInt8.toNat e
        rw [u8_toNat, UInt8.toNat_ofNat_of_lt' (by omega)] at this
        exact hne this
      rw [hb]
      simp only [Bool.false_eq_true, if_false]
      rw [ih]
theorem find_range {α : Type} (p : α → Bool) : ∀ (l : List α) (k : Nat) (g : Nat → Bool), (∀ j x, l[j]? = some x → g (k + j) = p x) → (List.range' k l.length).find? g = (l.findIdx? p).map (k + ·) := by
  intro l
  induction l with
  | nil => intro k g _; simp
  | cons x l ih =>
    intro k g h
    simp only [List.length_cons, List.range'_succ, List.find?_cons, List.findIdx?_cons]
    rw [show g k = p x from h 0 x rfl]
    cases p x with
    | true => simp
    | false =>
      simp only [Bool.false_eq_true, if_false]
      rw [ih (k + 1) g fun j y hy => by rw [show k + 1 + j = k + (j + 1) by omega]; exact h (j + 1) y (by simpa using hy)]
      simp [Option.map_map]
      congr 1
      funext a; simp; omega
theorem indexByte_run {s : ByteArray} {n b c : Nat} (hs : s.data.toList = unpack n b) (hc : c < 256) : (Extern.BytealgIndexByte.indexByte #[.string s, .int .u8 (Int.ofNat c)]).run P w = .ok (.int .i64 (findByte c n b 0)) w := by
  rw [show Extern.BytealgIndexByte.indexByte #[.string s, .int .u8 (Int.ofNat c)] = (do
    let b ← Extern.Bytes.bytesOf (.string s)
    let c ← Extern.Bytes.asByte (.int .u8 (Int.ofNat c))
    match (List.range b.size).find? fun i => b[i]! == c with
    | some i => pure (goInt i)
    | none => pure (goInt (-1))) from rfl]
  have hsz : s.size = (unpack n b).length := by rw [← hs]; simp
  have hfind : (List.range s.size).find? (fun i => s[i]! == (Int.ofNat c).toNat.toUInt8) = (unpack n b).findIdx? (· == UInt8.ofNat c) := by
    rw [List.range_eq_range', hsz, find_range (p := (· == UInt8.ofNat c))]
    · simp
    · intro j x hx
      simp only [Nat.zero_add]
      have hlt : j < s.size := by rw [hsz]; exact (List.getElem?_eq_some_iff.1 hx).1
      have : s[j]! = x := by
        rw [getElem!_pos s j hlt]
        rw [← hs] at hx
        have h2 := (List.getElem?_eq_some_iff.1 hx).2
        rw [← h2]; rfl
      rw [this]; rfl
  simp only [Extern.Bytes.bytesOf, Extern.Bytes.asByte, Sem.run_bind, Sem.run_pure, Result.andThen_ok, hfind]
  rw [findByte_spec c hc]
  cases (unpack n b).findIdx? (· == UInt8.ofNat c) with
  | none => rfl
  | some k => simp [goInt]
theorem count_run {s : ByteArray} {n b c : Nat} (hs : s.data.toList = unpack n b) (hc : c < 256) : (Extern.BytealgCount.count #[.string s, .int .u8 (Int.ofNat c)]).run P w = .ok (.int .i64 (.ofNat (countByte c n b 0))) w := by
  rw [show Extern.BytealgCount.count #[.string s, .int .u8 (Int.ofNat c)] = (do
    let b ← Extern.Bytes.bytesOf (.string s)
    let c ← Extern.Bytes.asByte (.int .u8 (Int.ofNat c))
    pure (goInt (b.foldl (fun n x => if x == c then n + 1 else n) (0 : Nat)))) from rfl]
  have hf : s.foldl (fun (n : Int) x => if x == (Int.ofNat c).toNat.toUInt8 then n + 1 else n) ((0 : Nat) : Int) = (countByte c n b 0 : Int) := by
    rw [countByte_spec c hc, ← hs, Go.Lib.foldl_data]
    rfl
  simp only [Extern.Bytes.bytesOf, Extern.Bytes.asByte, Sem.run_bind, Sem.run_pure, Result.andThen_ok, hf]
  rfl
theorem ovIndexByteString_ok {f : Nat} {fn : Func} (hf : P.funcs[f]? = some fn) (hname : (fn.name == "runtime.NumGoroutine") = false) (hb : fn.body.isNone = true) (hn : Extern.findNext fn = none) (he : Extern.find fn = some Extern.BytealgIndexByte.indexByte) : OvOK P ρ f ovIndexByteString := by
  have key : ∀ args st v st', ovIndexByteString args st = .ok (v, st') → ∃ n b c, args = [.str n b, .int .u8 (.ofNat c)] ∧ c < 256 ∧ v = .int .i64 (findByte c n b 0) ∧ st' = st := by
    intro args st v st' h
    unfold ovIndexByteString at h
    split at h
    · split at h
      · rename_i hb
        simp only [forceI_eq] at h
        obtain ⟨rfl, rfl⟩ := ok_inj h
        exact ⟨_, _, _, rfl, blt_true hb, rfl, rfl⟩
      · cases h
    · cases h
  refine ⟨fun args st v st' h => ?_, fun args st v st' h R w cargs hv gl iv hfr hcd => ?_⟩
  · obtain ⟨_, _, _, _, _, _, rfl⟩ := key _ _ _ _ h; exact Mono.refl _
  · obtain ⟨n, b, c, rfl, hc, rfl, rfl⟩ := key _ _ _ _ h
    obtain ⟨v1, v2, hcc, h1, h2⟩ := hv.pair
    cases h2
    cases h1 with
    | str _ _ s hs hb' =>
      rw [run_extern hf hname hb hn he cargs (by rw [arr_eq hcc]; exact indexByte_run hs hc)]
      exact ⟨R, .int _ _, Step.refl iv.inv _ _⟩
theorem ovCountString_ok {f : Nat} {fn : Func} (hf : P.funcs[f]? = some fn) (hname : (fn.name == "runtime.NumGoroutine") = false) (hb : fn.body.isNone = true) (hn : Extern.findNext fn = none) (he : Extern.find fn = some Extern.BytealgCount.count) : OvOK P ρ f ovCountString := by
  have key : ∀ args st v st', ovCountString args st = .ok (v, st') → ∃ n b c, args = [.str n b, .int .u8 (.ofNat c)] ∧ c < 256 ∧ v = .int .i64 (.ofNat (countByte c n b 0)) ∧ st' = st := by
    intro args st v st' h
    unfold ovCountString at h
    split at h
    · split at h
      · rename_i hb
        simp only [forceN_eq] at h
        obtain ⟨rfl, rfl⟩ := ok_inj h
        exact ⟨_, _, _, rfl, blt_true hb, rfl, rfl⟩
      · cases h
    · cases h
  refine ⟨fun args st v st' h => ?_, fun args st v st' h R w cargs hv gl iv hfr hcd => ?_⟩
  · obtain ⟨_, _, _, _, _, _, rfl⟩ := key _ _ _ _ h; exact Mono.refl _
  · obtain ⟨n, b, c, rfl, hc, rfl, rfl⟩ := key _ _ _ _ h
    obtain ⟨v1, v2, hcc, h1, h2⟩ := hv.pair
    cases h2
    cases h1 with
    | str _ _ s hs hb' =>
      rw [run_extern hf hname hb hn he cargs (by rw [arr_eq hcc]; exact count_run hs hc)]
      exact ⟨R, .int _ _, Step.refl iv.inv _ _⟩
end
end Go.Ab

namespace Go.Ab
section
variable {P : Program} {ρ : Nat → Int} {R : Inj} {w : World}
structure Born (es : Array MapEntry) (clock : Nat) : Prop where
  lt : ∀ e ∈ es, e.born < clock
  uniq : ∀ e ∈ es, ∀ e' ∈ es, e.born = e'.born → e = e'
theorem next_map {r m clock : Nat} {es : Array MapEntry} {seen : Array Nat} {t : TypeId} (hr : w.heap[r]? = some (.mapIter (some m) clock seen clock)) (hm : w.heap[m]? = some (.map es clock)) (hb : Born es clock) :
    ((∀ e ∈ es, e.born ∈ seen) ∧ (Instr.next (.pointer (some ⟨r, 0, none⟩)) false t).run P w = .ok (.tuple #[.bool false]) w) ∨
    ∃ e ∈ es, e.born ∉ seen ∧ ∃ k, (Instr.next (.pointer (some ⟨r, 0, none⟩)) false t).run P w = .ok (.tuple #[.bool true, e.key, e.val]) { w with drawn := k, heap := w.heap.setIfInBounds r (.mapIter (some m) clock (seen.push e.born) clock) } := by
  have h1 : (getObj r).run P w = .ok (.mapIter (some m) clock seen clock) w := run_getObj' hr (by intros; simp)
  have h2 : (getObj m).run P w = .ok (.map es clock) w := run_getObj' hm (by intros; simp)
  have hall : (!seen.isEmpty && !es.isEmpty && es.all (fun e => decide (e.born ≥ clock))) = false := by
    cases hes : es.isEmpty with
    | true => simp
    | false =>
      have : es.all (fun e => decide (e.born ≥ clock)) = false := by
        rw [Bool.eq_false_iff]
        intro h
        have hne : es.size ≠ 0 := by simpa [Array.isEmpty] using hes
        have hmem : es[0]'(by omega) ∈ es := Array.getElem_mem _
        have h3 := Array.all_eq_true_iff_forall_mem.1 h _ hmem
        have h4 := hb.lt _ hmem
        simp only [decide_eq_true_eq] at h3
        omega
      rw [this]; simp
  generalize hleft : es.filter (fun e => !seen.contains e.born) = left
  have hl : ∀ e, e ∈ left ↔ e ∈ es ∧ e.born ∉ seen := by
    intro e; rw [← hleft, Array.mem_filter]; simp
  have hold : left.filter (fun e => decide (e.born < clock)) = left := by
    rw [Array.filter_eq_self]; intro e he; simpa using hb.lt e ((hl e).1 he).1
  have hnew : left.filter (fun e => decide (e.born ≥ clock)) = #[] := by
    rw [Array.filter_eq_empty_iff]; intro e he; have := hb.lt e ((hl e).1 he).1; simp; omega
  unfold Instr.next
  simp only [Sem.run_bind, h1, Result.andThen_ok, h2, hall, Bool.false_eq_true, if_false, hleft, hold, hnew, Array.append_empty, run_choose]
  by_cases he : left = #[]
  · left
    subst he
    refine ⟨fun e hem => ?_, ?_⟩
    · by_cases hs : e.born ∈ seen
      · exact hs
      · have := (hl e).2 ⟨hem, hs⟩; simp at this
    · simp [Question.forced]
  · right
    have hne : left.isEmpty = false := by simpa [Array.isEmpty] using he
    have hpos : 0 < left.size := by
      rcases Nat.eq_zero_or_pos left.size with h | h
      · exact absurd (Array.eq_empty_of_size_eq_zero h) he
      · exact h
    have hset : ∀ (w' : World) (e : MapEntry), w'.heap = w.heap → (setObj r (.mapIter (some m) clock (seen.push e.born) clock)).run P w' = .ok () { w' with heap := w'.heap.setIfInBounds r (.mapIter (some m) clock (seen.push e.born) clock) } := by
      intro w' e hw
      exact run_setObj (o := .mapIter (some m) clock seen clock) (by rw [hw]; exact hr) (by intros; simp)
    have fin : ∀ (j : Nat) (w' : World), j < left.size → w'.heap = w.heap → w'.tape = w.tape → w'.os = w.os → w'.output = w.output →
        ∃ e ∈ es, e.born ∉ seen ∧ ∃ k, Sem.run P (match (left.map some)[j]? with
          | some (some e) => do
            setObj r (.mapIter (some m) clock (seen.push e.born) clock)
            pure (.tuple #[.bool true, e.key, e.val])
          | some none => pure (Value.tuple #[.bool false])
          | none => stuck "Next: no such candidate") w' = .ok (.tuple #[.bool true, e.key, e.val]) { w with drawn := k, heap := w.heap.setIfInBounds r (.mapIter (some m) clock (seen.push e.born) clock) } := by
      intro j w' hj e1 e2 e3 e4
      have hg : left[j]? = some left[j] := Array.getElem?_eq_getElem hj
      have hmem := (hl left[j]).1 (Array.getElem_mem hj)
      refine ⟨left[j], hmem.1, hmem.2, w'.drawn, ?_⟩
      simp only [Array.getElem?_map, hg, Option.map_some, Sem.run_bind, hset w' _ e1, Result.andThen_ok, Sem.run_pure]
      rw [e1]
      congr 1
      cases w'; simp_all
    simp only [hne, Bool.false_eq_true, if_false, Array.empty_append, Array.size_map]
    split
    · simp only [Result.andThen_ok]
      exact fin 0 w hpos rfl rfl rfl rfl
    · simp only [Result.andThen_ok]
      exact fin _ _ (Nat.mod_lt _ hpos) rfl rfl rfl rfl
theorem entry_map {r m clock b : Nat} {es : Array MapEntry} {seen : Array Nat} {e : MapEntry} (hr : w.heap[r]? = some (.mapIter (some m) clock (seen.push b) clock)) (hm : w.heap[m]? = some (.map es clock)) (hb : Born es clock) (he : e ∈ es) (heb : e.born = b) :
    (Instr.entry (.pointer (some ⟨r, 0, none⟩))).run P w = .ok (.tuple #[e.key, e.val]) w := by
  have h1 : (getObj r).run P w = .ok (.mapIter (some m) clock (seen.push b) clock) w := run_getObj' hr (by intros; simp)
  have h2 : (getObj m).run P w = .ok (.map es clock) w := run_getObj' hm (by intros; simp)
  have hfind : es.find? (fun x => x.born == b) = some e := by
    cases hf : es.find? (fun x => x.born == b) with
    | none =>
      rw [Array.find?_eq_none] at hf
      exact absurd (by simpa using heb) (hf e he)
    | some e' =>
      have h3 := Array.mem_of_find?_eq_some hf
      have h4 := Array.find?_some hf
      simp only [beq_iff_eq] at h4
      rw [hb.uniq e' h3 e he (by rw [h4, heb])]
  simp [Instr.entry, h1, h2, hfind]
structure Grew (w w' : World) : Prop where
  size : w.heap.size ≤ w'.heap.size
  keep : ∀ b, b < w.heap.size → w'.heap[b]? = w.heap[b]?
  tape : w'.tape = w.tape
  os : w'.os = w.os
  out : w'.output = w.output
theorem Grew.refl (w : World) : Grew w w := ⟨Nat.le_refl _, fun _ _ => rfl, rfl, rfl, rfl⟩
theorem Grew.trans {a b c : World} (h : Grew a b) (h' : Grew b c) : Grew a c :=
  ⟨Nat.le_trans h.size h'.size, fun i hi => by rw [h'.keep i (Nat.lt_of_lt_of_le hi h.size), h.keep i hi], h'.tape.trans h.tape, h'.os.trans h.os, h'.out.trans h.out⟩
theorem Grew.step {h : T AObj} {w' : World} (g : Grew w w') (iv : Inv P ρ R h w) (low n : Nat) : Step P ρ R h w R h w' low n n := by
  refine ⟨⟨fun id o ho => ?_, iv.inj⟩, fun _ _ => rfl, g.size, fun b hb => g.keep b (Nat.lt_of_not_le fun c => hb (.inl c)), fun id o l ho hr => .inl ⟨o, ho, hr⟩, g.tape, g.os, g.out, fun _ h _ => h⟩
  obtain ⟨l, x, h1, h2, h3⟩ := iv.live id o ho
  exact ⟨l, x, h1, by rw [g.keep _ (Array.getElem?_eq_some_iff.1 h2).1]; exact h2, h3⟩
theorem Step.grew {h' : T AObj} {w' : World} {R' : Inj} {low n n' : Nat} (s : Step P ρ R .leaf w R' h' w' low n n') : Grew w w' :=
  ⟨s.size, fun b hb => s.keep b fun c => by
    rcases c with c | ⟨id, o, l, _, h, _⟩
    · omega
    · simp [T.get_leaf] at h, s.tape, s.os, s.out⟩
end
end Go.Ab

namespace Go.Ab
noncomputable def call0 : CallV := fun _ _ _ => .error ""
theorem call0_sound (P : Program) (ρ : Nat → Int) : CallSound P ρ call0 := ⟨fun _ _ _ _ _ h => (by cases h), fun _ _ _ _ _ h => (by cases h)⟩
section
variable {P : Program} {ρ : Nat → Int} {R : Inj} {N : Nat} {tm tm' : T AV} {a : Act} {w : World} {st st' : St} {F : Fence} {Q : Exit → Act → World → Prop}
theorem regFrom (hF : Wide F) {ops : Array Oper} {cops : List COper} (i : Nat) (hc : cOpers P .leaf N ops [] (ops.toList.drop i) = cops) (h : evOps call0 cops tm st = .ok (tm', st')) (t : TR ρ R .leaf N tm a.tmps) (gl : Glob R) (iv : InvW P ρ R st w) (hf : Fresh R st.next st'.next)
    (hcd : Conds ρ st'.tr) (hQ : ∀ a' w' R', TR ρ R' .leaf N tm' a'.tmps → a'.defers = a.defers → Step P ρ R st.heap w R' st'.heap w' st'.low st.next st'.next → Q .normal a' w') : wpOpsIn F 0 P ops Q (List.range' i (ops.size - i)) a w := by
  have := (ops_wp hF (n := 0) (call0_sound P ρ) (E := .leaf) (N := N) (ops := ops) (ops.toList.drop i) i [] tm st rfl (by rw [hc]; exact h)).2 R a w t (fun _ h => by cases h) gl iv hf hcd Q hQ
  simpa using this
theorem reg (hF : Wide F) {id : Nat} {ops : Array Oper} {cops : List COper} (hc : cOpers P .leaf N ops [] ops.toList = cops) (h : evOps call0 cops tm st = .ok (tm', st')) (t : TR ρ R .leaf N tm a.tmps) (gl : Glob R) (iv : InvW P ρ R st w) (hf : Fresh R st.next st'.next)
    (hcd : Conds ρ st'.tr) (hQ : ∀ a' w' R', TR ρ R' .leaf N tm' a'.tmps → a'.defers = a.defers → Step P ρ R st.heap w R' st'.heap w' st'.low st.next st'.next → Q .normal a' w') : (Code.region id ops false).wpIn F 0 P Q a w := by
  refine wpIn_region ?_
  have := regFrom hF (ops := ops) 0 (by simpa using hc) h t gl iv hf hcd hQ
  rw [List.range_eq_range']
  simpa using this
theorem opValue (hF : Wide F) {ops : Array Oper} {o : Oper} {i : Nat} {rest : List Nat} (ho : ops[i]? = some o) (hg : o.guard = none) (hd : ∀ c, o.op ≠ .defer c) {v : Value} {w' : World} (hr : (execOp a.eval o).run P w = .ok (.value v) w')
    (h : wpOpsIn F 0 P ops Q rest (a.put o.dst v) w') : wpOpsIn F 0 P ops Q (i :: rest) a w := by
  simp only [wpOpsIn, ho]
  rw [show Region.wanted o (yielded ops a.tmps) = true by simp [Region.wanted, hg]]
  simp only [if_true]
  refine ⟨fun f _ => hF.fn f, ?_⟩
  rw [Oper.semAt_eq _ _ _ hd, hr, Oper.uponIn_value]
  exact h
noncomputable def st0 : St := { heap := .leaf, next := 100, low := 100, sc := [], tr := [] }
theorem iv0 : InvW P ρ R st0 w := ⟨inv_leaf, fun _ _ => rfl⟩
theorem conds0 : Conds ρ [] := fun _ h => by cases h
end
end Go.Ab
