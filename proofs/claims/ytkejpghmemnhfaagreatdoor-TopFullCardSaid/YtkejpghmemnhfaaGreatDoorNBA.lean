/- A part of the proof: AbKTFR0. -/
import Derived.KernelRfl
import Derived.Test.YtkejpghmemnhfaaGreatDoorNAZ

set_option linter.unusedVariables false
set_option linter.unusedSimpArgs false

namespace Go.Ab.TF
open Go.Ab
theorem fits0 : pieceK (condOK 62 1048576) [(112,997),(113,999),(114,1004),(115,1026)] [.var 0,.var 1,.bin .add .i64 (.var 2) (.lit (.ofNat 1))] 116 h1 tm1 .normal (kev tu 100000 cL (frT tm0) ⟨h0, 112, 100, [true,false,false,false,false,false,false], []⟩) = true := by kernel_rfl
theorem full0 : pieceK (condOK 1 61) [] [.var 0,.var 1,.bin .add .i64 (.var 2) (.lit (.ofNat 1))] 112 h0 tm0 .normal (kev tu 100000 cL (frT tm0) ⟨h0, 112, 100, [true,true,true,true,true,true,false], []⟩) = true := by kernel_rfl
theorem fits1 : pieceK (condOK 124 1048576) [(116,1008),(117,1010),(118,1015)] [.var 0,.var 1,.bin .add .i64 (.var 2) (.lit (.ofNat 1))] 119 h2 tm2 .normal (kev tu 100000 cL (frT tm1) ⟨h1, 116, 100, [true,false,false,false,false,false,false], []⟩) = true := by kernel_rfl
theorem full1 : pieceK (condOK 62 123) [] [.var 0,.var 1,.bin .add .i64 (.var 2) (.lit (.ofNat 1))] 116 h1 tm1 .normal (kev tu 100000 cL (frT tm1) ⟨h1, 116, 100, [true,true,true,true,true,true,false], []⟩) = true := by kernel_rfl
theorem fits2 : pieceK (condOK 186 1048576) [(119,1011),(120,1013),(121,1018)] [.var 0,.var 1,.bin .add .i64 (.var 2) (.lit (.ofNat 1))] 122 h3 tm3 .normal (kev tu 100000 cL (frT tm2) ⟨h2, 119, 100, [true,false,false,false,false,false,false], []⟩) = true := by kernel_rfl
theorem full2 : pieceK (condOK 124 185) [] [.var 0,.var 1,.bin .add .i64 (.var 2) (.lit (.ofNat 1))] 119 h2 tm2 .normal (kev tu 100000 cL (frT tm2) ⟨h2, 119, 100, [true,true,true,true,true,true,false], []⟩) = true := by kernel_rfl
end Go.Ab.TF
