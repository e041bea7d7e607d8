/- A part of the proof: AbKTFR1. -/
import Derived.KernelRfl
import Derived.Test.YtkejpghmemnhfaaGreatDoorNAZ

set_option linter.unusedVariables false
set_option linter.unusedSimpArgs false

namespace Go.Ab.TF
open Go.Ab
theorem fits3 : pieceK (condOK 248 1048576) [(122,1014),(123,1016),(124,1021)] [.var 0,.var 1,.bin .add .i64 (.var 2) (.lit (.ofNat 1))] 125 h4 tm4 .normal (kev tu 100000 cL (frT tm3) ⟨h3, 122, 100, [true,false,false,false,false,false,false], []⟩) = true := by kernel_rfl
theorem full3 : pieceK (condOK 186 247) [] [.var 0,.var 1,.bin .add .i64 (.var 2) (.lit (.ofNat 1))] 122 h3 tm3 .normal (kev tu 100000 cL (frT tm3) ⟨h3, 122, 100, [true,true,true,true,true,true,false], []⟩) = true := by kernel_rfl
theorem fits4 : pieceK (condOK 310 1048576) [(125,1017),(126,1019),(127,1024)] [.var 0,.var 1,.bin .add .i64 (.var 2) (.lit (.ofNat 1))] 128 h5 tm5 .normal (kev tu 100000 cL (frT tm4) ⟨h4, 125, 100, [true,false,false,false,false,false,false], []⟩) = true := by kernel_rfl
theorem full4 : pieceK (condOK 248 309) [] [.var 0,.var 1,.bin .add .i64 (.var 2) (.lit (.ofNat 1))] 125 h4 tm4 .normal (kev tu 100000 cL (frT tm4) ⟨h4, 125, 100, [true,true,true,true,true,true,false], []⟩) = true := by kernel_rfl
theorem fits5 : pieceK (condOK 372 1048576) [(128,1020),(129,1022),(130,1027)] [.var 0,.var 1,.bin .add .i64 (.var 2) (.lit (.ofNat 1))] 131 h6 tm6 .normal (kev tu 100000 cL (frT tm5) ⟨h5, 128, 100, [true,false,false,false,false,false,false], []⟩) = true := by kernel_rfl
theorem full5 : pieceK (condOK 310 371) [] [.var 0,.var 1,.bin .add .i64 (.var 2) (.lit (.ofNat 1))] 128 h5 tm5 .normal (kev tu 100000 cL (frT tm5) ⟨h5, 128, 100, [true,true,true,true,true,true,false], []⟩) = true := by kernel_rfl
end Go.Ab.TF
