/- A part of the proof: AbKTFR2. -/
import Derived.KernelRfl
import Derived.Test.YtkejpghmemnhfaaGreatDoorNAZ

set_option linter.unusedVariables false
set_option linter.unusedSimpArgs false

namespace Go.Ab.TF
open Go.Ab
theorem fits6 : pieceK (condOK 434 1048576) [(131,1023),(132,1025),(133,1030)] [.var 0,.var 1,.bin .add .i64 (.var 2) (.lit (.ofNat 1))] 134 h7 tm7 .normal (kev tu 100000 cL (frT tm6) ⟨h6, 131, 100, [true,false,false,false,false,false,false], []⟩) = true := by kernel_rfl
theorem full6 : pieceK (condOK 372 433) [] [.var 0,.var 1,.bin .add .i64 (.var 2) (.lit (.ofNat 1))] 131 h6 tm6 .normal (kev tu 100000 cL (frT tm6) ⟨h6, 131, 100, [true,true,true,true,true,true,false], []⟩) = true := by kernel_rfl
theorem fits7 : pieceK (condOK 496 1048576) [(134,1026),(135,1028),(136,1033)] [.var 0,.var 1,.bin .add .i64 (.var 2) (.lit (.ofNat 1))] 137 h8 tm8 .normal (kev tu 100000 cL (frT tm7) ⟨h7, 134, 100, [true,false,false,false,false,false,false], []⟩) = true := by kernel_rfl
theorem full7 : pieceK (condOK 434 495) [] [.var 0,.var 1,.bin .add .i64 (.var 2) (.lit (.ofNat 1))] 134 h7 tm7 .normal (kev tu 100000 cL (frT tm7) ⟨h7, 134, 100, [true,true,true,true,true,true,false], []⟩) = true := by kernel_rfl
theorem fits8 : pieceK (condOK 558 1048576) [(137,1029),(138,1031),(139,1036)] [.var 0,.var 1,.bin .add .i64 (.var 2) (.lit (.ofNat 1))] 140 h9 tm9 .normal (kev tu 100000 cL (frT tm8) ⟨h8, 137, 100, [true,false,false,false,false,false,false], []⟩) = true := by kernel_rfl
theorem full8 : pieceK (condOK 496 557) [] [.var 0,.var 1,.bin .add .i64 (.var 2) (.lit (.ofNat 1))] 137 h8 tm8 .normal (kev tu 100000 cL (frT tm8) ⟨h8, 137, 100, [true,true,true,true,true,true,false], []⟩) = true := by kernel_rfl
end Go.Ab.TF
