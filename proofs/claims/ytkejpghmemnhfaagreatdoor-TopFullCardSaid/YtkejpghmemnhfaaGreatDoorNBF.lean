/- A part of the proof: AbKTFR5. -/
import Derived.KernelRfl
import Derived.Test.YtkejpghmemnhfaaGreatDoorNAZ

set_option linter.unusedVariables false
set_option linter.unusedSimpArgs false

namespace Go.Ab.TF
open Go.Ab
theorem fits15 : pieceK (condOK 999 1048576) [(158,1050),(159,1052),(160,1057)] [.var 0,.var 1,.bin .add .i64 (.var 2) (.lit (.ofNat 1))] 161 h16 tm16 .normal (kev tu 100000 cL (frT tm15) ⟨h15, 158, 100, [true,false,false,false,false,false,false], []⟩) = true := by kernel_rfl
theorem full15 : pieceK (condOK 936 998) [] [.var 0,.var 1,.bin .add .i64 (.var 2) (.lit (.ofNat 1))] 158 h15 tm15 .normal (kev tu 100000 cL (frT tm15) ⟨h15, 158, 100, [true,true,true,true,true,true,false], []⟩) = true := by kernel_rfl
theorem fits16 : pieceK (condOK 1062 1048576) [(161,1053),(162,1055),(163,1060)] [.var 0,.var 1,.bin .add .i64 (.var 2) (.lit (.ofNat 1))] 164 h17 tm17 .normal (kev tu 100000 cL (frT tm16) ⟨h16, 161, 100, [true,false,false,false,false,false,false], []⟩) = true := by kernel_rfl
theorem full16 : pieceK (condOK 999 1061) [] [.var 0,.var 1,.bin .add .i64 (.var 2) (.lit (.ofNat 1))] 161 h16 tm16 .normal (kev tu 100000 cL (frT tm16) ⟨h16, 161, 100, [true,true,true,true,true,true,false], []⟩) = true := by kernel_rfl
theorem fits17 : pieceK (condOK 1125 1048576) [(164,1056),(165,1058),(166,1063)] [.var 0,.var 1,.bin .add .i64 (.var 2) (.lit (.ofNat 1))] 167 h18 tm18 .normal (kev tu 100000 cL (frT tm17) ⟨h17, 164, 100, [true,false,false,false,false,false,false], []⟩) = true := by kernel_rfl
theorem full17 : pieceK (condOK 1062 1124) [] [.var 0,.var 1,.bin .add .i64 (.var 2) (.lit (.ofNat 1))] 164 h17 tm17 .normal (kev tu 100000 cL (frT tm17) ⟨h17, 164, 100, [true,true,true,true,true,true,false], []⟩) = true := by kernel_rfl
end Go.Ab.TF
