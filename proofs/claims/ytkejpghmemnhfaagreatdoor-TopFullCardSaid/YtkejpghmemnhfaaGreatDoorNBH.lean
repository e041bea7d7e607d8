/- A part of the proof: AbKTFR7. -/
import Derived.KernelRfl
import Derived.Test.YtkejpghmemnhfaaGreatDoorNAZ

set_option linter.unusedVariables false
set_option linter.unusedSimpArgs false

namespace Go.Ab.TF
open Go.Ab
theorem fits21 : pieceK (condOK 1377 1048576) [(176,1068),(177,1070),(178,1075)] [.var 0,.var 1,.bin .add .i64 (.var 2) (.lit (.ofNat 1))] 179 h22 tm22 .normal (kev tu 100000 cL (frT tm21) ⟨h21, 176, 100, [true,false,false,false,false,false,false], []⟩) = true := by kernel_rfl
theorem full21 : pieceK (condOK 1314 1376) [] [.var 0,.var 1,.bin .add .i64 (.var 2) (.lit (.ofNat 1))] 176 h21 tm21 .normal (kev tu 100000 cL (frT tm21) ⟨h21, 176, 100, [true,true,true,true,true,true,false], []⟩) = true := by kernel_rfl
theorem fits22 : pieceK (condOK 1440 1048576) [(179,1071),(180,1073),(181,1078)] [.var 0,.var 1,.bin .add .i64 (.var 2) (.lit (.ofNat 1))] 182 h23 tm23 .normal (kev tu 100000 cL (frT tm22) ⟨h22, 179, 100, [true,false,false,false,false,false,false], []⟩) = true := by kernel_rfl
theorem full22 : pieceK (condOK 1377 1439) [] [.var 0,.var 1,.bin .add .i64 (.var 2) (.lit (.ofNat 1))] 179 h22 tm22 .normal (kev tu 100000 cL (frT tm22) ⟨h22, 179, 100, [true,true,true,true,true,true,false], []⟩) = true := by kernel_rfl
theorem fits23 : pieceK (condOK 1503 1048576) [(182,1074),(183,1076),(184,1081)] [.var 0,.var 1,.bin .add .i64 (.var 2) (.lit (.ofNat 1))] 185 h24 tm24 .normal (kev tu 100000 cL (frT tm23) ⟨h23, 182, 100, [true,false,false,false,false,false,false], []⟩) = true := by kernel_rfl
theorem full23 : pieceK (condOK 1440 1502) [] [.var 0,.var 1,.bin .add .i64 (.var 2) (.lit (.ofNat 1))] 182 h23 tm23 .normal (kev tu 100000 cL (frT tm23) ⟨h23, 182, 100, [true,true,true,true,true,true,false], []⟩) = true := by kernel_rfl
end Go.Ab.TF
