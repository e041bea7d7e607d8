/- A part of the proof: AbKTFR6. -/
import Derived.KernelRfl
import Derived.Test.YtkejpghmemnhfaaGreatDoorNAZ

set_option linter.unusedVariables false
set_option linter.unusedSimpArgs false

namespace Go.Ab.TF
open Go.Ab
theorem fits18 : pieceK (condOK 1188 1048576) [(167,1059),(168,1061),(169,1066)] [.var 0,.var 1,.bin .add .i64 (.var 2) (.lit (.ofNat 1))] 170 h19 tm19 .normal (kev tu 100000 cL (frT tm18) ⟨h18, 167, 100, [true,false,false,false,false,false,false], []⟩) = true := by kernel_rfl
theorem full18 : pieceK (condOK 1125 1187) [] [.var 0,.var 1,.bin .add .i64 (.var 2) (.lit (.ofNat 1))] 167 h18 tm18 .normal (kev tu 100000 cL (frT tm18) ⟨h18, 167, 100, [true,true,true,true,true,true,false], []⟩) = true := by kernel_rfl
theorem fits19 : pieceK (condOK 1251 1048576) [(170,1062),(171,1064),(172,1069)] [.var 0,.var 1,.bin .add .i64 (.var 2) (.lit (.ofNat 1))] 173 h20 tm20 .normal (kev tu 100000 cL (frT tm19) ⟨h19, 170, 100, [true,false,false,false,false,false,false], []⟩) = true := by kernel_rfl
theorem full19 : pieceK (condOK 1188 1250) [] [.var 0,.var 1,.bin .add .i64 (.var 2) (.lit (.ofNat 1))] 170 h19 tm19 .normal (kev tu 100000 cL (frT tm19) ⟨h19, 170, 100, [true,true,true,true,true,true,false], []⟩) = true := by kernel_rfl
theorem fits20 : pieceK (condOK 1314 1048576) [(173,1065),(174,1067),(175,1072)] [.var 0,.var 1,.bin .add .i64 (.var 2) (.lit (.ofNat 1))] 176 h21 tm21 .normal (kev tu 100000 cL (frT tm20) ⟨h20, 173, 100, [true,false,false,false,false,false,false], []⟩) = true := by kernel_rfl
theorem full20 : pieceK (condOK 1251 1313) [] [.var 0,.var 1,.bin .add .i64 (.var 2) (.lit (.ofNat 1))] 173 h20 tm20 .normal (kev tu 100000 cL (frT tm20) ⟨h20, 173, 100, [true,true,true,true,true,true,false], []⟩) = true := by kernel_rfl
end Go.Ab.TF
