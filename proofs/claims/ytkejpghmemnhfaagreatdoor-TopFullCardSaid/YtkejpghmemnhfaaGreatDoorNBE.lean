/- A part of the proof: AbKTFR4. -/
import Derived.KernelRfl
import Derived.Test.YtkejpghmemnhfaaGreatDoorNAZ

set_option linter.unusedVariables false
set_option linter.unusedSimpArgs false

namespace Go.Ab.TF
open Go.Ab
theorem fits12 : pieceK (condOK 810 1048576) [(149,1041),(150,1043),(151,1048)] [.var 0,.var 1,.bin .add .i64 (.var 2) (.lit (.ofNat 1))] 152 h13 tm13 .normal (kev tu 100000 cL (frT tm12) ⟨h12, 149, 100, [true,false,false,false,false,false,false], []⟩) = true := by kernel_rfl
theorem full12 : pieceK (condOK 747 809) [] [.var 0,.var 1,.bin .add .i64 (.var 2) (.lit (.ofNat 1))] 149 h12 tm12 .normal (kev tu 100000 cL (frT tm12) ⟨h12, 149, 100, [true,true,true,true,true,true,false], []⟩) = true := by kernel_rfl
theorem fits13 : pieceK (condOK 873 1048576) [(152,1044),(153,1046),(154,1051)] [.var 0,.var 1,.bin .add .i64 (.var 2) (.lit (.ofNat 1))] 155 h14 tm14 .normal (kev tu 100000 cL (frT tm13) ⟨h13, 152, 100, [true,false,false,false,false,false,false], []⟩) = true := by kernel_rfl
theorem full13 : pieceK (condOK 810 872) [] [.var 0,.var 1,.bin .add .i64 (.var 2) (.lit (.ofNat 1))] 152 h13 tm13 .normal (kev tu 100000 cL (frT tm13) ⟨h13, 152, 100, [true,true,true,true,true,true,false], []⟩) = true := by kernel_rfl
theorem fits14 : pieceK (condOK 936 1048576) [(155,1047),(156,1049),(157,1054)] [.var 0,.var 1,.bin .add .i64 (.var 2) (.lit (.ofNat 1))] 158 h15 tm15 .normal (kev tu 100000 cL (frT tm14) ⟨h14, 155, 100, [true,false,false,false,false,false,false], []⟩) = true := by kernel_rfl
theorem full14 : pieceK (condOK 873 935) [] [.var 0,.var 1,.bin .add .i64 (.var 2) (.lit (.ofNat 1))] 155 h14 tm14 .normal (kev tu 100000 cL (frT tm14) ⟨h14, 155, 100, [true,true,true,true,true,true,false], []⟩) = true := by kernel_rfl
end Go.Ab.TF
