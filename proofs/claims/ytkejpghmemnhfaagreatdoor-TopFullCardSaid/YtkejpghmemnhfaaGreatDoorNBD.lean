/- A part of the proof: AbKTFR3. -/
import Derived.KernelRfl
import Derived.Test.YtkejpghmemnhfaaGreatDoorNAZ

set_option linter.unusedVariables false
set_option linter.unusedSimpArgs false

namespace Go.Ab.TF
open Go.Ab
theorem fits9 : pieceK (condOK 621 1048576) [(140,1032),(141,1034),(142,1039)] [.var 0,.var 1,.bin .add .i64 (.var 2) (.lit (.ofNat 1))] 143 h10 tm10 .normal (kev tu 100000 cL (frT tm9) ⟨h9, 140, 100, [true,false,false,false,false,false,false], []⟩) = true := by kernel_rfl
theorem full9 : pieceK (condOK 558 620) [] [.var 0,.var 1,.bin .add .i64 (.var 2) (.lit (.ofNat 1))] 140 h9 tm9 .normal (kev tu 100000 cL (frT tm9) ⟨h9, 140, 100, [true,true,true,true,true,true,false], []⟩) = true := by kernel_rfl
theorem fits10 : pieceK (condOK 684 1048576) [(143,1035),(144,1037),(145,1042)] [.var 0,.var 1,.bin .add .i64 (.var 2) (.lit (.ofNat 1))] 146 h11 tm11 .normal (kev tu 100000 cL (frT tm10) ⟨h10, 143, 100, [true,false,false,false,false,false,false], []⟩) = true := by kernel_rfl
theorem full10 : pieceK (condOK 621 683) [] [.var 0,.var 1,.bin .add .i64 (.var 2) (.lit (.ofNat 1))] 143 h10 tm10 .normal (kev tu 100000 cL (frT tm10) ⟨h10, 143, 100, [true,true,true,true,true,true,false], []⟩) = true := by kernel_rfl
theorem fits11 : pieceK (condOK 747 1048576) [(146,1038),(147,1040),(148,1045)] [.var 0,.var 1,.bin .add .i64 (.var 2) (.lit (.ofNat 1))] 149 h12 tm12 .normal (kev tu 100000 cL (frT tm11) ⟨h11, 146, 100, [true,false,false,false,false,false,false], []⟩) = true := by kernel_rfl
theorem full11 : pieceK (condOK 684 746) [] [.var 0,.var 1,.bin .add .i64 (.var 2) (.lit (.ofNat 1))] 146 h11 tm11 .normal (kev tu 100000 cL (frT tm11) ⟨h11, 146, 100, [true,true,true,true,true,true,false], []⟩) = true := by kernel_rfl
end Go.Ab.TF
