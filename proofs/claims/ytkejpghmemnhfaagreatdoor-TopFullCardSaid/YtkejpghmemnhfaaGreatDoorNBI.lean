/- A part of the proof: AbKTFR8. -/
import Derived.KernelRfl
import Derived.Test.YtkejpghmemnhfaaGreatDoorNAZ

set_option linter.unusedVariables false
set_option linter.unusedSimpArgs false

namespace Go.Ab.TF
open Go.Ab
theorem full24 : pieceK (condOK 1503 1048576) [] [.var 0,.var 1,.bin .add .i64 (.var 2) (.lit (.ofNat 1))] 185 h24 tm24 .normal (kev tu 100000 cL (frT tm24) ⟨h24, 185, 100, [true,false], []⟩) = true := by kernel_rfl
end Go.Ab.TF
