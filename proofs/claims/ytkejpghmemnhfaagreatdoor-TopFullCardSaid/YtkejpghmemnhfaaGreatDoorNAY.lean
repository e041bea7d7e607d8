/- A part of the proof: AbKLvP. -/
import Derived.KernelRfl
import Derived.Test.YtkejpghmemnhfaaGreatDoorNAX

set_option linter.unusedVariables false
set_option linter.unusedSimpArgs false

namespace Go.Ab.Lv
open Go.Ab
theorem ok0 : pieceK (condL []) [] [] 100 h1 tm1 .normal (kev tb 100000 c0 (frT tm0) ⟨h0, 100, 100, [], []⟩) = true := by kernel_rfl
theorem ok1 : pieceK (condL []) [(100,120),(101,103),(103,122),(104,121),(105,135),(106,138),(107,136),(108,137),(109,140),(110,139),(111,119)] [] 112 h2 tm2 .normal (kev tb 100000 c1 (frT tm1) ⟨h1, 100, 100, [], []⟩) = true := by kernel_rfl
theorem ok2 : pieceK (condL []) [] [] 112 h3 tm3 .normal (kev tb 100000 c2 (frT tm2) ⟨h2, 112, 100, [], []⟩) = true := by kernel_rfl
theorem ok3 : pieceK (condL []) [(112,997),(113,999),(114,1004),(115,1026),(116,1105),(117,645),(118,724),(119,799),(120,839),(121,1056),(122,1103),(123,1318),(124,149)] [] 125 h4 tm4 .normal (kev tb 100000 c3 (frT tm3) ⟨h3, 112, 100, [], []⟩) = true := by kernel_rfl
theorem ok4 : pieceK (condL []) [(116,738),(125,589),(126,736),(127,733),(128,735)] [] 129 h5 tm5 .normal (kev tb 100000 c4 (frT tm4) ⟨h4, 125, 100, [], []⟩) = true := by kernel_rfl
theorem ok5 : pieceK (condL []) [] [] 100 h6 tm6 .ret (kev tb 100000 c5 (frT tm5) ⟨h5, 129, 100, [], []⟩) = true := by kernel_rfl
end Go.Ab.Lv
