/- A part of the proof: AbYLvP. -/
import Derived.KernelRfl
import Derived.Test.YtkejpghmemnhfaaGreatDoorNAL

set_option linter.unusedVariables false
set_option linter.unusedSimpArgs false

namespace Go.Ab.Lv
open Go.Ab
theorem ok0 : pieceOK (condL []) [] [] 100 h1 tm1 .normal (ev GT0 100000 false c0 tm0 [] ⟨h0, 100, 100, [], []⟩) = true := by kernel_rfl
theorem ok1 : pieceOK (condL []) [(100,120),(101,103),(103,122),(104,121),(105,135),(106,138),(107,136),(108,137),(109,140),(110,139),(111,119)] [] 112 h2 tm2 .normal (ev GT0 100000 false c1 tm1 [] ⟨h1, 100, 100, [], []⟩) = true := by kernel_rfl
theorem ok2 : pieceOK (condL []) [] [] 112 h3 tm3 .normal (ev GT0 100000 false c2 tm2 [] ⟨h2, 112, 100, [], []⟩) = true := by kernel_rfl
theorem ok3 : pieceOK (condL []) [(112,997),(113,999),(114,1004),(115,1026),(116,1105),(117,645),(118,724),(119,799),(120,839),(121,1056),(122,1103),(123,1318),(124,149)] [] 125 h4 tm4 .normal (ev GT0 100000 false c3 tm3 [] ⟨h3, 112, 100, [], []⟩) = true := by kernel_rfl
theorem ok4 : pieceOK (condL []) [(116,738),(125,589),(126,736),(127,733),(128,735)] [] 129 h5 tm5 .normal (ev GT0 100000 false c4 tm4 [] ⟨h4, 125, 100, [], []⟩) = true := by kernel_rfl
theorem ok5 : pieceOK (condL []) [] [] 100 h6 tm6 .ret (ev GT0 100000 false c5 tm5 [] ⟨h5, 129, 100, [], []⟩) = true := by kernel_rfl
end Go.Ab.Lv
