/- A part of the proof: AbG9. -/
import Derived.Test.YtkejpghmemnhfaaGreatDoorNAU
import Derived.Test.YtkejpghmemnhfaaGreatDoorNAJ

set_option linter.unusedVariables false
set_option linter.unusedSimpArgs false

namespace Go.Ab
noncomputable def kcBody (k : KF) : KC := match k with | .fast _ b _ => b | _ => .fail
noncomputable def kcFst (c : KC) : KC := match c with | .seq a _ => a | c => c
noncomputable def kcSnd (c : KC) : KC := match c with | .seq _ b => b | c => c
noncomputable def kcInn (c : KC) : KC := match c with | .block _ b => b | .loop b => b | c => c
end Go.Ab
