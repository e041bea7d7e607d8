/- A part of the proof: AbFacts2. -/
import Derived.Test.YtkejpghmemnhfaaGreatDoorNBK

set_option linter.unusedVariables false
set_option linter.unusedSimpArgs false

namespace Go.Proofs.YtkejpghmemnhfaaGreatDoor
theorem tf_wf : Rows.topFullRow.wf (OpenSpec.ofChange Rows.topFullSpec) = true := by kernel_rfl
theorem tf_laidOut : laidOutB Tryz.prog = true := by kernel_rfl
theorem tf_mapsRowed : mapsRowed Tryz.prog = true := by kernel_rfl
theorem tf_stops : (Tryz.prog.stops == []) = true := by kernel_rfl
theorem tf_knobs : (Tryz.prog.stopKnobs == []) = true := by kernel_rfl
theorem tf_plainKeys : (Rows.topFullRow.plainKeys == Tryz.prog.plainKeys) = true := by kernel_rfl
theorem tf_heard : Tryz.prog.stopsHeard = true := by kernel_rfl
theorem tf_may : Tryz.prog.mayEnter = true := by kernel_rfl
theorem tf_lifted : (Rows.topFullRow.lifted == Tryz.prog.liftsFinal) = true := by kernel_rfl
theorem tf_make : (Tryz.prog.make == some Rows.topFullRow.make) = true := by kernel_rfl
theorem topFull_closed : joinedFacts Tryz.prog 4 Tryz.f4 Rows.topFullSpec Rows.topFullRow = true := by
  unfold joinedFacts
  simp only [Bool.and_eq_true]
  exact ⟨⟨⟨⟨⟨⟨⟨⟨⟨⟨⟨⟨⟨⟨⟨⟨⟨⟨⟨⟨⟨⟨⟨⟨⟨⟨⟨⟨⟨⟨⟨tf_wf, tf_laidOut⟩, tf_mapsRowed⟩, (by kernel_rfl)⟩, (by kernel_rfl)⟩, (by kernel_rfl)⟩, tf_stops⟩, (by kernel_rfl)⟩, tf_knobs⟩, (beq_iff_eq.2 topFull_inPlace)⟩, (beq_iff_eq.2 topFull_unfollowed)⟩, (beq_iff_eq.2 topFull_recurses)⟩, (beq_iff_eq.2 topFull_named)⟩, (by kernel_rfl)⟩, (by kernel_rfl)⟩, (by kernel_rfl)⟩, (by kernel_rfl)⟩, (by kernel_rfl)⟩, (by kernel_rfl)⟩, (by kernel_rfl)⟩, (by kernel_rfl)⟩, (by kernel_rfl)⟩, tf_plainKeys⟩, (by kernel_rfl)⟩, tf_heard⟩, tf_may⟩, tf_lifted⟩, tf_make⟩, (by kernel_rfl)⟩, (by kernel_rfl)⟩, (by kernel_rfl)⟩, (by kernel_rfl)⟩
end Go.Proofs.YtkejpghmemnhfaaGreatDoor
