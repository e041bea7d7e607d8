/- TopFull, its tied card: however n and room are it returns true, and changes nothing that was there: of any number of messages brought to a mailer on a disk of any room. -/
import Derived.Test.YtkejpghmemnhfaaGreatDoorRows
import GoSem.ClaimGoes
import Derived.KernelRfl
import Derived.Test.YtkejpghmemnhfaaGreatDoorNBM

set_option linter.unusedVariables false
set_option linter.unusedSimpArgs false

namespace Go.Ab
open Go.Proofs
theorem goesAt_none {P : Program} (h : P.funcs.toList.any Func.goes = false) (func : String) : P.goesAt .entering func = false := by
  have hall : ∀ g : Nat, (P.funcs[g]?).any Func.goes = false := by
    intro g
    cases hg : P.funcs[g]? with
    | none => rfl
    | some fn =>
      have hm : fn ∈ P.funcs.toList := by simpa using Array.mem_of_getElem? hg
      have := List.any_eq_false.1 h fn hm
      simpa using this
  have hany : P.funcs.any Func.goes = false := by rw [← Array.any_toList]; exact h
  have hg : ∀ f, P.goes f = false := by
    intro f
    unfold Program.goes
    rw [hany, Bool.and_false, Bool.or_false, List.any_eq_false]
    intro g _
    rw [hall]; simp
  unfold Program.goesAt Program.goesFrom
  simp only [Bool.or_false]
  cases P.funcNamed func with
  | none => rfl
  | some f => exact hg f
theorem noGo : Tryz.prog.funcs.toList.any Func.goes = false := by kernel_rfl
end Go.Ab

namespace Go.Proofs.YtkejpghmemnhfaaGreatDoor
open Go
theorem topFull_card : Rows.TopFullCardSaid :=
  Claim7.holds_tied_plain_at .later [] [.data, .data, .data, .data, .sentinel, .sentinel, .pinned, .pinned] true (true, "1cad5a1b0317bff82c2d912227f59bba2fd82d029811d0443ca1bfc69e4f717f") true
    topFull_holds (fun _ h => by cases h) (by kernel_rfl) (fun _ h => by cases h) topFull_row_tie rfl ⟨rfl, rfl⟩ (by kernel_rfl) rfl
    (fun f fn hf hfn => by
      obtain rfl : f = 4 := Option.some.inj ((show Tryz.prog.funcNamed "duepost/dueposttop.TopFull" = some 4 by kernel_rfl).symm.trans hf) |>.symm
      obtain rfl : fn = Tryz.f4 := (Option.some.inj (Tryz.func4.symm.trans hfn)).symm
      exact ⟨by kernel_rfl, fun j t ht => by
        rw [Tryz.params4] at ht
        have hm : t ∈ [3, 3] := by simpa using Array.mem_of_getElem? ht
        have hall : ([3, 3].all fun u => !Tryz.prog.wantsStandIn u) = true := by kernel_rfl
        exact (show Tryz.prog.wantsStandIn t = false by simpa using List.all_eq_true.1 hall t hm)⟩)
    (Go.Ab.goesAt_none Go.Ab.noGo _).symm
#print axioms topFull_card
end Go.Proofs.YtkejpghmemnhfaaGreatDoor
