/-
  DERIVED. GIVEN WITH THE SEED: THE CARDS: each row of YtkejpghmemnhfaaGreatDoorRows.lean that lists a variable, with what it lists TIED to the program's text (the seventh form; the later family's looks); each row that meets fmt, with fmt's text TOLD by the authors' own Lean function (tested against real Go, not proved from fmt's source: count such statements apart). THE CARD IS WHAT COUNTS. Prove the row's statement (the work); the ties are given (YtkejpghmemnhfaaGreatDoorTie.lean); close each card by the builder's one call (the guide's Derived/Test/ToyasCard.lean, 'card_holds'). Laid BY PROGRAM, IN A SANDBOX (cutbox-door.mjs). By AI agents, Wed Nov 11 2026. No macro, syntax, notation, axiom, sorry.
-/
import Derived.Test.YtkejpghmemnhfaaGreatDoorRows
import GoSem.ClaimSeven
namespace Go.Proofs.YtkejpghmemnhfaaGreatDoor
namespace Rows

/-- THE TIED CARD OF 'duepostlaw19.MtaSays'. -/
def mtaSaysCard : Claim7 := { stood := { row := mtaSaysRow, standIns := [], harness := (true, "1cad5a1b0317bff82c2d912227f59bba2fd82d029811d0443ca1bfc69e4f717f"), looks := true }, kinds := [], alts := [], laidByText := true, laidKinds := [.data, .data, .data, .data, .sentinel, .sentinel, .pinned, .pinned], laidTests := true, laidLooks := .later }
def MtaSaysCardSaid : Prop := Claim7.holds Tryz.pinned (.plain (OpenSpec.ofChange mtaSaysSpec)) mtaSaysCard

/-- THE TIED CARD OF 'dueposttop.TopFull'. -/
def topFullCard : Claim7 := { stood := { row := topFullRow, standIns := [], harness := (true, "1cad5a1b0317bff82c2d912227f59bba2fd82d029811d0443ca1bfc69e4f717f"), looks := true }, kinds := [], alts := [], laidByText := true, laidKinds := [.data, .data, .data, .data, .sentinel, .sentinel, .pinned, .pinned], laidTests := true, laidLooks := .later }
def TopFullCardSaid : Prop := Claim7.holds Tryz.pinned (.plain (OpenSpec.ofChange topFullSpec)) topFullCard

/-- THE TIED CARD OF 'dueposttop.TopThrough'. -/
def topThroughCard : Claim7 := { stood := { row := topThroughRow, standIns := [], harness := (true, "1cad5a1b0317bff82c2d912227f59bba2fd82d029811d0443ca1bfc69e4f717f"), looks := true }, kinds := [], alts := [], laidByText := true, laidKinds := [.data, .data, .data, .data, .sentinel, .sentinel, .pinned, .pinned], laidTests := true, laidLooks := .later }
def TopThroughCardSaid : Prop := Claim7.holds Tryz.pinned (.plain (OpenSpec.ofChange topThroughSpec)) topThroughCard

/-- THE TIED CARD OF 'dueposttop.TopHold'. -/
def topHoldCard : Claim7 := { stood := { row := topHoldRow, standIns := [], harness := (true, "1cad5a1b0317bff82c2d912227f59bba2fd82d029811d0443ca1bfc69e4f717f"), looks := true }, kinds := [], alts := [], laidByText := true, laidKinds := [.data, .data, .data, .data, .sentinel, .sentinel, .pinned, .pinned], laidTests := true, laidLooks := .later }
def TopHoldCardSaid : Prop := Claim7.holds Tryz.pinned (.plain (OpenSpec.ofChange topHoldSpec)) topHoldCard

/-- THE TIED CARD OF 'dueposttop.TopPriorities'. -/
def topPrioritiesCard : Claim7 := { stood := { row := topPrioritiesRow, standIns := [], harness := (true, "1cad5a1b0317bff82c2d912227f59bba2fd82d029811d0443ca1bfc69e4f717f"), looks := true }, kinds := [], alts := [], laidByText := true, laidKinds := [.data, .data, .data, .data, .sentinel, .sentinel, .pinned, .pinned], laidTests := true, laidLooks := .later }
def TopPrioritiesCardSaid : Prop := Claim7.holds Tryz.pinned (.plain (OpenSpec.ofChange topPrioritiesSpec)) topPrioritiesCard

/-- THE TIED CARD OF 'dueposttop.TopPower'. -/
def topPowerCard : Claim7 := { stood := { row := topPowerRow, standIns := [], harness := (true, "1cad5a1b0317bff82c2d912227f59bba2fd82d029811d0443ca1bfc69e4f717f"), looks := true }, kinds := [], alts := [], laidByText := true, laidKinds := [.data, .data, .data, .data, .sentinel, .sentinel, .pinned, .pinned], laidTests := true, laidLooks := .later }
def TopPowerCardSaid : Prop := Claim7.holds Tryz.pinned (.plain (OpenSpec.ofChange topPowerSpec)) topPowerCard

/-- THE TIED CARD OF 'dueposttop.TopDeadline'. -/
def topDeadlineCard : Claim7 := { stood := { row := topDeadlineRow, standIns := [], harness := (true, "1cad5a1b0317bff82c2d912227f59bba2fd82d029811d0443ca1bfc69e4f717f"), looks := true }, kinds := [], alts := [], laidByText := true, laidKinds := [.data, .data, .data, .data, .sentinel, .sentinel, .pinned, .pinned], laidTests := true, laidLooks := .later }
def TopDeadlineCardSaid : Prop := Claim7.holds Tryz.pinned (.plain (OpenSpec.ofChange topDeadlineSpec)) topDeadlineCard

/-- THE SECOND FORM's CARD OF 'duepostlaw19.MtaSays'. -/
def mtaSaysUptoCard : Claim7 := { stood := { row := mtaSaysUptoRow, standIns := [], harness := (true, "1cad5a1b0317bff82c2d912227f59bba2fd82d029811d0443ca1bfc69e4f717f"), looks := true }, kinds := [], alts := [], laidByText := true, laidKinds := [.data, .data, .data, .data, .sentinel, .sentinel, .pinned, .pinned], laidTests := true, laidLooks := .later }
def MtaSaysUptoCardSaid : Prop := Claim7.holds Tryz.pinned (.plain (OpenSpec.upto mtaSaysSpec)) mtaSaysUptoCard

/-- THE SECOND FORM's CARD OF 'dueposttop.TopFull'. -/
def topFullUptoCard : Claim7 := { stood := { row := topFullUptoRow, standIns := [], harness := (true, "1cad5a1b0317bff82c2d912227f59bba2fd82d029811d0443ca1bfc69e4f717f"), looks := true }, kinds := [], alts := [], laidByText := true, laidKinds := [.data, .data, .data, .data, .sentinel, .sentinel, .pinned, .pinned], laidTests := true, laidLooks := .later }
def TopFullUptoCardSaid : Prop := Claim7.holds Tryz.pinned (.plain (OpenSpec.upto topFullSpec)) topFullUptoCard

/-- THE SECOND FORM's CARD OF 'dueposttop.TopThrough'. -/
def topThroughUptoCard : Claim7 := { stood := { row := topThroughUptoRow, standIns := [], harness := (true, "1cad5a1b0317bff82c2d912227f59bba2fd82d029811d0443ca1bfc69e4f717f"), looks := true }, kinds := [], alts := [], laidByText := true, laidKinds := [.data, .data, .data, .data, .sentinel, .sentinel, .pinned, .pinned], laidTests := true, laidLooks := .later }
def TopThroughUptoCardSaid : Prop := Claim7.holds Tryz.pinned (.plain (OpenSpec.upto topThroughSpec)) topThroughUptoCard

/-- THE SECOND FORM's CARD OF 'dueposttop.TopHold'. -/
def topHoldUptoCard : Claim7 := { stood := { row := topHoldUptoRow, standIns := [], harness := (true, "1cad5a1b0317bff82c2d912227f59bba2fd82d029811d0443ca1bfc69e4f717f"), looks := true }, kinds := [], alts := [], laidByText := true, laidKinds := [.data, .data, .data, .data, .sentinel, .sentinel, .pinned, .pinned], laidTests := true, laidLooks := .later }
def TopHoldUptoCardSaid : Prop := Claim7.holds Tryz.pinned (.plain (OpenSpec.upto topHoldSpec)) topHoldUptoCard

/-- THE SECOND FORM's CARD OF 'dueposttop.TopPriorities'. -/
def topPrioritiesUptoCard : Claim7 := { stood := { row := topPrioritiesUptoRow, standIns := [], harness := (true, "1cad5a1b0317bff82c2d912227f59bba2fd82d029811d0443ca1bfc69e4f717f"), looks := true }, kinds := [], alts := [], laidByText := true, laidKinds := [.data, .data, .data, .data, .sentinel, .sentinel, .pinned, .pinned], laidTests := true, laidLooks := .later }
def TopPrioritiesUptoCardSaid : Prop := Claim7.holds Tryz.pinned (.plain (OpenSpec.upto topPrioritiesSpec)) topPrioritiesUptoCard

/-- THE SECOND FORM's CARD OF 'dueposttop.TopPower'. -/
def topPowerUptoCard : Claim7 := { stood := { row := topPowerUptoRow, standIns := [], harness := (true, "1cad5a1b0317bff82c2d912227f59bba2fd82d029811d0443ca1bfc69e4f717f"), looks := true }, kinds := [], alts := [], laidByText := true, laidKinds := [.data, .data, .data, .data, .sentinel, .sentinel, .pinned, .pinned], laidTests := true, laidLooks := .later }
def TopPowerUptoCardSaid : Prop := Claim7.holds Tryz.pinned (.plain (OpenSpec.upto topPowerSpec)) topPowerUptoCard

/-- THE SECOND FORM's CARD OF 'dueposttop.TopDeadline'. -/
def topDeadlineUptoCard : Claim7 := { stood := { row := topDeadlineUptoRow, standIns := [], harness := (true, "1cad5a1b0317bff82c2d912227f59bba2fd82d029811d0443ca1bfc69e4f717f"), looks := true }, kinds := [], alts := [], laidByText := true, laidKinds := [.data, .data, .data, .data, .sentinel, .sentinel, .pinned, .pinned], laidTests := true, laidLooks := .later }
def TopDeadlineUptoCardSaid : Prop := Claim7.holds Tryz.pinned (.plain (OpenSpec.upto topDeadlineSpec)) topDeadlineUptoCard
end Rows
end Go.Proofs.YtkejpghmemnhfaaGreatDoor
