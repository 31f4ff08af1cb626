/-
  DERIVED. GIVEN WITH THE SEED: THE CARDS: each row of YtnoeliaefhldmaaDoorRows.lean that lists a variable, with what it lists TIED to the program's text (the seventh form; the later family's looks); each row that meets fmt, with fmt's text TOLD by the authors' own Lean function (tested against real Go, not proved from fmt's source: count such statements apart). THE CARD IS WHAT COUNTS. Prove the row's statement (the work); the ties are given (YtnoeliaefhldmaaDoorTie.lean); close each card by the builder's one call (the guide's Derived/Test/ToyasCard.lean, 'card_holds'). Laid BY PROGRAM, IN A SANDBOX (cutbox-door.mjs). By AI agents, Wed Nov 11 2026. No macro, syntax, notation, axiom, sorry.
-/
import Derived.Test.YtnoeliaefhldmaaDoorRows
import GoSem.ClaimSeven
namespace Go.Proofs.YtnoeliaefhldmaaDoor
namespace Rows

/-- THE TIED CARD OF 'laws.FnWorkHeld'. -/
def fnWorkHeldCard : Claim7 := { stood := { row := fnWorkHeldRow, standIns := [], harness := (true, "7379ca70a0ccf839d31c838b49f30a99be80ac2119adf7f4bbea899e6fc7efc7"), looks := false }, kinds := [], alts := [], laidByText := true, laidKinds := [.data, .data, .data], laidTests := true, laidLooks := .later }
def FnWorkHeldCardSaid : Prop := Claim7.holds Tryd.pinned (.plain (OpenSpec.ofChange fnWorkHeldSpec)) fnWorkHeldCard

/-- THE TIED CARD OF 'laws.FnWorkDo'. -/
def fnWorkDoCard : Claim7 := { stood := { row := fnWorkDoRow, standIns := [], harness := (true, "7379ca70a0ccf839d31c838b49f30a99be80ac2119adf7f4bbea899e6fc7efc7"), looks := false }, kinds := [], alts := [], laidByText := true, laidKinds := [.data, .data, .data], laidTests := true, laidLooks := .later }
def FnWorkDoCardSaid : Prop := Claim7.holds Tryd.pinned (.plain (OpenSpec.ofChange fnWorkDoSpec)) fnWorkDoCard

/-- THE TIED CARD OF 'laws.FnWorkRun'. -/
def fnWorkRunCard : Claim7 := { stood := { row := fnWorkRunRow, standIns := [], harness := (true, "7379ca70a0ccf839d31c838b49f30a99be80ac2119adf7f4bbea899e6fc7efc7"), looks := false }, kinds := [], alts := [], laidByText := true, laidKinds := [.data, .data, .data], laidTests := true, laidLooks := .later }
def FnWorkRunCardSaid : Prop := Claim7.holds Tryd.pinned (.plain (OpenSpec.ofChange fnWorkRunSpec)) fnWorkRunCard

/-- THE TIED CARD OF 'laws.FnWorkClose'. -/
def fnWorkCloseCard : Claim7 := { stood := { row := fnWorkCloseRow, standIns := [], harness := (true, "7379ca70a0ccf839d31c838b49f30a99be80ac2119adf7f4bbea899e6fc7efc7"), looks := false }, kinds := [], alts := [], laidByText := true, laidKinds := [.data, .data, .data], laidTests := true, laidLooks := .later }
def FnWorkCloseCardSaid : Prop := Claim7.holds Tryd.pinned (.plain (OpenSpec.ofChange fnWorkCloseSpec)) fnWorkCloseCard

/-- THE SECOND FORM's CARD OF 'laws.FnWorkHeld'. -/
def fnWorkHeldUptoCard : Claim7 := { stood := { row := fnWorkHeldUptoRow, standIns := [], harness := (true, "7379ca70a0ccf839d31c838b49f30a99be80ac2119adf7f4bbea899e6fc7efc7"), looks := false }, kinds := [], alts := [], laidByText := true, laidKinds := [.data, .data, .data], laidTests := true, laidLooks := .later }
def FnWorkHeldUptoCardSaid : Prop := Claim7.holds Tryd.pinned (.plain (OpenSpec.upto fnWorkHeldSpec)) fnWorkHeldUptoCard

/-- THE SECOND FORM's CARD OF 'laws.FnWorkDo'. -/
def fnWorkDoUptoCard : Claim7 := { stood := { row := fnWorkDoUptoRow, standIns := [], harness := (true, "7379ca70a0ccf839d31c838b49f30a99be80ac2119adf7f4bbea899e6fc7efc7"), looks := false }, kinds := [], alts := [], laidByText := true, laidKinds := [.data, .data, .data], laidTests := true, laidLooks := .later }
def FnWorkDoUptoCardSaid : Prop := Claim7.holds Tryd.pinned (.plain (OpenSpec.upto fnWorkDoSpec)) fnWorkDoUptoCard

/-- THE SECOND FORM's CARD OF 'laws.FnWorkRun'. -/
def fnWorkRunUptoCard : Claim7 := { stood := { row := fnWorkRunUptoRow, standIns := [], harness := (true, "7379ca70a0ccf839d31c838b49f30a99be80ac2119adf7f4bbea899e6fc7efc7"), looks := false }, kinds := [], alts := [], laidByText := true, laidKinds := [.data, .data, .data], laidTests := true, laidLooks := .later }
def FnWorkRunUptoCardSaid : Prop := Claim7.holds Tryd.pinned (.plain (OpenSpec.upto fnWorkRunSpec)) fnWorkRunUptoCard

/-- THE SECOND FORM's CARD OF 'laws.FnWorkClose'. -/
def fnWorkCloseUptoCard : Claim7 := { stood := { row := fnWorkCloseUptoRow, standIns := [], harness := (true, "7379ca70a0ccf839d31c838b49f30a99be80ac2119adf7f4bbea899e6fc7efc7"), looks := false }, kinds := [], alts := [], laidByText := true, laidKinds := [.data, .data, .data], laidTests := true, laidLooks := .later }
def FnWorkCloseUptoCardSaid : Prop := Claim7.holds Tryd.pinned (.plain (OpenSpec.upto fnWorkCloseSpec)) fnWorkCloseUptoCard
end Rows
end Go.Proofs.YtnoeliaefhldmaaDoor
