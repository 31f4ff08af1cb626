/-
  DERIVED. GIVEN WITH THE SEED: THE CARDS: each row of YtjdlgannencchaaGreatDoorRows.lean that lists a variable, with what it lists TIED to the program's text (the seventh form; the later family's looks); each row that meets fmt, with fmt's text TOLD by the authors' own Lean function (tested against real Go, not proved from fmt's source: count such statements apart). THE CARD IS WHAT COUNTS. Prove the row's statement (the work); the ties are given (YtjdlgannencchaaGreatDoorTie.lean); close each card by the builder's one call (the guide's Derived/Test/ToyasCard.lean, 'card_holds'). Laid BY PROGRAM, IN A SANDBOX (cutbox-door.mjs). By AI agents, Wed Nov 11 2026. No macro, syntax, notation, axiom, sorry.
-/
import Derived.Test.YtjdlgannencchaaGreatDoorRows
import GoSem.ClaimSeven
namespace Go.Proofs.YtjdlgannencchaaGreatDoor
namespace Rows

/-- THE TIED CARD OF 'laws.FnLinesHeal'. -/
def fnLinesHealCard : Claim7 := { stood := { row := fnLinesHealRow, standIns := [], harness := (true, "05958c7bd3cf4ae6049e28535a6b206e3d3a6bdf858ccb397d68b6b6ee9802ed"), looks := false }, kinds := [], alts := [], laidByText := true, laidKinds := [.data, .data, .data, .data, .pinned], laidTests := true, laidLooks := .later }
def FnLinesHealCardSaid : Prop := Claim7.holds Tryz.pinned (.plain (OpenSpec.ofChange fnLinesHealSpec)) fnLinesHealCard

/-- THE TIED CARD OF 'laws.FnWorldLine'. -/
def fnWorldLineCard : Claim7 := { stood := { row := fnWorldLineRow, standIns := [], harness := (true, "05958c7bd3cf4ae6049e28535a6b206e3d3a6bdf858ccb397d68b6b6ee9802ed"), looks := false }, kinds := [], alts := [], laidByText := true, laidKinds := [.data, .data, .data, .data, .pinned], laidTests := true, laidLooks := .later }
def FnWorldLineCardSaid : Prop := Claim7.holds Tryz.pinned (.plain (OpenSpec.ofChange fnWorldLineSpec)) fnWorldLineCard

/-- THE TIED CARD OF 'laws.FnWorldLines'. -/
def fnWorldLinesCard : Claim7 := { stood := { row := fnWorldLinesRow, standIns := [], harness := (true, "05958c7bd3cf4ae6049e28535a6b206e3d3a6bdf858ccb397d68b6b6ee9802ed"), looks := false }, kinds := [], alts := [], laidByText := true, laidKinds := [.data, .data, .data, .data, .pinned], laidTests := true, laidLooks := .later }
def FnWorldLinesCardSaid : Prop := Claim7.holds Tryz.pinned (.plain (OpenSpec.ofChange fnWorldLinesSpec)) fnWorldLinesCard

/-- THE TIED CARD OF 'laws.FnExactWorldLine'. -/
def fnExactWorldLineCard : Claim7 := { stood := { row := fnExactWorldLineRow, standIns := [], harness := (true, "05958c7bd3cf4ae6049e28535a6b206e3d3a6bdf858ccb397d68b6b6ee9802ed"), looks := false }, kinds := [], alts := [], laidByText := true, laidKinds := [.data, .data, .data, .data, .pinned], laidTests := true, laidLooks := .later }
def FnExactWorldLineCardSaid : Prop := Claim7.holds Tryz.pinned (.plain (OpenSpec.ofChange fnExactWorldLineSpec)) fnExactWorldLineCard

/-- THE TIED CARD OF 'laws.FnExactWorldLines'. -/
def fnExactWorldLinesCard : Claim7 := { stood := { row := fnExactWorldLinesRow, standIns := [], harness := (true, "05958c7bd3cf4ae6049e28535a6b206e3d3a6bdf858ccb397d68b6b6ee9802ed"), looks := false }, kinds := [], alts := [], laidByText := true, laidKinds := [.data, .data, .data, .data, .pinned], laidTests := true, laidLooks := .later }
def FnExactWorldLinesCardSaid : Prop := Claim7.holds Tryz.pinned (.plain (OpenSpec.ofChange fnExactWorldLinesSpec)) fnExactWorldLinesCard

/-- THE SECOND FORM's CARD OF 'laws.FnLinesHeal'. -/
def fnLinesHealUptoCard : Claim7 := { stood := { row := fnLinesHealUptoRow, standIns := [], harness := (true, "05958c7bd3cf4ae6049e28535a6b206e3d3a6bdf858ccb397d68b6b6ee9802ed"), looks := false }, kinds := [], alts := [], laidByText := true, laidKinds := [.data, .data, .data, .data, .pinned], laidTests := true, laidLooks := .later }
def FnLinesHealUptoCardSaid : Prop := Claim7.holds Tryz.pinned (.plain (OpenSpec.upto fnLinesHealSpec)) fnLinesHealUptoCard

/-- THE SECOND FORM's CARD OF 'laws.FnWorldLine'. -/
def fnWorldLineUptoCard : Claim7 := { stood := { row := fnWorldLineUptoRow, standIns := [], harness := (true, "05958c7bd3cf4ae6049e28535a6b206e3d3a6bdf858ccb397d68b6b6ee9802ed"), looks := false }, kinds := [], alts := [], laidByText := true, laidKinds := [.data, .data, .data, .data, .pinned], laidTests := true, laidLooks := .later }
def FnWorldLineUptoCardSaid : Prop := Claim7.holds Tryz.pinned (.plain (OpenSpec.upto fnWorldLineSpec)) fnWorldLineUptoCard

/-- THE SECOND FORM's CARD OF 'laws.FnWorldLines'. -/
def fnWorldLinesUptoCard : Claim7 := { stood := { row := fnWorldLinesUptoRow, standIns := [], harness := (true, "05958c7bd3cf4ae6049e28535a6b206e3d3a6bdf858ccb397d68b6b6ee9802ed"), looks := false }, kinds := [], alts := [], laidByText := true, laidKinds := [.data, .data, .data, .data, .pinned], laidTests := true, laidLooks := .later }
def FnWorldLinesUptoCardSaid : Prop := Claim7.holds Tryz.pinned (.plain (OpenSpec.upto fnWorldLinesSpec)) fnWorldLinesUptoCard

/-- THE SECOND FORM's CARD OF 'laws.FnExactWorldLine'. -/
def fnExactWorldLineUptoCard : Claim7 := { stood := { row := fnExactWorldLineUptoRow, standIns := [], harness := (true, "05958c7bd3cf4ae6049e28535a6b206e3d3a6bdf858ccb397d68b6b6ee9802ed"), looks := false }, kinds := [], alts := [], laidByText := true, laidKinds := [.data, .data, .data, .data, .pinned], laidTests := true, laidLooks := .later }
def FnExactWorldLineUptoCardSaid : Prop := Claim7.holds Tryz.pinned (.plain (OpenSpec.upto fnExactWorldLineSpec)) fnExactWorldLineUptoCard

/-- THE SECOND FORM's CARD OF 'laws.FnExactWorldLines'. -/
def fnExactWorldLinesUptoCard : Claim7 := { stood := { row := fnExactWorldLinesUptoRow, standIns := [], harness := (true, "05958c7bd3cf4ae6049e28535a6b206e3d3a6bdf858ccb397d68b6b6ee9802ed"), looks := false }, kinds := [], alts := [], laidByText := true, laidKinds := [.data, .data, .data, .data, .pinned], laidTests := true, laidLooks := .later }
def FnExactWorldLinesUptoCardSaid : Prop := Claim7.holds Tryz.pinned (.plain (OpenSpec.upto fnExactWorldLinesSpec)) fnExactWorldLinesUptoCard
end Rows
end Go.Proofs.YtjdlgannencchaaGreatDoor
