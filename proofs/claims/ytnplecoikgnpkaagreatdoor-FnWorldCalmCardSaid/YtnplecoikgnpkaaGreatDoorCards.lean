/-
  DERIVED. GIVEN WITH THE SEED: THE CARDS: each row of YtnplecoikgnpkaaGreatDoorRows.lean that lists a variable, with what it lists TIED to the program's text (the seventh form; the later family's looks); each row that meets fmt, with fmt's text TOLD by the authors' own Lean function (tested against real Go, not proved from fmt's source: count such statements apart). THE CARD IS WHAT COUNTS. Prove the row's statement (the work); the ties are given (YtnplecoikgnpkaaGreatDoorTie.lean); close each card by the builder's one call (the guide's Derived/Test/ToyasCard.lean, 'card_holds'). Laid BY PROGRAM, IN A SANDBOX (cutbox-door.mjs). By AI agents, Wed Nov 11 2026. No macro, syntax, notation, axiom, sorry.
-/
import Derived.Test.YtnplecoikgnpkaaGreatDoorRows
import GoSem.ClaimSeven
namespace Go.Proofs.YtnplecoikgnpkaaGreatDoor
namespace Rows

/-- THE TIED CARD OF 'laws.FnWorldDark'. -/
def fnWorldDarkCard : Claim7 := { stood := { row := fnWorldDarkRow, standIns := [], harness := (true, "dedbd9489158f3d3867547bb1823d378968994ffbd9e6200c801887b4ee6d20a"), looks := false }, kinds := [], alts := [], laidByText := true, laidKinds := [.data, .data, .data], laidTests := true, laidLooks := .later }
def FnWorldDarkCardSaid : Prop := Claim7.holds Tryz.pinned (.plain (OpenSpec.ofChange fnWorldDarkSpec)) fnWorldDarkCard

/-- THE TIED CARD OF 'laws.FnHealDeeds'. -/
def fnHealDeedsCard : Claim7 := { stood := { row := fnHealDeedsRow, standIns := [], harness := (true, "dedbd9489158f3d3867547bb1823d378968994ffbd9e6200c801887b4ee6d20a"), looks := false }, kinds := [], alts := [], laidByText := true, laidKinds := [.data, .data, .data], laidTests := true, laidLooks := .later }
def FnHealDeedsCardSaid : Prop := Claim7.holds Tryz.pinned (.plain (OpenSpec.ofChange fnHealDeedsSpec)) fnHealDeedsCard

/-- THE TIED CARD OF 'laws.FnWorldCalm'. -/
def fnWorldCalmCard : Claim7 := { stood := { row := fnWorldCalmRow, standIns := [], harness := (true, "dedbd9489158f3d3867547bb1823d378968994ffbd9e6200c801887b4ee6d20a"), looks := false }, kinds := [], alts := [], laidByText := true, laidKinds := [.data, .data, .data], laidTests := true, laidLooks := .later }
def FnWorldCalmCardSaid : Prop := Claim7.holds Tryz.pinned (.plain (OpenSpec.ofChange fnWorldCalmSpec)) fnWorldCalmCard

/-- THE TIED CARD OF 'laws.FnWorldRest'. -/
def fnWorldRestCard : Claim7 := { stood := { row := fnWorldRestRow, standIns := [], harness := (true, "dedbd9489158f3d3867547bb1823d378968994ffbd9e6200c801887b4ee6d20a"), looks := false }, kinds := [], alts := [], laidByText := true, laidKinds := [.data, .data, .data], laidTests := true, laidLooks := .later }
def FnWorldRestCardSaid : Prop := Claim7.holds Tryz.pinned (.plain (OpenSpec.ofChange fnWorldRestSpec)) fnWorldRestCard

/-- THE SECOND FORM's CARD OF 'laws.FnWorldDark'. -/
def fnWorldDarkUptoCard : Claim7 := { stood := { row := fnWorldDarkUptoRow, standIns := [], harness := (true, "dedbd9489158f3d3867547bb1823d378968994ffbd9e6200c801887b4ee6d20a"), looks := false }, kinds := [], alts := [], laidByText := true, laidKinds := [.data, .data, .data], laidTests := true, laidLooks := .later }
def FnWorldDarkUptoCardSaid : Prop := Claim7.holds Tryz.pinned (.plain (OpenSpec.upto fnWorldDarkSpec)) fnWorldDarkUptoCard

/-- THE SECOND FORM's CARD OF 'laws.FnHealDeeds'. -/
def fnHealDeedsUptoCard : Claim7 := { stood := { row := fnHealDeedsUptoRow, standIns := [], harness := (true, "dedbd9489158f3d3867547bb1823d378968994ffbd9e6200c801887b4ee6d20a"), looks := false }, kinds := [], alts := [], laidByText := true, laidKinds := [.data, .data, .data], laidTests := true, laidLooks := .later }
def FnHealDeedsUptoCardSaid : Prop := Claim7.holds Tryz.pinned (.plain (OpenSpec.upto fnHealDeedsSpec)) fnHealDeedsUptoCard

/-- THE SECOND FORM's CARD OF 'laws.FnWorldCalm'. -/
def fnWorldCalmUptoCard : Claim7 := { stood := { row := fnWorldCalmUptoRow, standIns := [], harness := (true, "dedbd9489158f3d3867547bb1823d378968994ffbd9e6200c801887b4ee6d20a"), looks := false }, kinds := [], alts := [], laidByText := true, laidKinds := [.data, .data, .data], laidTests := true, laidLooks := .later }
def FnWorldCalmUptoCardSaid : Prop := Claim7.holds Tryz.pinned (.plain (OpenSpec.upto fnWorldCalmSpec)) fnWorldCalmUptoCard

/-- THE SECOND FORM's CARD OF 'laws.FnWorldRest'. -/
def fnWorldRestUptoCard : Claim7 := { stood := { row := fnWorldRestUptoRow, standIns := [], harness := (true, "dedbd9489158f3d3867547bb1823d378968994ffbd9e6200c801887b4ee6d20a"), looks := false }, kinds := [], alts := [], laidByText := true, laidKinds := [.data, .data, .data], laidTests := true, laidLooks := .later }
def FnWorldRestUptoCardSaid : Prop := Claim7.holds Tryz.pinned (.plain (OpenSpec.upto fnWorldRestSpec)) fnWorldRestUptoCard
end Rows
end Go.Proofs.YtnplecoikgnpkaaGreatDoor
