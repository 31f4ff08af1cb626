/-
  DERIVED. GIVEN WITH THE SEED: THE CARDS: each row of YtcmnjaccapbhfaaGreatDoorRows.lean that lists a variable, with what it lists TIED to the program's text (the seventh form; the later family's looks); each row that meets fmt, with fmt's text TOLD by the authors' own Lean function (tested against real Go, not proved from fmt's source: count such statements apart). THE CARD IS WHAT COUNTS. Prove the row's statement (the work); the ties are given (YtcmnjaccapbhfaaGreatDoorTie.lean); close each card by the builder's one call (the guide's Derived/Test/ToyasCard.lean, 'card_holds'). Laid BY PROGRAM, IN A SANDBOX (cutbox-door.mjs). By AI agents, Wed Nov 11 2026. No macro, syntax, notation, axiom, sorry.
-/
import Derived.Test.YtcmnjaccapbhfaaGreatDoorRows
import GoSem.ClaimSeven
namespace Go.Proofs.YtcmnjaccapbhfaaGreatDoor
namespace Rows

/-- THE TIED CARD OF 'laws.FnWorldDo'. -/
def fnWorldDoCard : Claim7 := { stood := { row := fnWorldDoRow, standIns := [], harness := (true, "ecafcd5787c114618b03f5cdc832182c0c66383ff2781d7c717444ffac09b6bf"), looks := false }, kinds := [], alts := [], laidByText := true, laidKinds := [.data, .data, .data], laidTests := true, laidLooks := .later }
def FnWorldDoCardSaid : Prop := Claim7.holds Tryz.pinned (.plain (OpenSpec.ofChange fnWorldDoSpec)) fnWorldDoCard

/-- THE TIED CARD OF 'laws.FnWorldRun'. -/
def fnWorldRunCard : Claim7 := { stood := { row := fnWorldRunRow, standIns := [], harness := (true, "ecafcd5787c114618b03f5cdc832182c0c66383ff2781d7c717444ffac09b6bf"), looks := false }, kinds := [], alts := [], laidByText := true, laidKinds := [.data, .data, .data], laidTests := true, laidLooks := .later }
def FnWorldRunCardSaid : Prop := Claim7.holds Tryz.pinned (.plain (OpenSpec.ofChange fnWorldRunSpec)) fnWorldRunCard

/-- THE TIED CARD OF 'laws.FnWorldDark'. -/
def fnWorldDarkCard : Claim7 := { stood := { row := fnWorldDarkRow, standIns := [], harness := (true, "ecafcd5787c114618b03f5cdc832182c0c66383ff2781d7c717444ffac09b6bf"), looks := false }, kinds := [], alts := [], laidByText := true, laidKinds := [.data, .data, .data], laidTests := true, laidLooks := .later }
def FnWorldDarkCardSaid : Prop := Claim7.holds Tryz.pinned (.plain (OpenSpec.ofChange fnWorldDarkSpec)) fnWorldDarkCard

/-- THE TIED CARD OF 'laws.FnHealDeeds'. -/
def fnHealDeedsCard : Claim7 := { stood := { row := fnHealDeedsRow, standIns := [], harness := (true, "ecafcd5787c114618b03f5cdc832182c0c66383ff2781d7c717444ffac09b6bf"), looks := false }, kinds := [], alts := [], laidByText := true, laidKinds := [.data, .data, .data], laidTests := true, laidLooks := .later }
def FnHealDeedsCardSaid : Prop := Claim7.holds Tryz.pinned (.plain (OpenSpec.ofChange fnHealDeedsSpec)) fnHealDeedsCard

/-- THE TIED CARD OF 'laws.FnWorldCalm'. -/
def fnWorldCalmCard : Claim7 := { stood := { row := fnWorldCalmRow, standIns := [], harness := (true, "ecafcd5787c114618b03f5cdc832182c0c66383ff2781d7c717444ffac09b6bf"), looks := false }, kinds := [], alts := [], laidByText := true, laidKinds := [.data, .data, .data], laidTests := true, laidLooks := .later }
def FnWorldCalmCardSaid : Prop := Claim7.holds Tryz.pinned (.plain (OpenSpec.ofChange fnWorldCalmSpec)) fnWorldCalmCard

/-- THE SECOND FORM's CARD OF 'laws.FnWorldDo'. -/
def fnWorldDoUptoCard : Claim7 := { stood := { row := fnWorldDoUptoRow, standIns := [], harness := (true, "ecafcd5787c114618b03f5cdc832182c0c66383ff2781d7c717444ffac09b6bf"), looks := false }, kinds := [], alts := [], laidByText := true, laidKinds := [.data, .data, .data], laidTests := true, laidLooks := .later }
def FnWorldDoUptoCardSaid : Prop := Claim7.holds Tryz.pinned (.plain (OpenSpec.upto fnWorldDoSpec)) fnWorldDoUptoCard

/-- THE SECOND FORM's CARD OF 'laws.FnWorldRun'. -/
def fnWorldRunUptoCard : Claim7 := { stood := { row := fnWorldRunUptoRow, standIns := [], harness := (true, "ecafcd5787c114618b03f5cdc832182c0c66383ff2781d7c717444ffac09b6bf"), looks := false }, kinds := [], alts := [], laidByText := true, laidKinds := [.data, .data, .data], laidTests := true, laidLooks := .later }
def FnWorldRunUptoCardSaid : Prop := Claim7.holds Tryz.pinned (.plain (OpenSpec.upto fnWorldRunSpec)) fnWorldRunUptoCard

/-- THE SECOND FORM's CARD OF 'laws.FnWorldDark'. -/
def fnWorldDarkUptoCard : Claim7 := { stood := { row := fnWorldDarkUptoRow, standIns := [], harness := (true, "ecafcd5787c114618b03f5cdc832182c0c66383ff2781d7c717444ffac09b6bf"), looks := false }, kinds := [], alts := [], laidByText := true, laidKinds := [.data, .data, .data], laidTests := true, laidLooks := .later }
def FnWorldDarkUptoCardSaid : Prop := Claim7.holds Tryz.pinned (.plain (OpenSpec.upto fnWorldDarkSpec)) fnWorldDarkUptoCard

/-- THE SECOND FORM's CARD OF 'laws.FnHealDeeds'. -/
def fnHealDeedsUptoCard : Claim7 := { stood := { row := fnHealDeedsUptoRow, standIns := [], harness := (true, "ecafcd5787c114618b03f5cdc832182c0c66383ff2781d7c717444ffac09b6bf"), looks := false }, kinds := [], alts := [], laidByText := true, laidKinds := [.data, .data, .data], laidTests := true, laidLooks := .later }
def FnHealDeedsUptoCardSaid : Prop := Claim7.holds Tryz.pinned (.plain (OpenSpec.upto fnHealDeedsSpec)) fnHealDeedsUptoCard

/-- THE SECOND FORM's CARD OF 'laws.FnWorldCalm'. -/
def fnWorldCalmUptoCard : Claim7 := { stood := { row := fnWorldCalmUptoRow, standIns := [], harness := (true, "ecafcd5787c114618b03f5cdc832182c0c66383ff2781d7c717444ffac09b6bf"), looks := false }, kinds := [], alts := [], laidByText := true, laidKinds := [.data, .data, .data], laidTests := true, laidLooks := .later }
def FnWorldCalmUptoCardSaid : Prop := Claim7.holds Tryz.pinned (.plain (OpenSpec.upto fnWorldCalmSpec)) fnWorldCalmUptoCard
end Rows
end Go.Proofs.YtcmnjaccapbhfaaGreatDoor
