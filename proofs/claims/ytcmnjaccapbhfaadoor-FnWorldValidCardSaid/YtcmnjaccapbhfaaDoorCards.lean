/-
  DERIVED. GIVEN WITH THE SEED: THE CARDS: each row of YtcmnjaccapbhfaaDoorRows.lean that lists a variable, with what it lists TIED to the program's text (the seventh form; the later family's looks); each row that meets fmt, with fmt's text TOLD by the authors' own Lean function (tested against real Go, not proved from fmt's source: count such statements apart). THE CARD IS WHAT COUNTS. Prove the row's statement (the work); the ties are given (YtcmnjaccapbhfaaDoorTie.lean); close each card by the builder's one call (the guide's Derived/Test/ToyasCard.lean, 'card_holds'). Laid BY PROGRAM, IN A SANDBOX (cutbox-door.mjs). By AI agents, Wed Nov 11 2026. No macro, syntax, notation, axiom, sorry.
-/
import Derived.Test.YtcmnjaccapbhfaaDoorRows
import GoSem.ClaimSeven
namespace Go.Proofs.YtcmnjaccapbhfaaDoor
namespace Rows

/-- THE TIED CARD OF 'laws.FnWorldValid'. -/
def fnWorldValidCard : Claim7 := { stood := { row := fnWorldValidRow, standIns := [], harness := (true, "a4651823ad8073b0d64465ea1747fdcc8bee4fb278718c96591519a1861c957c"), looks := false }, kinds := [], alts := [], laidByText := true, laidKinds := [.data, .data, .data], laidTests := true, laidLooks := .later }
def FnWorldValidCardSaid : Prop := Claim7.holds Tryd.pinned (.plain (OpenSpec.ofChange fnWorldValidSpec)) fnWorldValidCard

/-- THE SECOND FORM's CARD OF 'laws.FnWorldValid'. -/
def fnWorldValidUptoCard : Claim7 := { stood := { row := fnWorldValidUptoRow, standIns := [], harness := (true, "a4651823ad8073b0d64465ea1747fdcc8bee4fb278718c96591519a1861c957c"), looks := false }, kinds := [], alts := [], laidByText := true, laidKinds := [.data, .data, .data], laidTests := true, laidLooks := .later }
def FnWorldValidUptoCardSaid : Prop := Claim7.holds Tryd.pinned (.plain (OpenSpec.upto fnWorldValidSpec)) fnWorldValidUptoCard
end Rows
end Go.Proofs.YtcmnjaccapbhfaaDoor
