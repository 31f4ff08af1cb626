/-
  DERIVED. GIVEN WITH THE SEED: THE CARDS: each row of YtccacgplfcnpkaaDoorRows.lean that lists a variable, with what it lists TIED to the program's text (the seventh form; the later family's looks); each row that meets fmt, with fmt's text TOLD by the authors' own Lean function (tested against real Go, not proved from fmt's source: count such statements apart). THE CARD IS WHAT COUNTS. Prove the row's statement (the work); the ties are given (YtccacgplfcnpkaaDoorTie.lean); close each card by the builder's one call (the guide's Derived/Test/ToyasCard.lean, 'card_holds'). Laid BY PROGRAM, IN A SANDBOX (cutbox-door.mjs). By AI agents, Wed Nov 11 2026. No macro, syntax, notation, axiom, sorry.
-/
import Derived.Test.YtccacgplfcnpkaaDoorRows
import GoSem.ClaimSeven
namespace Go.Proofs.YtccacgplfcnpkaaDoor
namespace Rows

/-- THE TIED CARD OF 'laws.FnStateText'. -/
def fnStateTextCard : Claim7 := { stood := { row := fnStateTextRow, standIns := [], harness := (true, "e46e639cdebdb6c31578e19019f3f724f4010010cb533865d96e9232a5ef7411"), looks := false }, kinds := [], alts := [], laidByText := true, laidKinds := [.data, .data, .data], laidTests := true, laidLooks := .later }
def FnStateTextCardSaid : Prop := Claim7.holds Tryd.pinned (.plain (OpenSpec.ofChange fnStateTextSpec)) fnStateTextCard

/-- THE TIED CARD OF 'laws.FnReadState'. -/
def fnReadStateCard : Claim7 := { stood := { row := fnReadStateRow, standIns := [], harness := (true, "e46e639cdebdb6c31578e19019f3f724f4010010cb533865d96e9232a5ef7411"), looks := false }, kinds := [], alts := [], laidByText := true, laidKinds := [.data, .data, .data], laidTests := true, laidLooks := .later }
def FnReadStateCardSaid : Prop := Claim7.holds Tryd.pinned (.plain (OpenSpec.ofChange fnReadStateSpec)) fnReadStateCard

/-- THE SECOND FORM's CARD OF 'laws.FnStateText'. -/
def fnStateTextUptoCard : Claim7 := { stood := { row := fnStateTextUptoRow, standIns := [], harness := (true, "e46e639cdebdb6c31578e19019f3f724f4010010cb533865d96e9232a5ef7411"), looks := false }, kinds := [], alts := [], laidByText := true, laidKinds := [.data, .data, .data], laidTests := true, laidLooks := .later }
def FnStateTextUptoCardSaid : Prop := Claim7.holds Tryd.pinned (.plain (OpenSpec.upto fnStateTextSpec)) fnStateTextUptoCard

/-- THE SECOND FORM's CARD OF 'laws.FnReadState'. -/
def fnReadStateUptoCard : Claim7 := { stood := { row := fnReadStateUptoRow, standIns := [], harness := (true, "e46e639cdebdb6c31578e19019f3f724f4010010cb533865d96e9232a5ef7411"), looks := false }, kinds := [], alts := [], laidByText := true, laidKinds := [.data, .data, .data], laidTests := true, laidLooks := .later }
def FnReadStateUptoCardSaid : Prop := Claim7.holds Tryd.pinned (.plain (OpenSpec.upto fnReadStateSpec)) fnReadStateUptoCard
end Rows
end Go.Proofs.YtccacgplfcnpkaaDoor
