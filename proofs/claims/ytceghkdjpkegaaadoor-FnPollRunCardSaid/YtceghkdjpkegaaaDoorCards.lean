/-
  DERIVED. GIVEN WITH THE SEED: THE CARDS: each row of YtceghkdjpkegaaaDoorRows.lean that lists a variable, with what it lists TIED to the program's text (the seventh form; the later family's looks); each row that meets fmt, with fmt's text TOLD by the authors' own Lean function (tested against real Go, not proved from fmt's source: count such statements apart). THE CARD IS WHAT COUNTS. Prove the row's statement (the work); the ties are given (YtceghkdjpkegaaaDoorTie.lean); close each card by the builder's one call (the guide's Derived/Test/ToyasCard.lean, 'card_holds'). Laid BY PROGRAM, IN A SANDBOX (cutbox-door.mjs). By AI agents, Wed Nov 11 2026. No macro, syntax, notation, axiom, sorry.
-/
import Derived.Test.YtceghkdjpkegaaaDoorRows
import GoSem.ClaimSeven
namespace Go.Proofs.YtceghkdjpkegaaaDoor
namespace Rows

/-- THE TIED CARD OF 'laws.FnPollNew'. -/
def fnPollNewCard : Claim7 := { stood := { row := fnPollNewRow, standIns := [], harness := (true, "1e0a09d4cc2ab0a51a8b567642ab741160b3685ead3a3656284d8906b6c072dc"), looks := false }, kinds := [], alts := [], laidByText := true, laidKinds := [.data, .data, .data], laidTests := true, laidLooks := .later }
def FnPollNewCardSaid : Prop := Claim7.holds Tryd.pinned (.plain (OpenSpec.ofChange fnPollNewSpec)) fnPollNewCard

/-- THE TIED CARD OF 'laws.FnPollDo'. -/
def fnPollDoCard : Claim7 := { stood := { row := fnPollDoRow, standIns := [], harness := (true, "1e0a09d4cc2ab0a51a8b567642ab741160b3685ead3a3656284d8906b6c072dc"), looks := false }, kinds := [], alts := [], laidByText := true, laidKinds := [.data, .data, .data], laidTests := true, laidLooks := .later }
def FnPollDoCardSaid : Prop := Claim7.holds Tryd.pinned (.plain (OpenSpec.ofChange fnPollDoSpec)) fnPollDoCard

/-- THE TIED CARD OF 'laws.FnPollRun'. -/
def fnPollRunCard : Claim7 := { stood := { row := fnPollRunRow, standIns := [], harness := (true, "1e0a09d4cc2ab0a51a8b567642ab741160b3685ead3a3656284d8906b6c072dc"), looks := false }, kinds := [], alts := [], laidByText := true, laidKinds := [.data, .data, .data], laidTests := true, laidLooks := .later }
def FnPollRunCardSaid : Prop := Claim7.holds Tryd.pinned (.plain (OpenSpec.ofChange fnPollRunSpec)) fnPollRunCard

/-- THE TIED CARD OF 'laws.FnPollDrain'. -/
def fnPollDrainCard : Claim7 := { stood := { row := fnPollDrainRow, standIns := [], harness := (true, "1e0a09d4cc2ab0a51a8b567642ab741160b3685ead3a3656284d8906b6c072dc"), looks := false }, kinds := [], alts := [], laidByText := true, laidKinds := [.data, .data, .data], laidTests := true, laidLooks := .later }
def FnPollDrainCardSaid : Prop := Claim7.holds Tryd.pinned (.plain (OpenSpec.ofChange fnPollDrainSpec)) fnPollDrainCard

/-- THE SECOND FORM's CARD OF 'laws.FnPollNew'. -/
def fnPollNewUptoCard : Claim7 := { stood := { row := fnPollNewUptoRow, standIns := [], harness := (true, "1e0a09d4cc2ab0a51a8b567642ab741160b3685ead3a3656284d8906b6c072dc"), looks := false }, kinds := [], alts := [], laidByText := true, laidKinds := [.data, .data, .data], laidTests := true, laidLooks := .later }
def FnPollNewUptoCardSaid : Prop := Claim7.holds Tryd.pinned (.plain (OpenSpec.upto fnPollNewSpec)) fnPollNewUptoCard

/-- THE SECOND FORM's CARD OF 'laws.FnPollDo'. -/
def fnPollDoUptoCard : Claim7 := { stood := { row := fnPollDoUptoRow, standIns := [], harness := (true, "1e0a09d4cc2ab0a51a8b567642ab741160b3685ead3a3656284d8906b6c072dc"), looks := false }, kinds := [], alts := [], laidByText := true, laidKinds := [.data, .data, .data], laidTests := true, laidLooks := .later }
def FnPollDoUptoCardSaid : Prop := Claim7.holds Tryd.pinned (.plain (OpenSpec.upto fnPollDoSpec)) fnPollDoUptoCard

/-- THE SECOND FORM's CARD OF 'laws.FnPollRun'. -/
def fnPollRunUptoCard : Claim7 := { stood := { row := fnPollRunUptoRow, standIns := [], harness := (true, "1e0a09d4cc2ab0a51a8b567642ab741160b3685ead3a3656284d8906b6c072dc"), looks := false }, kinds := [], alts := [], laidByText := true, laidKinds := [.data, .data, .data], laidTests := true, laidLooks := .later }
def FnPollRunUptoCardSaid : Prop := Claim7.holds Tryd.pinned (.plain (OpenSpec.upto fnPollRunSpec)) fnPollRunUptoCard

/-- THE SECOND FORM's CARD OF 'laws.FnPollDrain'. -/
def fnPollDrainUptoCard : Claim7 := { stood := { row := fnPollDrainUptoRow, standIns := [], harness := (true, "1e0a09d4cc2ab0a51a8b567642ab741160b3685ead3a3656284d8906b6c072dc"), looks := false }, kinds := [], alts := [], laidByText := true, laidKinds := [.data, .data, .data], laidTests := true, laidLooks := .later }
def FnPollDrainUptoCardSaid : Prop := Claim7.holds Tryd.pinned (.plain (OpenSpec.upto fnPollDrainSpec)) fnPollDrainUptoCard
end Rows
end Go.Proofs.YtceghkdjpkegaaaDoor
