/-
  DERIVED. GIVEN WITH THE SEED: THE CARDS: each row of YtapkaobelejkkaaDoorRows.lean that lists a variable, with what it lists TIED to the program's text (the seventh form; the later family's looks); each row that meets fmt, with fmt's text TOLD by the authors' own Lean function (tested against real Go, not proved from fmt's source: count such statements apart). THE CARD IS WHAT COUNTS. Prove the row's statement (the work); the ties are given (YtapkaobelejkkaaDoorTie.lean); close each card by the builder's one call (the guide's Derived/Test/ToyasCard.lean, 'card_holds'). Laid BY PROGRAM, IN A SANDBOX (cutbox-door.mjs). By AI agents, Wed Nov 11 2026. No macro, syntax, notation, axiom, sorry.
-/
import Derived.Test.YtapkaobelejkkaaDoorRows
import GoSem.ClaimSeven
namespace Go.Proofs.YtapkaobelejkkaaDoor
namespace Rows

/-- THE TIED CARD OF 'laws.FnPanelDo'. -/
def fnPanelDoCard : Claim7 := { stood := { row := fnPanelDoRow, standIns := [], harness := (true, "b7a5c52b983d788cd79c8a835de152778f7d306073d102adc96df8ba6ecfeb74"), looks := false }, kinds := [], alts := [], laidByText := true, laidKinds := [.data, .data, .data], laidTests := true, laidLooks := .later }
def FnPanelDoCardSaid : Prop := Claim7.holds Tryd.pinned (.plain (OpenSpec.ofChange fnPanelDoSpec)) fnPanelDoCard

/-- THE TIED CARD OF 'laws.FnPanelRun'. -/
def fnPanelRunCard : Claim7 := { stood := { row := fnPanelRunRow, standIns := [], harness := (true, "b7a5c52b983d788cd79c8a835de152778f7d306073d102adc96df8ba6ecfeb74"), looks := false }, kinds := [], alts := [], laidByText := true, laidKinds := [.data, .data, .data], laidTests := true, laidLooks := .later }
def FnPanelRunCardSaid : Prop := Claim7.holds Tryd.pinned (.plain (OpenSpec.ofChange fnPanelRunSpec)) fnPanelRunCard

/-- THE TIED CARD OF 'laws.FnOperations'. -/
def fnOperationsCard : Claim7 := { stood := { row := fnOperationsRow, standIns := [], harness := (true, "b7a5c52b983d788cd79c8a835de152778f7d306073d102adc96df8ba6ecfeb74"), looks := false }, kinds := [], alts := [], laidByText := true, laidKinds := [.data, .data, .data], laidTests := true, laidLooks := .later }
def FnOperationsCardSaid : Prop := Claim7.holds Tryd.pinned (.plain (OpenSpec.ofChange fnOperationsSpec)) fnOperationsCard

/-- THE SECOND FORM's CARD OF 'laws.FnPanelDo'. -/
def fnPanelDoUptoCard : Claim7 := { stood := { row := fnPanelDoUptoRow, standIns := [], harness := (true, "b7a5c52b983d788cd79c8a835de152778f7d306073d102adc96df8ba6ecfeb74"), looks := false }, kinds := [], alts := [], laidByText := true, laidKinds := [.data, .data, .data], laidTests := true, laidLooks := .later }
def FnPanelDoUptoCardSaid : Prop := Claim7.holds Tryd.pinned (.plain (OpenSpec.upto fnPanelDoSpec)) fnPanelDoUptoCard

/-- THE SECOND FORM's CARD OF 'laws.FnPanelRun'. -/
def fnPanelRunUptoCard : Claim7 := { stood := { row := fnPanelRunUptoRow, standIns := [], harness := (true, "b7a5c52b983d788cd79c8a835de152778f7d306073d102adc96df8ba6ecfeb74"), looks := false }, kinds := [], alts := [], laidByText := true, laidKinds := [.data, .data, .data], laidTests := true, laidLooks := .later }
def FnPanelRunUptoCardSaid : Prop := Claim7.holds Tryd.pinned (.plain (OpenSpec.upto fnPanelRunSpec)) fnPanelRunUptoCard

/-- THE SECOND FORM's CARD OF 'laws.FnOperations'. -/
def fnOperationsUptoCard : Claim7 := { stood := { row := fnOperationsUptoRow, standIns := [], harness := (true, "b7a5c52b983d788cd79c8a835de152778f7d306073d102adc96df8ba6ecfeb74"), looks := false }, kinds := [], alts := [], laidByText := true, laidKinds := [.data, .data, .data], laidTests := true, laidLooks := .later }
def FnOperationsUptoCardSaid : Prop := Claim7.holds Tryd.pinned (.plain (OpenSpec.upto fnOperationsSpec)) fnOperationsUptoCard
end Rows
end Go.Proofs.YtapkaobelejkkaaDoor
