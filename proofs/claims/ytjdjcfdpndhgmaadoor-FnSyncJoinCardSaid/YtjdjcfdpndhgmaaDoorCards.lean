/-
  DERIVED. GIVEN WITH THE SEED: THE CARDS: each row of YtjdjcfdpndhgmaaDoorRows.lean that lists a variable, with what it lists TIED to the program's text (the seventh form; the later family's looks); each row that meets fmt, with fmt's text TOLD by the authors' own Lean function (tested against real Go, not proved from fmt's source: count such statements apart). THE CARD IS WHAT COUNTS. Prove the row's statement (the work); the ties are given (YtjdjcfdpndhgmaaDoorTie.lean); close each card by the builder's one call (the guide's Derived/Test/ToyasCard.lean, 'card_holds'). Laid BY PROGRAM, IN A SANDBOX (cutbox-door.mjs). By AI agents, Wed Nov 11 2026. No macro, syntax, notation, axiom, sorry.
-/
import Derived.Test.YtjdjcfdpndhgmaaDoorRows
import GoSem.ClaimSeven
namespace Go.Proofs.YtjdjcfdpndhgmaaDoor
namespace Rows

/-- THE TIED CARD OF 'laws.FnTurningValid'. -/
def fnTurningValidCard : Claim7 := { stood := { row := fnTurningValidRow, standIns := [], harness := (true, "3f8ece2ded0349b49a662259eb78d01cc0695fae19e167bcd3fef26004d72b18"), looks := false }, kinds := [], alts := [], laidByText := true, laidKinds := [.data, .data, .data], laidTests := true, laidLooks := .later }
def FnTurningValidCardSaid : Prop := Claim7.holds Tryd.pinned (.plain (OpenSpec.ofChange fnTurningValidSpec)) fnTurningValidCard

/-- THE TIED CARD OF 'laws.FnSyncMay'. -/
def fnSyncMayCard : Claim7 := { stood := { row := fnSyncMayRow, standIns := [], harness := (true, "3f8ece2ded0349b49a662259eb78d01cc0695fae19e167bcd3fef26004d72b18"), looks := false }, kinds := [], alts := [], laidByText := true, laidKinds := [.data, .data, .data], laidTests := true, laidLooks := .later }
def FnSyncMayCardSaid : Prop := Claim7.holds Tryd.pinned (.plain (OpenSpec.ofChange fnSyncMaySpec)) fnSyncMayCard

/-- THE TIED CARD OF 'laws.FnSyncTune'. -/
def fnSyncTuneCard : Claim7 := { stood := { row := fnSyncTuneRow, standIns := [], harness := (true, "3f8ece2ded0349b49a662259eb78d01cc0695fae19e167bcd3fef26004d72b18"), looks := false }, kinds := [], alts := [], laidByText := true, laidKinds := [.data, .data, .data], laidTests := true, laidLooks := .later }
def FnSyncTuneCardSaid : Prop := Claim7.holds Tryd.pinned (.plain (OpenSpec.ofChange fnSyncTuneSpec)) fnSyncTuneCard

/-- THE TIED CARD OF 'laws.FnSyncJoin'. -/
def fnSyncJoinCard : Claim7 := { stood := { row := fnSyncJoinRow, standIns := [], harness := (true, "3f8ece2ded0349b49a662259eb78d01cc0695fae19e167bcd3fef26004d72b18"), looks := false }, kinds := [], alts := [], laidByText := true, laidKinds := [.data, .data, .data], laidTests := true, laidLooks := .later }
def FnSyncJoinCardSaid : Prop := Claim7.holds Tryd.pinned (.plain (OpenSpec.ofChange fnSyncJoinSpec)) fnSyncJoinCard

/-- THE TIED CARD OF 'laws.FnSyncTicks'. -/
def fnSyncTicksCard : Claim7 := { stood := { row := fnSyncTicksRow, standIns := [], harness := (true, "3f8ece2ded0349b49a662259eb78d01cc0695fae19e167bcd3fef26004d72b18"), looks := false }, kinds := [], alts := [], laidByText := true, laidKinds := [.data, .data, .data], laidTests := true, laidLooks := .later }
def FnSyncTicksCardSaid : Prop := Claim7.holds Tryd.pinned (.plain (OpenSpec.ofChange fnSyncTicksSpec)) fnSyncTicksCard

/-- THE SECOND FORM's CARD OF 'laws.FnTurningValid'. -/
def fnTurningValidUptoCard : Claim7 := { stood := { row := fnTurningValidUptoRow, standIns := [], harness := (true, "3f8ece2ded0349b49a662259eb78d01cc0695fae19e167bcd3fef26004d72b18"), looks := false }, kinds := [], alts := [], laidByText := true, laidKinds := [.data, .data, .data], laidTests := true, laidLooks := .later }
def FnTurningValidUptoCardSaid : Prop := Claim7.holds Tryd.pinned (.plain (OpenSpec.upto fnTurningValidSpec)) fnTurningValidUptoCard

/-- THE SECOND FORM's CARD OF 'laws.FnSyncMay'. -/
def fnSyncMayUptoCard : Claim7 := { stood := { row := fnSyncMayUptoRow, standIns := [], harness := (true, "3f8ece2ded0349b49a662259eb78d01cc0695fae19e167bcd3fef26004d72b18"), looks := false }, kinds := [], alts := [], laidByText := true, laidKinds := [.data, .data, .data], laidTests := true, laidLooks := .later }
def FnSyncMayUptoCardSaid : Prop := Claim7.holds Tryd.pinned (.plain (OpenSpec.upto fnSyncMaySpec)) fnSyncMayUptoCard

/-- THE SECOND FORM's CARD OF 'laws.FnSyncTune'. -/
def fnSyncTuneUptoCard : Claim7 := { stood := { row := fnSyncTuneUptoRow, standIns := [], harness := (true, "3f8ece2ded0349b49a662259eb78d01cc0695fae19e167bcd3fef26004d72b18"), looks := false }, kinds := [], alts := [], laidByText := true, laidKinds := [.data, .data, .data], laidTests := true, laidLooks := .later }
def FnSyncTuneUptoCardSaid : Prop := Claim7.holds Tryd.pinned (.plain (OpenSpec.upto fnSyncTuneSpec)) fnSyncTuneUptoCard

/-- THE SECOND FORM's CARD OF 'laws.FnSyncJoin'. -/
def fnSyncJoinUptoCard : Claim7 := { stood := { row := fnSyncJoinUptoRow, standIns := [], harness := (true, "3f8ece2ded0349b49a662259eb78d01cc0695fae19e167bcd3fef26004d72b18"), looks := false }, kinds := [], alts := [], laidByText := true, laidKinds := [.data, .data, .data], laidTests := true, laidLooks := .later }
def FnSyncJoinUptoCardSaid : Prop := Claim7.holds Tryd.pinned (.plain (OpenSpec.upto fnSyncJoinSpec)) fnSyncJoinUptoCard

/-- THE SECOND FORM's CARD OF 'laws.FnSyncTicks'. -/
def fnSyncTicksUptoCard : Claim7 := { stood := { row := fnSyncTicksUptoRow, standIns := [], harness := (true, "3f8ece2ded0349b49a662259eb78d01cc0695fae19e167bcd3fef26004d72b18"), looks := false }, kinds := [], alts := [], laidByText := true, laidKinds := [.data, .data, .data], laidTests := true, laidLooks := .later }
def FnSyncTicksUptoCardSaid : Prop := Claim7.holds Tryd.pinned (.plain (OpenSpec.upto fnSyncTicksSpec)) fnSyncTicksUptoCard
end Rows
end Go.Proofs.YtjdjcfdpndhgmaaDoor
