/-
  DERIVED. GIVEN WITH THE SEED: THE CARDS: each row of YthpmmfbnclfbmaaDoorRows.lean that lists a variable, with what it lists TIED to the program's text (the seventh form; the later family's looks); each row that meets fmt, with fmt's text TOLD by the authors' own Lean function (tested against real Go, not proved from fmt's source: count such statements apart). THE CARD IS WHAT COUNTS. Prove the row's statement (the work); the ties are given (YthpmmfbnclfbmaaDoorTie.lean); close each card by the builder's one call (the guide's Derived/Test/ToyasCard.lean, 'card_holds'). Laid BY PROGRAM, IN A SANDBOX (cutbox-door.mjs). By AI agents, Wed Nov 11 2026. No macro, syntax, notation, axiom, sorry.
-/
import Derived.Test.YthpmmfbnclfbmaaDoorRows
import GoSem.ClaimSeven
namespace Go.Proofs.YthpmmfbnclfbmaaDoor
namespace Rows

/-- THE TIED CARD OF 'laws.FnRoomsDo'. -/
def fnRoomsDoCard : Claim7 := { stood := { row := fnRoomsDoRow, standIns := [], harness := (true, "3015fd6a07367a240c8f5d25be7a180927edcb75065084cf9ac709c2de01d644"), looks := false }, kinds := [], alts := [], laidByText := true, laidKinds := [.data, .data, .data], laidTests := true, laidLooks := .later }
def FnRoomsDoCardSaid : Prop := Claim7.holds Tryd.pinned (.plain (OpenSpec.ofChange fnRoomsDoSpec)) fnRoomsDoCard

/-- THE TIED CARD OF 'laws.FnRoomsRun'. -/
def fnRoomsRunCard : Claim7 := { stood := { row := fnRoomsRunRow, standIns := [], harness := (true, "3015fd6a07367a240c8f5d25be7a180927edcb75065084cf9ac709c2de01d644"), looks := false }, kinds := [], alts := [], laidByText := true, laidKinds := [.data, .data, .data], laidTests := true, laidLooks := .later }
def FnRoomsRunCardSaid : Prop := Claim7.holds Tryd.pinned (.plain (OpenSpec.ofChange fnRoomsRunSpec)) fnRoomsRunCard

/-- THE TIED CARD OF 'laws.FnRoomTake'. -/
def fnRoomTakeCard : Claim7 := { stood := { row := fnRoomTakeRow, standIns := [], harness := (true, "3015fd6a07367a240c8f5d25be7a180927edcb75065084cf9ac709c2de01d644"), looks := false }, kinds := [], alts := [], laidByText := true, laidKinds := [.data, .data, .data], laidTests := true, laidLooks := .later }
def FnRoomTakeCardSaid : Prop := Claim7.holds Tryd.pinned (.plain (OpenSpec.ofChange fnRoomTakeSpec)) fnRoomTakeCard

/-- THE SECOND FORM's CARD OF 'laws.FnRoomsDo'. -/
def fnRoomsDoUptoCard : Claim7 := { stood := { row := fnRoomsDoUptoRow, standIns := [], harness := (true, "3015fd6a07367a240c8f5d25be7a180927edcb75065084cf9ac709c2de01d644"), looks := false }, kinds := [], alts := [], laidByText := true, laidKinds := [.data, .data, .data], laidTests := true, laidLooks := .later }
def FnRoomsDoUptoCardSaid : Prop := Claim7.holds Tryd.pinned (.plain (OpenSpec.upto fnRoomsDoSpec)) fnRoomsDoUptoCard

/-- THE SECOND FORM's CARD OF 'laws.FnRoomsRun'. -/
def fnRoomsRunUptoCard : Claim7 := { stood := { row := fnRoomsRunUptoRow, standIns := [], harness := (true, "3015fd6a07367a240c8f5d25be7a180927edcb75065084cf9ac709c2de01d644"), looks := false }, kinds := [], alts := [], laidByText := true, laidKinds := [.data, .data, .data], laidTests := true, laidLooks := .later }
def FnRoomsRunUptoCardSaid : Prop := Claim7.holds Tryd.pinned (.plain (OpenSpec.upto fnRoomsRunSpec)) fnRoomsRunUptoCard

/-- THE SECOND FORM's CARD OF 'laws.FnRoomTake'. -/
def fnRoomTakeUptoCard : Claim7 := { stood := { row := fnRoomTakeUptoRow, standIns := [], harness := (true, "3015fd6a07367a240c8f5d25be7a180927edcb75065084cf9ac709c2de01d644"), looks := false }, kinds := [], alts := [], laidByText := true, laidKinds := [.data, .data, .data], laidTests := true, laidLooks := .later }
def FnRoomTakeUptoCardSaid : Prop := Claim7.holds Tryd.pinned (.plain (OpenSpec.upto fnRoomTakeSpec)) fnRoomTakeUptoCard
end Rows
end Go.Proofs.YthpmmfbnclfbmaaDoor
