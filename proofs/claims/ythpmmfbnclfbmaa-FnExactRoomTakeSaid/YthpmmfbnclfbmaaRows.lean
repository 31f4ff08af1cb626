/-
  No cell of these rows narrows 'for every input' (looked for: loops, veiled, ifaces, maps, wideKeys, modest, calm, conditions, laid).
  DERIVED. THE GIVEN ROWS OF THIS SEAT. 3 by the template 'for every input the law returns true; each argument reads behind the call as it read before'; 0 by the template 'total and deterministic' (their statements: YthpmmfbnclfbmaaTotals.lean).
  GIVEN WITH THE SEED: the statements are not yours to turn. If you find one false, say at which input.
  Laid BY PROGRAM, IN A SANDBOX (cutbox-rows.mjs): the forced cells as the released guide's own fill.sh prints them over the translation 52a391cf08527de1… (all of the seat's roots in one cut). By AI agents, Wed Nov 11 2026. No macro, syntax, notation, axiom, sorry.
-/
import Derived.Test.YthpmmfbnclfbmaaChecked
import GoSem.Claim
import GoSem.ClaimJoined
import GoSem.ClaimMapViews
import Derived.JoinedTies
import Derived.KernelRfl
namespace Go.Proofs.Ythpmmfbnclfbmaa
/- THE CELL 'sum', in the pinned program and in every row, IS THE sha256 OF THE DUMP (.gsa) THAT YthpmmfbnclfbmaaProg.lean LOADS. Nothing in Lean hashes anything: it is a label: what it is worth is what the hold of that sum in a sandbox is worth. -/
noncomputable def Try.pinned : Pinned := { name := "ythpmmfbnclfbmaa", sum := "52a391cf08527de12c1b841cb2cc5a6cd16345a2608cf6bf06001e656c4226f2", checked := Try.checked }
namespace Rows
def none {H : Type} : Left H := { results := [], args := [] }

/-- 'laws.FnExactRoomsDo': WHATEVER THE INPUT: true; the input reads as it did. -/
def fnExactRoomsDoSpec : ChangeSpec := { name := "fnExactRoomsDo", fn := fun _ => fun
  | [d1, d2] => { results := [.lit (.bool true)], args := [d1, d2] }
  | _ => none }
def fnExactRoomsDoRow : OpenClaim := { program := "ythpmmfbnclfbmaa", sum := "52a391cf08527de12c1b841cb2cc5a6cd16345a2608cf6bf06001e656c4226f2", func := "loop.example/powercontrol/laws.FnExactRoomsDo", spec := "fnExactRoomsDo", apart := false }
def FnExactRoomsDoSaid : Prop := fnExactRoomsDoRow.holds Try.pinned (OpenSpec.ofChange fnExactRoomsDoSpec)

/-- ITS FALSE NEIGHBOUR: 'it returns false'. Refute it at one input. -/
def fnExactRoomsDoWrong : ChangeSpec := { name := "fnExactRoomsDo", fn := fun _ => fun
  | [d1, d2] => { results := [.lit (.bool false)], args := [d1, d2] }
  | _ => none }
def FnExactRoomsDoWrongFalsely : Prop := fnExactRoomsDoRow.holds Try.pinned (OpenSpec.ofChange fnExactRoomsDoWrong)

/-- 'laws.FnExactRoomTake': WHATEVER THE INPUT: true; the input reads as it did. -/
def fnExactRoomTakeSpec : ChangeSpec := { name := "fnExactRoomTake", fn := fun _ => fun
  | [d1, d2] => { results := [.lit (.bool true)], args := [d1, d2] }
  | _ => none }
def fnExactRoomTakeRow : OpenClaim := { program := "ythpmmfbnclfbmaa", sum := "52a391cf08527de12c1b841cb2cc5a6cd16345a2608cf6bf06001e656c4226f2", func := "loop.example/powercontrol/laws.FnExactRoomTake", spec := "fnExactRoomTake", apart := false }
def FnExactRoomTakeSaid : Prop := fnExactRoomTakeRow.holds Try.pinned (OpenSpec.ofChange fnExactRoomTakeSpec)

/-- ITS FALSE NEIGHBOUR: 'it returns false'. Refute it at one input. -/
def fnExactRoomTakeWrong : ChangeSpec := { name := "fnExactRoomTake", fn := fun _ => fun
  | [d1, d2] => { results := [.lit (.bool false)], args := [d1, d2] }
  | _ => none }
def FnExactRoomTakeWrongFalsely : Prop := fnExactRoomTakeRow.holds Try.pinned (OpenSpec.ofChange fnExactRoomTakeWrong)

/-- 'laws.FnExactRoomsRun': WHATEVER THE INPUT: true; the input reads as it did. -/
def fnExactRoomsRunSpec : ChangeSpec := { name := "fnExactRoomsRun", fn := fun _ => fun
  | [d1, d2] => { results := [.lit (.bool true)], args := [d1, d2] }
  | _ => none }
def fnExactRoomsRunRow : OpenClaim := { program := "ythpmmfbnclfbmaa", sum := "52a391cf08527de12c1b841cb2cc5a6cd16345a2608cf6bf06001e656c4226f2", func := "loop.example/powercontrol/laws.FnExactRoomsRun", spec := "fnExactRoomsRun", apart := false }
def FnExactRoomsRunSaid : Prop := fnExactRoomsRunRow.holds Try.pinned (OpenSpec.ofChange fnExactRoomsRunSpec)

/-- ITS FALSE NEIGHBOUR: 'it returns false'. Refute it at one input. -/
def fnExactRoomsRunWrong : ChangeSpec := { name := "fnExactRoomsRun", fn := fun _ => fun
  | [d1, d2] => { results := [.lit (.bool false)], args := [d1, d2] }
  | _ => none }
def FnExactRoomsRunWrongFalsely : Prop := fnExactRoomsRunRow.holds Try.pinned (OpenSpec.ofChange fnExactRoomsRunWrong)

/- THE SECOND FORM. 'bulk': how many values and letters a reading holds, each counted each time it is reached (what is shared counts as often as it is met; a slice's spare places count too). A statement '..UptoSaid' is the law's where the arguments, and the package variables that the reading takes, are together of bulk at most 1048576: NARROWER than '..Said'. Prove '..Said' where nothing that the law and all that it calls make is longer than what came in: it says more and counts as full. Else prove '..UptoSaid'. A law counts once. -/
mutual
def uptoBulk {H : Type} : DataW H → Nat
  | .lit (.string bytes) => bytes.length + 1
  | .lit _ => 1
  | .nil => 1
  | .ptr d => uptoBulk d + 1
  | .slice elems spare => uptoBulkAll elems + uptoBulkAll spare + 1
  | .agg parts => uptoBulkAll parts + 1
  | .iface _ d => uptoBulk d + 1
  | .map entries => uptoBulkEntries entries + 1
  | .held _ => 1
def uptoBulkAll {H : Type} : List (DataW H) → Nat
  | [] => 0
  | d :: r => uptoBulk d + uptoBulkAll r
def uptoBulkEntries {H : Type} : List (Lit × DataW H) → Nat
  | [] => 0
  | x :: r => uptoBulkEntry x + uptoBulkEntries r
def uptoBulkEntry {H : Type} : Lit × DataW H → Nat
  | (.string bytes, d) => bytes.length + uptoBulk d + 1
  | (_, d) => uptoBulk d + 1
 end
def uptoSmall : (H : Type) → List (DataW H) → Bool := fun _ ds => decide (uptoBulkAll ds ≤ 1048576)
def OpenSpec.upto (s : _root_.Go.ChangeSpec) : _root_.Go.OpenSpec := { _root_.Go.OpenSpec.ofChange s with cond := some uptoSmall }

/-- 'laws.FnExactRoomsDo', WHERE WHAT IT READS IS OF BULK AT MOST 1048576: true; the input reads as it did. -/
def fnExactRoomsDoUptoRow : OpenClaim := { program := "ythpmmfbnclfbmaa", sum := "52a391cf08527de12c1b841cb2cc5a6cd16345a2608cf6bf06001e656c4226f2", func := "loop.example/powercontrol/laws.FnExactRoomsDo", spec := "fnExactRoomsDo", apart := false, narrowed := true }
def FnExactRoomsDoUptoSaid : Prop := fnExactRoomsDoUptoRow.holds Try.pinned (OpenSpec.upto fnExactRoomsDoSpec)

/-- 'laws.FnExactRoomTake', WHERE WHAT IT READS IS OF BULK AT MOST 1048576: true; the input reads as it did. -/
def fnExactRoomTakeUptoRow : OpenClaim := { program := "ythpmmfbnclfbmaa", sum := "52a391cf08527de12c1b841cb2cc5a6cd16345a2608cf6bf06001e656c4226f2", func := "loop.example/powercontrol/laws.FnExactRoomTake", spec := "fnExactRoomTake", apart := false, narrowed := true }
def FnExactRoomTakeUptoSaid : Prop := fnExactRoomTakeUptoRow.holds Try.pinned (OpenSpec.upto fnExactRoomTakeSpec)

/-- 'laws.FnExactRoomsRun', WHERE WHAT IT READS IS OF BULK AT MOST 1048576: true; the input reads as it did. -/
def fnExactRoomsRunUptoRow : OpenClaim := { program := "ythpmmfbnclfbmaa", sum := "52a391cf08527de12c1b841cb2cc5a6cd16345a2608cf6bf06001e656c4226f2", func := "loop.example/powercontrol/laws.FnExactRoomsRun", spec := "fnExactRoomsRun", apart := false, narrowed := true }
def FnExactRoomsRunUptoSaid : Prop := fnExactRoomsRunUptoRow.holds Try.pinned (OpenSpec.upto fnExactRoomsRunSpec)

end Rows
end Go.Proofs.Ythpmmfbnclfbmaa
