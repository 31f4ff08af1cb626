/-
  No cell of these rows narrows 'for every input' (looked for: loops, veiled, ifaces, maps, wideKeys, modest, calm, conditions, laid).
  DERIVED. THE GIVEN ROWS OF THIS SEAT. 7 by the template 'for every input the law returns true; each argument reads behind the call as it read before'; 0 by the template 'total and deterministic' (their statements: YtpbloofmeebgiaaTotals.lean).
  GIVEN WITH THE SEED: the statements are not yours to turn. If you find one false, say at which input.
  Laid BY PROGRAM, IN A SANDBOX (cutbox-rows.mjs): the forced cells as the released guide's own fill.sh prints them over the translation 6e187cc0a533d387… (all of the seat's roots in one cut). By AI agents, Wed Nov 11 2026. No macro, syntax, notation, axiom, sorry.
-/
import Derived.Test.YtpbloofmeebgiaaChecked
import GoSem.Claim
import GoSem.ClaimJoined
import GoSem.ClaimMapViews
import Derived.JoinedTies
import Derived.KernelRfl
namespace Go.Proofs.Ytpbloofmeebgiaa
/- THE CELL 'sum', in the pinned program and in every row, IS THE sha256 OF THE DUMP (.gsa) THAT YtpbloofmeebgiaaProg.lean LOADS. Nothing in Lean hashes anything: it is a label: what it is worth is what the hold of that sum in a sandbox is worth. -/
noncomputable def Try.pinned : Pinned := { name := "ytpbloofmeebgiaa", sum := "6e187cc0a533d387ad80790b9f5c3c13edcedbb9dd89bef994eabbd9e8654b7b", checked := Try.checked }
namespace Rows
def none {H : Type} : Left H := { results := [], args := [] }

/-- 'laws.FnExactStateText': WHATEVER THE INPUT: true; the input reads as it did. -/
def fnExactStateTextSpec : ChangeSpec := { name := "fnExactStateText", fn := fun _ => fun
  | [d] => { results := [.lit (.bool true)], args := [d] }
  | _ => none }
def fnExactStateTextRow : OpenClaim := { program := "ytpbloofmeebgiaa", sum := "6e187cc0a533d387ad80790b9f5c3c13edcedbb9dd89bef994eabbd9e8654b7b", func := "loop.example/powercontrol/laws.FnExactStateText", spec := "fnExactStateText", apart := false }
def FnExactStateTextSaid : Prop := fnExactStateTextRow.holds Try.pinned (OpenSpec.ofChange fnExactStateTextSpec)

/-- ITS FALSE NEIGHBOUR: 'it returns false'. Refute it at one input. -/
def fnExactStateTextWrong : ChangeSpec := { name := "fnExactStateText", fn := fun _ => fun
  | [d] => { results := [.lit (.bool false)], args := [d] }
  | _ => none }
def FnExactStateTextWrongFalsely : Prop := fnExactStateTextRow.holds Try.pinned (OpenSpec.ofChange fnExactStateTextWrong)

/-- 'laws.FnExactSyncJoin': WHATEVER THE INPUT: true; the input reads as it did. -/
def fnExactSyncJoinSpec : ChangeSpec := { name := "fnExactSyncJoin", fn := fun _ => fun
  | [d1, d2, d3] => { results := [.lit (.bool true)], args := [d1, d2, d3] }
  | _ => none }
def fnExactSyncJoinRow : OpenClaim := { program := "ytpbloofmeebgiaa", sum := "6e187cc0a533d387ad80790b9f5c3c13edcedbb9dd89bef994eabbd9e8654b7b", func := "loop.example/powercontrol/laws.FnExactSyncJoin", spec := "fnExactSyncJoin", apart := false }
def FnExactSyncJoinSaid : Prop := fnExactSyncJoinRow.holds Try.pinned (OpenSpec.ofChange fnExactSyncJoinSpec)

/-- ITS FALSE NEIGHBOUR: 'it returns false'. Refute it at one input. -/
def fnExactSyncJoinWrong : ChangeSpec := { name := "fnExactSyncJoin", fn := fun _ => fun
  | [d1, d2, d3] => { results := [.lit (.bool false)], args := [d1, d2, d3] }
  | _ => none }
def FnExactSyncJoinWrongFalsely : Prop := fnExactSyncJoinRow.holds Try.pinned (OpenSpec.ofChange fnExactSyncJoinWrong)

/-- 'laws.FnExactSyncTune': WHATEVER THE INPUT: true; the input reads as it did. -/
def fnExactSyncTuneSpec : ChangeSpec := { name := "fnExactSyncTune", fn := fun _ => fun
  | [d1, d2, d3] => { results := [.lit (.bool true)], args := [d1, d2, d3] }
  | _ => none }
def fnExactSyncTuneRow : OpenClaim := { program := "ytpbloofmeebgiaa", sum := "6e187cc0a533d387ad80790b9f5c3c13edcedbb9dd89bef994eabbd9e8654b7b", func := "loop.example/powercontrol/laws.FnExactSyncTune", spec := "fnExactSyncTune", apart := false }
def FnExactSyncTuneSaid : Prop := fnExactSyncTuneRow.holds Try.pinned (OpenSpec.ofChange fnExactSyncTuneSpec)

/-- ITS FALSE NEIGHBOUR: 'it returns false'. Refute it at one input. -/
def fnExactSyncTuneWrong : ChangeSpec := { name := "fnExactSyncTune", fn := fun _ => fun
  | [d1, d2, d3] => { results := [.lit (.bool false)], args := [d1, d2, d3] }
  | _ => none }
def FnExactSyncTuneWrongFalsely : Prop := fnExactSyncTuneRow.holds Try.pinned (OpenSpec.ofChange fnExactSyncTuneWrong)

/-- 'laws.FnExactReadState': WHATEVER THE INPUT: true; the input reads as it did. -/
def fnExactReadStateSpec : ChangeSpec := { name := "fnExactReadState", fn := fun _ => fun
  | [d] => { results := [.lit (.bool true)], args := [d] }
  | _ => none }
def fnExactReadStateRow : OpenClaim := { program := "ytpbloofmeebgiaa", sum := "6e187cc0a533d387ad80790b9f5c3c13edcedbb9dd89bef994eabbd9e8654b7b", func := "loop.example/powercontrol/laws.FnExactReadState", spec := "fnExactReadState", apart := false }
def FnExactReadStateSaid : Prop := fnExactReadStateRow.holds Try.pinned (OpenSpec.ofChange fnExactReadStateSpec)

/-- ITS FALSE NEIGHBOUR: 'it returns false'. Refute it at one input. -/
def fnExactReadStateWrong : ChangeSpec := { name := "fnExactReadState", fn := fun _ => fun
  | [d] => { results := [.lit (.bool false)], args := [d] }
  | _ => none }
def FnExactReadStateWrongFalsely : Prop := fnExactReadStateRow.holds Try.pinned (OpenSpec.ofChange fnExactReadStateWrong)

/-- 'laws.FnExactSyncTicks': WHATEVER THE INPUT: true; the input reads as it did. -/
def fnExactSyncTicksSpec : ChangeSpec := { name := "fnExactSyncTicks", fn := fun _ => fun
  | [d1, d2, d3, d4] => { results := [.lit (.bool true)], args := [d1, d2, d3, d4] }
  | _ => none }
def fnExactSyncTicksRow : OpenClaim := { program := "ytpbloofmeebgiaa", sum := "6e187cc0a533d387ad80790b9f5c3c13edcedbb9dd89bef994eabbd9e8654b7b", func := "loop.example/powercontrol/laws.FnExactSyncTicks", spec := "fnExactSyncTicks", apart := false }
def FnExactSyncTicksSaid : Prop := fnExactSyncTicksRow.holds Try.pinned (OpenSpec.ofChange fnExactSyncTicksSpec)

/-- ITS FALSE NEIGHBOUR: 'it returns false'. Refute it at one input. -/
def fnExactSyncTicksWrong : ChangeSpec := { name := "fnExactSyncTicks", fn := fun _ => fun
  | [d1, d2, d3, d4] => { results := [.lit (.bool false)], args := [d1, d2, d3, d4] }
  | _ => none }
def FnExactSyncTicksWrongFalsely : Prop := fnExactSyncTicksRow.holds Try.pinned (OpenSpec.ofChange fnExactSyncTicksWrong)

/-- 'laws.FnExactBarsDo': WHATEVER THE INPUT: true; the input reads as it did. -/
def fnExactBarsDoSpec : ChangeSpec := { name := "fnExactBarsDo", fn := fun _ => fun
  | [d1, d2] => { results := [.lit (.bool true)], args := [d1, d2] }
  | _ => none }
def fnExactBarsDoRow : OpenClaim := { program := "ytpbloofmeebgiaa", sum := "6e187cc0a533d387ad80790b9f5c3c13edcedbb9dd89bef994eabbd9e8654b7b", func := "loop.example/powercontrol/laws.FnExactBarsDo", spec := "fnExactBarsDo", apart := false }
def FnExactBarsDoSaid : Prop := fnExactBarsDoRow.holds Try.pinned (OpenSpec.ofChange fnExactBarsDoSpec)

/-- ITS FALSE NEIGHBOUR: 'it returns false'. Refute it at one input. -/
def fnExactBarsDoWrong : ChangeSpec := { name := "fnExactBarsDo", fn := fun _ => fun
  | [d1, d2] => { results := [.lit (.bool false)], args := [d1, d2] }
  | _ => none }
def FnExactBarsDoWrongFalsely : Prop := fnExactBarsDoRow.holds Try.pinned (OpenSpec.ofChange fnExactBarsDoWrong)

/-- 'laws.FnExactBarsRun': WHATEVER THE INPUT: true; the input reads as it did. -/
def fnExactBarsRunSpec : ChangeSpec := { name := "fnExactBarsRun", fn := fun _ => fun
  | [d1, d2] => { results := [.lit (.bool true)], args := [d1, d2] }
  | _ => none }
def fnExactBarsRunRow : OpenClaim := { program := "ytpbloofmeebgiaa", sum := "6e187cc0a533d387ad80790b9f5c3c13edcedbb9dd89bef994eabbd9e8654b7b", func := "loop.example/powercontrol/laws.FnExactBarsRun", spec := "fnExactBarsRun", apart := false }
def FnExactBarsRunSaid : Prop := fnExactBarsRunRow.holds Try.pinned (OpenSpec.ofChange fnExactBarsRunSpec)

/-- ITS FALSE NEIGHBOUR: 'it returns false'. Refute it at one input. -/
def fnExactBarsRunWrong : ChangeSpec := { name := "fnExactBarsRun", fn := fun _ => fun
  | [d1, d2] => { results := [.lit (.bool false)], args := [d1, d2] }
  | _ => none }
def FnExactBarsRunWrongFalsely : Prop := fnExactBarsRunRow.holds Try.pinned (OpenSpec.ofChange fnExactBarsRunWrong)

/- THE SECOND FORM. 'bulk': how many values and letters a reading holds, each counted each time it is reached (what is shared counts as often as it is met; a slice's spare places count too). A statement '..UptoSaid' is the law's where the arguments, and the package variables that the reading takes, are together of bulk at most 1048576: NARROWER than '..Said'. Prove '..Said' where nothing that the law and all that it calls make is longer than what came in: it says more and counts as full. Else prove '..UptoSaid'. A law counts once. -/
mutual
def uptoBulk {H : Type} : DataW H → Nat
  | .lit (.string bytes) => bytes.length + 1
  | .lit _ => 1
  | .nil => 1
  | .ptr d => uptoBulk d + 1
  | .slice elems spare => uptoBulkAll elems + uptoBulkAll spare + 1
  | .agg parts => uptoBulkAll parts + 1
  | .iface _ d => uptoBulk d + 1
  | .map entries => uptoBulkEntries entries + 1
  | .held _ => 1
def uptoBulkAll {H : Type} : List (DataW H) → Nat
  | [] => 0
  | d :: r => uptoBulk d + uptoBulkAll r
def uptoBulkEntries {H : Type} : List (Lit × DataW H) → Nat
  | [] => 0
  | x :: r => uptoBulkEntry x + uptoBulkEntries r
def uptoBulkEntry {H : Type} : Lit × DataW H → Nat
  | (.string bytes, d) => bytes.length + uptoBulk d + 1
  | (_, d) => uptoBulk d + 1
 end
def uptoSmall : (H : Type) → List (DataW H) → Bool := fun _ ds => decide (uptoBulkAll ds ≤ 1048576)
def OpenSpec.upto (s : _root_.Go.ChangeSpec) : _root_.Go.OpenSpec := { _root_.Go.OpenSpec.ofChange s with cond := some uptoSmall }

/-- 'laws.FnExactStateText', WHERE WHAT IT READS IS OF BULK AT MOST 1048576: true; the input reads as it did. -/
def fnExactStateTextUptoRow : OpenClaim := { program := "ytpbloofmeebgiaa", sum := "6e187cc0a533d387ad80790b9f5c3c13edcedbb9dd89bef994eabbd9e8654b7b", func := "loop.example/powercontrol/laws.FnExactStateText", spec := "fnExactStateText", apart := false, narrowed := true }
def FnExactStateTextUptoSaid : Prop := fnExactStateTextUptoRow.holds Try.pinned (OpenSpec.upto fnExactStateTextSpec)

/-- 'laws.FnExactSyncJoin', WHERE WHAT IT READS IS OF BULK AT MOST 1048576: true; the input reads as it did. -/
def fnExactSyncJoinUptoRow : OpenClaim := { program := "ytpbloofmeebgiaa", sum := "6e187cc0a533d387ad80790b9f5c3c13edcedbb9dd89bef994eabbd9e8654b7b", func := "loop.example/powercontrol/laws.FnExactSyncJoin", spec := "fnExactSyncJoin", apart := false, narrowed := true }
def FnExactSyncJoinUptoSaid : Prop := fnExactSyncJoinUptoRow.holds Try.pinned (OpenSpec.upto fnExactSyncJoinSpec)

/-- 'laws.FnExactSyncTune', WHERE WHAT IT READS IS OF BULK AT MOST 1048576: true; the input reads as it did. -/
def fnExactSyncTuneUptoRow : OpenClaim := { program := "ytpbloofmeebgiaa", sum := "6e187cc0a533d387ad80790b9f5c3c13edcedbb9dd89bef994eabbd9e8654b7b", func := "loop.example/powercontrol/laws.FnExactSyncTune", spec := "fnExactSyncTune", apart := false, narrowed := true }
def FnExactSyncTuneUptoSaid : Prop := fnExactSyncTuneUptoRow.holds Try.pinned (OpenSpec.upto fnExactSyncTuneSpec)

/-- 'laws.FnExactReadState', WHERE WHAT IT READS IS OF BULK AT MOST 1048576: true; the input reads as it did. -/
def fnExactReadStateUptoRow : OpenClaim := { program := "ytpbloofmeebgiaa", sum := "6e187cc0a533d387ad80790b9f5c3c13edcedbb9dd89bef994eabbd9e8654b7b", func := "loop.example/powercontrol/laws.FnExactReadState", spec := "fnExactReadState", apart := false, narrowed := true }
def FnExactReadStateUptoSaid : Prop := fnExactReadStateUptoRow.holds Try.pinned (OpenSpec.upto fnExactReadStateSpec)

/-- 'laws.FnExactSyncTicks', WHERE WHAT IT READS IS OF BULK AT MOST 1048576: true; the input reads as it did. -/
def fnExactSyncTicksUptoRow : OpenClaim := { program := "ytpbloofmeebgiaa", sum := "6e187cc0a533d387ad80790b9f5c3c13edcedbb9dd89bef994eabbd9e8654b7b", func := "loop.example/powercontrol/laws.FnExactSyncTicks", spec := "fnExactSyncTicks", apart := false, narrowed := true }
def FnExactSyncTicksUptoSaid : Prop := fnExactSyncTicksUptoRow.holds Try.pinned (OpenSpec.upto fnExactSyncTicksSpec)

/-- 'laws.FnExactBarsDo', WHERE WHAT IT READS IS OF BULK AT MOST 1048576: true; the input reads as it did. -/
def fnExactBarsDoUptoRow : OpenClaim := { program := "ytpbloofmeebgiaa", sum := "6e187cc0a533d387ad80790b9f5c3c13edcedbb9dd89bef994eabbd9e8654b7b", func := "loop.example/powercontrol/laws.FnExactBarsDo", spec := "fnExactBarsDo", apart := false, narrowed := true }
def FnExactBarsDoUptoSaid : Prop := fnExactBarsDoUptoRow.holds Try.pinned (OpenSpec.upto fnExactBarsDoSpec)

/-- 'laws.FnExactBarsRun', WHERE WHAT IT READS IS OF BULK AT MOST 1048576: true; the input reads as it did. -/
def fnExactBarsRunUptoRow : OpenClaim := { program := "ytpbloofmeebgiaa", sum := "6e187cc0a533d387ad80790b9f5c3c13edcedbb9dd89bef994eabbd9e8654b7b", func := "loop.example/powercontrol/laws.FnExactBarsRun", spec := "fnExactBarsRun", apart := false, narrowed := true }
def FnExactBarsRunUptoSaid : Prop := fnExactBarsRunUptoRow.holds Try.pinned (OpenSpec.upto fnExactBarsRunSpec)

end Rows
end Go.Proofs.Ytpbloofmeebgiaa
