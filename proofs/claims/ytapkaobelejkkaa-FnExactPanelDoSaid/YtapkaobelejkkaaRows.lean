/-
  No cell of these rows narrows 'for every input' (looked for: loops, veiled, ifaces, maps, wideKeys, modest, calm, conditions, laid).
  DERIVED. THE GIVEN ROWS OF THIS SEAT. 3 by the template 'for every input the law returns true; each argument reads behind the call as it read before'; 0 by the template 'total and deterministic' (their statements: YtapkaobelejkkaaTotals.lean).
  GIVEN WITH THE SEED: the statements are not yours to turn. If you find one false, say at which input.
  Laid BY PROGRAM, IN A SANDBOX (cutbox-rows.mjs): the forced cells as the released guide's own fill.sh prints them over the translation 58ade2939394d240… (all of the seat's roots in one cut). By AI agents, Wed Nov 11 2026. No macro, syntax, notation, axiom, sorry.
-/
import Derived.Test.YtapkaobelejkkaaChecked
import GoSem.Claim
import GoSem.ClaimJoined
import GoSem.ClaimMapViews
import Derived.JoinedTies
import Derived.KernelRfl
namespace Go.Proofs.Ytapkaobelejkkaa
/- THE CELL 'sum', in the pinned program and in every row, IS THE sha256 OF THE DUMP (.gsa) THAT YtapkaobelejkkaaProg.lean LOADS. Nothing in Lean hashes anything: it is a label: what it is worth is what the hold of that sum in a sandbox is worth. -/
noncomputable def Try.pinned : Pinned := { name := "ytapkaobelejkkaa", sum := "58ade2939394d240e03af1dfc042eda05caaaa42a40305ad4ee2fb3a154da43b", checked := Try.checked }
namespace Rows
def none {H : Type} : Left H := { results := [], args := [] }

/-- 'laws.FnExactPanelDo': WHATEVER THE INPUT: true; the input reads as it did. -/
def fnExactPanelDoSpec : ChangeSpec := { name := "fnExactPanelDo", fn := fun _ => fun
  | [d1, d2] => { results := [.lit (.bool true)], args := [d1, d2] }
  | _ => none }
def fnExactPanelDoRow : OpenClaim := { program := "ytapkaobelejkkaa", sum := "58ade2939394d240e03af1dfc042eda05caaaa42a40305ad4ee2fb3a154da43b", func := "loop.example/powercontrol/laws.FnExactPanelDo", spec := "fnExactPanelDo", apart := false }
def FnExactPanelDoSaid : Prop := fnExactPanelDoRow.holds Try.pinned (OpenSpec.ofChange fnExactPanelDoSpec)

/-- ITS FALSE NEIGHBOUR: 'it returns false'. Refute it at one input. -/
def fnExactPanelDoWrong : ChangeSpec := { name := "fnExactPanelDo", fn := fun _ => fun
  | [d1, d2] => { results := [.lit (.bool false)], args := [d1, d2] }
  | _ => none }
def FnExactPanelDoWrongFalsely : Prop := fnExactPanelDoRow.holds Try.pinned (OpenSpec.ofChange fnExactPanelDoWrong)

/-- 'laws.FnExactPanelRun': WHATEVER THE INPUT: true; the input reads as it did. -/
def fnExactPanelRunSpec : ChangeSpec := { name := "fnExactPanelRun", fn := fun _ => fun
  | [d1, d2] => { results := [.lit (.bool true)], args := [d1, d2] }
  | _ => none }
def fnExactPanelRunRow : OpenClaim := { program := "ytapkaobelejkkaa", sum := "58ade2939394d240e03af1dfc042eda05caaaa42a40305ad4ee2fb3a154da43b", func := "loop.example/powercontrol/laws.FnExactPanelRun", spec := "fnExactPanelRun", apart := false }
def FnExactPanelRunSaid : Prop := fnExactPanelRunRow.holds Try.pinned (OpenSpec.ofChange fnExactPanelRunSpec)

/-- ITS FALSE NEIGHBOUR: 'it returns false'. Refute it at one input. -/
def fnExactPanelRunWrong : ChangeSpec := { name := "fnExactPanelRun", fn := fun _ => fun
  | [d1, d2] => { results := [.lit (.bool false)], args := [d1, d2] }
  | _ => none }
def FnExactPanelRunWrongFalsely : Prop := fnExactPanelRunRow.holds Try.pinned (OpenSpec.ofChange fnExactPanelRunWrong)

/-- 'laws.FnExactOperations': WHATEVER THE INPUT: true; the input reads as it did. -/
def fnExactOperationsSpec : ChangeSpec := { name := "fnExactOperations", fn := fun _ => fun
  | [d1, d2] => { results := [.lit (.bool true)], args := [d1, d2] }
  | _ => none }
def fnExactOperationsRow : OpenClaim := { program := "ytapkaobelejkkaa", sum := "58ade2939394d240e03af1dfc042eda05caaaa42a40305ad4ee2fb3a154da43b", func := "loop.example/powercontrol/laws.FnExactOperations", spec := "fnExactOperations", apart := false }
def FnExactOperationsSaid : Prop := fnExactOperationsRow.holds Try.pinned (OpenSpec.ofChange fnExactOperationsSpec)

/-- ITS FALSE NEIGHBOUR: 'it returns false'. Refute it at one input. -/
def fnExactOperationsWrong : ChangeSpec := { name := "fnExactOperations", fn := fun _ => fun
  | [d1, d2] => { results := [.lit (.bool false)], args := [d1, d2] }
  | _ => none }
def FnExactOperationsWrongFalsely : Prop := fnExactOperationsRow.holds Try.pinned (OpenSpec.ofChange fnExactOperationsWrong)

/- THE SECOND FORM. 'bulk': how many values and letters a reading holds, each counted each time it is reached (what is shared counts as often as it is met; a slice's spare places count too). A statement '..UptoSaid' is the law's where the arguments, and the package variables that the reading takes, are together of bulk at most 1048576: NARROWER than '..Said'. Prove '..Said' where nothing that the law and all that it calls make is longer than what came in: it says more and counts as full. Else prove '..UptoSaid'. A law counts once. -/
mutual
def uptoBulk {H : Type} : DataW H → Nat
  | .lit (.string bytes) => bytes.length + 1
  | .lit _ => 1
  | .nil => 1
  | .ptr d => uptoBulk d + 1
  | .slice elems spare => uptoBulkAll elems + uptoBulkAll spare + 1
  | .agg parts => uptoBulkAll parts + 1
  | .iface _ d => uptoBulk d + 1
  | .map entries => uptoBulkEntries entries + 1
  | .held _ => 1
def uptoBulkAll {H : Type} : List (DataW H) → Nat
  | [] => 0
  | d :: r => uptoBulk d + uptoBulkAll r
def uptoBulkEntries {H : Type} : List (Lit × DataW H) → Nat
  | [] => 0
  | x :: r => uptoBulkEntry x + uptoBulkEntries r
def uptoBulkEntry {H : Type} : Lit × DataW H → Nat
  | (.string bytes, d) => bytes.length + uptoBulk d + 1
  | (_, d) => uptoBulk d + 1
 end
def uptoSmall : (H : Type) → List (DataW H) → Bool := fun _ ds => decide (uptoBulkAll ds ≤ 1048576)
def OpenSpec.upto (s : _root_.Go.ChangeSpec) : _root_.Go.OpenSpec := { _root_.Go.OpenSpec.ofChange s with cond := some uptoSmall }

/-- 'laws.FnExactPanelDo', WHERE WHAT IT READS IS OF BULK AT MOST 1048576: true; the input reads as it did. -/
def fnExactPanelDoUptoRow : OpenClaim := { program := "ytapkaobelejkkaa", sum := "58ade2939394d240e03af1dfc042eda05caaaa42a40305ad4ee2fb3a154da43b", func := "loop.example/powercontrol/laws.FnExactPanelDo", spec := "fnExactPanelDo", apart := false, narrowed := true }
def FnExactPanelDoUptoSaid : Prop := fnExactPanelDoUptoRow.holds Try.pinned (OpenSpec.upto fnExactPanelDoSpec)

/-- 'laws.FnExactPanelRun', WHERE WHAT IT READS IS OF BULK AT MOST 1048576: true; the input reads as it did. -/
def fnExactPanelRunUptoRow : OpenClaim := { program := "ytapkaobelejkkaa", sum := "58ade2939394d240e03af1dfc042eda05caaaa42a40305ad4ee2fb3a154da43b", func := "loop.example/powercontrol/laws.FnExactPanelRun", spec := "fnExactPanelRun", apart := false, narrowed := true }
def FnExactPanelRunUptoSaid : Prop := fnExactPanelRunUptoRow.holds Try.pinned (OpenSpec.upto fnExactPanelRunSpec)

/-- 'laws.FnExactOperations', WHERE WHAT IT READS IS OF BULK AT MOST 1048576: true; the input reads as it did. -/
def fnExactOperationsUptoRow : OpenClaim := { program := "ytapkaobelejkkaa", sum := "58ade2939394d240e03af1dfc042eda05caaaa42a40305ad4ee2fb3a154da43b", func := "loop.example/powercontrol/laws.FnExactOperations", spec := "fnExactOperations", apart := false, narrowed := true }
def FnExactOperationsUptoSaid : Prop := fnExactOperationsUptoRow.holds Try.pinned (OpenSpec.upto fnExactOperationsSpec)

end Rows
end Go.Proofs.Ytapkaobelejkkaa
