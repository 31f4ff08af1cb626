/-
  No cell of these rows narrows 'for every input' (looked for: loops, veiled, ifaces, maps, wideKeys, modest, calm, conditions, laid).
  DERIVED. THE GIVEN ROWS OF THIS SEAT. 3 by the template 'for every input the law returns true; each argument reads behind the call as it read before'; 0 by the template 'total and deterministic' (their statements: YtceghkdjpkegaaaTotals.lean).
  GIVEN WITH THE SEED: the statements are not yours to turn. If you find one false, say at which input.
  Laid BY PROGRAM, IN A SANDBOX (cutbox-rows.mjs): the forced cells as the released guide's own fill.sh prints them over the translation 3fe9cc6ccd230bdc… (all of the seat's roots in one cut). By AI agents, Wed Nov 11 2026. No macro, syntax, notation, axiom, sorry.
-/
import Derived.Test.YtceghkdjpkegaaaChecked
import GoSem.Claim
import GoSem.ClaimJoined
import GoSem.ClaimMapViews
import Derived.JoinedTies
import Derived.KernelRfl
namespace Go.Proofs.Ytceghkdjpkegaaa
/- THE CELL 'sum', in the pinned program and in every row, IS THE sha256 OF THE DUMP (.gsa) THAT YtceghkdjpkegaaaProg.lean LOADS. Nothing in Lean hashes anything: it is a label: what it is worth is what the hold of that sum in a sandbox is worth. -/
noncomputable def Try.pinned : Pinned := { name := "ytceghkdjpkegaaa", sum := "3fe9cc6ccd230bdc4ec15ce90fdf069c95239bb68f4f33b384f283f1fdf4d3f1", checked := Try.checked }
namespace Rows
def none {H : Type} : Left H := { results := [], args := [] }

/-- 'laws.FnExactPollDo': WHATEVER THE INPUT: true; the input reads as it did. -/
def fnExactPollDoSpec : ChangeSpec := { name := "fnExactPollDo", fn := fun _ => fun
  | [d1, d2] => { results := [.lit (.bool true)], args := [d1, d2] }
  | _ => none }
def fnExactPollDoRow : OpenClaim := { program := "ytceghkdjpkegaaa", sum := "3fe9cc6ccd230bdc4ec15ce90fdf069c95239bb68f4f33b384f283f1fdf4d3f1", func := "loop.example/powercontrol/laws.FnExactPollDo", spec := "fnExactPollDo", apart := false }
def FnExactPollDoSaid : Prop := fnExactPollDoRow.holds Try.pinned (OpenSpec.ofChange fnExactPollDoSpec)

/-- ITS FALSE NEIGHBOUR: 'it returns false'. Refute it at one input. -/
def fnExactPollDoWrong : ChangeSpec := { name := "fnExactPollDo", fn := fun _ => fun
  | [d1, d2] => { results := [.lit (.bool false)], args := [d1, d2] }
  | _ => none }
def FnExactPollDoWrongFalsely : Prop := fnExactPollDoRow.holds Try.pinned (OpenSpec.ofChange fnExactPollDoWrong)

/-- 'laws.FnExactPollDrain': WHATEVER THE INPUT: true; the input reads as it did. -/
def fnExactPollDrainSpec : ChangeSpec := { name := "fnExactPollDrain", fn := fun _ => fun
  | [d] => { results := [.lit (.bool true)], args := [d] }
  | _ => none }
def fnExactPollDrainRow : OpenClaim := { program := "ytceghkdjpkegaaa", sum := "3fe9cc6ccd230bdc4ec15ce90fdf069c95239bb68f4f33b384f283f1fdf4d3f1", func := "loop.example/powercontrol/laws.FnExactPollDrain", spec := "fnExactPollDrain", apart := false }
def FnExactPollDrainSaid : Prop := fnExactPollDrainRow.holds Try.pinned (OpenSpec.ofChange fnExactPollDrainSpec)

/-- ITS FALSE NEIGHBOUR: 'it returns false'. Refute it at one input. -/
def fnExactPollDrainWrong : ChangeSpec := { name := "fnExactPollDrain", fn := fun _ => fun
  | [d] => { results := [.lit (.bool false)], args := [d] }
  | _ => none }
def FnExactPollDrainWrongFalsely : Prop := fnExactPollDrainRow.holds Try.pinned (OpenSpec.ofChange fnExactPollDrainWrong)

/-- 'laws.FnExactPollRun': WHATEVER THE INPUT: true; the input reads as it did. -/
def fnExactPollRunSpec : ChangeSpec := { name := "fnExactPollRun", fn := fun _ => fun
  | [d1, d2] => { results := [.lit (.bool true)], args := [d1, d2] }
  | _ => none }
def fnExactPollRunRow : OpenClaim := { program := "ytceghkdjpkegaaa", sum := "3fe9cc6ccd230bdc4ec15ce90fdf069c95239bb68f4f33b384f283f1fdf4d3f1", func := "loop.example/powercontrol/laws.FnExactPollRun", spec := "fnExactPollRun", apart := false }
def FnExactPollRunSaid : Prop := fnExactPollRunRow.holds Try.pinned (OpenSpec.ofChange fnExactPollRunSpec)

/-- ITS FALSE NEIGHBOUR: 'it returns false'. Refute it at one input. -/
def fnExactPollRunWrong : ChangeSpec := { name := "fnExactPollRun", fn := fun _ => fun
  | [d1, d2] => { results := [.lit (.bool false)], args := [d1, d2] }
  | _ => none }
def FnExactPollRunWrongFalsely : Prop := fnExactPollRunRow.holds Try.pinned (OpenSpec.ofChange fnExactPollRunWrong)

/- THE SECOND FORM. 'bulk': how many values and letters a reading holds, each counted each time it is reached (what is shared counts as often as it is met; a slice's spare places count too). A statement '..UptoSaid' is the law's where the arguments, and the package variables that the reading takes, are together of bulk at most 1048576: NARROWER than '..Said'. Prove '..Said' where nothing that the law and all that it calls make is longer than what came in: it says more and counts as full. Else prove '..UptoSaid'. A law counts once. -/
mutual
def uptoBulk {H : Type} : DataW H → Nat
  | .lit (.string bytes) => bytes.length + 1
  | .lit _ => 1
  | .nil => 1
  | .ptr d => uptoBulk d + 1
  | .slice elems spare => uptoBulkAll elems + uptoBulkAll spare + 1
  | .agg parts => uptoBulkAll parts + 1
  | .iface _ d => uptoBulk d + 1
  | .map entries => uptoBulkEntries entries + 1
  | .held _ => 1
def uptoBulkAll {H : Type} : List (DataW H) → Nat
  | [] => 0
  | d :: r => uptoBulk d + uptoBulkAll r
def uptoBulkEntries {H : Type} : List (Lit × DataW H) → Nat
  | [] => 0
  | x :: r => uptoBulkEntry x + uptoBulkEntries r
def uptoBulkEntry {H : Type} : Lit × DataW H → Nat
  | (.string bytes, d) => bytes.length + uptoBulk d + 1
  | (_, d) => uptoBulk d + 1
 end
def uptoSmall : (H : Type) → List (DataW H) → Bool := fun _ ds => decide (uptoBulkAll ds ≤ 1048576)
def OpenSpec.upto (s : _root_.Go.ChangeSpec) : _root_.Go.OpenSpec := { _root_.Go.OpenSpec.ofChange s with cond := some uptoSmall }

/-- 'laws.FnExactPollDo', WHERE WHAT IT READS IS OF BULK AT MOST 1048576: true; the input reads as it did. -/
def fnExactPollDoUptoRow : OpenClaim := { program := "ytceghkdjpkegaaa", sum := "3fe9cc6ccd230bdc4ec15ce90fdf069c95239bb68f4f33b384f283f1fdf4d3f1", func := "loop.example/powercontrol/laws.FnExactPollDo", spec := "fnExactPollDo", apart := false, narrowed := true }
def FnExactPollDoUptoSaid : Prop := fnExactPollDoUptoRow.holds Try.pinned (OpenSpec.upto fnExactPollDoSpec)

/-- 'laws.FnExactPollDrain', WHERE WHAT IT READS IS OF BULK AT MOST 1048576: true; the input reads as it did. -/
def fnExactPollDrainUptoRow : OpenClaim := { program := "ytceghkdjpkegaaa", sum := "3fe9cc6ccd230bdc4ec15ce90fdf069c95239bb68f4f33b384f283f1fdf4d3f1", func := "loop.example/powercontrol/laws.FnExactPollDrain", spec := "fnExactPollDrain", apart := false, narrowed := true }
def FnExactPollDrainUptoSaid : Prop := fnExactPollDrainUptoRow.holds Try.pinned (OpenSpec.upto fnExactPollDrainSpec)

/-- 'laws.FnExactPollRun', WHERE WHAT IT READS IS OF BULK AT MOST 1048576: true; the input reads as it did. -/
def fnExactPollRunUptoRow : OpenClaim := { program := "ytceghkdjpkegaaa", sum := "3fe9cc6ccd230bdc4ec15ce90fdf069c95239bb68f4f33b384f283f1fdf4d3f1", func := "loop.example/powercontrol/laws.FnExactPollRun", spec := "fnExactPollRun", apart := false, narrowed := true }
def FnExactPollRunUptoSaid : Prop := fnExactPollRunUptoRow.holds Try.pinned (OpenSpec.upto fnExactPollRunSpec)

end Rows
end Go.Proofs.Ytceghkdjpkegaaa
