/-
  No cell of these rows narrows 'for every input' (looked for: loops, veiled, ifaces, maps, wideKeys, modest, calm, conditions, laid).
  DERIVED. THE GIVEN ROWS OF THIS SEAT. 2 by the template 'for every input the law returns true; each argument reads behind the call as it read before'; 0 by the template 'total and deterministic' (their statements: YtnoeliaefhldmaaTotals.lean).
  GIVEN WITH THE SEED: the statements are not yours to turn. If you find one false, say at which input.
  Laid BY PROGRAM, IN A SANDBOX (cutbox-rows.mjs): the forced cells as the released guide's own fill.sh prints them over the translation 1346fcf7a9e01562… (all of the seat's roots in one cut). By AI agents, Wed Nov 11 2026. No macro, syntax, notation, axiom, sorry.
-/
import Derived.Test.YtnoeliaefhldmaaChecked
import GoSem.Claim
import GoSem.ClaimJoined
import GoSem.ClaimMapViews
import Derived.JoinedTies
import Derived.KernelRfl
namespace Go.Proofs.Ytnoeliaefhldmaa
/- THE CELL 'sum', in the pinned program and in every row, IS THE sha256 OF THE DUMP (.gsa) THAT YtnoeliaefhldmaaProg.lean LOADS. Nothing in Lean hashes anything: it is a label: what it is worth is what the hold of that sum in a sandbox is worth. -/
noncomputable def Try.pinned : Pinned := { name := "ytnoeliaefhldmaa", sum := "1346fcf7a9e01562a91246610ae3ab4482e5ee972ff042ebeffb467fcfdbd59b", checked := Try.checked }
namespace Rows
def none {H : Type} : Left H := { results := [], args := [] }

/-- 'laws.FnExactWorkDo': WHATEVER THE INPUT: true; the input reads as it did. -/
def fnExactWorkDoSpec : ChangeSpec := { name := "fnExactWorkDo", fn := fun _ => fun
  | [d1, d2] => { results := [.lit (.bool true)], args := [d1, d2] }
  | _ => none }
def fnExactWorkDoRow : OpenClaim := { program := "ytnoeliaefhldmaa", sum := "1346fcf7a9e01562a91246610ae3ab4482e5ee972ff042ebeffb467fcfdbd59b", func := "loop.example/powercontrol/laws.FnExactWorkDo", spec := "fnExactWorkDo", apart := false }
def FnExactWorkDoSaid : Prop := fnExactWorkDoRow.holds Try.pinned (OpenSpec.ofChange fnExactWorkDoSpec)

/-- ITS FALSE NEIGHBOUR: 'it returns false'. Refute it at one input. -/
def fnExactWorkDoWrong : ChangeSpec := { name := "fnExactWorkDo", fn := fun _ => fun
  | [d1, d2] => { results := [.lit (.bool false)], args := [d1, d2] }
  | _ => none }
def FnExactWorkDoWrongFalsely : Prop := fnExactWorkDoRow.holds Try.pinned (OpenSpec.ofChange fnExactWorkDoWrong)

/-- 'laws.FnExactWorkRun': WHATEVER THE INPUT: true; the input reads as it did. -/
def fnExactWorkRunSpec : ChangeSpec := { name := "fnExactWorkRun", fn := fun _ => fun
  | [d1, d2] => { results := [.lit (.bool true)], args := [d1, d2] }
  | _ => none }
def fnExactWorkRunRow : OpenClaim := { program := "ytnoeliaefhldmaa", sum := "1346fcf7a9e01562a91246610ae3ab4482e5ee972ff042ebeffb467fcfdbd59b", func := "loop.example/powercontrol/laws.FnExactWorkRun", spec := "fnExactWorkRun", apart := false }
def FnExactWorkRunSaid : Prop := fnExactWorkRunRow.holds Try.pinned (OpenSpec.ofChange fnExactWorkRunSpec)

/-- ITS FALSE NEIGHBOUR: 'it returns false'. Refute it at one input. -/
def fnExactWorkRunWrong : ChangeSpec := { name := "fnExactWorkRun", fn := fun _ => fun
  | [d1, d2] => { results := [.lit (.bool false)], args := [d1, d2] }
  | _ => none }
def FnExactWorkRunWrongFalsely : Prop := fnExactWorkRunRow.holds Try.pinned (OpenSpec.ofChange fnExactWorkRunWrong)

/- THE SECOND FORM. 'bulk': how many values and letters a reading holds, each counted each time it is reached (what is shared counts as often as it is met; a slice's spare places count too). A statement '..UptoSaid' is the law's where the arguments, and the package variables that the reading takes, are together of bulk at most 1048576: NARROWER than '..Said'. Prove '..Said' where nothing that the law and all that it calls make is longer than what came in: it says more and counts as full. Else prove '..UptoSaid'. A law counts once. -/
mutual
def uptoBulk {H : Type} : DataW H → Nat
  | .lit (.string bytes) => bytes.length + 1
  | .lit _ => 1
  | .nil => 1
  | .ptr d => uptoBulk d + 1
  | .slice elems spare => uptoBulkAll elems + uptoBulkAll spare + 1
  | .agg parts => uptoBulkAll parts + 1
  | .iface _ d => uptoBulk d + 1
  | .map entries => uptoBulkEntries entries + 1
  | .held _ => 1
def uptoBulkAll {H : Type} : List (DataW H) → Nat
  | [] => 0
  | d :: r => uptoBulk d + uptoBulkAll r
def uptoBulkEntries {H : Type} : List (Lit × DataW H) → Nat
  | [] => 0
  | x :: r => uptoBulkEntry x + uptoBulkEntries r
def uptoBulkEntry {H : Type} : Lit × DataW H → Nat
  | (.string bytes, d) => bytes.length + uptoBulk d + 1
  | (_, d) => uptoBulk d + 1
 end
def uptoSmall : (H : Type) → List (DataW H) → Bool := fun _ ds => decide (uptoBulkAll ds ≤ 1048576)
def OpenSpec.upto (s : _root_.Go.ChangeSpec) : _root_.Go.OpenSpec := { _root_.Go.OpenSpec.ofChange s with cond := some uptoSmall }

/-- 'laws.FnExactWorkDo', WHERE WHAT IT READS IS OF BULK AT MOST 1048576: true; the input reads as it did. -/
def fnExactWorkDoUptoRow : OpenClaim := { program := "ytnoeliaefhldmaa", sum := "1346fcf7a9e01562a91246610ae3ab4482e5ee972ff042ebeffb467fcfdbd59b", func := "loop.example/powercontrol/laws.FnExactWorkDo", spec := "fnExactWorkDo", apart := false, narrowed := true }
def FnExactWorkDoUptoSaid : Prop := fnExactWorkDoUptoRow.holds Try.pinned (OpenSpec.upto fnExactWorkDoSpec)

/-- 'laws.FnExactWorkRun', WHERE WHAT IT READS IS OF BULK AT MOST 1048576: true; the input reads as it did. -/
def fnExactWorkRunUptoRow : OpenClaim := { program := "ytnoeliaefhldmaa", sum := "1346fcf7a9e01562a91246610ae3ab4482e5ee972ff042ebeffb467fcfdbd59b", func := "loop.example/powercontrol/laws.FnExactWorkRun", spec := "fnExactWorkRun", apart := false, narrowed := true }
def FnExactWorkRunUptoSaid : Prop := fnExactWorkRunUptoRow.holds Try.pinned (OpenSpec.upto fnExactWorkRunSpec)

end Rows
end Go.Proofs.Ytnoeliaefhldmaa
