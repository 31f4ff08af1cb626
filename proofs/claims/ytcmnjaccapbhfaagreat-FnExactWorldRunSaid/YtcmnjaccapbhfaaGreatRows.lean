/-
  No cell of these rows narrows 'for every input' (looked for: loops, veiled, ifaces, maps, wideKeys, modest, calm, conditions, laid).
  DERIVED. THE GIVEN ROWS OF THIS SEAT. 4 by the template 'for every input the law returns true; each argument reads behind the call as it read before'; 0 by the template 'total and deterministic' (their statements: YtcmnjaccapbhfaaGreatTotals.lean).
  GIVEN WITH THE SEED: the statements are not yours to turn. If you find one false, say at which input.
  Laid BY PROGRAM, IN A SANDBOX (cutbox-rows.mjs): the forced cells as the released guide's own fill.sh prints them over the translation 6bb44b4a5be60696… (all of the seat's roots in one cut). By AI agents, Wed Nov 11 2026. No macro, syntax, notation, axiom, sorry.
-/
import Derived.Test.YtcmnjaccapbhfaaGreatChecked
import GoSem.Claim
import GoSem.ClaimJoined
import GoSem.ClaimMapViews
import Derived.JoinedTies
import Derived.KernelRfl
namespace Go.Proofs.YtcmnjaccapbhfaaGreat
/- THE CELL 'sum', in the pinned program and in every row, IS THE sha256 OF THE DUMP (.gsa) THAT YtcmnjaccapbhfaaGreatProg.lean LOADS. Nothing in Lean hashes anything: it is a label: what it is worth is what the hold of that sum in a sandbox is worth. -/
noncomputable def Tryz.pinned : Pinned := { name := "ytcmnjaccapbhfaagreat", sum := "6bb44b4a5be606966e0cdd1c79b9bf70eaa279ae7d27562c55149392f078bb2b", checked := Tryz.checked }
namespace Rows
def none {H : Type} : Left H := { results := [], args := [] }

/-- 'laws.FnExactWorldCalm': WHATEVER THE INPUT: true; the input reads as it did. -/
def fnExactWorldCalmSpec : ChangeSpec := { name := "fnExactWorldCalm", fn := fun _ => fun
  | [d] => { results := [.lit (.bool true)], args := [d] }
  | _ => none }
def fnExactWorldCalmRow : OpenClaim := { program := "ytcmnjaccapbhfaagreat", sum := "6bb44b4a5be606966e0cdd1c79b9bf70eaa279ae7d27562c55149392f078bb2b", func := "loop.example/powercontrol/laws.FnExactWorldCalm", spec := "fnExactWorldCalm", apart := false }
def FnExactWorldCalmSaid : Prop := fnExactWorldCalmRow.holds Tryz.pinned (OpenSpec.ofChange fnExactWorldCalmSpec)

/-- ITS FALSE NEIGHBOUR: 'it returns false'. Refute it at one input. -/
def fnExactWorldCalmWrong : ChangeSpec := { name := "fnExactWorldCalm", fn := fun _ => fun
  | [d] => { results := [.lit (.bool false)], args := [d] }
  | _ => none }
def FnExactWorldCalmWrongFalsely : Prop := fnExactWorldCalmRow.holds Tryz.pinned (OpenSpec.ofChange fnExactWorldCalmWrong)

/-- 'laws.FnExactHealDeeds': WHATEVER THE INPUT: true; the input reads as it did. -/
def fnExactHealDeedsSpec : ChangeSpec := { name := "fnExactHealDeeds", fn := fun _ => fun
  | [d] => { results := [.lit (.bool true)], args := [d] }
  | _ => none }
def fnExactHealDeedsRow : OpenClaim := { program := "ytcmnjaccapbhfaagreat", sum := "6bb44b4a5be606966e0cdd1c79b9bf70eaa279ae7d27562c55149392f078bb2b", func := "loop.example/powercontrol/laws.FnExactHealDeeds", spec := "fnExactHealDeeds", apart := false }
def FnExactHealDeedsSaid : Prop := fnExactHealDeedsRow.holds Tryz.pinned (OpenSpec.ofChange fnExactHealDeedsSpec)

/-- ITS FALSE NEIGHBOUR: 'it returns false'. Refute it at one input. -/
def fnExactHealDeedsWrong : ChangeSpec := { name := "fnExactHealDeeds", fn := fun _ => fun
  | [d] => { results := [.lit (.bool false)], args := [d] }
  | _ => none }
def FnExactHealDeedsWrongFalsely : Prop := fnExactHealDeedsRow.holds Tryz.pinned (OpenSpec.ofChange fnExactHealDeedsWrong)

/-- 'laws.FnExactWorldDo': WHATEVER THE INPUT: true; the input reads as it did. -/
def fnExactWorldDoSpec : ChangeSpec := { name := "fnExactWorldDo", fn := fun _ => fun
  | [d1, d2] => { results := [.lit (.bool true)], args := [d1, d2] }
  | _ => none }
def fnExactWorldDoRow : OpenClaim := { program := "ytcmnjaccapbhfaagreat", sum := "6bb44b4a5be606966e0cdd1c79b9bf70eaa279ae7d27562c55149392f078bb2b", func := "loop.example/powercontrol/laws.FnExactWorldDo", spec := "fnExactWorldDo", inPlace := ["slices.overlaps[int]"], apart := false }
def FnExactWorldDoSaid : Prop := fnExactWorldDoRow.holds Tryz.pinned (OpenSpec.ofChange fnExactWorldDoSpec)

/-- ITS FALSE NEIGHBOUR: 'it returns false'. Refute it at one input. -/
def fnExactWorldDoWrong : ChangeSpec := { name := "fnExactWorldDo", fn := fun _ => fun
  | [d1, d2] => { results := [.lit (.bool false)], args := [d1, d2] }
  | _ => none }
def FnExactWorldDoWrongFalsely : Prop := fnExactWorldDoRow.holds Tryz.pinned (OpenSpec.ofChange fnExactWorldDoWrong)

/-- 'laws.FnExactWorldRun': WHATEVER THE INPUT: true; the input reads as it did. -/
def fnExactWorldRunSpec : ChangeSpec := { name := "fnExactWorldRun", fn := fun _ => fun
  | [d1, d2] => { results := [.lit (.bool true)], args := [d1, d2] }
  | _ => none }
def fnExactWorldRunRow : OpenClaim := { program := "ytcmnjaccapbhfaagreat", sum := "6bb44b4a5be606966e0cdd1c79b9bf70eaa279ae7d27562c55149392f078bb2b", func := "loop.example/powercontrol/laws.FnExactWorldRun", spec := "fnExactWorldRun", inPlace := ["slices.overlaps[int]"], apart := false }
def FnExactWorldRunSaid : Prop := fnExactWorldRunRow.holds Tryz.pinned (OpenSpec.ofChange fnExactWorldRunSpec)

/-- ITS FALSE NEIGHBOUR: 'it returns false'. Refute it at one input. -/
def fnExactWorldRunWrong : ChangeSpec := { name := "fnExactWorldRun", fn := fun _ => fun
  | [d1, d2] => { results := [.lit (.bool false)], args := [d1, d2] }
  | _ => none }
def FnExactWorldRunWrongFalsely : Prop := fnExactWorldRunRow.holds Tryz.pinned (OpenSpec.ofChange fnExactWorldRunWrong)

/- THE SECOND FORM. 'bulk': how many values and letters a reading holds, each counted each time it is reached (what is shared counts as often as it is met; a slice's spare places count too). A statement '..UptoSaid' is the law's where the arguments, and the package variables that the reading takes, are together of bulk at most 1048576: NARROWER than '..Said'. Prove '..Said' where nothing that the law and all that it calls make is longer than what came in: it says more and counts as full. Else prove '..UptoSaid'. A law counts once. -/
mutual
def uptoBulk {H : Type} : DataW H → Nat
  | .lit (.string bytes) => bytes.length + 1
  | .lit _ => 1
  | .nil => 1
  | .ptr d => uptoBulk d + 1
  | .slice elems spare => uptoBulkAll elems + uptoBulkAll spare + 1
  | .agg parts => uptoBulkAll parts + 1
  | .iface _ d => uptoBulk d + 1
  | .map entries => uptoBulkEntries entries + 1
  | .held _ => 1
def uptoBulkAll {H : Type} : List (DataW H) → Nat
  | [] => 0
  | d :: r => uptoBulk d + uptoBulkAll r
def uptoBulkEntries {H : Type} : List (Lit × DataW H) → Nat
  | [] => 0
  | x :: r => uptoBulkEntry x + uptoBulkEntries r
def uptoBulkEntry {H : Type} : Lit × DataW H → Nat
  | (.string bytes, d) => bytes.length + uptoBulk d + 1
  | (_, d) => uptoBulk d + 1
 end
def uptoSmall : (H : Type) → List (DataW H) → Bool := fun _ ds => decide (uptoBulkAll ds ≤ 1048576)
def OpenSpec.upto (s : _root_.Go.ChangeSpec) : _root_.Go.OpenSpec := { _root_.Go.OpenSpec.ofChange s with cond := some uptoSmall }

/-- 'laws.FnExactWorldCalm', WHERE WHAT IT READS IS OF BULK AT MOST 1048576: true; the input reads as it did. -/
def fnExactWorldCalmUptoRow : OpenClaim := { program := "ytcmnjaccapbhfaagreat", sum := "6bb44b4a5be606966e0cdd1c79b9bf70eaa279ae7d27562c55149392f078bb2b", func := "loop.example/powercontrol/laws.FnExactWorldCalm", spec := "fnExactWorldCalm", apart := false, narrowed := true }
def FnExactWorldCalmUptoSaid : Prop := fnExactWorldCalmUptoRow.holds Tryz.pinned (OpenSpec.upto fnExactWorldCalmSpec)

/-- 'laws.FnExactHealDeeds', WHERE WHAT IT READS IS OF BULK AT MOST 1048576: true; the input reads as it did. -/
def fnExactHealDeedsUptoRow : OpenClaim := { program := "ytcmnjaccapbhfaagreat", sum := "6bb44b4a5be606966e0cdd1c79b9bf70eaa279ae7d27562c55149392f078bb2b", func := "loop.example/powercontrol/laws.FnExactHealDeeds", spec := "fnExactHealDeeds", apart := false, narrowed := true }
def FnExactHealDeedsUptoSaid : Prop := fnExactHealDeedsUptoRow.holds Tryz.pinned (OpenSpec.upto fnExactHealDeedsSpec)

/-- 'laws.FnExactWorldDo', WHERE WHAT IT READS IS OF BULK AT MOST 1048576: true; the input reads as it did. -/
def fnExactWorldDoUptoRow : OpenClaim := { program := "ytcmnjaccapbhfaagreat", sum := "6bb44b4a5be606966e0cdd1c79b9bf70eaa279ae7d27562c55149392f078bb2b", func := "loop.example/powercontrol/laws.FnExactWorldDo", spec := "fnExactWorldDo", inPlace := ["slices.overlaps[int]"], apart := false, narrowed := true }
def FnExactWorldDoUptoSaid : Prop := fnExactWorldDoUptoRow.holds Tryz.pinned (OpenSpec.upto fnExactWorldDoSpec)

/-- 'laws.FnExactWorldRun', WHERE WHAT IT READS IS OF BULK AT MOST 1048576: true; the input reads as it did. -/
def fnExactWorldRunUptoRow : OpenClaim := { program := "ytcmnjaccapbhfaagreat", sum := "6bb44b4a5be606966e0cdd1c79b9bf70eaa279ae7d27562c55149392f078bb2b", func := "loop.example/powercontrol/laws.FnExactWorldRun", spec := "fnExactWorldRun", inPlace := ["slices.overlaps[int]"], apart := false, narrowed := true }
def FnExactWorldRunUptoSaid : Prop := fnExactWorldRunUptoRow.holds Tryz.pinned (OpenSpec.upto fnExactWorldRunSpec)

end Rows
end Go.Proofs.YtcmnjaccapbhfaaGreat
