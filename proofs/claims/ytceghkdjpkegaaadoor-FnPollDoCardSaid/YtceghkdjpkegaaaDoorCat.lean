/- Slices one behind the other: what slices.Concat needs. -/
import Derived.Test.YtceghkdjpkegaaaDoorDel
import Derived.Test.YtceghkdjpkegaaaDoorPu
import Derived.Lib.AppendZeros
namespace Go.Proofs.YtceghkdjpkegaaaDoor
open Go.ChangeShapes Go.WideShapes Go.ChangeAt Go.RowKit
set_option linter.unusedVariables false
set_option linter.unusedSimpArgs false

/-- A slice of numbers, as a thing of a slice of slices: where it lies, what it reads, its capacity. -/
abbrev Sl := Option Addr × List Int × Nat
def eSl (z : Sl) : List Value := [.slice z.1 z.2.1.length z.2.2]
theorem eSl_len (x : Sl) : (eSl x).length = 1 := rfl
theorem eSl_one (x : Sl) : ∀ u ∈ eSl x, u.oneCell' = true := by simp [eSl]; rfl
def Slq (w : World) (l : List Sl) : Prop := ∀ z ∈ l, Rc w 1 z.1 z.2.1.length z.2.2 (z.2.1.flatMap eI)
theorem slr {w : World} {l : List Sl} (h : Slq w l) {i : Int} {n : Nat} (hi : 0 ≤ i ∧ i < (n : Int)) (hn : n = l.length) (d : Sl) : Rc w 1 (l.getD i.toNat d).1 (l.getD i.toNat d).2.1.length (l.getD i.toNat d).2.2 ((l.getD i.toNat d).2.1.flatMap eI) := by
  have hk : i.toNat < l.length := by omega
  rw [getD_ge hk]
  exact h _ (List.getElem_mem hk)
section
variable {P : Program} {ops : Array Oper} {Q : Exit → Act → World → Prop} {rest : List Oper} {o : Oper} {a : Act} {w w0 : World} {n d : Nat} {l : List (Nat × Value)} {L : List Asn} {ρ : Operand → Value}
theorem run_capL {x : Operand} {T E : TypeId} {A : Option Addr} {m c : Nat} {ts : Array TypeId} (ho : o.op = .call { callee := .builtin .cap, args := #[x], argTypes := ts }) (hts : ts[0]? = some T) (hT : P.underlying T = some (.slice E)) (hx : ρ x = .slice A m c) :
    (execOp ρ o).run P w = .ok (.value (.int .i64 (c : Int))) w := by
  simp [execOp, ho, resolve, invoke, builtin, Builtin.cap_, hts, run_underlying hT, hx, goInt]
theorem op_newvec {cs : Array Value} {e : TypeId} {m : Nat} (hg : o.guard = none) (hd : o.dst = some d) (hF : Fr a n l) (hdn : Nat.blt d n = true) (S : St w0 w L)
    (hr : (execOp a.eval o).run P w = .ok (.value (.slice (some ⟨w.heap.size, 0, none⟩) m m)) (w.alloc (.cells cs e)))
    (h : ∀ a g w', Fr a n ((d, .slice (some ⟨g, 0, none⟩) m m) :: l) → St w0 w' (.box g e cs :: L) → wpList P ops Q rest a w') : wpList P ops Q (o :: rest) a w := by
  refine wpList_plain hg fun K hK => ?_
  unfold Oper.wp
  rw [hr]
  exact hK _ _ (by rw [hd]; exact h _ _ _ (hF.put hdn _) (S.alloc _ _))
theorem run_slicenil {x yh : Operand} {T E : TypeId} {size : Nat} {kh : IntKind} (ho : o.op = .slice T x none (some yh) none) (ht : P.underlying T = some (.slice E)) (hE : (P.info? E).map (·.size) = some size) (hx : ρ x = .slice none 0 0) (hh : ρ yh = .int kh 0) :
    (execOp ρ o).run P w = .ok (.value (.slice none 0 0)) w := by
  have := run_sliceH (P := P) (ρ := ρ) (w := w) (l := ([] : List Nat)) (size := size) (c := 0) (n := 0) ho ht hE hx hh (by omega) rfl (Nat.le_refl _)
  simpa [subA, subL] using this
theorem run_slice0 {x yh : Operand} {T E : TypeId} {size g m c : Nat} {kh : IntKind} (ho : o.op = .slice T x none (some yh) none) (ht : P.underlying T = some (.slice E)) (hE : (P.info? E).map (·.size) = some size) (hx : ρ x = .slice (some ⟨g, 0, none⟩) m c) (hh : ρ yh = .int kh 0) (hc : 0 < c) :
    (execOp ρ o).run P w = .ok (.value (.slice (some ⟨g, 0, none⟩) 0 c)) w := by
  have ht' : P.underlying T = some (.slice (P.elem T)) := by rw [elem_of ht]; exact ht
  obtain ⟨j, hj, hz⟩ := Option.map_eq_some_iff.1 hE
  have h1 := run_slice_h (P := P) w T (some ⟨g, 0, none⟩) m c ht' kh 0 (Int.le_refl _) (by omega)
  have hne : ¬ c = 0 := by omega
  simp only [execOp, ho, Option.map_some, Option.map_none, hx, hh, Sem.run_bind, run_sliceAt_slice w T _ _ _ _ ht', h1, sizeOf, typeInfo, elem_of ht, hj, hz, Sem.run_pure, Result.andThen_ok, sliced]
  simp [sizeOf, typeInfo, hj, hz, sliced, hne, Addr.add]
theorem op_zeros {x y : Operand} {t tn e : TypeId} {z : Value} {bytes : Nat} {kn : IntKind} {m : Int} (hg : o.guard = none) (hd : o.dst = some d) (hF : Fr a n l) (hdn : Nat.blt d n = true) (S : St w0 w L)
    (ho : o.op = .call { callee := .builtin .append, args := #[x, y], argTypes := #[t, tn] }) (hx : a.eval x = .slice none 0 0) (hy : a.eval y = .int .i64 m) (ht : P.underlying t = some (.slice e)) (htn : P.underlying tn = some (.int kn))
    (hinfo : (P.info? e).map (fun i => (i.zero, i.size, i.bytes)) = some (some z, 1, bytes)) (hzs : z.cells.size = 1) (hb : bytes ≤ 128) (hm : 0 < m ∧ m ≤ 1099511627776)
    (h : ∀ a g c w', 0 < c → Fr a n ((d, .slice (some ⟨g, 0, none⟩) m.toNat c) :: l) → St w0 w' (.row e 1 (.slice (some ⟨g, 0, none⟩) 0 c) 0 [] :: L) → wpList P ops Q rest a w') : wpList P ops Q (o :: rest) a w := by
  obtain ⟨ti, hi1, hi2, hi3, hi4⟩ := info_parts hinfo
  obtain ⟨p, rfl⟩ : ∃ p : Nat, m = (p : Int) := ⟨m.toNat, by omega⟩
  have hbn : p * ti.bytes ≤ 1099511627776 * 128 := by rw [hi4]; exact Nat.mul_le_mul (by omega) hb
  have hrun := Lib.run_append_nil_zeros (P := P) w t tn o.type e ti z .i64 kn ht htn hi1 hi2 p (by omega) (by omega) (by omega) (by omega)
  have hge := grownCap_ge w p 0 e
  have hcm : grownCap w p 0 e ≤ maxLen := grownCap_le_maxLen w p 0 e (by unfold maxLen; omega)
  have hex : ∀ v' W, (Builtin.append_ #[t, tn] o.type #[.slice none 0 0, .int .i64 (p : Int)]).run P w = .ok v' W → (execOp a.eval o).run P w = .ok (.value v') W := fun v' W hr => by
    unfold execOp
    simp only [ho, resolve, invoke, builtin, Sem.run_bind, Sem.run_pure, Result.andThen_ok, List.map_toArray, List.map_cons, List.map_nil, hx, hy, hr]
  refine wpList_plain hg fun K hK => ?_
  unfold Oper.wp
  rw [hex _ _ hrun]
  refine hK _ _ (by
    rw [hd]
    refine h _ w.heap.size (grownCap w p 0 e) _ (by omega) (by simpa using hF.put hdn _) ?_
    refine S.drew.call (M := [.row e 1 (.slice (some ⟨w.drew.heap.size, 0, none⟩) 0 (grownCap w p 0 e)) 0 []]) (St.of_own (World.ownsRow_made w.drew _ _ (Nat.le_refl _) hcm ?_) ((Below.refl _ _).alloc (Nat.le_refl _) _))
    simp only [Array.size_append, size_zeroCells, hzs]
    omega)
end
theorem le_sum {l : List Nat} {x : Nat} (h : x ∈ l) : x ≤ l.sum := by
  induction l with
  | nil => simp at h
  | cons y l ih =>
    simp only [List.sum_cons]
    rcases List.mem_cons.1 h with rfl | h
    · omega
    · have := ih h; omega
/-- All of them, one behind the other. -/
def catL (l : List Sl) : List Int := l.foldl (fun a z => a ++ z.2.1) []
end Go.Proofs.YtceghkdjpkegaaaDoor
