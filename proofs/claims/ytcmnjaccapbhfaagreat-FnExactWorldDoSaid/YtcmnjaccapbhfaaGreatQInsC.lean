/- slices.Insert at []int: the contract on rows. -/
import Derived.Test.YtcmnjaccapbhfaaGreatQInsB
namespace Go.Proofs.YtcmnjaccapbhfaaGreat
open Go.ChangeShapes Go.WideShapes Go.ChangeAt Go.RowKit Go.Lib
set_option linter.unusedVariables false
set_option linter.unusedSimpArgs false
theorem eI_map (x : List Int) : x.flatMap eI = x.map (Value.int .i64) := by
  induction x with
  | nil => rfl
  | cons a x ih => rw [List.flatMap_cons, ih]; rfl
theorem one_I (x : List Int) : ∀ v ∈ x.flatMap eI, v.oneCell' = true := by
  intro v hv
  rw [eI_map] at hv
  obtain ⟨z, _, rfl⟩ := List.mem_map.1 hv
  rfl
theorem far_rows {w0 w : World} {L : List Asn} (S : St w0 w L) {k m : Nat} {a b : Asn} (ha : L[k]? = some a) (hb : L[m]? = some b) (h : k ≠ m) : a.far b := by
  obtain ⟨h1, h2⟩ := List.getElem?_eq_some_iff.1 ha
  obtain ⟨h3, h4⟩ := List.getElem?_eq_some_iff.1 hb
  subst h2 h4
  rcases Nat.lt_or_ge k m with h5 | h5
  · exact List.pairwise_iff_getElem.1 S.apart k m h1 h3 h5
  · exact (List.pairwise_iff_getElem.1 S.apart m k h3 h1 (by omega)).symm
theorem ins_room {w0 w w1 : World} {L : List Asn} {x : List Int} {y : Int} {g off n c k i : Nat} {cur : Array Value} (S : St w0 w L) (hk : L[k]? = some (.row 3 1 (.slice (some ⟨g, off, none⟩) n c) n (x.flatMap eI))) (hn : n = x.length)
    (hb : Bk w g 3 cur) (hx : (cur.toList.drop off).take (n * 1) = x.flatMap eI) (hi : i ≤ n) (hroom : n + 1 ≤ c) (hc : c ≤ maxLen) (hs : off + c * 1 ≤ cur.size) (hw : Bk w1 g 3 cur) (hg : Grown w w1 [g]) :
    St w0 ((w1.setCells g (off + (i + 1)) ((x.flatMap eI).drop i)).setCells g (off + i) [.int .i64 y]) (L.set k (.row 3 1 (.slice (some ⟨g, off, none⟩) (n + 1) c) (n + 1) ((x.take i ++ [y] ++ x.drop i).flatMap eI))) := by
  obtain ⟨b1, g1⟩ := put_bk ((x.flatMap eI).drop i) cur (off + (i + 1)) w1 hw
  obtain ⟨b2, g2⟩ := put_bk [.int .i64 y] _ (off + i) _ b1
  have hl : (x.flatMap eI).length = n := by rw [eI_map, List.length_map, hn]
  have hc2 := ins_cells (cur := cur) (xs := x.flatMap eI) (y := .int .i64 y) (off := off) (n := n) (i := i) (c := c) (by simpa using hx) hl hi hroom (by omega)
  refine S.turn1 hk ((hg.trans g1).trans g2) (fun x hx => by simpa [Asn.foot, Value.ownBlock] using hx) ?_ (fun x hx => .inl (by simpa [Asn.foot, Value.ownBlock] using hx))
  have e : (x.take i ++ [y] ++ x.drop i).flatMap eI = (x.flatMap eI).take i ++ [.int .i64 y] ++ (x.flatMap eI).drop i := by
    rw [eI_map, eI_map, List.map_append, List.map_append, List.map_take, List.map_drop]; rfl
  refine ⟨?_, .inr ⟨g, off, c, _, rfl, b2, hroom, hc, ?_, ?_⟩⟩
  · rw [eI_map, List.length_map, List.length_append, List.length_append, List.length_take, List.length_drop]; simp; omega
  · rw [over_size, over_size]; exact hs
  · rw [e, ← hc2]; simp
theorem ins_new {w0 w w1 : World} {L : List Asn} {x : List Int} {y : Int} {A : Option Addr} {n c k i d : Nat} {cur : Array Value} (S : St w0 w L) (hk : L[k]? = some (.row 3 1 (.slice A n c) n (x.flatMap eI))) (hn : n = x.length) (hi : i ≤ n)
    (hb : Bk w1 w.heap.size 3 cur) (hg : Grown w w1 []) (hx : cur.toList.take (n + 1) = (x.flatMap eI).take i ++ [.int .i64 y] ++ (x.flatMap eI).drop i) (h1 : n + 1 ≤ d) (h2 : d ≤ maxLen) (h3 : d ≤ cur.size) :
    St w0 w1 (L.set k (.row 3 1 (.slice (some ⟨w.heap.size, 0, none⟩) (n + 1) d) (n + 1) ((x.take i ++ [y] ++ x.drop i).flatMap eI))) := by
  have e : (x.take i ++ [y] ++ x.drop i).flatMap eI = (x.flatMap eI).take i ++ [.int .i64 y] ++ (x.flatMap eI).drop i := by
    rw [eI_map, eI_map, List.map_append, List.map_append, List.map_take, List.map_drop]; rfl
  refine S.turn1 hk hg (fun x hx => by simp at hx) ?_ (fun x hx => .inr (by simp [Asn.foot, Value.ownBlock] at hx; omega))
  refine ⟨?_, .inr ⟨w.heap.size, 0, d, cur, rfl, hb, h1, h2, by omega, ?_⟩⟩
  · rw [eI_map, List.length_map, List.length_append, List.length_append, List.length_take, List.length_drop]; simp; omega
  · rw [e, ← hx]; simp
end Go.Proofs.YtcmnjaccapbhfaaGreat
