/- slices.Insert at []int: the contract. -/
import Derived.Test.YtcmnjaccapbhfaaGreatQInsC
namespace Go.Proofs.YtcmnjaccapbhfaaGreat
open Go.ChangeShapes Go.WideShapes Go.ChangeAt Go.RowKit Go.Lib
set_option linter.unusedVariables false
set_option linter.unusedSimpArgs false
set_option maxRecDepth 100000
theorem grown_self (w : World) : Grown w w.drew [] := ⟨rfl, rfl, rfl, Nat.le_refl _, fun _ _ _ => rfl⟩
theorem grown_more {w w' : World} (g : Nat) (h : Grown w w' []) : Grown w w' [g] := ⟨h.os, h.tape, h.output, h.size, fun k hk hn => h.block k hk (by simp)⟩
theorem grown_new (w : World) (o : Obj) : Grown w (w.alloc o) [] := ⟨rfl, rfl, rfl, by show w.heap.size ≤ (w.heap.push o).size; rw [Array.size_push]; omega, fun k hk _ => Below.heap_alloc w o k hk⟩
theorem bk_new (w : World) (cs : Array Value) (t : TypeId) : Bk (w.alloc (.cells cs t)) w.heap.size t cs := Bk.new w t cs
theorem zeros_size (k : Nat) : (Builtin.zeroCells (Value.int .i64 0).cells k).size = k := by
  have : (Value.int .i64 0).cells.size = 1 := rfl
  simp [Builtin.zeroCells, this]
theorem ins_cells2 {cur : Array Value} {xs : List Value} {y : Value} {n i : Nat} (hl : xs.length = n) (hi : i ≤ n) (hx : ∀ k, k < i → cur[k]? = xs[k]?) (hs : n + 1 ≤ cur.size) :
    (over (over cur i [y]) (i + 1) (xs.drop i)).toList.take (n + 1) = xs.take i ++ [y] ++ xs.drop i := by
  have hd : (xs.drop i).length = n - i := by rw [List.length_drop, hl]
  apply List.ext_getElem?
  intro k
  by_cases hk : k < n + 1
  · rw [List.getElem?_take, if_pos hk, Array.getElem?_toList, over_get _ _ _ _ (by rw [over_size, hd]; omega), over_get _ _ _ _ (by simp only [List.length_singleton]; omega)]
    simp only [List.length_singleton, hd]
    by_cases h1 : k < i
    · rw [if_neg (by omega), if_neg (by omega), List.append_assoc, List.getElem?_append_left (by rw [List.length_take]; omega), List.getElem?_take, if_pos h1, hx k h1]
    · have hti : (xs.take i).length = i := by rw [List.length_take]; omega
      rw [List.append_assoc, List.getElem?_append_right (by omega), hti]
      by_cases h2 : k = i
      · subst h2
        rw [if_neg (by omega), if_pos (by omega)]; simp
      · rw [if_pos (by omega), show k - i = (k - (i + 1)) + 1 by omega]; rfl
  · rw [List.getElem?_eq_none (by rw [List.length_take]; omega), List.getElem?_eq_none (by simp only [List.length_append, List.length_take, List.length_drop, List.length_singleton]; omega)]
theorem ins_len {x : List Int} {y i : Int} (h0 : 0 ≤ i) (h : i ≤ (x.length : Int)) : x.length + 1 = (x.take i.toNat ++ [y] ++ x.drop i.toNat).length := by
  simp only [List.length_append, List.length_take, List.length_drop, List.length_singleton]; omega
theorem ins_calls {L : List Asn} {w0 w : World} {x : List Int} {y i : Int} {A B : Option Addr} {n c vc k m : Nat} (S : St w0 w L) (hk : L[k]? = some (.row 3 1 (.slice A n c) n (x.flatMap eI))) (hn : n = x.length) (hv : L[m]? = some (.row 3 1 (.slice B 1 vc) 1 (([y] : List Int).flatMap eI))) (hkm : k ≠ m) (hi : 0 ≤ i ∧ i ≤ (n : Int)) (hlen : n + 1 ≤ 1099511627776) :
    Calls Tryz.prog 99 #[.slice A n c, .int .i64 i, .slice B 1 vc] w (fun e w' => ∃ (B' : Option Addr) (D : Nat), e = .returned (.slice B' (n + 1) D) ∧ St w0 w' (L.set k (.row 3 1 (.slice B' (n + 1) D) (n + 1) ((x.take i.toNat ++ [y] ++ x.drop i.toNat).flatMap eI)))) := by
  obtain ⟨j, rfl⟩ : ∃ j : Nat, i = (j : Int) := ⟨i.toNat, by omega⟩
  have hj : j ≤ n := by omega
  rw [Int.toNat_natCast]
  have hxl : (x.flatMap eI).length = n := by rw [eI_map, List.length_map, hn]
  obtain ⟨vg, voff, rfl, hvs⟩ := (S.rd m hv).2 (by omega)
  have hvs' : ∀ q v, ([.int .i64 y] : List Value)[q]? = some v → w.cell? ⟨vg, voff + q, none⟩ = some v := fun q v h => hvs q v h
  have h1v : ∀ v ∈ ([.int .i64 y] : List Value), v.oneCell' = true := fun v h => by simp at h; subst h; rfl
  have h1c := one_I x
  rcases row_form S hk with ⟨rfl, h0, rfl⟩ | ⟨g, off, cur, rfl, hb, hx, hnc, hc, hs⟩
  · subst h0
    have hx0 : x = [] := List.eq_nil_of_length_eq_zero hn.symm
    subst hx0
    obtain rfl : j = 0 := by omega
    have h := Any2.slices_Insert_int_end_grow insLays none 0 0 vg voff 1 vc [] [.int .i64 y] w (by omega) (by omega) (by omega) (by omega) rfl rfl (fun _ => rfl) (fun a h => by cases h) hvs' h1v
    refine h.mono ?_
    rintro e w' ⟨rfl, rfl⟩
    refine ⟨_, _, rfl, ?_⟩
    have hge := grownCap_ge w (0 + 1) 0 (insRen.t 3)
    refine ins_new (cur := ([] ++ [Value.int .i64 y]).toArray ++ Builtin.zeroCells (Value.int .i64 0).cells (grownCap w (0 + 1) 0 (insRen.t 3) - (0 + 1))) S hk rfl (Nat.le_refl 0) (bk_new w.drew _ _) ((grown_self w).trans (grown_new w.drew _)) (by simp) hge (grownCap_le_maxLen w (0 + 1) 0 _ (by decide)) ?_
    rw [Array.size_append, zeros_size]
    simp only [List.nil_append, List.size_toArray, List.length_singleton]
    omega
  · have hcell : ∀ q v, (x.flatMap eI)[q]? = some v → w.cell? ⟨g, off + q, none⟩ = some v := by
      intro q v hq
      have hn0 : 0 < n := by
        rcases Nat.eq_zero_or_pos n with h | h
        · rw [List.getElem?_eq_none (by omega)] at hq; cases hq
        · exact h
      obtain ⟨b', o', e, hc'⟩ := (S.rd k hk).2 hn0
      injection e with e
      injection e with e1 e2
      subst e1 e2
      exact hc' q v hq
    by_cases hroom : n + 1 ≤ c
    · have hc63 : c ≤ 9223372036854775807 := hc
      have hsp : ∀ q, q < n + 1 → (w.cell? ⟨g, off + q, none⟩).isSome = true := by
        intro q hq
        rw [cell_of_row w g _ cur 3 (0, 0) hb, Array.getElem?_eq_getElem (by omega)]; rfl
      have hfz : ∀ q, w.frozen? ⟨g, q, none⟩ = false := by
        intro q
        have : w.heap[g]? = some (.cells cur 3 (0, 0)) := hb
        simp [World.frozen?, this]
      by_cases hjn : j = n
      · subst hjn
        have h := Any2.slices_Insert_int_end_room insLays g off j c vg voff 1 vc [.int .i64 y] w (by omega) hroom hc63 rfl (fun q hq => by rw [Nat.add_assoc]; exact hsp _ (by omega)) (fun q _ => hfz _) hvs' h1v
        refine h.mono ?_
        rintro e w' ⟨rfl, rfl⟩
        have h2 := ins_room (w1 := w) (y := y) S hk hn hb hx (Nat.le_refl j) hroom hc hs hb ⟨rfl, rfl, rfl, Nat.le_refl _, fun _ _ _ => rfl⟩
        rw [List.drop_eq_nil_of_le (by omega)] at h2
        exact ⟨_, _, rfl, h2⟩
      · rcases row_form S hv with ⟨hB, _⟩ | ⟨vg', voff', vcur, hB, hvb, _⟩
        · cases hB
        injection hB with hB
        injection hB with e1 e2
        subst e1 e2
        have hne : vg ≠ g := by
          have := (far_rows S hk hv hkm).1 g (by simp [Asn.wf, Asn.foot, Value.ownBlock])
          simpa [Asn.foot, Value.ownBlock, eq_comm] using this
        have hvf : ∀ q, w.frozen? ⟨vg, q, none⟩ = false := by
          intro q
          have : w.heap[vg]? = some (.cells vcur 3 (0, 0)) := hvb
          simp [World.frozen?, this]
        have hsa : w.shape? vg = some (3, vcur.size) := by
          have : w.heap[vg]? = some (.cells vcur 3 (0, 0)) := hvb
          simp [World.shape?, this]
        have hsb : w.shape? g = some (3, cur.size) := by
          have : w.heap[g]? = some (.cells cur 3 (0, 0)) := hb
          simp [World.shape?, this]
        have h := Any2.slices_Insert_int_shift insLays g off n c j vg voff 1 vc (x.flatMap eI) [.int .i64 y] w (by omega) (by omega) hroom hc63 hne hxl rfl hcell hsp (fun q _ => hfz _) hvs' h1c h1v 3 3 vcur.size cur.size hsa hsb (by omega) (hvf _) (hvf _)
        refine h.mono ?_
        rintro e w' ⟨rfl, rfl⟩
        exact ⟨_, _, rfl, ins_room (w1 := w.drew) S hk hn hb hx hj hroom hc hs hb (grown_more g (grown_self w))⟩
    · have hge := grownCap_ge w (n + 1) c (insRen.t 3)
      have hmx := grownCap_le_maxLen w (n + 1) c (insRen.t 3) (by unfold maxLen; omega)
      by_cases hjn : j = n
      · subst hjn
        have h := Any2.slices_Insert_int_end_grow insLays (some ⟨g, off, none⟩) j c vg voff 1 vc (x.flatMap eI) [.int .i64 y] w (by omega) hnc (by omega) (by omega) hxl rfl (fun h => by cases h) (fun a h q v hq => by
          injection h with h
          subst h
          rw [Go.WideShapes.add_plain]
          exact hcell q v hq) hvs' h1v
        refine h.mono ?_
        rintro e w' ⟨rfl, rfl⟩
        have hL : (x.flatMap eI ++ [Value.int .i64 y]).length = j + 1 := by rw [List.length_append, hxl]; rfl
        refine ⟨_, _, rfl, ins_new S hk hn (Nat.le_refl j) (bk_new w.drew _ _) ((grown_self w).trans (grown_new w.drew _)) ?_ hge hmx ?_⟩
        · rw [Array.toList_append]
          show List.take (j + 1) ((x.flatMap eI ++ [Value.int .i64 y]) ++ _) = _
          rw [List.take_append_of_le_length (show j + 1 ≤ (x.flatMap eI ++ [Value.int .i64 y]).length by omega), List.take_of_length_le (show (x.flatMap eI ++ [Value.int .i64 y]).length ≤ j + 1 by omega), List.take_of_length_le (show (x.flatMap eI).length ≤ j by omega), List.drop_eq_nil_of_le (show (x.flatMap eI).length ≤ j by omega), List.append_nil]
        · rw [Array.size_append, zeros_size, List.size_toArray]; omega
      · have h := Any2.slices_Insert_int_grow insLays g off n c j vg voff 1 vc (x.flatMap eI) [.int .i64 y] w (by omega) (by omega) hnc (by omega) (by omega) hxl rfl hcell hvs' h1c h1v
        refine h.mono ?_
        rintro e w' ⟨rfl, rfl⟩
        generalize hC : ((x.flatMap eI).take j).toArray ++ Builtin.zeroCells (Value.int .i64 0).cells (n + 1 - j) ++ Builtin.zeroCells (Value.int .i64 0).cells (grownCap w (n + 1) c (insRen.t 3) - (n + 1)) = C
        have hCs : C.size = grownCap w (n + 1) c (insRen.t 3) := by
          rw [← hC, Array.size_append, Array.size_append, zeros_size, zeros_size, List.size_toArray, List.length_take, hxl]; omega
        have hCx : ∀ q, q < j → C[q]? = (x.flatMap eI)[q]? := by
          intro q hq
          rw [← hC, Array.append_assoc, Array.getElem?_append_left (by rw [List.size_toArray, List.length_take, hxl]; omega)]
          rw [List.getElem?_toArray, List.getElem?_take, if_pos hq]
        have b0 : Bk (w.alloc (.cells C (insRen.t 3))).drew w.heap.size 3 C := bk_new w C 3
        obtain ⟨b1, g1⟩ := put_bk [.int .i64 y] C j _ b0
        have b1' : Bk (((w.alloc (.cells C (insRen.t 3))).drew.setCells w.heap.size j [.int .i64 y]).drew) w.heap.size 3 (over C j [.int .i64 y]) := b1
        obtain ⟨b2, g2⟩ := put_bk ((x.flatMap eI).drop j) _ (j + 1) _ b1'
        refine ⟨_, _, rfl, ins_new S hk hn hj b2 ?_ (ins_cells2 hxl hj hCx (by omega)) hge hmx (by rw [over_size, over_size, hCs]; exact Nat.le_refl _)⟩
        have gall := ((((grown_more w.heap.size (grown_new w (.cells C (insRen.t 3)))).trans (grown_more w.heap.size (grown_self _))).trans g1).trans (grown_more w.heap.size (grown_self _))).trans g2
        exact ⟨gall.os, gall.tape, gall.output, gall.size, fun q hq _ => gall.block q hq (by simp; omega)⟩
end Go.Proofs.YtcmnjaccapbhfaaGreat
