/- ReadState of the program. -/
import Derived.Test.YtpbloofmeebgiaaReadA
namespace Go.Proofs.Ytpbloofmeebgiaa
open Go.ChangeShapes Go.WideShapes Go.ChangeAt Go.RowKit

theorem st_ok {l : List UInt8} (h : rsOk l = true) : stText (l.map (· == 49)) = l := by
  simp only [rsOk, Bool.and_eq_true, decide_eq_true_eq] at h
  simp only [stText, List.length_map, h.1, if_true, List.map_map]
  have : ∀ c ∈ l, (bch ∘ (· == 49)) c = c := by
    intro c hc
    have := List.all_eq_true.1 h.2 c hc
    simp only [isBit, Bool.or_eq_true, beq_iff_eq] at this
    rcases this with rfl | rfl <;> rfl
  rw [List.map_congr_left this]; simp
theorem st_no {l : List UInt8} (h10 : l.length ≤ 10) (h : rsOk l = false) : stText (l.map (· == 49)) ≠ l := by
  intro e
  have : rsOk l = true := by
    simp only [rsOk, h10, decide_true, Bool.true_and]
    rw [← e]
    simp only [stText, List.length_map, h10, if_true, List.map_map, List.all_map]
    refine List.all_eq_true.2 fun c _ => ?_
    simp only [Function.comp_apply, bch]
    split <;> rfl
  rw [h] at this
  cases this

theorem byte_eq49 (c : UInt8) : (c == 49) = (((c.toNat : Int)) == 49) := by
  rw [Bool.eq_iff_iff, beq_iff_eq, beq_iff_eq]
  constructor
  · rintro rfl; rfl
  · intro h; exact UInt8.toNat_inj.1 (by simpa using (by omega : c.toNat = 49))

set_option maxHeartbeats 1000000 in
theorem iReadState_calls (s : ByteArray) (w : World) (hs : s.size ≤ 1048576) :
    Calls Try.prog 21 #[.string s] w fun e w' => ∃ A c, e = .returned (.tuple #[.slice A (rsVal s.data.toList).length c, .bool (rsOk s.data.toList)]) ∧ w'.ownsRow w.heap.size 4 1 (.slice A (rsVal s.data.toList).length c) (rsVal s.data.toList).length ((rsVal s.data.toList).map .bool) ∧ Below w.heap.size w w' := by
  by_cases h10 : s.size ≤ 10
  · have hmk := run_make_row' (P := Try.prog) 22 4 (.bool false) 1 Try.underlying22 info_bool rfl .i64 .i64 s.size (by omega) (by omega)
    have hlen : s.data.toList.length = s.size := by simp
    have H3 := Lib.hid hlen
    clear hlen
    go_enter Try.func21, Try.ntmps21
    go_wp2
    go_loopw [14] (fun i wr => ∃ k : Nat, k ≤ s.size ∧ i = .int .i64 k ∧ Bk wr w.heap.size 4 (filled ((s.data.toList.map (· == 49)).map Value.bool) (.bool false) k).toArray ∧ Below w.heap.size w wr) (fun i _ => s.size - (intOf i).toNat)
    case atStart =>
      refine ⟨0, Nat.zero_le _, rfl, ?_, (by repeat' (first | exact Below.refl _ _ | assumption | refine Below.drew ?_ | refine cell_drew ?_ | refine Below.setCell ?_ (by (try simp); (try omega)) _ | refine Below.alloc ?_ (by (try simp); (try omega)) _ | refine below_step (by assumption) (by (try simp); (try omega)) ?_))⟩
      rw [filled_zero, made_one]
      simpa using Bk.new w _ _
    case round =>
      obtain ⟨k, hk, rfl, B0, b7⟩ := hrel
      by_cases hlt : k < s.size
      · obtain ⟨f1, f2⟩ := B0.atl (filled_get _ _ (by simpa using hlt))
        have HS := Lib.hid (filled_set ((s.data.toList.map (· == 49)).map Value.bool) (.bool false) (k := k) (by simpa using hlt))
        have hge : s.data.toList[k]'(by simpa using hlt) = s[k] := by simp; rfl
        have HG := Lib.hid hge
        clear hge
        go_wp2
        refine ⟨⟨k + 1, hlt, by go_num, ?_, (by repeat' (first | exact Below.refl _ _ | assumption | refine Below.drew ?_ | refine cell_drew ?_ | refine Below.setCell ?_ (by (try simp); (try omega)) _ | refine Below.alloc ?_ (by (try simp); (try omega)) _ | refine below_step (by assumption) (by (try simp); (try omega)) ?_))⟩, by simp [intOf]; omega⟩
        rw [← HS.out]
        have e : ((s.data.toList.map (· == 49)).map Value.bool)[k]'(by simpa using hlt) = .bool (((s[k].toNat : Int)) == 49) := by
          simp only [List.getElem_map, HG.out, byte_eq49]
        rw [e]
        exact B0.setl k _
      · obtain rfl : k = s.size := by omega
        rw [filled_all _ _ (by simp)] at B0
        have R := B0.rd1
        simp only [List.length_map, H3.out] at R
        have hm : s.size = (s.data.toList.map (· == 49)).length := by simp
        cases hok : rsOk s.data.toList
        · have hv : rsVal s.data.toList = [] := by simp [rsVal, hok]
          have H1 := Lib.hid hok
          have H2 := Lib.hid hv
          have hne : (⟨(stText (s.data.toList.map (· == 49))).toArray⟩ : ByteArray) ≠ s := fun e => st_no (by rw [H3.out]; exact h10) hok (by have := congrArg (fun b : ByteArray => b.data.toList) e; simpa using this)
          have HN := Lib.hid hne
          have HM := Lib.hid hm
          clear hok hv hm hne
          go_wp2_with fail
          rw [HM.out]
          refine (iStateText_calls (s.data.toList.map (· == 49)) _ _ _ (by rw [← HM.out]; exact R) (by rw [← HM.out]; omega)).mono ?_
          generalize hx : (⟨(stText (s.data.toList.map (· == 49))).toArray⟩ : ByteArray) = x at HN ⊢
          clear hx
          rintro e w1 ⟨rfl, hb1⟩
          rw [← HM.out]
          have hne : (x.toList == s.toList) = false := by
            rw [beq_eq_false_iff_ne, ByteArray.toList_eq, ByteArray.toList_eq]
            exact fun e => HN.out (by cases x; cases s; simpa using e)
          go_wp2
          go_ret2
          rw [H1.out, H2.out]
          exact ⟨_, _, rfl, World.ownsRow_nil _ _ _ _, below_after' hb1 b7⟩
        · have hv : rsVal s.data.toList = s.data.toList.map (· == 49) := by simp [rsVal, hok]
          have H1 := Lib.hid hok
          have H2 := Lib.hid hv
          have he : (⟨(stText (s.data.toList.map (· == 49))).toArray⟩ : ByteArray) = s := by rw [st_ok hok]
          have HE := Lib.hid he
          have HM := Lib.hid hm
          clear hok hv he hm
          go_wp2_with fail
          rw [HM.out]
          refine (iStateText_calls (s.data.toList.map (· == 49)) _ _ _ (by rw [← HM.out]; exact R) (by rw [← HM.out]; omega)).mono ?_
          rw [HE.out]
          rintro e w1 ⟨rfl, hb1⟩
          rw [← HM.out]
          go_wp2
          go_ret2
          rw [H1.out, H2.out, ← HM.out]
          exact ⟨_, _, rfl, own_after (own_bk B0 (Nat.le_refl _) (by simp) (by unfold maxLen; omega)) hb1, below_after' hb1 b7⟩
  · have hno : rsOk s.data.toList = false := by
      unfold rsOk
      rw [Bool.and_eq_false_iff]
      exact .inl (by simp; omega)
    have hv : rsVal s.data.toList = [] := by simp [rsVal, hno]
    rw [hno, hv]
    clear hno hv
    have h10' : (10 : Int) < s.size := by omega
    go_enter Try.func21, Try.ntmps21
    go_wp2
    go_ret2
    exact ⟨_, _, rfl, World.ownsRow_nil _ _ _ _, Below.refl _ _⟩

end Go.Proofs.Ytpbloofmeebgiaa
