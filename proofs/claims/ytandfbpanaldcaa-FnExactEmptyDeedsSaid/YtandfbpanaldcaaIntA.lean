/- toIntS, eqIntS: the laws' own functions on lists of numbers. -/
import Derived.Test.YtandfbpanaldcaaSl
import Derived.Test.YtandfbpanaldcaaRg
import Derived.LoopTactic
import Derived.RegionTactic
namespace Go.Proofs.Ytandfbpanaldcaa
open Go.ChangeShapes Go.WideShapes Go.ChangeAt Go.RowKit

theorem info_int : (Try.prog.info? 3).map (fun i => (i.zero, i.size, i.bytes)) = some (some (.int .i64 0), 1, 8) := by kernel_rfl

set_option maxHeartbeats 1000000 in
theorem toIntS_calls (bs : List Int) (A : Option Addr) (c : Nat) (w : World) (h : Rd w 1 A bs.length (bs.map (Value.int .i64))) (hn : bs.length ≤ 1048576) :
    Calls Try.prog 14 #[.slice A bs.length c] w fun e w' => e = .returned (.slice (some ⟨w.heap.size, 0, none⟩) bs.length bs.length) ∧ Bk w' w.heap.size 3 (bs.map (Value.int .i64)).toArray ∧ Below w.heap.size w w' := by
  have hmk := run_make_row' (P := Try.prog) 22 3 (.int .i64 0) 8 Try.underlying22 info_int rfl .i64 .i64 bs.length (by omega) (by omega)
  go_enter Try.func14, Try.ntmps14
  go_wp2
  go_loopw [4] (fun i wr => ∃ k : Nat, k ≤ bs.length ∧ i = .int .i64 k ∧ Bk wr w.heap.size 3 (filled (bs.map (Value.int .i64)) (.int .i64 0) k).toArray ∧ Below w.heap.size w wr) (fun i _ => bs.length - (intOf i).toNat)
  case atStart =>
    refine ⟨0, Nat.zero_le _, rfl, ?_, (by repeat' (first | exact Below.refl _ _ | assumption | refine Below.drew ?_ | refine cell_drew ?_ | refine Below.setCell ?_ (by (try simp); (try omega)) _ | refine Below.alloc ?_ (by (try simp); (try omega)) _ | refine below_step (by assumption) (by (try simp); (try omega)) ?_))⟩
    rw [filled_zero, made_one]
    simpa using Bk.new w _ _
  case round =>
    obtain ⟨k, hk, rfl, B0, b7⟩ := hrel
    by_cases hlt : k < bs.length
    · obtain ⟨b, off, rfl, hb0, u, hu, hc⟩ := h.at1 hlt
      have hc' : wr.cell? ⟨b, off + k, none⟩ = some u := (b7.cell (p := ⟨b, off + k, none⟩) hb0).trans hc
      obtain ⟨f1, f2⟩ := B0.atl (filled_get _ _ (by simpa using hlt))
      obtain rfl : u = .int .i64 bs[k] := by simpa [hlt] using hu.symm
      go_wp2
      go_roundw
      case rel =>
        refine ⟨k + 1, hlt, by go_num, ?_, (by repeat' (first | exact Below.refl _ _ | assumption | refine Below.drew ?_ | refine cell_drew ?_ | refine Below.setCell ?_ (by (try simp); (try omega)) _ | refine Below.alloc ?_ (by (try simp); (try omega)) _ | refine below_step (by assumption) (by (try simp); (try omega)) ?_))⟩
        have := B0.setl k (.int .i64 bs[k])
        rw [show Value.int .i64 bs[k] = (bs.map (Value.int .i64))[k]'(by simpa using hlt) from by simp, filled_set _ _ (by simpa using hlt)] at this
        simpa using this
      case measure => simp [intOf]; omega
    · go_wp2
      go_ret
      obtain rfl : k = bs.length := by omega
      rw [filled_all _ _ (by simp)] at B0
      exact ⟨rfl, B0, b7⟩


set_option maxHeartbeats 1000000 in
theorem eqIntS_same (bs : List Int) (A B : Option Addr) (c d : Nat) (w : World) (h : Rd w 1 A bs.length (bs.map (Value.int .i64))) (h' : Rd w 1 B bs.length (bs.map (Value.int .i64))) (hn : bs.length ≤ 1048576) :
    Calls Try.prog 16 #[.slice A bs.length c, .slice B bs.length d] w fun e w' => e = .returned (.bool true) ∧ Below w.heap.size w w' := by
  have hne : ((bs.length : Int) != (bs.length : Int)) = false := by simp
  go_enter Try.func16, Try.ntmps16
  go_wp2
  go_loopw [5] (fun i wr => ∃ k : Nat, k ≤ bs.length ∧ i = .int .i64 k ∧ Below w.heap.size w wr) (fun i _ => bs.length - (intOf i).toNat)
  case atStart => exact ⟨0, Nat.zero_le _, rfl, Below.refl _ _⟩
  case round =>
    obtain ⟨k, hk, rfl, b7⟩ := hrel
    by_cases hlt : k < bs.length
    · obtain ⟨b, off, rfl, hb0, u, hu, hc⟩ := h.at1 hlt
      obtain ⟨b', off', rfl, hb0', u', hu', hc2⟩ := h'.at1 hlt
      obtain rfl : u = .int .i64 bs[k] := by simpa [hlt] using hu.symm
      obtain rfl : u' = .int .i64 bs[k] := by simpa [hlt] using hu'.symm
      have hc' : wr.cell? ⟨b, off + k, none⟩ = some (.int .i64 bs[k]) := (b7.cell (p := ⟨b, off + k, none⟩) hb0).trans hc
      have hc2' : wr.cell? ⟨b', off' + k, none⟩ = some (.int .i64 bs[k]) := (b7.cell (p := ⟨b', off' + k, none⟩) hb0').trans hc2
      have hi0 : (0 : Int) ≤ (k : Int) := by omega
      have hi1 : (k : Int) < (bs.length : Int) := by omega
      have hne2 : (bs[k] != bs[k]) = false := by simp
      go_wp2
      go_quiet (fail)
      go_wp2
      go_roundw
      case rel => exact ⟨k + 1, hlt, by go_num, ⟨b7.os, b7.tape, b7.output, b7.size, b7.block⟩⟩
      case measure => simp [intOf]; omega
    · go_wp2
      go_ret
      exact ⟨rfl, b7⟩

end Go.Proofs.Ytandfbpanaldcaa
