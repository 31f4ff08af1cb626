/- StateText of both. -/
import Derived.Test.YtpbloofmeebgiaaStateA
import Derived.Laws.IdiomStrings
namespace Go.Proofs.Ytpbloofmeebgiaa
open Go.ChangeShapes Go.WideShapes Go.ChangeAt Go.RowKit

def bch (b : Bool) : UInt8 := if b then 49 else 48
def stText (bs : List Bool) : List UInt8 := if bs.length ≤ 10 then bs.map bch else []

theorem str_app (l : List UInt8) (c : UInt8) : (⟨l.toArray⟩ : ByteArray) ++ ⟨#[c]⟩ = ⟨(l ++ [c]).toArray⟩ := by
  apply ByteArray.ext; simp
theorem take_snoc {α : Type} (l : List α) {k : Nat} (h : k < l.length) : l.take (k + 1) = l.take k ++ [l[k]] := List.take_succ_eq_append_getElem h

set_option maxHeartbeats 1000000 in
theorem sStateText_calls (bs : List Bool) (A : Option Addr) (c : Nat) (w : World) (h : Rd w 1 A bs.length (bs.map .bool)) (hn : bs.length ≤ 1048576) :
    Calls Try.prog 10 #[.slice A bs.length c] w fun e w' => e = .returned (.string ⟨(stText bs).toArray⟩) ∧ Below w.heap.size w w' := by
  by_cases h10 : bs.length ≤ 10
  · go_enter Try.func10, Try.ntmps10
    go_wp2
    go_loop [3, 4] (fun o i => ∃ k : Nat, k ≤ bs.length ∧ i = .int .i64 k ∧ o = .string ⟨((bs.map bch).take k).toArray⟩) (fun _ i => bs.length - (intOf i).toNat)
    case atStart => exact ⟨0, Nat.zero_le _, rfl, rfl⟩
    case round =>
      obtain ⟨k, hk, rfl, rfl⟩ := hrel
      by_cases hlt : k < bs.length
      · obtain ⟨b, off, rfl, hb0, u, hu, hc⟩ := h.at1 hlt
        obtain rfl : u = .bool bs[k] := by simpa [hlt] using hu.symm
        have HT := Lib.hid (take_snoc (bs.map bch) (k := k) (by simpa using hlt))
        cases hb : bs[k]
        all_goals
          rw [hb] at hc
          go_wp2
          refine ⟨⟨k + 1, hlt, by go_num, ?_⟩, by simp [intOf]; omega⟩
          rw [HT.out, str_app]
          simp [hb, bch]
      · go_wp2
        go_ret
        obtain rfl : k = bs.length := by omega
        exact ⟨by rw [List.take_of_length_le (by simp)]; simp [stText, h10], Below.refl _ _⟩
  · have h10' : ¬ ((bs.length : Int) ≤ 10) := by omega
    go_enter Try.func10, Try.ntmps10
    go_wp2
    go_loop [3, 4] (fun o i => i = .int .i64 0 ∧ o = .string ⟨#[]⟩) (fun _ i => 0)
    case atStart => exact ⟨rfl, rfl⟩
    case round =>
      obtain ⟨rfl, rfl⟩ := hrel
      go_wp2
      go_ret
      exact ⟨by simp [stText, h10], Below.refl _ _⟩

theorem info_u8 : (Try.prog.info? 5).map (fun i => (i.zero, i.size, i.bytes)) = some (some (.int .u8 0), 1, 1) := by kernel_rfl
def vch (b : Bool) : Value := .int .u8 (if b then 49 else 48)

set_option maxHeartbeats 1000000 in
theorem iStateText_calls (bs : List Bool) (A : Option Addr) (c : Nat) (w : World) (h : Rd w 1 A bs.length (bs.map .bool)) (hn : bs.length ≤ 1048576) :
    Calls Try.prog 12 #[.slice A bs.length c] w fun e w' => e = .returned (.string ⟨(stText bs).toArray⟩) ∧ Below w.heap.size w w' := by
  by_cases h10 : bs.length ≤ 10
  · have hmk := run_make_row' (P := Try.prog) 60 5 (.int .u8 0) 1 Try.underlying60 info_u8 rfl .i64 .i64 bs.length (by omega) (by omega)
    go_enter Try.func12, Try.ntmps12
    go_wp2
    go_loopw [14] (fun i wr => ∃ k : Nat, k ≤ bs.length ∧ i = .int .i64 k ∧ Bk wr w.heap.size 5 (filled (bs.map vch) (.int .u8 0) k).toArray ∧ Below w.heap.size w wr) (fun i _ => bs.length - (intOf i).toNat)
    case atStart =>
      refine ⟨0, Nat.zero_le _, rfl, ?_, (by repeat' (first | exact Below.refl _ _ | assumption | refine Below.drew ?_ | refine cell_drew ?_ | refine Below.setCell ?_ (by (try simp); (try omega)) _ | refine Below.alloc ?_ (by (try simp); (try omega)) _ | refine below_step (by assumption) (by (try simp); (try omega)) ?_))⟩
      rw [filled_zero, made_one]
      simpa using Bk.new w _ _
    case round =>
      obtain ⟨k, hk, rfl, B0, b7⟩ := hrel
      by_cases hlt : k < bs.length
      · obtain ⟨b, off, rfl, hb0, u, hu, hc⟩ := h.at1 hlt
        obtain rfl : u = .bool bs[k] := by simpa [hlt] using hu.symm
        have hc' : wr.cell? ⟨b, off + k, none⟩ = some (.bool bs[k]) := (b7.cell (p := ⟨b, off + k, none⟩) hb0).trans hc
        obtain ⟨f1, f2⟩ := B0.atl (filled_get _ _ (by simpa using hlt))
        have hs := filled_set (bs.map vch) (.int .u8 0) (k := k) (by simpa using hlt)
        have HS := Lib.hid hs
        clear hs
        cases hb : bs[k]
        · rw [hb] at hc'
          go_wp2
          go_roundw
          case rel =>
            refine ⟨k + 1, hlt, by go_num, ?_, (by repeat' (first | exact Below.refl _ _ | assumption | refine Below.drew ?_ | refine cell_drew ?_ | refine Below.setCell ?_ (by (try simp); (try omega)) _ | refine Below.alloc ?_ (by (try simp); (try omega)) _ | refine below_step (by assumption) (by (try simp); (try omega)) ?_))⟩
            have := B0.setl k (.int .u8 48)
            rw [← HS.out]
            simpa [vch, hb] using this
          case measure => simp [intOf]; omega
        · rw [hb] at hc'
          go_wp2
          go_roundw
          case rel =>
            refine ⟨k + 1, hlt, by go_num, ?_, (by repeat' (first | exact Below.refl _ _ | assumption | refine Below.drew ?_ | refine cell_drew ?_ | refine Below.setCell ?_ (by (try simp); (try omega)) _ | refine Below.alloc ?_ (by (try simp); (try omega)) _ | refine below_step (by assumption) (by (try simp); (try omega)) ?_))⟩
            have := (B0.setl k (.int .u8 48)).setl k (.int .u8 49)
            rw [← HS.out]
            simpa [vch, hb] using this
          case measure => simp [intOf]; omega
      · obtain rfl : k = bs.length := by omega
        rw [filled_all _ _ (by simp)] at B0
        have hcv := run_convert_bytes_back (P := Try.prog) wr 60 9 5 ⟨w.heap.size, 0, none⟩ bs.length (bs.map bch) Try.underlying60 Try.underlying5 Try.underlying9 (fun j hj => by
          have hj' : j < bs.length := by simpa using hj
          have e : (⟨w.heap.size, 0, none⟩ : Addr).add j = ⟨w.heap.size, j, none⟩ := by unfold Addr.add; split <;> simp_all
          rw [e, (B0.at_ j).1]
          simp only [List.getElem?_toArray, List.getElem?_map, List.getElem?_eq_getElem hj', Option.map_some, List.getElem_map, vch, bch]
          cases bs[j] <;> rfl)
        simp only [List.length_map] at hcv
        go_wp2
        go_ret
        exact ⟨by simp [stText, h10], b7⟩
  · have h10' : (10 : Int) < bs.length := by omega
    go_enter Try.func12, Try.ntmps12
    go_wp2
    go_ret
    exact ⟨by simp [stText, h10], Below.refl _ _⟩

end Go.Proofs.Ytpbloofmeebgiaa
