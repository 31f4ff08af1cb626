/- ReadState of the reference. -/
import Derived.Test.YtpbloofmeebgiaaMarkB
import Derived.Test.YtpbloofmeebgiaaStateB
import Derived.OwnWalk
import Derived.Maps.AppendAt
namespace Go.Proofs.Ytpbloofmeebgiaa
open Go.ChangeShapes Go.WideShapes Go.ChangeAt Go.RowKit

def isBit (c : UInt8) : Bool := c == 48 || c == 49
def rsOk (l : List UInt8) : Bool := decide (l.length ≤ 10) && l.all isBit
def rsVal (l : List UInt8) : List Bool := if rsOk l then l.map (· == 49) else []

theorem own_grown {B : Nat} {a w w' : World} {t : TypeId} {size n : Nat} {v : Value} {xs : List Value} {o : Obj} (h : Below B a w) (hown : w.ownsRow B t size v n xs) (hg : (w.alloc o).grownBy w' v.ownBlock) (hB : B ≤ a.heap.size := by exact Nat.le_refl _) : Below B a w' :=
  (h.alloc (Nat.le_trans hB h.size) o).grown hg (by have := h.size; simp; omega) (fun k e => (hown.lt k e).1)
theorem bit_cases (c : UInt8) : (c = 48 ∧ ((c.toNat : Int) != 48) = false ∧ ((c.toNat : Int) == 49) = false) ∨ (c = 49 ∧ ((c.toNat : Int) != 48) = true ∧ ((c.toNat : Int) != 49) = false ∧ ((c.toNat : Int) == 49) = true) ∨ (isBit c = false ∧ ((c.toNat : Int) != 48) = true ∧ ((c.toNat : Int) != 49) = true) := by
  by_cases h1 : c = 48
  · subst h1; exact .inl ⟨rfl, by decide, by decide⟩
  by_cases h2 : c = 49
  · subst h2; exact .inr (.inl ⟨rfl, by decide, by decide, by decide⟩)
  · have h1' : c.toNat ≠ 48 := fun e => h1 (UInt8.toNat_inj.1 (by simpa using e))
    have h2' : c.toNat ≠ 49 := fun e => h2 (UInt8.toNat_inj.1 (by simpa using e))
    refine .inr (.inr ⟨by simp [isBit, h1, h2], ?_, ?_⟩)
    · rw [bne_iff_ne]; omega
    · rw [bne_iff_ne]; omega

set_option maxHeartbeats 1000000 in
theorem sReadState_calls (s : ByteArray) (w : World) (hs : s.size ≤ 1048576) :
    Calls Try.prog 20 #[.string s] w fun e w' => ∃ A c, e = .returned (.tuple #[.slice A (rsVal s.data.toList).length c, .bool (rsOk s.data.toList)]) ∧ w'.ownsRow w.heap.size 4 1 (.slice A (rsVal s.data.toList).length c) (rsVal s.data.toList).length ((rsVal s.data.toList).map .bool) ∧ Below w.heap.size w w' := by
  obtain ⟨i0, hi0, hz0, hz1, hz2⟩ := info_parts info_bool
  by_cases h10 : s.size ≤ 10
  · go_enter Try.func20, Try.ntmps20
    go_wp2
    go_loopw [4, 5] (fun v i wr => ∃ k : Nat, k ≤ s.size ∧ i = .int .i64 k ∧ (s.data.toList.take k).all isBit = true ∧ wr.ownsRow w.heap.size 4 1 v k (((s.data.toList.take k).map (· == 49)).map .bool) ∧ Below w.heap.size w wr) (fun _ i _ => s.size - (intOf i).toNat)
    case atStart => exact ⟨0, Nat.zero_le _, rfl, by simp, World.ownsRow_made _ _ _ (Nat.le_refl _) (Nat.zero_le _) (by simp), (by repeat' (first | exact Below.refl _ _ | assumption | refine Below.drew ?_ | refine cell_drew ?_ | refine Below.setCell ?_ (by (try simp); (try omega)) _ | refine Below.alloc ?_ (by (try simp); (try omega)) _ | refine below_step (by assumption) (by (try simp); (try omega)) ?_))⟩
    case round =>
      obtain ⟨k, hk, rfl, hall, hown, b7⟩ := hrel
      by_cases hlt : k < s.size
      · have hts := take_snoc s.data.toList (k := k) (by simpa using hlt)
        have HT := Lib.hid hts
        clear hts
        have hz := b7.size
        have hge : s.data.toList[k]'(by simpa using hlt) = s[k] := by simp; rfl
        have HG := Lib.hid hge
        clear hge
        rcases bit_cases s[k] with ⟨hb, q1, q2⟩ | ⟨hb, q1, q2, q3⟩ | ⟨hb, q1, q2⟩
        · go_wp2_with (at_builtin; refine wpList_append_own _ rfl _ _ 22 rfl w.heap.size 4 i0 (.bool false) 1 1 Try.underlying22 hi0 hz0 hz1 hz2 rfl (by decide) _ _ _ rfl (hown.alloc _) ⟨wr.heap.size, 0, none⟩ 1 1 [.bool false] rfl rfl (cell_one_new _ _ _) (by intro u hu; simp at hu; subst hu; rfl) (by unfold maxLen; omega) (by omega) (by (try simp); omega) ?_; intro v1 w1 hown1 hgrow1 hnil1)
          refine ⟨⟨k + 1, hlt, by go_num, ?_, ?_, own_grown b7 hown hgrow1⟩, by simp [intOf]; omega⟩
          · rw [HT.out, List.all_append, hall, HG.out, hb]; rfl
          · rw [HT.out, HG.out, hb]; simpa using hown1
        · go_wp2_with (at_builtin; refine wpList_append_own _ rfl _ _ 22 rfl w.heap.size 4 i0 (.bool false) 1 1 Try.underlying22 hi0 hz0 hz1 hz2 rfl (by decide) _ _ _ rfl (hown.alloc _) ⟨wr.heap.size, 0, none⟩ 1 1 [.bool true] rfl rfl (cell_one_new _ _ _) (by intro u hu; simp at hu; subst hu; rfl) (by unfold maxLen; omega) (by omega) (by (try simp); omega) ?_; intro v1 w1 hown1 hgrow1 hnil1)
          refine ⟨⟨k + 1, hlt, by go_num, ?_, ?_, own_grown b7 hown hgrow1⟩, by simp [intOf]; omega⟩
          · rw [HT.out, List.all_append, hall, HG.out, hb]; rfl
          · rw [HT.out, HG.out, hb]; simpa using hown1
        · have hno : rsOk s.data.toList = false := by
            unfold rsOk
            rw [Bool.and_eq_false_iff]
            refine .inr (List.all_eq_false.2 ⟨s[k], ?_, by simp [hb]⟩)
            rw [← HG.out]; exact List.getElem_mem _
          have hv : rsVal s.data.toList = [] := by simp [rsVal, hno]
          have H1 := Lib.hid hno
          have H2 := Lib.hid hv
          clear hno hv
          go_wp2
          go_ret2
          rw [H1.out, H2.out]
          exact ⟨_, _, rfl, World.ownsRow_made _ _ _ b7.size (Nat.zero_le _) (by simp), (by repeat' (first | exact Below.refl _ _ | assumption | refine Below.drew ?_ | refine cell_drew ?_ | refine Below.setCell ?_ (by (try simp); (try omega)) _ | refine Below.alloc ?_ (by (try simp); (try omega)) _ | refine below_step (by assumption) (by (try simp); (try omega)) ?_))⟩
      · obtain rfl : k = s.size := by omega
        have hlen : s.data.toList.length = s.size := by simp
        rw [List.take_of_length_le (by omega)] at hall hown
        have hok : rsOk s.data.toList = true := by unfold rsOk; rw [hall]; simp; omega
        have hv : rsVal s.data.toList = s.data.toList.map (· == 49) := by simp [rsVal, hok]
        have H1 := Lib.hid hok
        have H2 := Lib.hid hv
        have H3 := Lib.hid hlen
        clear hok hv hlen
        obtain ⟨A, c, rfl, _, _, _⟩ := own_form hown
        go_wp2
        go_ret2
        rw [H1.out, H2.out, List.length_map, H3.out]
        exact ⟨A, c, rfl, hown, b7⟩
  · have hno : rsOk s.data.toList = false := by
      unfold rsOk
      rw [Bool.and_eq_false_iff]
      exact .inl (by simp; omega)
    have hv : rsVal s.data.toList = [] := by simp [rsVal, hno]
    rw [hno, hv]
    clear hno hv
    have h10' : (10 : Int) < s.size := by omega
    go_enter Try.func20, Try.ntmps20
    go_wp2
    go_ret2
    exact ⟨_, _, rfl, World.ownsRow_made _ _ _ (Nat.le_refl _) (Nat.zero_le _) (by simp), (by repeat' (first | exact Below.refl _ _ | assumption | refine Below.drew ?_ | refine cell_drew ?_ | refine Below.setCell ?_ (by (try simp); (try omega)) _ | refine Below.alloc ?_ (by (try simp); (try omega)) _ | refine below_step (by assumption) (by (try simp); (try omega)) ?_))⟩

end Go.Proofs.Ytpbloofmeebgiaa
