/- Calls return what the models say. -/
import Derived.Test.YthpmmfbnclfbmaaDaT
namespace Go.Proofs.Ythpmmfbnclfbmaa
open Go.ChangeShapes Go.WideShapes Go.ChangeAt Go.RowKit
set_option linter.unusedVariables false
set_option linter.unusedSimpArgs false

set_option maxHeartbeats 4000000 in
theorem c_laws_szIntS {x0 : List Int} {x1 : Int} {A0 : Option Addr} {n0 c0 : Nat} {w : World} {r : Int} (h0 : Rt w 1 eI A0 n0 c0 x0) (hM : m_laws_szIntS x0 x1 = some r) :
    Calls Try.prog 22 #[.slice A0 n0 c0, .int .i64 x1] w (fun e w' => e = .returned (.int .i64 r) ∧ St w w' []) := by
  obtain rfl := h0.len
  unfold m_laws_szIntS at hM
  refine calls_gw Try.func22 Try.ntmps22 rfl [(0, .slice A0 x0.length c0), (1, .int .i64 x1)] ⟨rfl, rfl, trivial⟩ rfl ?_
  intro a hF
  have S := St.nil w
  refine wp_seq ?_
  refine wp_region_lit ?_
  refine op_val (v := .int .i64 0) rfl rfl hF rfl (run_assign rfl rfl) ?_; clear hF; intro a hF
  refine wpList_nil ?_
  refine wp_seq ?_
  refine wp_region_lit ?_
  refine op_val (v := .int .i64 x1) rfl rfl hF rfl (run_move rfl (hF.ev rfl)) ?_; clear hF; intro a hF
  refine op_val (v := .slice A0 x0.length c0) rfl rfl hF rfl (run_move rfl (hF.ev rfl)) ?_; clear hF; intro a hF
  refine op_val (v := .int .i64 (x0.length : Int)) rfl rfl hF rfl (run_lenL rfl rfl Try.underlying22 (hF.ev rfl)) ?_; clear hF; intro a hF
  refine op_val (v := .int .i64 (w64 (x1 - (x0.length : Int)))) rfl rfl hF rfl (run_sub (z := w64 (x1 - (x0.length : Int))) (hF.ev rfl) (hF.ev rfl) rfl rfl) ?_; clear hF; intro a hF
  refine op_val (v := .int .i64 (w64 (x1 - (x0.length : Int)))) rfl rfl hF rfl (run_assign rfl (hF.ev rfl)) ?_; clear hF; intro a hF
  refine wpList_nil ?_
  refine wp_seq ?_
  refine wp_seq ?_
  refine wp_region_lit ?_
  refine op_val (v := .int .i64 (w64 (x1 - (x0.length : Int)))) rfl rfl hF rfl (run_move rfl (hF.ev rfl)) ?_; clear hF; intro a hF
  refine op_val (v := .bool (ltB (w64 (x1 - (x0.length : Int))) 0)) rfl rfl hF rfl (run_lss (hF.ev rfl) rfl rfl) ?_; clear hF; intro a hF
  refine wpList_nil ?_
  cases hc101 : (ltB (w64 (x1 - (x0.length : Int))) 0)
  · replace hM := bif_f hc101 hM
    refine cond_f hF rfl hc101 ?_
    refine wp_skip ?_
    refine wp_seq ?_
    refine wp_region_lit ?_
    refine op_val (v := .int .i64 (w64 (x1 - (x0.length : Int)))) rfl rfl hF rfl (run_move rfl (hF.ev rfl)) ?_; clear hF; intro a hF
    refine op_val (v := .int .i64 (w64 (x1 - (x0.length : Int)))) rfl rfl hF rfl (run_assign rfl (hF.ev rfl)) ?_; clear hF; intro a hF
    refine wpList_nil ?_
    refine wp_ret ?_
    repeat with_reducible (first | refine then_ret ?_ | refine in_ret ?_ | refine in_nrm ?_)
    refine ret1_gw (.inl rfl) hF rfl (res_tmp (hF.ev rfl)) ?_
    obtain rfl := Option.some.inj hM
    exact ⟨rfl, S.sel [] rfl rfl⟩
  · replace hM := bif_t hc101 hM
    refine cond_t hF rfl hc101 ?_
    refine wp_seq ?_
    refine wp_region_lit ?_
    refine op_val (v := .int .i64 (-1)) rfl rfl hF rfl (run_assign rfl rfl) ?_; clear hF; intro a hF
    refine wpList_nil ?_
    refine wp_ret ?_
    repeat with_reducible (first | refine then_ret ?_ | refine in_ret ?_ | refine in_nrm ?_)
    refine ret1_gw (.inl rfl) hF rfl (res_tmp (hF.ev rfl)) ?_
    obtain rfl := Option.some.inj hM
    exact ⟨rfl, S.sel [] rfl rfl⟩

set_option maxHeartbeats 4000000 in
theorem c_laws_szRooms {x0 : Int} {x1 : Int} {x2 : List Int} {x3 : Int} {A2 : Option Addr} {n2 c2 : Nat} {w : World} {r : Int} (h2 : Rt w 1 eI A2 n2 c2 x2) (hM : m_laws_szRooms x0 x1 x2 x3 = some r) :
    Calls Try.prog 6 #[.agg #[.int .i64 x0, .int .i64 x1, .slice A2 n2 c2], .int .i64 x3] w (fun e w' => e = .returned (.int .i64 r) ∧ St w w' []) := by
  obtain rfl := h2.len
  unfold m_laws_szRooms at hM
  refine calls_gw Try.func6 Try.ntmps6 rfl [(0, .agg #[.int .i64 x0, .int .i64 x1, .slice A2 x2.length c2]), (1, .int .i64 x3)] ⟨rfl, rfl, trivial⟩ rfl ?_
  intro a hF
  have S := St.nil w
  refine wp_seq ?_
  refine wp_region_lit ?_
  refine op_new (cs := #[.int .i64 x0, .int .i64 x1, .slice A2 x2.length c2]) rfl rfl hF rfl S (run_box rfl (hF.ev rfl) rfl) ?_; clear hF S; intro a g101 u hF S
  refine op_val (v := .int .i64 0) rfl rfl hF rfl (run_assign rfl rfl) ?_; clear hF; intro a hF
  refine wpList_nil ?_
  refine wp_seq ?_
  refine wp_region_lit ?_
  refine op_val (v := .pointer (some ⟨g101, 2, none⟩)) rfl rfl hF rfl (run_fieldAddr rfl fl24_2 (hF.ev rfl) rfl) ?_; clear hF; intro a hF
  refine op_val (v := .slice A2 x2.length c2) rfl rfl hF rfl (run_load1 rfl one22 (hF.ev rfl) ((S.free 0 rfl).cell rfl)) ?_; clear hF; intro a hF
  refine op_val (v := .int .i64 x3) rfl rfl hF rfl (run_move rfl (hF.ev rfl)) ?_; clear hF; intro a hF
  obtain ⟨p102, h102, hM⟩ := bind_ex hM
  refine op_call rfl rfl hF rfl (run_call (vs := [.slice A2 x2.length c2, .int .i64 x3]) rfl rfl co22 ⟨(hF.ev rfl), (hF.ev rfl), trivial⟩) (c_laws_szIntS (x0 := x2) (x1 := x3) ⟨(S.rc0 h2.rc), rfl⟩ h102) ?_
  rintro e u ⟨rfl, T⟩
  refine ⟨_, rfl, ?_⟩
  clear hF; intro a hF
  replace S := S.call0 T; clear T
  refine op_val (v := .int .i64 p102) rfl rfl hF rfl (run_assign rfl (hF.ev rfl)) ?_; clear hF; intro a hF
  refine wpList_nil ?_
  refine wp_seq ?_
  refine wp_seq ?_
  refine wp_region_lit ?_
  refine op_val (v := .int .i64 p102) rfl rfl hF rfl (run_move rfl (hF.ev rfl)) ?_; clear hF; intro a hF
  refine op_val (v := .bool (ltB p102 0)) rfl rfl hF rfl (run_lss (hF.ev rfl) rfl rfl) ?_; clear hF; intro a hF
  refine wpList_nil ?_
  cases hc103 : (ltB p102 0)
  · replace hM := bif_f hc103 hM
    refine cond_f hF rfl hc103 ?_
    refine wp_skip ?_
    refine wp_seq ?_
    refine wp_region_lit ?_
    refine op_val (v := .int .i64 p102) rfl rfl hF rfl (run_move rfl (hF.ev rfl)) ?_; clear hF; intro a hF
    refine op_val (v := .int .i64 p102) rfl rfl hF rfl (run_assign rfl (hF.ev rfl)) ?_; clear hF; intro a hF
    refine wpList_nil ?_
    refine wp_ret ?_
    repeat with_reducible (first | refine then_ret ?_ | refine in_ret ?_ | refine in_nrm ?_)
    refine ret1_gw (.inl rfl) hF rfl (res_tmp (hF.ev rfl)) ?_
    obtain rfl := Option.some.inj hM
    exact ⟨rfl, S.sel [] rfl rfl⟩
  · replace hM := bif_t hc103 hM
    refine cond_t hF rfl hc103 ?_
    refine wp_seq ?_
    refine wp_region_lit ?_
    refine op_val (v := .int .i64 (-1)) rfl rfl hF rfl (run_assign rfl rfl) ?_; clear hF; intro a hF
    refine wpList_nil ?_
    refine wp_ret ?_
    repeat with_reducible (first | refine then_ret ?_ | refine in_ret ?_ | refine in_nrm ?_)
    refine ret1_gw (.inl rfl) hF rfl (res_tmp (hF.ev rfl)) ?_
    obtain rfl := Option.some.inj hM
    exact ⟨rfl, S.sel [] rfl rfl⟩

set_option maxHeartbeats 4000000 in
theorem c_laws_toIntS {x0 : List Int} {A0 : Option Addr} {n0 c0 : Nat} {w : World} {r : List Int} (h0 : Rt w 1 eI A0 n0 c0 x0) (hM : m_laws_toIntS x0 = some r) :
    Calls Try.prog 27 #[.slice A0 n0 c0] w (fun e w' => ∃ (B0 : Option Addr) (N0 D0 : Nat), e = .returned (.slice B0 N0 D0) ∧ N0 = r.length ∧ St w w' [.row 3 1 (.slice B0 N0 D0) N0 (r.flatMap eI)]) := by
  obtain rfl := h0.len
  unfold m_laws_toIntS at hM
  refine calls_gw Try.func27 Try.ntmps27 rfl [(0, .slice A0 x0.length c0)] ⟨rfl, trivial⟩ rfl ?_
  intro a hF
  have S := St.nil w
  refine wp_seq ?_
  refine wp_region_lit ?_
  refine op_val (v := .slice none 0 0) rfl rfl hF rfl (run_assign rfl rfl) ?_; clear hF; intro a hF
  refine wpList_nil ?_
  refine wp_seq ?_
  refine wp_region_lit ?_
  refine op_val (v := .slice A0 x0.length c0) rfl rfl hF rfl (run_move rfl (hF.ev rfl)) ?_; clear hF; intro a hF
  refine op_val (v := .int .i64 (x0.length : Int)) rfl rfl hF rfl (run_lenL rfl rfl Try.underlying22 (hF.ev rfl)) ?_; clear hF; intro a hF
  obtain ⟨hk102, hM⟩ := chk_ex hM
  replace hk102 := mkB_t hk102
  refine op_newrowL (m := x0.length) (ls := List.replicate x0.length (0 : Int)) (e := eI) rfl rfl hF rfl S (run_makeL rfl (hF.ev rfl) (hF.ev rfl) Try.underlying22 inf3 eI_len rfl (by decide) hk102) List.length_replicate eI_len (by rw [List.length_replicate]; omega) ?_; clear hF S; intro a g101 u hF S
  refine op_val (v := .slice (some ⟨g101, 0, none⟩) x0.length x0.length) rfl rfl hF rfl (run_assign rfl (hF.ev rfl)) ?_; clear hF; intro a hF
  refine wpList_nil ?_
  refine wp_seq ?_
  refine wp_seq ?_
  refine wp_region_lit ?_
  refine op_val (v := .int .i64 0) rfl rfl hF rfl (run_assign rfl rfl) ?_; clear hF; intro a hF
  refine wpList_nil ?_
  obtain ⟨o104, hM106, hM⟩ := bind_ex hM
  refine wp_cut (fun a u => ∃ (p103 : List Int), p103 = o104 ∧ x0.length = p103.length ∧ Fr a 22 [(2, .slice none 0 0), (3, .slice (some ⟨g101, 0, none⟩) x0.length x0.length)] ∧ St w u [.row 3 1 (.slice (some ⟨g101, 0, none⟩) x0.length x0.length) x0.length (p103.flatMap eI)]) ?_ ?_
  · have _ := trivial
    refine wp_block ?_
    refine loop_gw (fun m a u => ∃ (p107 : List Int × Int), m_laws_toIntS_l1 x0 m p107 = some _ ∧ x0.length = p107.1.length ∧ Fr a 22 [(0, .slice A0 x0.length c0), (2, .slice none 0 0), (3, .slice (some ⟨g101, 0, none⟩) x0.length x0.length), (4, .int .i64 p107.2)] ∧ St w u [.row 3 1 (.slice (some ⟨g101, 0, none⟩) x0.length x0.length) x0.length (p107.1.flatMap eI)]) FUEL ⟨(List.replicate x0.length (0 : Int), 0), hM106, List.length_replicate.symm, hF.keep _ ⟨rfl, rfl, rfl, rfl, trivial⟩, S.sel [0] rfl rfl⟩ ?_
    clear hF S hM106; rintro m a u ⟨p107, hM106, hn108, hF, S⟩
    rcases m with _ | f1
    · exact none_some hM106
    rw [m_laws_toIntS_l1.eq_2] at hM106
    refine wp_seq ?_
    refine wp_seq ?_
    refine wp_region_lit ?_
    refine op_val (v := .int .i64 p107.2) rfl rfl hF rfl (run_move rfl (hF.ev rfl)) ?_; clear hF; intro a hF
    refine op_val (v := .slice A0 x0.length c0) rfl rfl hF rfl (run_move rfl (hF.ev rfl)) ?_; clear hF; intro a hF
    refine op_val (v := .int .i64 (x0.length : Int)) rfl rfl hF rfl (run_lenL rfl rfl Try.underlying22 (hF.ev rfl)) ?_; clear hF; intro a hF
    refine op_val (v := .bool (ltB p107.2 (x0.length : Int))) rfl rfl hF rfl (run_lss (hF.ev rfl) (hF.ev rfl) rfl) ?_; clear hF; intro a hF
    refine wpList_nil ?_
    cases hc109 : (ltB p107.2 (x0.length : Int))
    · replace hM106 := bif_f hc109 hM106
      refine cond_f hF rfl hc109 ?_
      refine wp_exit ?_
      repeat with_reducible (first | refine then_exit ?_ | refine in_hit ?_ | refine in_miss rfl ?_)
      obtain rfl := Option.some.inj hM106
      exact ⟨p107.1, rfl, hn108, hF.keep _ ⟨rfl, rfl, trivial⟩, S.sel [0] rfl rfl⟩
    · replace hM106 := bif_t hc109 hM106
      refine cond_t hF rfl hc109 ?_
      refine wp_skip ?_
      refine wp_seq ?_
      refine wp_block ?_
      refine wp_region_lit ?_
      refine op_val (v := .slice (some ⟨g101, 0, none⟩) x0.length x0.length) rfl rfl hF rfl (run_move rfl (hF.ev rfl)) ?_; clear hF; intro a hF
      refine op_val (v := .int .i64 p107.2) rfl rfl hF rfl (run_move rfl (hF.ev rfl)) ?_; clear hF; intro a hF
      refine op_val (v := .slice A0 x0.length c0) rfl rfl hF rfl (run_move rfl (hF.ev rfl)) ?_; clear hF; intro a hF
      refine op_val (v := .int .i64 p107.2) rfl rfl hF rfl (run_move rfl (hF.ev rfl)) ?_; clear hF; intro a hF
      obtain ⟨hk110, hM106⟩ := chk_ex hM106
      replace hk110 := ixB_t hk110
      refine op_val (v := .pointer (some ⟨adB A0, adO A0 + p107.2.toNat * 1, none⟩)) rfl rfl hF rfl (run_indexAddr (b := adB A0) (off := adO A0) rfl Try.underlying22 sz3 ((hF.ev rfl).trans (congrArg (fun A => Value.slice A x0.length c0) ((S.rc0 h0.rc).rd.ad (ix_pos hk110)))) (hF.ev rfl) hk110.1 hk110.2 (k' := adO A0 + p107.2.toNat * 1) rfl) ?_; clear hF; intro a hF
      refine op_val (v := .int .i64 (x0.getD p107.2.toNat (0 : Int))) rfl rfl hF rfl (run_load1 rfl one3 (hF.ev rfl) (rd_el0 (l := x0) (S.rc0 h0.rc).rd rfl eI_len (0 : Int) (ix_ltn hk110 rfl) rfl)) ?_; clear hF; intro a hF
      obtain ⟨hk111, hM106⟩ := chk_ex hM106
      replace hk111 := ixB_t hk111
      refine op_val (v := .pointer (some ⟨adB (some ⟨g101, 0, none⟩), adO (some ⟨g101, 0, none⟩) + p107.2.toNat * 1, none⟩)) rfl rfl hF rfl (run_indexAddr (b := adB (some ⟨g101, 0, none⟩)) (off := adO (some ⟨g101, 0, none⟩)) rfl Try.underlying22 sz3 ((hF.ev rfl).trans (congrArg (fun A => Value.slice A x0.length x0.length) ((S.rc 0 rfl).rd.ad (ix_pos hk111)))) (hF.ev rfl) hk111.1 hk111.2 (k' := adO (some ⟨g101, 0, none⟩) + p107.2.toNat * 1) rfl) ?_; clear hF; intro a hF
      obtain ⟨w', hrun, S'⟩ := run_storeElN (P := Try.prog) (ρ := a.eval) (y0 := (x0.getD p107.2.toNat (0 : Int))) (off := 0) S 3 (.tmp 20) (.tmp 19) (i := 0) sz3 (hF.ev rfl) (hF.ev rfl) rfl rfl rfl rfl hn108 eI_len (0 : Int) (ix_ltn hk111 hn108) rfl rfl
      refine op_do rfl rfl (hrun _ rfl) ?_; clear hrun S; have S := S'; clear S'; generalize w' = u at S ⊢
      refine wpList_nil ?_
      refine wp_region_lit ?_
      refine op_val (v := .int .i64 p107.2) rfl rfl hF rfl (run_move rfl (hF.ev rfl)) ?_; clear hF; intro a hF
      refine op_val (v := .int .i64 (w64 (p107.2 + 1))) rfl rfl hF rfl (run_add (z := w64 (p107.2 + 1)) (hF.ev rfl) rfl rfl rfl) ?_; clear hF; intro a hF
      refine op_val (v := .int .i64 (w64 (p107.2 + 1))) rfl rfl hF rfl (run_assign rfl (hF.ev rfl)) ?_; clear hF; intro a hF
      refine wpList_nil ?_
      exact ⟨f1, Nat.lt_succ_self _, (p107.1.set p107.2.toNat (x0.getD p107.2.toNat (0 : Int)), w64 (p107.2 + 1)), hM106, (len_set hn108), hF.keep _ ⟨rfl, rfl, rfl, rfl, trivial⟩, S.sel [0] rfl rfl⟩
  · rintro a u ⟨p103, rfl, hn105, hF, S⟩
    refine wp_seq ?_
    refine wp_region_lit ?_
    refine op_val (v := .slice (some ⟨g101, 0, none⟩) x0.length x0.length) rfl rfl hF rfl (run_move rfl (hF.ev rfl)) ?_; clear hF; intro a hF
    refine op_val (v := .slice (some ⟨g101, 0, none⟩) x0.length x0.length) rfl rfl hF rfl (run_assign rfl (hF.ev rfl)) ?_; clear hF; intro a hF
    refine wpList_nil ?_
    refine wp_ret ?_
    repeat with_reducible (first | refine then_ret ?_ | refine in_ret ?_ | refine in_nrm ?_)
    refine ret1_gw (.inl rfl) hF rfl (res_tmp (hF.ev rfl)) ?_
    obtain rfl := Option.some.inj hM
    exact ⟨(some ⟨g101, 0, none⟩), x0.length, x0.length, rfl, hn105, S.sel [0] rfl rfl⟩

set_option maxHeartbeats 4000000 in
theorem c_laws_toRooms {x0 : Int} {x1 : Int} {x2 : List Int} {A2 : Option Addr} {n2 c2 : Nat} {w : World} {r : Int × Int × List Int} (h2 : Rt w 1 eI A2 n2 c2 x2) (hM : m_laws_toRooms x0 x1 x2 = some r) :
    Calls Try.prog 8 #[.agg #[.int .i64 x0, .int .i64 x1, .slice A2 n2 c2]] w (fun e w' => ∃ (B0 : Option Addr) (N0 D0 : Nat), e = .returned (.agg #[.int .i64 r.1, .int .i64 r.2.1, .slice B0 N0 D0]) ∧ N0 = r.2.2.length ∧ St w w' [.row 3 1 (.slice B0 N0 D0) N0 (r.2.2.flatMap eI)]) := by
  obtain rfl := h2.len
  unfold m_laws_toRooms at hM
  refine calls_gw Try.func8 Try.ntmps8 rfl [(0, .agg #[.int .i64 x0, .int .i64 x1, .slice A2 x2.length c2])] ⟨rfl, trivial⟩ rfl ?_
  intro a hF
  have S := St.nil w
  refine wp_seq ?_
  refine wp_region_lit ?_
  refine op_new (cs := #[.int .i64 x0, .int .i64 x1, .slice A2 x2.length c2]) rfl rfl hF rfl S (run_box rfl (hF.ev rfl) rfl) ?_; clear hF S; intro a g101 u hF S
  refine op_new (cs := #[.int .i64 0, .int .i64 0, .slice none 0 0]) rfl rfl hF rfl S (run_allocZ rfl zr28) ?_; clear hF S; intro a g102 u hF S
  refine wpList_nil ?_
  refine wp_seq ?_
  refine wp_region_lit ?_
  refine op_new (cs := #[.int .i64 0, .int .i64 0, .slice none 0 0]) rfl rfl hF rfl S (run_allocZ rfl zr28) ?_; clear hF S; intro a g103 u hF S
  refine wpList_nil ?_
  refine wp_seq ?_
  refine wp_region_lit ?_
  refine op_val (v := .pointer (some ⟨g101, 0, none⟩)) rfl rfl hF rfl (run_fieldAddr rfl fl24_0 (hF.ev rfl) rfl) ?_; clear hF; intro a hF
  refine op_val (v := .int .i64 x0) rfl rfl hF rfl (run_load1 rfl one3 (hF.ev rfl) ((S.free 2 rfl).cell rfl)) ?_; clear hF; intro a hF
  refine op_val (v := .pointer (some ⟨g103, 0, none⟩)) rfl rfl hF rfl (run_fieldAddr rfl fl28_0 (hF.ev rfl) rfl) ?_; clear hF; intro a hF
  refine op_do rfl rfl (run_store (cs' := #[.int .i64 x0, .int .i64 0, .slice none 0 0]) rfl sz3 (hF.ev rfl) (hF.ev rfl) rfl rfl rfl (S.free 0 rfl) rfl rfl) ?_; replace S := S.put 0 rfl (#[.int .i64 x0, .int .i64 0, .slice none 0 0])
  generalize World.setRow _ _ _ = u at S ⊢
  refine wpList_nil ?_
  refine wp_seq ?_
  refine wp_region_lit ?_
  refine op_val (v := .pointer (some ⟨g101, 1, none⟩)) rfl rfl hF rfl (run_fieldAddr rfl fl24_1 (hF.ev rfl) rfl) ?_; clear hF; intro a hF
  refine op_val (v := .int .i64 x1) rfl rfl hF rfl (run_load1 rfl one3 (hF.ev rfl) ((S.free 2 rfl).cell rfl)) ?_; clear hF; intro a hF
  refine op_val (v := .pointer (some ⟨g103, 1, none⟩)) rfl rfl hF rfl (run_fieldAddr rfl fl28_1 (hF.ev rfl) rfl) ?_; clear hF; intro a hF
  refine op_do rfl rfl (run_store (cs' := #[.int .i64 x0, .int .i64 x1, .slice none 0 0]) rfl sz3 (hF.ev rfl) (hF.ev rfl) rfl rfl rfl (S.free 0 rfl) rfl rfl) ?_; replace S := S.put 0 rfl (#[.int .i64 x0, .int .i64 x1, .slice none 0 0])
  generalize World.setRow _ _ _ = u at S ⊢
  refine wpList_nil ?_
  refine wp_seq ?_
  refine wp_region_lit ?_
  refine op_val (v := .pointer (some ⟨g101, 2, none⟩)) rfl rfl hF rfl (run_fieldAddr rfl fl24_2 (hF.ev rfl) rfl) ?_; clear hF; intro a hF
  refine op_val (v := .slice A2 x2.length c2) rfl rfl hF rfl (run_load1 rfl one22 (hF.ev rfl) ((S.free 2 rfl).cell rfl)) ?_; clear hF; intro a hF
  obtain ⟨p104, h104, hM⟩ := bind_ex hM
  refine op_call rfl rfl hF rfl (run_call (vs := [.slice A2 x2.length c2]) rfl rfl co27 ⟨(hF.ev rfl), trivial⟩) (c_laws_toIntS (x0 := x2) ⟨(S.rc0 h2.rc), rfl⟩ h104) ?_
  rintro e u ⟨B105, n106, d107, rfl, rfl, T⟩
  refine ⟨_, rfl, ?_⟩
  clear hF; intro a hF
  replace S := S.call1 T; clear T
  refine op_val (v := .pointer (some ⟨g103, 2, none⟩)) rfl rfl hF rfl (run_fieldAddr rfl fl28_2 (hF.ev rfl) rfl) ?_; clear hF; intro a hF
  refine op_do rfl rfl (run_store (cs' := #[.int .i64 x0, .int .i64 x1, .slice B105 p104.length d107]) rfl sz22 (hF.ev rfl) (hF.ev rfl) rfl rfl rfl (S.free 1 rfl) rfl rfl) ?_; replace S := S.put 1 rfl (#[.int .i64 x0, .int .i64 x1, .slice B105 p104.length d107])
  generalize World.setRow _ _ _ = u at S ⊢
  refine wpList_nil ?_
  refine wp_seq ?_
  refine wp_region_lit ?_
  refine op_val (v := .agg #[.int .i64 x0, .int .i64 x1, .slice B105 p104.length d107]) rfl rfl hF rfl (run_loadN rfl ag28 (hF.ev rfl) rfl ((S.free 1 rfl).cells 0 #[.int .i64 x0, .int .i64 x1, .slice B105 p104.length d107] rfl)) ?_; clear hF; intro a hF
  refine op_do rfl rfl (run_store (cs' := #[.int .i64 x0, .int .i64 x1, .slice B105 p104.length d107]) rfl sz28 (hF.ev rfl) (hF.ev rfl) rfl rfl rfl (S.free 2 rfl) rfl rfl) ?_; replace S := S.put 2 rfl (#[.int .i64 x0, .int .i64 x1, .slice B105 p104.length d107])
  generalize World.setRow _ _ _ = u at S ⊢
  refine wpList_nil ?_
  refine wp_ret ?_
  repeat with_reducible (first | refine then_ret ?_ | refine in_ret ?_ | refine in_nrm ?_)
  refine ret1_gw (.inl rfl) hF rfl (res_cell (hF.ev rfl) (res_loadN ag28 rfl (S.cells 2 rfl 0 #[.int .i64 x0, .int .i64 x1, .slice B105 p104.length d107] rfl))) ?_
  obtain rfl := Option.some.inj hM
  exact ⟨B105, p104.length, d107, rfl, rfl, S.sel [0] rfl rfl⟩

set_option maxHeartbeats 4000000 in
theorem c_laws_toRoomDeed {x0 : Int} {x1 : Int} {x2 : Int} {w : World} {r : Int × Int × Int}  (hM : m_laws_toRoomDeed x0 x1 x2 = some r) :
    Calls Try.prog 9 #[.agg #[.int .i64 x0, .int .i64 x1, .int .i64 x2]] w (fun e w' => e = .returned (.agg #[.int .i64 r.1, .int .i64 r.2.1, .int .i64 r.2.2]) ∧ St w w' []) := by
  unfold m_laws_toRoomDeed at hM
  refine calls_gw Try.func9 Try.ntmps9 rfl [(0, .agg #[.int .i64 x0, .int .i64 x1, .int .i64 x2])] ⟨rfl, trivial⟩ rfl ?_
  intro a hF
  have S := St.nil w
  refine wp_seq ?_
  refine wp_region_lit ?_
  refine op_new (cs := #[.int .i64 x0, .int .i64 x1, .int .i64 x2]) rfl rfl hF rfl S (run_box rfl (hF.ev rfl) rfl) ?_; clear hF S; intro a g101 u hF S
  refine op_new (cs := #[.int .i64 0, .int .i64 0, .int .i64 0]) rfl rfl hF rfl S (run_allocZ rfl zr32) ?_; clear hF S; intro a g102 u hF S
  refine wpList_nil ?_
  refine wp_seq ?_
  refine wp_region_lit ?_
  refine op_new (cs := #[.int .i64 0, .int .i64 0, .int .i64 0]) rfl rfl hF rfl S (run_allocZ rfl zr32) ?_; clear hF S; intro a g103 u hF S
  refine wpList_nil ?_
  refine wp_seq ?_
  refine wp_region_lit ?_
  refine op_val (v := .pointer (some ⟨g101, 0, none⟩)) rfl rfl hF rfl (run_fieldAddr rfl fl26_0 (hF.ev rfl) rfl) ?_; clear hF; intro a hF
  refine op_val (v := .int .i64 x0) rfl rfl hF rfl (run_load1 rfl one3 (hF.ev rfl) ((S.free 2 rfl).cell rfl)) ?_; clear hF; intro a hF
  refine op_val (v := .pointer (some ⟨g103, 0, none⟩)) rfl rfl hF rfl (run_fieldAddr rfl fl32_0 (hF.ev rfl) rfl) ?_; clear hF; intro a hF
  refine op_do rfl rfl (run_store (cs' := #[.int .i64 x0, .int .i64 0, .int .i64 0]) rfl sz3 (hF.ev rfl) (hF.ev rfl) rfl rfl rfl (S.free 0 rfl) rfl rfl) ?_; replace S := S.put 0 rfl (#[.int .i64 x0, .int .i64 0, .int .i64 0])
  generalize World.setRow _ _ _ = u at S ⊢
  refine wpList_nil ?_
  refine wp_seq ?_
  refine wp_region_lit ?_
  refine op_val (v := .pointer (some ⟨g101, 1, none⟩)) rfl rfl hF rfl (run_fieldAddr rfl fl26_1 (hF.ev rfl) rfl) ?_; clear hF; intro a hF
  refine op_val (v := .int .i64 x1) rfl rfl hF rfl (run_load1 rfl one3 (hF.ev rfl) ((S.free 2 rfl).cell rfl)) ?_; clear hF; intro a hF
  refine op_val (v := .pointer (some ⟨g103, 1, none⟩)) rfl rfl hF rfl (run_fieldAddr rfl fl32_1 (hF.ev rfl) rfl) ?_; clear hF; intro a hF
  refine op_do rfl rfl (run_store (cs' := #[.int .i64 x0, .int .i64 x1, .int .i64 0]) rfl sz3 (hF.ev rfl) (hF.ev rfl) rfl rfl rfl (S.free 0 rfl) rfl rfl) ?_; replace S := S.put 0 rfl (#[.int .i64 x0, .int .i64 x1, .int .i64 0])
  generalize World.setRow _ _ _ = u at S ⊢
  refine wpList_nil ?_
  refine wp_seq ?_
  refine wp_region_lit ?_
  refine op_val (v := .pointer (some ⟨g101, 2, none⟩)) rfl rfl hF rfl (run_fieldAddr rfl fl26_2 (hF.ev rfl) rfl) ?_; clear hF; intro a hF
  refine op_val (v := .int .i64 x2) rfl rfl hF rfl (run_load1 rfl one3 (hF.ev rfl) ((S.free 2 rfl).cell rfl)) ?_; clear hF; intro a hF
  refine op_val (v := .pointer (some ⟨g103, 2, none⟩)) rfl rfl hF rfl (run_fieldAddr rfl fl32_2 (hF.ev rfl) rfl) ?_; clear hF; intro a hF
  refine op_do rfl rfl (run_store (cs' := #[.int .i64 x0, .int .i64 x1, .int .i64 x2]) rfl sz3 (hF.ev rfl) (hF.ev rfl) rfl rfl rfl (S.free 0 rfl) rfl rfl) ?_; replace S := S.put 0 rfl (#[.int .i64 x0, .int .i64 x1, .int .i64 x2])
  generalize World.setRow _ _ _ = u at S ⊢
  refine wpList_nil ?_
  refine wp_seq ?_
  refine wp_region_lit ?_
  refine op_val (v := .agg #[.int .i64 x0, .int .i64 x1, .int .i64 x2]) rfl rfl hF rfl (run_loadN rfl ag32 (hF.ev rfl) rfl ((S.free 0 rfl).cells 0 #[.int .i64 x0, .int .i64 x1, .int .i64 x2] rfl)) ?_; clear hF; intro a hF
  refine op_do rfl rfl (run_store (cs' := #[.int .i64 x0, .int .i64 x1, .int .i64 x2]) rfl sz32 (hF.ev rfl) (hF.ev rfl) rfl rfl rfl (S.free 1 rfl) rfl rfl) ?_; replace S := S.put 1 rfl (#[.int .i64 x0, .int .i64 x1, .int .i64 x2])
  generalize World.setRow _ _ _ = u at S ⊢
  refine wpList_nil ?_
  refine wp_ret ?_
  repeat with_reducible (first | refine then_ret ?_ | refine in_ret ?_ | refine in_nrm ?_)
  refine ret1_gw (.inl rfl) hF rfl (res_cell (hF.ev rfl) (res_loadN ag32 rfl (S.cells 1 rfl 0 #[.int .i64 x0, .int .i64 x1, .int .i64 x2] rfl))) ?_
  obtain rfl := Option.some.inj hM
  exact ⟨rfl, S.sel [] rfl rfl⟩

set_option maxHeartbeats 4000000 in
theorem c_spec_l1In {x0 : Int} {x1 : Int} {x2 : Int} {w : World} {r : Bool}  (hM : m_spec_l1In x0 x1 x2 = some r) :
    Calls Try.prog 25 #[.int .i64 x0, .int .i64 x1, .int .i64 x2] w (fun e w' => e = .returned (.bool r) ∧ St w w' []) := by
  unfold m_spec_l1In at hM
  refine calls_gw Try.func25 Try.ntmps25 rfl [(0, .int .i64 x0), (1, .int .i64 x1), (2, .int .i64 x2)] ⟨rfl, rfl, rfl, trivial⟩ rfl ?_
  intro a hF
  have S := St.nil w
  refine wp_seq ?_
  refine wp_region_lit ?_
  refine op_val (v := .bool false) rfl rfl hF rfl (run_assign rfl rfl) ?_; clear hF; intro a hF
  refine wpList_nil ?_
  refine wp_seq ?_
  refine wp_region_lit ?_
  refine op_val (v := .int .i64 x0) rfl rfl hF rfl (run_move rfl (hF.ev rfl)) ?_; clear hF; intro a hF
  refine op_val (v := .int .i64 x1) rfl rfl hF rfl (run_move rfl (hF.ev rfl)) ?_; clear hF; intro a hF
  refine op_val (v := .bool (leB x1 x0)) rfl rfl hF rfl (run_geq (hF.ev rfl) (hF.ev rfl) rfl) ?_; clear hF; intro a hF
  refine op_val (v := .bool (leB x1 x0)) rfl rfl hF rfl (run_move rfl (hF.ev rfl)) ?_; clear hF; intro a hF
  refine op_gv (v := .int .i64 x0) rfl rfl hF rfl (yt (gw_yield hF rfl rfl rfl)) (fun hg => (run_move rfl (hF.ev rfl))) ?_; clear hF; intro a hF
  refine op_gv (v := .int .i64 x2) rfl rfl hF rfl (yt (gw_yield hF rfl rfl rfl)) (fun hg => (run_move rfl (hF.ev rfl))) ?_; clear hF; intro a hF
  refine op_gv (v := .bool (leB x0 x2)) rfl rfl hF rfl (yt (gw_yield hF rfl rfl rfl)) (fun hg => (run_leq ((hF.ev rfl).trans (gv_t hg)) ((hF.ev rfl).trans (gv_t hg)) rfl)) ?_; clear hF; intro a hF
  refine op_val (v := .bool ((leB x1 x0) && (leB x0 x2))) rfl rfl hF rfl (run_pick_and rfl (hF.ev rfl) (fun hp => ((hF.ev rfl).trans (gv_t hp))) rfl) ?_; clear hF; intro a hF
  refine op_val (v := .bool ((leB x1 x0) && (leB x0 x2))) rfl rfl hF rfl (run_assign rfl (hF.ev rfl)) ?_; clear hF; intro a hF
  refine wpList_nil ?_
  refine wp_ret ?_
  repeat with_reducible (first | refine then_ret ?_ | refine in_ret ?_ | refine in_nrm ?_)
  refine ret1_gw (.inl rfl) hF rfl (res_tmp (hF.ev rfl)) ?_
  obtain rfl := Option.some.inj hM
  exact ⟨rfl, S.sel [] rfl rfl⟩

set_option maxHeartbeats 4000000 in
theorem c_spec_RoomsValid {x0 : Int} {x1 : Int} {x2 : List Int} {A2 : Option Addr} {n2 c2 : Nat} {w : World} {r : Bool} (h2 : Rt w 1 eI A2 n2 c2 x2) (hM : m_spec_RoomsValid x0 x1 x2 = some r) :
    Calls Try.prog 23 #[.agg #[.int .i64 x0, .int .i64 x1, .slice A2 n2 c2]] w (fun e w' => e = .returned (.bool r) ∧ St w w' []) := by
  obtain rfl := h2.len
  unfold m_spec_RoomsValid at hM
  refine calls_gw Try.func23 Try.ntmps23 rfl [(0, .agg #[.int .i64 x0, .int .i64 x1, .slice A2 x2.length c2])] ⟨rfl, trivial⟩ rfl ?_
  intro a hF
  have S := St.nil w
  refine wp_seq ?_
  refine wp_region_lit ?_
  refine op_new (cs := #[.int .i64 x0, .int .i64 x1, .slice A2 x2.length c2]) rfl rfl hF rfl S (run_box rfl (hF.ev rfl) rfl) ?_; clear hF S; intro a g101 u hF S
  refine op_val (v := .bool false) rfl rfl hF rfl (run_assign rfl rfl) ?_; clear hF; intro a hF
  refine wpList_nil ?_
  refine wp_seq ?_
  refine wp_seq ?_
  refine wp_region_lit ?_
  refine op_val (v := .pointer (some ⟨g101, 0, none⟩)) rfl rfl hF rfl (run_fieldAddr rfl fl28_0 (hF.ev rfl) rfl) ?_; clear hF; intro a hF
  refine op_val (v := .int .i64 x0) rfl rfl hF rfl (run_load1 rfl one3 (hF.ev rfl) ((S.free 0 rfl).cell rfl)) ?_; clear hF; intro a hF
  obtain ⟨p102, h102, hM⟩ := bind_ex hM
  refine op_call rfl rfl hF rfl (run_call (vs := [.int .i64 x0, .int .i64 0, .int .i64 99]) rfl rfl co25 ⟨(hF.ev rfl), rfl, rfl, trivial⟩) (c_spec_l1In (x0 := x0) (x1 := 0) (x2 := 99)  h102) ?_
  rintro e u ⟨rfl, T⟩
  refine ⟨_, rfl, ?_⟩
  clear hF; intro a hF
  replace S := S.call0 T; clear T
  refine op_val (v := .bool (!p102)) rfl rfl hF rfl (run_not rfl (hF.ev rfl)) ?_; clear hF; intro a hF
  refine op_val (v := .bool (!p102)) rfl rfl hF rfl (run_move rfl (hF.ev rfl)) ?_; clear hF; intro a hF
  refine op_gv (v := .pointer (some ⟨g101, 1, none⟩)) rfl rfl hF rfl (yf (gw_yield hF rfl rfl rfl)) (fun hg => (run_fieldAddr rfl fl28_1 (hF.ev rfl) rfl)) ?_; clear hF; intro a hF
  refine op_gv (v := .int .i64 x1) rfl rfl hF rfl (yf (gw_yield hF rfl rfl rfl)) (fun hg => (run_load1 rfl one3 ((hF.ev rfl).trans (gv_t hg)) ((S.free 0 rfl).cell rfl))) ?_; clear hF; intro a hF
  obtain ⟨p103, h103, hM⟩ := bind_ex hM
  refine op_gcall (v := .bool p103) rfl rfl hF rfl S (yf (gw_yield hF rfl rfl rfl)) (fun hg => (run_call (vs := [.int .i64 x1, .int .i64 0, .int .i64 99]) rfl rfl co25 ⟨((hF.ev rfl).trans (gv_t hg)), rfl, rfl, trivial⟩)) (fun hg => c_spec_l1In (x0 := x1) (x1 := 0) (x2 := 99)  (gb_t h103 hg)) ?_; clear hF S; intro a u hF S
  refine op_gv (v := .bool (!p103)) rfl rfl hF rfl (yf (gw_yield hF rfl rfl rfl)) (fun hg => (run_not rfl ((hF.ev rfl).trans (gv_t hg)))) ?_; clear hF; intro a hF
  refine op_val (v := .bool ((!p102) || (!p103))) rfl rfl hF rfl (run_pick_or rfl (hF.ev rfl) rfl (fun hp => ((hF.ev rfl).trans (gv_t (not_t hp))))) ?_; clear hF; intro a hF
  refine op_val (v := .bool ((!p102) || (!p103))) rfl rfl hF rfl (run_move rfl (hF.ev rfl)) ?_; clear hF; intro a hF
  refine op_gv (v := .pointer (some ⟨g101, 0, none⟩)) rfl rfl hF rfl (yf (gw_yield hF rfl rfl rfl)) (fun hg => (run_fieldAddr rfl fl28_0 (hF.ev rfl) rfl)) ?_; clear hF; intro a hF
  refine op_gv (v := .int .i64 x0) rfl rfl hF rfl (yf (gw_yield hF rfl rfl rfl)) (fun hg => (run_load1 rfl one3 ((hF.ev rfl).trans (gv_t hg)) ((S.free 0 rfl).cell rfl))) ?_; clear hF; intro a hF
  refine op_gv (v := .int .i64 (Int.tmod x0 2)) rfl rfl hF rfl (yf (gw_yield hF rfl rfl rfl)) (fun hg => (run_rem (z := Int.tmod x0 2) ((hF.ev rfl).trans (gv_t hg)) rfl rfl (by decide) rfl)) ?_; clear hF; intro a hF
  refine op_gv (v := .bool ((Int.tmod x0 2) != 0)) rfl rfl hF rfl (yf (gw_yield hF rfl rfl rfl)) (fun hg => (run_neq ((hF.ev rfl).trans (gv_t hg)) rfl rfl)) ?_; clear hF; intro a hF
  refine op_val (v := .bool (((!p102) || (!p103)) || ((Int.tmod x0 2) != 0))) rfl rfl hF rfl (run_pick_or rfl (hF.ev rfl) rfl (fun hp => ((hF.ev rfl).trans (gv_t (not_t hp))))) ?_; clear hF; intro a hF
  refine op_val (v := .bool (((!p102) || (!p103)) || ((Int.tmod x0 2) != 0))) rfl rfl hF rfl (run_move rfl (hF.ev rfl)) ?_; clear hF; intro a hF
  refine op_gv (v := .pointer (some ⟨g101, 1, none⟩)) rfl rfl hF rfl (yf (gw_yield hF rfl rfl rfl)) (fun hg => (run_fieldAddr rfl fl28_1 (hF.ev rfl) rfl)) ?_; clear hF; intro a hF
  refine op_gv (v := .int .i64 x1) rfl rfl hF rfl (yf (gw_yield hF rfl rfl rfl)) (fun hg => (run_load1 rfl one3 ((hF.ev rfl).trans (gv_t hg)) ((S.free 0 rfl).cell rfl))) ?_; clear hF; intro a hF
  refine op_gv (v := .int .i64 (Int.tmod x1 2)) rfl rfl hF rfl (yf (gw_yield hF rfl rfl rfl)) (fun hg => (run_rem (z := Int.tmod x1 2) ((hF.ev rfl).trans (gv_t hg)) rfl rfl (by decide) rfl)) ?_; clear hF; intro a hF
  refine op_gv (v := .bool ((Int.tmod x1 2) != 1)) rfl rfl hF rfl (yf (gw_yield hF rfl rfl rfl)) (fun hg => (run_neq ((hF.ev rfl).trans (gv_t hg)) rfl rfl)) ?_; clear hF; intro a hF
  refine op_val (v := .bool ((((!p102) || (!p103)) || ((Int.tmod x0 2) != 0)) || ((Int.tmod x1 2) != 1))) rfl rfl hF rfl (run_pick_or rfl (hF.ev rfl) rfl (fun hp => ((hF.ev rfl).trans (gv_t (not_t hp))))) ?_; clear hF; intro a hF
  refine wpList_nil ?_
  cases hc104 : ((((!p102) || (!p103)) || ((Int.tmod x0 2) != 0)) || ((Int.tmod x1 2) != 1))
  · replace hM := bif_f hc104 hM
    refine cond_f hF rfl hc104 ?_
    refine wp_skip ?_
    refine wp_seq ?_
    refine wp_seq ?_
    refine wp_region_lit ?_
    refine op_val (v := .int .i64 0) rfl rfl hF rfl (run_assign rfl rfl) ?_; clear hF; intro a hF
    refine wpList_nil ?_
    obtain ⟨o106, hM107, hM⟩ := bind_ex hM
    refine wp_cut (fun a u => ∃ (p105 : Unit), (Sum.inl p105) = o106 ∧ Fr a 67 [(1, .pointer (some ⟨g101, 0, none⟩)), (2, .bool false)] ∧ St w u [.box g101 28 #[.int .i64 x0, .int .i64 x1, .slice A2 x2.length c2]]) ?_ ?_
    · have _ := trivial
      refine wp_block ?_
      refine loop_gw (fun m a u => ∃ (p108 : Int), m_spec_RoomsValid_l1 x0 x1 x2 m p108 = some _ ∧ Fr a 67 [(1, .pointer (some ⟨g101, 0, none⟩)), (2, .bool false), (3, .int .i64 p108)] ∧ St w u [.box g101 28 #[.int .i64 x0, .int .i64 x1, .slice A2 x2.length c2]]) FUEL ⟨0, hM107, hF.keep _ ⟨rfl, rfl, rfl, trivial⟩, S.sel [0] rfl rfl⟩ ?_
      clear hF S hM107; rintro m a u ⟨p108, hM107, hF, S⟩
      rcases m with _ | f1
      · exact none_some hM107
      rw [m_spec_RoomsValid_l1.eq_2] at hM107
      refine wp_seq ?_
      refine wp_seq ?_
      refine wp_region_lit ?_
      refine op_val (v := .int .i64 p108) rfl rfl hF rfl (run_move rfl (hF.ev rfl)) ?_; clear hF; intro a hF
      refine op_val (v := .pointer (some ⟨g101, 2, none⟩)) rfl rfl hF rfl (run_fieldAddr rfl fl28_2 (hF.ev rfl) rfl) ?_; clear hF; intro a hF
      refine op_val (v := .slice A2 x2.length c2) rfl rfl hF rfl (run_load1 rfl one22 (hF.ev rfl) ((S.free 0 rfl).cell rfl)) ?_; clear hF; intro a hF
      refine op_val (v := .int .i64 (x2.length : Int)) rfl rfl hF rfl (run_lenL rfl rfl Try.underlying22 (hF.ev rfl)) ?_; clear hF; intro a hF
      refine op_val (v := .bool (ltB p108 (x2.length : Int))) rfl rfl hF rfl (run_lss (hF.ev rfl) (hF.ev rfl) rfl) ?_; clear hF; intro a hF
      refine wpList_nil ?_
      cases hc109 : (ltB p108 (x2.length : Int))
      · replace hM107 := bif_f hc109 hM107
        refine cond_f hF rfl hc109 ?_
        refine wp_exit ?_
        repeat with_reducible (first | refine then_exit ?_ | refine in_hit ?_ | refine in_miss rfl ?_)
        obtain rfl := Option.some.inj hM107
        exact ⟨(), rfl, hF.keep _ ⟨rfl, rfl, trivial⟩, S.sel [0] rfl rfl⟩
      · replace hM107 := bif_t hc109 hM107
        refine cond_t hF rfl hc109 ?_
        refine wp_skip ?_
        refine wp_seq ?_
        refine wp_block ?_
        refine wp_seq ?_
        refine wp_region_lit ?_
        refine op_val (v := .pointer (some ⟨g101, 2, none⟩)) rfl rfl hF rfl (run_fieldAddr rfl fl28_2 (hF.ev rfl) rfl) ?_; clear hF; intro a hF
        refine op_val (v := .slice A2 x2.length c2) rfl rfl hF rfl (run_load1 rfl one22 (hF.ev rfl) ((S.free 0 rfl).cell rfl)) ?_; clear hF; intro a hF
        refine op_val (v := .int .i64 p108) rfl rfl hF rfl (run_move rfl (hF.ev rfl)) ?_; clear hF; intro a hF
        obtain ⟨hk110, hM107⟩ := chk_ex hM107
        replace hk110 := ixB_t hk110
        refine op_val (v := .pointer (some ⟨adB A2, adO A2 + p108.toNat * 1, none⟩)) rfl rfl hF rfl (run_indexAddr (b := adB A2) (off := adO A2) rfl Try.underlying22 sz3 ((hF.ev rfl).trans (congrArg (fun A => Value.slice A x2.length c2) ((S.rc0 h2.rc).rd.ad (ix_pos hk110)))) (hF.ev rfl) hk110.1 hk110.2 (k' := adO A2 + p108.toNat * 1) rfl) ?_; clear hF; intro a hF
        refine op_val (v := .int .i64 (x2.getD p108.toNat (0 : Int))) rfl rfl hF rfl (run_load1 rfl one3 (hF.ev rfl) (rd_el0 (l := x2) (S.rc0 h2.rc).rd rfl eI_len (0 : Int) (ix_ltn hk110 rfl) rfl)) ?_; clear hF; intro a hF
        refine op_val (v := .int .i64 (x2.getD p108.toNat (0 : Int))) rfl rfl hF rfl (run_assign rfl (hF.ev rfl)) ?_; clear hF; intro a hF
        refine wpList_nil ?_
        refine wp_seq ?_
        refine wp_region_lit ?_
        refine op_val (v := .int .i64 (x2.getD p108.toNat (0 : Int))) rfl rfl hF rfl (run_move rfl (hF.ev rfl)) ?_; clear hF; intro a hF
        refine op_val (v := .bool (ltB (x2.getD p108.toNat (0 : Int)) 0)) rfl rfl hF rfl (run_lss (hF.ev rfl) rfl rfl) ?_; clear hF; intro a hF
        refine op_val (v := .bool (ltB (x2.getD p108.toNat (0 : Int)) 0)) rfl rfl hF rfl (run_move rfl (hF.ev rfl)) ?_; clear hF; intro a hF
        refine op_gv (v := .int .i64 (x2.getD p108.toNat (0 : Int))) rfl rfl hF rfl (yf (gw_yield hF rfl rfl rfl)) (fun hg => (run_move rfl (hF.ev rfl))) ?_; clear hF; intro a hF
        refine op_gv (v := .int .i64 (Int.tmod (x2.getD p108.toNat (0 : Int)) 2)) rfl rfl hF rfl (yf (gw_yield hF rfl rfl rfl)) (fun hg => (run_rem (z := Int.tmod (x2.getD p108.toNat (0 : Int)) 2) ((hF.ev rfl).trans (gv_t hg)) rfl rfl (by decide) rfl)) ?_; clear hF; intro a hF
        refine op_gv (v := .bool ((Int.tmod (x2.getD p108.toNat (0 : Int)) 2) == 0)) rfl rfl hF rfl (yf (gw_yield hF rfl rfl rfl)) (fun hg => (run_eql ((hF.ev rfl).trans (gv_t hg)) rfl rfl)) ?_; clear hF; intro a hF
        refine op_gv (v := .bool ((Int.tmod (x2.getD p108.toNat (0 : Int)) 2) == 0)) rfl rfl hF rfl (yf (gw_yield hF rfl rfl rfl)) (fun hg => (run_move rfl ((hF.ev rfl).trans (gv_t hg)))) ?_; clear hF; intro a hF
        refine op_gv (v := .int .i64 (x2.getD p108.toNat (0 : Int))) rfl rfl hF rfl (ytG (gw_yieldG hF rfl rfl rfl)) (fun hg => (run_move rfl (hF.ev rfl))) ?_; clear hF; intro a hF
        refine op_gv (v := .pointer (some ⟨g101, 0, none⟩)) rfl rfl hF rfl (ytG (gw_yieldG hF rfl rfl rfl)) (fun hg => (run_fieldAddr rfl fl28_0 (hF.ev rfl) rfl)) ?_; clear hF; intro a hF
        refine op_gv (v := .int .i64 x0) rfl rfl hF rfl (ytG (gw_yieldG hF rfl rfl rfl)) (fun hg => (run_load1 rfl one3 ((hF.ev rfl).trans (gv_t hg)) ((S.free 0 rfl).cell rfl))) ?_; clear hF; intro a hF
        refine op_gv (v := .bool (ltB x0 (x2.getD p108.toNat (0 : Int)))) rfl rfl hF rfl (ytG (gw_yieldG hF rfl rfl rfl)) (fun hg => (run_gtr ((hF.ev rfl).trans (gv_t hg)) ((hF.ev rfl).trans (gv_t hg)) rfl)) ?_; clear hF; intro a hF
        refine op_gv (v := .bool (((Int.tmod (x2.getD p108.toNat (0 : Int)) 2) == 0) && (ltB x0 (x2.getD p108.toNat (0 : Int))))) rfl rfl hF rfl (yf (gw_yield hF rfl rfl rfl)) (fun hg => (run_pick_and rfl ((hF.ev rfl).trans (gv_t hg)) (fun hp => ((hF.ev rfl).trans (gv_t (and_i hg hp)))) rfl)) ?_; clear hF; intro a hF
        refine op_val (v := .bool ((ltB (x2.getD p108.toNat (0 : Int)) 0) || (((Int.tmod (x2.getD p108.toNat (0 : Int)) 2) == 0) && (ltB x0 (x2.getD p108.toNat (0 : Int)))))) rfl rfl hF rfl (run_pick_or rfl (hF.ev rfl) rfl (fun hp => ((hF.ev rfl).trans (gv_t (not_t hp))))) ?_; clear hF; intro a hF
        refine op_val (v := .bool ((ltB (x2.getD p108.toNat (0 : Int)) 0) || (((Int.tmod (x2.getD p108.toNat (0 : Int)) 2) == 0) && (ltB x0 (x2.getD p108.toNat (0 : Int)))))) rfl rfl hF rfl (run_move rfl (hF.ev rfl)) ?_; clear hF; intro a hF
        refine op_gv (v := .int .i64 (x2.getD p108.toNat (0 : Int))) rfl rfl hF rfl (yf (gw_yield hF rfl rfl rfl)) (fun hg => (run_move rfl (hF.ev rfl))) ?_; clear hF; intro a hF
        refine op_gv (v := .int .i64 (Int.tmod (x2.getD p108.toNat (0 : Int)) 2)) rfl rfl hF rfl (yf (gw_yield hF rfl rfl rfl)) (fun hg => (run_rem (z := Int.tmod (x2.getD p108.toNat (0 : Int)) 2) ((hF.ev rfl).trans (gv_t hg)) rfl rfl (by decide) rfl)) ?_; clear hF; intro a hF
        refine op_gv (v := .bool ((Int.tmod (x2.getD p108.toNat (0 : Int)) 2) == 1)) rfl rfl hF rfl (yf (gw_yield hF rfl rfl rfl)) (fun hg => (run_eql ((hF.ev rfl).trans (gv_t hg)) rfl rfl)) ?_; clear hF; intro a hF
        refine op_gv (v := .bool ((Int.tmod (x2.getD p108.toNat (0 : Int)) 2) == 1)) rfl rfl hF rfl (yf (gw_yield hF rfl rfl rfl)) (fun hg => (run_move rfl ((hF.ev rfl).trans (gv_t hg)))) ?_; clear hF; intro a hF
        refine op_gv (v := .int .i64 (x2.getD p108.toNat (0 : Int))) rfl rfl hF rfl (ytG (gw_yieldG hF rfl rfl rfl)) (fun hg => (run_move rfl (hF.ev rfl))) ?_; clear hF; intro a hF
        refine op_gv (v := .pointer (some ⟨g101, 1, none⟩)) rfl rfl hF rfl (ytG (gw_yieldG hF rfl rfl rfl)) (fun hg => (run_fieldAddr rfl fl28_1 (hF.ev rfl) rfl)) ?_; clear hF; intro a hF
        refine op_gv (v := .int .i64 x1) rfl rfl hF rfl (ytG (gw_yieldG hF rfl rfl rfl)) (fun hg => (run_load1 rfl one3 ((hF.ev rfl).trans (gv_t hg)) ((S.free 0 rfl).cell rfl))) ?_; clear hF; intro a hF
        refine op_gv (v := .bool (ltB x1 (x2.getD p108.toNat (0 : Int)))) rfl rfl hF rfl (ytG (gw_yieldG hF rfl rfl rfl)) (fun hg => (run_gtr ((hF.ev rfl).trans (gv_t hg)) ((hF.ev rfl).trans (gv_t hg)) rfl)) ?_; clear hF; intro a hF
        refine op_gv (v := .bool (((Int.tmod (x2.getD p108.toNat (0 : Int)) 2) == 1) && (ltB x1 (x2.getD p108.toNat (0 : Int))))) rfl rfl hF rfl (yf (gw_yield hF rfl rfl rfl)) (fun hg => (run_pick_and rfl ((hF.ev rfl).trans (gv_t hg)) (fun hp => ((hF.ev rfl).trans (gv_t (and_i hg hp)))) rfl)) ?_; clear hF; intro a hF
        refine op_val (v := .bool (((ltB (x2.getD p108.toNat (0 : Int)) 0) || (((Int.tmod (x2.getD p108.toNat (0 : Int)) 2) == 0) && (ltB x0 (x2.getD p108.toNat (0 : Int))))) || (((Int.tmod (x2.getD p108.toNat (0 : Int)) 2) == 1) && (ltB x1 (x2.getD p108.toNat (0 : Int)))))) rfl rfl hF rfl (run_pick_or rfl (hF.ev rfl) rfl (fun hp => ((hF.ev rfl).trans (gv_t (not_t hp))))) ?_; clear hF; intro a hF
        refine wpList_nil ?_
        cases hc111 : (((ltB (x2.getD p108.toNat (0 : Int)) 0) || (((Int.tmod (x2.getD p108.toNat (0 : Int)) 2) == 0) && (ltB x0 (x2.getD p108.toNat (0 : Int))))) || (((Int.tmod (x2.getD p108.toNat (0 : Int)) 2) == 1) && (ltB x1 (x2.getD p108.toNat (0 : Int)))))
        · replace hM107 := bif_f hc111 hM107
          refine cond_f hF rfl hc111 ?_
          refine wp_skip ?_
          refine wp_region_lit ?_
          refine op_val (v := .int .i64 p108) rfl rfl hF rfl (run_move rfl (hF.ev rfl)) ?_; clear hF; intro a hF
          refine op_val (v := .int .i64 (w64 (p108 + 1))) rfl rfl hF rfl (run_add (z := w64 (p108 + 1)) (hF.ev rfl) rfl rfl rfl) ?_; clear hF; intro a hF
          refine op_val (v := .int .i64 (w64 (p108 + 1))) rfl rfl hF rfl (run_assign rfl (hF.ev rfl)) ?_; clear hF; intro a hF
          refine wpList_nil ?_
          exact ⟨f1, Nat.lt_succ_self _, w64 (p108 + 1), hM107, hF.keep _ ⟨rfl, rfl, rfl, trivial⟩, S.sel [0] rfl rfl⟩
        · replace hM107 := bif_t hc111 hM107
          refine cond_t hF rfl hc111 ?_
          refine wp_seq ?_
          refine wp_region_lit ?_
          refine op_val (v := .bool false) rfl rfl hF rfl (run_assign rfl rfl) ?_; clear hF; intro a hF
          refine wpList_nil ?_
          refine wp_ret ?_
          repeat with_reducible (first | refine then_ret ?_ | refine in_ret ?_ | refine in_nrm ?_)
          refine ret1_gw (.inl rfl) hF rfl (res_tmp (hF.ev rfl)) ?_
          obtain rfl := Option.some.inj hM107
          obtain rfl := Option.some.inj hM
          exact ⟨rfl, S.sel [] rfl rfl⟩
    · rintro a u ⟨p105, rfl, hF, S⟩
      replace hM := elim_l hM
      refine wp_seq ?_
      refine wp_region_lit ?_
      refine op_val (v := .pointer (some ⟨g101, 2, none⟩)) rfl rfl hF rfl (run_fieldAddr rfl fl28_2 (hF.ev rfl) rfl) ?_; clear hF; intro a hF
      refine op_val (v := .slice A2 x2.length c2) rfl rfl hF rfl (run_load1 rfl one22 (hF.ev rfl) ((S.free 0 rfl).cell rfl)) ?_; clear hF; intro a hF
      refine op_val (v := .int .i64 (x2.length : Int)) rfl rfl hF rfl (run_lenL rfl rfl Try.underlying22 (hF.ev rfl)) ?_; clear hF; intro a hF
      obtain ⟨p112, h112, hM⟩ := bind_ex hM
      refine op_call rfl rfl hF rfl (run_call (vs := [.int .i64 (x2.length : Int), .int .i64 1, .int .i64 5]) rfl rfl co25 ⟨(hF.ev rfl), rfl, rfl, trivial⟩) (c_spec_l1In (x0 := (x2.length : Int)) (x1 := 1) (x2 := 5)  h112) ?_
      rintro e u ⟨rfl, T⟩
      refine ⟨_, rfl, ?_⟩
      clear hF; intro a hF
      replace S := S.call0 T; clear T
      refine op_val (v := .bool p112) rfl rfl hF rfl (run_assign rfl (hF.ev rfl)) ?_; clear hF; intro a hF
      refine wpList_nil ?_
      refine wp_ret ?_
      repeat with_reducible (first | refine then_ret ?_ | refine in_ret ?_ | refine in_nrm ?_)
      refine ret1_gw (.inl rfl) hF rfl (res_tmp (hF.ev rfl)) ?_
      obtain rfl := Option.some.inj hM
      exact ⟨rfl, S.sel [] rfl rfl⟩
  · replace hM := bif_t hc104 hM
    refine cond_t hF rfl hc104 ?_
    refine wp_seq ?_
    refine wp_region_lit ?_
    refine op_val (v := .bool false) rfl rfl hF rfl (run_assign rfl rfl) ?_; clear hF; intro a hF
    refine wpList_nil ?_
    refine wp_ret ?_
    repeat with_reducible (first | refine then_ret ?_ | refine in_ret ?_ | refine in_nrm ?_)
    refine ret1_gw (.inl rfl) hF rfl (res_tmp (hF.ev rfl)) ?_
    obtain rfl := Option.some.inj hM
    exact ⟨rfl, S.sel [] rfl rfl⟩

set_option maxHeartbeats 4000000 in
theorem c_spec_l32Set {x0 : Int} {x1 : Int} {x2 : List Int} {x3 : Int} {x4 : Int} {A2 : Option Addr} {n2 c2 : Nat} {w : World} {r : Int × Int × List Int} (h2 : Rt w 1 eI A2 n2 c2 x2) (hM : m_spec_l32Set x0 x1 x2 x3 x4 = some r) :
    Calls Try.prog 24 #[.agg #[.int .i64 x0, .int .i64 x1, .slice A2 n2 c2], .int .i64 x3, .int .i64 x4] w (fun e w' => ∃ (B0 : Option Addr) (N0 D0 : Nat), e = .returned (.agg #[.int .i64 r.1, .int .i64 r.2.1, .slice B0 N0 D0]) ∧ N0 = r.2.2.length ∧ St w w' [.row 3 1 (.slice B0 N0 D0) N0 (r.2.2.flatMap eI)]) := by
  obtain rfl := h2.len
  unfold m_spec_l32Set at hM
  refine calls_gw Try.func24 Try.ntmps24 rfl [(0, .agg #[.int .i64 x0, .int .i64 x1, .slice A2 x2.length c2]), (1, .int .i64 x3), (2, .int .i64 x4)] ⟨rfl, rfl, rfl, trivial⟩ rfl ?_
  intro a hF
  have S := St.nil w
  refine wp_seq ?_
  refine wp_region_lit ?_
  refine op_new (cs := #[.int .i64 x0, .int .i64 x1, .slice A2 x2.length c2]) rfl rfl hF rfl S (run_box rfl (hF.ev rfl) rfl) ?_; clear hF S; intro a g101 u hF S
  refine op_new (cs := #[.int .i64 0, .int .i64 0, .slice none 0 0]) rfl rfl hF rfl S (run_allocZ rfl zr28) ?_; clear hF S; intro a g102 u hF S
  refine wpList_nil ?_
  refine wp_seq ?_
  obtain ⟨hk103, hM⟩ := chk_ex hM
  replace hk103 := apB_t hk103
  refine region_gw (D := [8, 9, 10, 11, 12, 13, 14, 15, 16, 7]) (Lr := [.box g102 28 #[.int .i64 0, .int .i64 0, .slice none 0 0], .box g101 28 #[.int .i64 x0, .int .i64 x1, .slice A2 x2.length c2]]) (deps := (fun | 0 => [8] | 1 => [9] | 2 => [10] | 3 => [11] | 4 => [12] | 5 => [13] | 6 => [14] | 7 => [15] | 8 => [16, 15] | 9 => [7] | 10 => [7, 15] | _ => [])) (rd := (fun _ => [])) (zr := (fun _ => []))
    (φ := fun i vs => match i, vs with | 0, [v8] => v8 = .pointer (some ⟨g101, 0, none⟩) | 1, [v9] => v9 = .int .i64 x0 | 2, [v10] => v10 = .pointer (some ⟨g101, 1, none⟩) | 3, [v11] => v11 = .int .i64 x1 | 4, [v12] => v12 = .slice (slA v12) 0 0 | 5, [v13] => v13 = .pointer (some ⟨g101, 2, none⟩) | 6, [v14] => v14 = .slice A2 x2.length c2 | 7, [v15] => v15 = .slice (slA v15) (([] ++ x2).length) (slC v15) | 8, [v16, v15] => v16 = .agg #[.int .i64 x0, .int .i64 x1, .slice (slA v15) (([] ++ x2).length) (slC v15)] | 9, [v7] => v7 = .pointer (some ⟨ptB v7, 0, none⟩) | _, _ => True)
    (C := fun i vs => match i, vs with | 4, [v12] => [.row 3 1 (.slice (slA v12) 0 0) 0 (([] : List Int).flatMap eI)] | 7, [v15] => [.row 3 1 (.slice (slA v15) (([] ++ x2).length) (slC v15)) (([] ++ x2).length) (([] ++ x2).flatMap eI)] | 9, [v7] => [.box (ptB v7) 28 #[.int .i64 0, .int .i64 0, .slice none 0 0]] | 10, [v7, v15] => [.box (ptB v7) 28 #[.int .i64 x0, .int .i64 x1, .slice (slA v15) (([] ++ x2).length) (slC v15)]] | _, _ => [])
    (κ := (fun | 4 => some 7 | 9 => some 10 | _ => none)) (Z := (fun _ => [])) mixed hF (by kernel_rfl) S ?_ ?_
  · refine ⟨?_, ?_, ?_, ?_, ?_, ?_, ?_, ?_, ?_, ?_, ?_, trivial⟩
    · intro a u X hB hp hr hz hl S
      replace S : St w u ([] ++ X) := S
      exact .inl ⟨rfl, .pointer (some ⟨g101, 0, none⟩), u, (run_fieldAddr rfl fl28_0 (hF.evB hB rfl rfl) rfl), rfl, S⟩
    · intro a u X hB hp hr hz hl S
      replace S : St w u ([] ++ X) := S
      have e8 : sl a 8 = .pointer (some ⟨g101, 0, none⟩) := hp 0 rfl
      exact .inl ⟨rfl, .int .i64 x0, u, (run_load1 rfl one3 (ev_sl e8) ((gr_box S hl 1 rfl).cell rfl)), rfl, S⟩
    · intro a u X hB hp hr hz hl S
      replace S : St w u ([] ++ X) := S
      exact .inl ⟨rfl, .pointer (some ⟨g101, 1, none⟩), u, (run_fieldAddr rfl fl28_1 (hF.evB hB rfl rfl) rfl), rfl, S⟩
    · intro a u X hB hp hr hz hl S
      replace S : St w u ([] ++ X) := S
      have e10 : sl a 10 = .pointer (some ⟨g101, 1, none⟩) := hp 2 rfl
      exact .inl ⟨rfl, .int .i64 x1, u, (run_load1 rfl one3 (ev_sl e10) ((gr_box S hl 1 rfl).cell rfl)), rfl, S⟩
    · intro a u X hB hp hr hz hl S
      replace S : St w u ([] ++ X) := S
      exact .inl ⟨rfl, _, _, run_buildSlice0 rfl Try.underlying22 rfl, rfl, S.newrow 3 1 0 #[] rfl (Nat.zero_le _)⟩
    · intro a u X hB hp hr hz hl S
      replace S : St w u ([] ++ X) := S
      exact .inl ⟨rfl, .pointer (some ⟨g101, 2, none⟩), u, (run_fieldAddr rfl fl28_2 (hF.evB hB rfl rfl) rfl), rfl, S⟩
    · intro a u X hB hp hr hz hl S
      replace S : St w u ([] ++ X) := S
      have e13 : sl a 13 = .pointer (some ⟨g101, 2, none⟩) := hp 5 rfl
      exact .inl ⟨rfl, .slice A2 x2.length c2, u, (run_load1 rfl one22 (ev_sl e13) ((gr_box S hl 1 rfl).cell rfl)), rfl, S⟩
    · intro a u X hB hp hr hz hl S
      replace S : St w u ([.row 3 1 (.slice (slA (sl a 12)) 0 0) 0 (([] : List Int).flatMap eI)] ++ X) := S
      have e12 : sl a 12 = .slice (slA (sl a 12)) 0 0 := hp 4 rfl
      have e14 : sl a 14 = .slice A2 x2.length c2 := hp 6 rfl
      obtain ⟨B, d, w', hrun, S'⟩ := S.appendL (i := 0) (P := Try.prog) (ty := 22) (lx := []) (ly := x2) (c' := c2) rfl rfl Try.underlying22 inf3 rfl (by decide) (S.rc0 h2.rc).rd rfl eI_one hk103 (by decide)
      exact .inl ⟨rfl, _, w', run_append rfl (ev_sl e12) (ev_sl e14) hrun, rfl, S'⟩
    · intro a u X hB hp hr hz hl S
      replace S : St w u ([] ++ X) := S
      have e9 : sl a 9 = .int .i64 x0 := hp 1 rfl
      have e11 : sl a 11 = .int .i64 x1 := hp 3 rfl
      have e15 : sl a 15 = .slice (slA (sl a 15)) (([] ++ x2).length) (slC (sl a 15)) := hp 7 rfl
      exact .inl ⟨rfl, .agg #[.int .i64 x0, .int .i64 x1, .slice (slA (sl a 15)) (([] ++ x2).length) (slC (sl a 15))], u, (run_build (vs := [(0, .int .i64 x0), (1, .int .i64 x1), (2, .slice (slA (sl a 15)) (([] ++ x2).length) (slC (sl a 15)))]) rfl ⟨⟨rfl, (ev_sl e9)⟩, ⟨rfl, (ev_sl e11)⟩, ⟨rfl, (ev_sl e15)⟩, trivial⟩ (bd28_0_1_2 rfl rfl rfl)), rfl, S⟩
    · intro a u X hB hp hr hz hl S
      replace S : St w u ([] ++ X) := S
      exact .inl ⟨rfl, _, _, (run_allocZ rfl zr28), rfl, S.alloc _ _⟩
    · intro a u X hB hp hr hz hl S
      replace S : St w u ([.box (ptB (sl a 7)) 28 #[.int .i64 0, .int .i64 0, .slice none 0 0]] ++ X) := S
      have e7 : sl a 7 = .pointer (some ⟨ptB (sl a 7), 0, none⟩) := hp 9 rfl
      have e16 : sl a 16 = .agg #[.int .i64 x0, .int .i64 x1, .slice (slA (sl a 15)) (([] ++ x2).length) (slC (sl a 15))] := hp 8 rfl
      exact .inr (.inl ⟨rfl, _, run_store (cs' := #[.int .i64 x0, .int .i64 x1, .slice (slA (sl a 15)) (([] ++ x2).length) (slC (sl a 15))]) rfl sz28 (ev_sl e7) (ev_sl e16) rfl rfl rfl (S.free 0 rfl) rfl rfl, trivial, S.put 0 rfl (#[.int .i64 x0, .int .i64 x1, .slice (slA (sl a 15)) (([] ++ x2).length) (slC (sl a 15))])⟩)
  · intro a u hB hp S
    obtain ⟨q0, q1, q2, q3, q4, q5, q6, q7, q8, q9, q10, _⟩ := hp
    have e8 : sl a 8 = .pointer (some ⟨g101, 0, none⟩) := q0
    have e9 : sl a 9 = .int .i64 x0 := q1
    have e10 : sl a 10 = .pointer (some ⟨g101, 1, none⟩) := q2
    have e11 : sl a 11 = .int .i64 x1 := q3
    have e12 : sl a 12 = .slice (slA (sl a 12)) 0 0 := q4
    have e13 : sl a 13 = .pointer (some ⟨g101, 2, none⟩) := q5
    have e14 : sl a 14 = .slice A2 x2.length c2 := q6
    have e15 : sl a 15 = .slice (slA (sl a 15)) (([] ++ x2).length) (slC (sl a 15)) := q7
    have e16 : sl a 16 = .agg #[.int .i64 x0, .int .i64 x1, .slice (slA (sl a 15)) (([] ++ x2).length) (slC (sl a 15))] := q8
    have e7 : sl a 7 = .pointer (some ⟨ptB (sl a 7), 0, none⟩) := q9
    replace S : St w u [.row 3 1 (.slice (slA (sl a 15)) (([] ++ x2).length) (slC (sl a 15))) (([] ++ x2).length) (([] ++ x2).flatMap eI), .box (ptB (sl a 7)) 28 #[.int .i64 x0, .int .i64 x1, .slice (slA (sl a 15)) (([] ++ x2).length) (slC (sl a 15))], .box g102 28 #[.int .i64 0, .int .i64 0, .slice none 0 0], .box g101 28 #[.int .i64 x0, .int .i64 x1, .slice A2 x2.length c2]] := S
    clear q0 q1 q2 q3 q4 q5 q6 q7 q8 q9 q10
    generalize slA (sl a 12) = B104 at *
    generalize slA (sl a 15) = B105 at *
    generalize slC (sl a 15) = d106 at *
    generalize ptB (sl a 7) = g107 at *
    have hF := hF.region hB [(8, .pointer (some ⟨g101, 0, none⟩)), (9, .int .i64 x0), (10, .pointer (some ⟨g101, 1, none⟩)), (11, .int .i64 x1), (12, .slice B104 0 0), (13, .pointer (some ⟨g101, 2, none⟩)), (14, .slice A2 x2.length c2), (15, .slice B105 (([] ++ x2).length) d106), (16, .agg #[.int .i64 x0, .int .i64 x1, .slice B105 (([] ++ x2).length) d106]), (7, .pointer (some ⟨g107, 0, none⟩))] (allSl_mem ⟨e8, e9, e10, e11, e12, e13, e14, e15, e16, e7, trivial⟩) rfl
    clear hB e8 e9 e10 e11 e12 e13 e14 e15 e16 e7
    refine wp_seq ?_
    refine wp_seq ?_
    refine wp_region_lit ?_
    refine op_val (v := .int .i64 x3) rfl rfl hF rfl (run_move rfl (hF.ev rfl)) ?_; clear hF; intro a hF
    refine op_val (v := .bool (x3 == 0)) rfl rfl hF rfl (run_eql (hF.ev rfl) rfl rfl) ?_; clear hF; intro a hF
    refine wpList_nil ?_
    obtain ⟨o109, hM110, hM⟩ := bind_ex hM
    refine wp_cut (fun a u => ∃ (p108 : Int × Int), p108 = o109 ∧ Fr a 24 [(6, .pointer (some ⟨g102, 0, none⟩)), (7, .pointer (some ⟨g107, 0, none⟩))] ∧ St w u [.box g107 28 #[.int .i64 p108.1, .int .i64 p108.2, .slice B105 (([] ++ x2).length) d106], .box g102 28 #[.int .i64 0, .int .i64 0, .slice none 0 0], .box g101 28 #[.int .i64 x0, .int .i64 x1, .slice A2 x2.length c2], .row 3 1 (.slice B105 (([] ++ x2).length) d106) (([] ++ x2).length) (([] ++ x2).flatMap eI)]) ?_ ?_
    · have _ := trivial
      cases hc111 : (x3 == 0)
      · replace hM110 := bif_f hc111 hM110
        refine cond_f hF rfl hc111 ?_
        refine wp_region_lit ?_
        refine op_val (v := .int .i64 x4) rfl rfl hF rfl (run_move rfl (hF.ev rfl)) ?_; clear hF; intro a hF
        refine op_val (v := .pointer (some ⟨g107, 1, none⟩)) rfl rfl hF rfl (run_fieldAddr rfl fl28_1 (hF.ev rfl) rfl) ?_; clear hF; intro a hF
        refine op_do rfl rfl (run_store (cs' := #[.int .i64 x0, .int .i64 x4, .slice B105 (([] ++ x2).length) d106]) rfl sz3 (hF.ev rfl) (hF.ev rfl) rfl rfl rfl (S.free 1 rfl) rfl rfl) ?_; replace S := S.put 1 rfl (#[.int .i64 x0, .int .i64 x4, .slice B105 (([] ++ x2).length) d106])
        generalize World.setRow _ _ _ = u at S ⊢
        refine wpList_nil ?_
        obtain rfl := Option.some.inj hM110
        exact ⟨(x0, x4), rfl, hF.keep _ ⟨rfl, rfl, trivial⟩, S.sel [1, 2, 3, 0] rfl rfl⟩
      · replace hM110 := bif_t hc111 hM110
        refine cond_t hF rfl hc111 ?_
        refine wp_region_lit ?_
        refine op_val (v := .int .i64 x4) rfl rfl hF rfl (run_move rfl (hF.ev rfl)) ?_; clear hF; intro a hF
        refine op_val (v := .pointer (some ⟨g107, 0, none⟩)) rfl rfl hF rfl (run_fieldAddr rfl fl28_0 (hF.ev rfl) rfl) ?_; clear hF; intro a hF
        refine op_do rfl rfl (run_store (cs' := #[.int .i64 x4, .int .i64 x1, .slice B105 (([] ++ x2).length) d106]) rfl sz3 (hF.ev rfl) (hF.ev rfl) rfl rfl rfl (S.free 1 rfl) rfl rfl) ?_; replace S := S.put 1 rfl (#[.int .i64 x4, .int .i64 x1, .slice B105 (([] ++ x2).length) d106])
        generalize World.setRow _ _ _ = u at S ⊢
        refine wpList_nil ?_
        obtain rfl := Option.some.inj hM110
        exact ⟨(x4, x1), rfl, hF.keep _ ⟨rfl, rfl, trivial⟩, S.sel [1, 2, 3, 0] rfl rfl⟩
    · rintro a u ⟨p108, rfl, hF, S⟩
      refine wp_seq ?_
      refine wp_region_lit ?_
      refine op_val (v := .agg #[.int .i64 p108.1, .int .i64 p108.2, .slice B105 (([] ++ x2).length) d106]) rfl rfl hF rfl (run_loadN rfl ag28 (hF.ev rfl) rfl ((S.free 0 rfl).cells 0 #[.int .i64 p108.1, .int .i64 p108.2, .slice B105 (([] ++ x2).length) d106] rfl)) ?_; clear hF; intro a hF
      refine op_do rfl rfl (run_store (cs' := #[.int .i64 p108.1, .int .i64 p108.2, .slice B105 (([] ++ x2).length) d106]) rfl sz28 (hF.ev rfl) (hF.ev rfl) rfl rfl rfl (S.free 1 rfl) rfl rfl) ?_; replace S := S.put 1 rfl (#[.int .i64 p108.1, .int .i64 p108.2, .slice B105 (([] ++ x2).length) d106])
      generalize World.setRow _ _ _ = u at S ⊢
      refine wpList_nil ?_
      refine wp_ret ?_
      repeat with_reducible (first | refine then_ret ?_ | refine in_ret ?_ | refine in_nrm ?_)
      refine ret1_gw (.inl rfl) hF rfl (res_cell (hF.ev rfl) (res_loadN ag28 rfl (S.cells 1 rfl 0 #[.int .i64 p108.1, .int .i64 p108.2, .slice B105 (([] ++ x2).length) d106] rfl))) ?_
      obtain rfl := Option.some.inj hM
      exact ⟨B105, (([] ++ x2).length), d106, rfl, rfl, S.sel [3] rfl rfl⟩

set_option maxHeartbeats 4000000 in
theorem c_spec_l32Epoch {x0 : Int} {x1 : Int} {x2 : List Int} {x3 : Int} {A2 : Option Addr} {n2 c2 : Nat} {w : World} {r : Int} (h2 : Rt w 1 eI A2 n2 c2 x2) (hM : m_spec_l32Epoch x0 x1 x2 x3 = some r) :
    Calls Try.prog 26 #[.agg #[.int .i64 x0, .int .i64 x1, .slice A2 n2 c2], .int .i64 x3] w (fun e w' => e = .returned (.int .i64 r) ∧ St w w' []) := by
  obtain rfl := h2.len
  unfold m_spec_l32Epoch at hM
  refine calls_gw Try.func26 Try.ntmps26 rfl [(0, .agg #[.int .i64 x0, .int .i64 x1, .slice A2 x2.length c2]), (1, .int .i64 x3)] ⟨rfl, rfl, trivial⟩ rfl ?_
  intro a hF
  have S := St.nil w
  refine wp_seq ?_
  refine wp_region_lit ?_
  refine op_new (cs := #[.int .i64 x0, .int .i64 x1, .slice A2 x2.length c2]) rfl rfl hF rfl S (run_box rfl (hF.ev rfl) rfl) ?_; clear hF S; intro a g101 u hF S
  refine op_val (v := .int .i64 0) rfl rfl hF rfl (run_assign rfl rfl) ?_; clear hF; intro a hF
  refine wpList_nil ?_
  refine wp_seq ?_
  refine wp_seq ?_
  refine wp_region_lit ?_
  refine op_val (v := .int .i64 x3) rfl rfl hF rfl (run_move rfl (hF.ev rfl)) ?_; clear hF; intro a hF
  refine op_val (v := .bool (x3 == 0)) rfl rfl hF rfl (run_eql (hF.ev rfl) rfl rfl) ?_; clear hF; intro a hF
  refine wpList_nil ?_
  cases hc102 : (x3 == 0)
  · replace hM := bif_f hc102 hM
    refine cond_f hF rfl hc102 ?_
    refine wp_skip ?_
    refine wp_seq ?_
    refine wp_region_lit ?_
    refine op_val (v := .pointer (some ⟨g101, 1, none⟩)) rfl rfl hF rfl (run_fieldAddr rfl fl28_1 (hF.ev rfl) rfl) ?_; clear hF; intro a hF
    refine op_val (v := .int .i64 x1) rfl rfl hF rfl (run_load1 rfl one3 (hF.ev rfl) ((S.free 0 rfl).cell rfl)) ?_; clear hF; intro a hF
    refine op_val (v := .int .i64 x1) rfl rfl hF rfl (run_assign rfl (hF.ev rfl)) ?_; clear hF; intro a hF
    refine wpList_nil ?_
    refine wp_ret ?_
    repeat with_reducible (first | refine then_ret ?_ | refine in_ret ?_ | refine in_nrm ?_)
    refine ret1_gw (.inl rfl) hF rfl (res_tmp (hF.ev rfl)) ?_
    obtain rfl := Option.some.inj hM
    exact ⟨rfl, S.sel [] rfl rfl⟩
  · replace hM := bif_t hc102 hM
    refine cond_t hF rfl hc102 ?_
    refine wp_seq ?_
    refine wp_region_lit ?_
    refine op_val (v := .pointer (some ⟨g101, 0, none⟩)) rfl rfl hF rfl (run_fieldAddr rfl fl28_0 (hF.ev rfl) rfl) ?_; clear hF; intro a hF
    refine op_val (v := .int .i64 x0) rfl rfl hF rfl (run_load1 rfl one3 (hF.ev rfl) ((S.free 0 rfl).cell rfl)) ?_; clear hF; intro a hF
    refine op_val (v := .int .i64 x0) rfl rfl hF rfl (run_assign rfl (hF.ev rfl)) ?_; clear hF; intro a hF
    refine wpList_nil ?_
    refine wp_ret ?_
    repeat with_reducible (first | refine then_ret ?_ | refine in_ret ?_ | refine in_nrm ?_)
    refine ret1_gw (.inl rfl) hF rfl (res_tmp (hF.ev rfl)) ?_
    obtain rfl := Option.some.inj hM
    exact ⟨rfl, S.sel [] rfl rfl⟩

set_option maxHeartbeats 4000000 in
theorem c_spec_RoomsDo {x0 : Int} {x1 : Int} {x2 : List Int} {x3 : Int} {x4 : Int} {x5 : Int} {A2 : Option Addr} {n2 c2 : Nat} {w : World} {r : Int × Int × List Int × Bool} (h2 : Rt w 1 eI A2 n2 c2 x2) (hM : m_spec_RoomsDo x0 x1 x2 x3 x4 x5 = some r) :
    Calls Try.prog 7 #[.agg #[.int .i64 x0, .int .i64 x1, .slice A2 n2 c2], .agg #[.int .i64 x3, .int .i64 x4, .int .i64 x5]] w (fun e w' => ∃ (B0 : Option Addr) (N0 D0 : Nat), e = .returned (.tuple #[.agg #[.int .i64 r.1, .int .i64 r.2.1, .slice B0 N0 D0], .bool r.2.2.2]) ∧ N0 = r.2.2.1.length ∧ St w w' [.row 3 1 (.slice B0 N0 D0) N0 (r.2.2.1.flatMap eI)]) := by
  obtain rfl := h2.len
  unfold m_spec_RoomsDo at hM
  refine calls_gw Try.func7 Try.ntmps7 rfl [(0, .agg #[.int .i64 x0, .int .i64 x1, .slice A2 x2.length c2]), (1, .agg #[.int .i64 x3, .int .i64 x4, .int .i64 x5])] ⟨rfl, rfl, trivial⟩ rfl ?_
  intro a hF
  have S := St.nil w
  refine wp_seq ?_
  refine wp_region_lit ?_
  refine op_new (cs := #[.int .i64 x0, .int .i64 x1, .slice A2 x2.length c2]) rfl rfl hF rfl S (run_box rfl (hF.ev rfl) rfl) ?_; clear hF S; intro a g101 u hF S
  refine op_new (cs := #[.int .i64 x3, .int .i64 x4, .int .i64 x5]) rfl rfl hF rfl S (run_box rfl (hF.ev rfl) rfl) ?_; clear hF S; intro a g102 u hF S
  refine op_new (cs := #[.int .i64 0, .int .i64 0, .slice none 0 0]) rfl rfl hF rfl S (run_allocZ rfl zr28) ?_; clear hF S; intro a g103 u hF S
  refine op_val (v := .bool false) rfl rfl hF rfl (run_assign rfl rfl) ?_; clear hF; intro a hF
  refine wpList_nil ?_
  refine wp_seq ?_
  refine wp_seq ?_
  refine wp_region_lit ?_
  refine op_val (v := .agg #[.int .i64 x0, .int .i64 x1, .slice A2 x2.length c2]) rfl rfl hF rfl (run_loadN rfl ag28 (hF.ev rfl) rfl ((S.free 2 rfl).cells 0 #[.int .i64 x0, .int .i64 x1, .slice A2 x2.length c2] rfl)) ?_; clear hF; intro a hF
  obtain ⟨p104, h104, hM⟩ := bind_ex hM
  refine op_call rfl rfl hF rfl (run_call (vs := [.agg #[.int .i64 x0, .int .i64 x1, .slice A2 x2.length c2]]) rfl rfl co23 ⟨(hF.ev rfl), trivial⟩) (c_spec_RoomsValid (x0 := x0) (x1 := x1) (x2 := x2) ⟨(S.rc0 h2.rc), rfl⟩ h104) ?_
  rintro e u ⟨rfl, T⟩
  refine ⟨_, rfl, ?_⟩
  clear hF; intro a hF
  replace S := S.call0 T; clear T
  refine op_val (v := .bool (!p104)) rfl rfl hF rfl (run_not rfl (hF.ev rfl)) ?_; clear hF; intro a hF
  refine wpList_nil ?_
  cases hc105 : (p104)
  · replace hM := bif_f hc105 hM
    refine cond_t hF rfl (not_t hc105) ?_
    refine wp_seq ?_
    refine wp_region_lit ?_
    refine op_val (v := .agg #[.int .i64 0, .int .i64 0, .slice none 0 0]) rfl rfl hF rfl (run_build (vs := []) rfl trivial (bd28 )) ?_; clear hF; intro a hF
    refine op_do rfl rfl (run_store (cs' := #[.int .i64 0, .int .i64 0, .slice none 0 0]) rfl sz28 (hF.ev rfl) (hF.ev rfl) rfl rfl rfl (S.free 0 rfl) rfl rfl) ?_; replace S := S.put 0 rfl (#[.int .i64 0, .int .i64 0, .slice none 0 0])
    generalize World.setRow _ _ _ = u at S ⊢
    refine op_val (v := .bool false) rfl rfl hF rfl (run_assign rfl rfl) ?_; clear hF; intro a hF
    refine wpList_nil ?_
    refine wp_ret ?_
    repeat with_reducible (first | refine then_ret ?_ | refine in_ret ?_ | refine in_nrm ?_)
    refine ret2_gw (.inl rfl) hF rfl (res_cell (hF.ev rfl) (res_loadN ag28 rfl (S.cells 0 rfl 0 #[.int .i64 0, .int .i64 0, .slice none 0 0] rfl))) (res_tmp (hF.ev rfl)) ?_
    obtain rfl := Option.some.inj hM
    replace S := S.nilrow 3 1
    exact ⟨none, 0, 0, rfl, rfl, S.sel [0] rfl rfl⟩
  · replace hM := bif_t hc105 hM
    refine cond_f hF rfl (not_f hc105) ?_
    refine wp_skip ?_
    refine wp_seq ?_
    refine wp_region_lit ?_
    refine op_val (v := .agg #[.int .i64 x0, .int .i64 x1, .slice A2 x2.length c2]) rfl rfl hF rfl (run_loadN rfl ag28 (hF.ev rfl) rfl ((S.free 2 rfl).cells 0 #[.int .i64 x0, .int .i64 x1, .slice A2 x2.length c2] rfl)) ?_; clear hF; intro a hF
    refine op_val (v := .pointer (some ⟨g101, 0, none⟩)) rfl rfl hF rfl (run_fieldAddr rfl fl28_0 (hF.ev rfl) rfl) ?_; clear hF; intro a hF
    refine op_val (v := .int .i64 x0) rfl rfl hF rfl (run_load1 rfl one3 (hF.ev rfl) ((S.free 2 rfl).cell rfl)) ?_; clear hF; intro a hF
    obtain ⟨p106, h106, hM⟩ := bind_ex hM
    refine op_call rfl rfl hF rfl (run_call (vs := [.agg #[.int .i64 x0, .int .i64 x1, .slice A2 x2.length c2], .int .i64 0, .int .i64 x0]) rfl rfl co24 ⟨(hF.ev rfl), rfl, (hF.ev rfl), trivial⟩) (c_spec_l32Set (x0 := x0) (x1 := x1) (x2 := x2) (x3 := 0) (x4 := x0) ⟨(S.rc0 h2.rc), rfl⟩ h106) ?_
    rintro e u ⟨B107, n108, d109, rfl, rfl, T⟩
    refine ⟨_, rfl, ?_⟩
    clear hF; intro a hF
    replace S := S.call1 T; clear T
    refine op_new (cs := #[.int .i64 0, .int .i64 0, .slice none 0 0]) rfl rfl hF rfl S (run_allocZ rfl zr28) ?_; clear hF S; intro a g110 u hF S
    refine op_do rfl rfl (run_store (cs' := #[.int .i64 p106.1, .int .i64 p106.2.1, .slice B107 p106.2.2.length d109]) rfl sz28 (hF.ev rfl) (hF.ev rfl) rfl rfl rfl (S.free 0 rfl) rfl rfl) ?_; replace S := S.put 0 rfl (#[.int .i64 p106.1, .int .i64 p106.2.1, .slice B107 p106.2.2.length d109])
    generalize World.setRow _ _ _ = u at S ⊢
    refine wpList_nil ?_
    refine wp_seq ?_
    refine wp_seq ?_
    refine wp_region_lit ?_
    refine op_val (v := .pointer (some ⟨g102, 1, none⟩)) rfl rfl hF rfl (run_fieldAddr rfl fl32_1 (hF.ev rfl) rfl) ?_; clear hF; intro a hF
    refine op_val (v := .int .i64 x4) rfl rfl hF rfl (run_load1 rfl one3 (hF.ev rfl) ((S.free 3 rfl).cell rfl)) ?_; clear hF; intro a hF
    obtain ⟨p111, h111, hM⟩ := bind_ex hM
    refine op_call rfl rfl hF rfl (run_call (vs := [.int .i64 x4, .int .i64 0, .int .i64 1]) rfl rfl co25 ⟨(hF.ev rfl), rfl, rfl, trivial⟩) (c_spec_l1In (x0 := x4) (x1 := 0) (x2 := 1)  h111) ?_
    rintro e u ⟨rfl, T⟩
    refine ⟨_, rfl, ?_⟩
    clear hF; intro a hF
    replace S := S.call0 T; clear T
    refine op_val (v := .bool (!p111)) rfl rfl hF rfl (run_not rfl (hF.ev rfl)) ?_; clear hF; intro a hF
    refine op_val (v := .bool (!p111)) rfl rfl hF rfl (run_move rfl (hF.ev rfl)) ?_; clear hF; intro a hF
    refine op_gv (v := .pointer (some ⟨g102, 0, none⟩)) rfl rfl hF rfl (yf (gw_yield hF rfl rfl rfl)) (fun hg => (run_fieldAddr rfl fl32_0 (hF.ev rfl) rfl)) ?_; clear hF; intro a hF
    refine op_gv (v := .int .i64 x3) rfl rfl hF rfl (yf (gw_yield hF rfl rfl rfl)) (fun hg => (run_load1 rfl one3 ((hF.ev rfl).trans (gv_t hg)) ((S.free 3 rfl).cell rfl))) ?_; clear hF; intro a hF
    refine op_gv (v := .bool (x3 != 0)) rfl rfl hF rfl (yf (gw_yield hF rfl rfl rfl)) (fun hg => (run_neq ((hF.ev rfl).trans (gv_t hg)) rfl rfl)) ?_; clear hF; intro a hF
    refine op_gv (v := .bool (x3 != 0)) rfl rfl hF rfl (yf (gw_yield hF rfl rfl rfl)) (fun hg => (run_move rfl ((hF.ev rfl).trans (gv_t hg)))) ?_; clear hF; intro a hF
    refine op_gv (v := .pointer (some ⟨g102, 2, none⟩)) rfl rfl hF rfl (ytG (gw_yieldG hF rfl rfl rfl)) (fun hg => (run_fieldAddr rfl fl32_2 (hF.ev rfl) rfl)) ?_; clear hF; intro a hF
    refine op_gv (v := .int .i64 x5) rfl rfl hF rfl (ytG (gw_yieldG hF rfl rfl rfl)) (fun hg => (run_load1 rfl one3 ((hF.ev rfl).trans (gv_t hg)) ((S.free 3 rfl).cell rfl))) ?_; clear hF; intro a hF
    refine op_gv (v := .pointer (some ⟨g101, 2, none⟩)) rfl rfl hF rfl (ytG (gw_yieldG hF rfl rfl rfl)) (fun hg => (run_fieldAddr rfl fl28_2 (hF.ev rfl) rfl)) ?_; clear hF; intro a hF
    refine op_gv (v := .slice A2 x2.length c2) rfl rfl hF rfl (ytG (gw_yieldG hF rfl rfl rfl)) (fun hg => (run_load1 rfl one22 ((hF.ev rfl).trans (gv_t hg)) ((S.free 4 rfl).cell rfl))) ?_; clear hF; intro a hF
    refine op_gv (v := .int .i64 (x2.length : Int)) rfl rfl hF rfl (ytG (gw_yieldG hF rfl rfl rfl)) (fun hg => (run_lenL rfl rfl Try.underlying22 ((hF.ev rfl).trans (gv_t hg)))) ?_; clear hF; intro a hF
    refine op_gv (v := .int .i64 (w64 ((x2.length : Int) - 1))) rfl rfl hF rfl (ytG (gw_yieldG hF rfl rfl rfl)) (fun hg => (run_sub (z := w64 ((x2.length : Int) - 1)) ((hF.ev rfl).trans (gv_t hg)) rfl rfl rfl)) ?_; clear hF; intro a hF
    obtain ⟨p112, h112, hM⟩ := bind_ex hM
    refine op_gcall (v := .bool p112) rfl rfl hF rfl S (ytG (gw_yieldG hF rfl rfl rfl)) (fun hg => (run_call (vs := [.int .i64 x5, .int .i64 0, .int .i64 (w64 ((x2.length : Int) - 1))]) rfl rfl co25 ⟨((hF.ev rfl).trans (gv_t hg)), rfl, ((hF.ev rfl).trans (gv_t hg)), trivial⟩)) (fun hg => c_spec_l1In (x0 := x5) (x1 := 0) (x2 := w64 ((x2.length : Int) - 1))  (gb_t h112 hg)) ?_; clear hF S; intro a u hF S
    refine op_gv (v := .bool (!p112)) rfl rfl hF rfl (ytG (gw_yieldG hF rfl rfl rfl)) (fun hg => (run_not rfl ((hF.ev rfl).trans (gv_t hg)))) ?_; clear hF; intro a hF
    refine op_gv (v := .bool ((x3 != 0) && (!p112))) rfl rfl hF rfl (yf (gw_yield hF rfl rfl rfl)) (fun hg => (run_pick_and rfl ((hF.ev rfl).trans (gv_t hg)) (fun hp => ((hF.ev rfl).trans (gv_t (and_i hg hp)))) rfl)) ?_; clear hF; intro a hF
    refine op_val (v := .bool ((!p111) || ((x3 != 0) && (!p112)))) rfl rfl hF rfl (run_pick_or rfl (hF.ev rfl) rfl (fun hp => ((hF.ev rfl).trans (gv_t (not_t hp))))) ?_; clear hF; intro a hF
    refine wpList_nil ?_
    cases hc113 : ((!p111) || ((x3 != 0) && (!p112)))
    · replace hM := bif_f hc113 hM
      refine cond_f hF rfl hc113 ?_
      refine wp_skip ?_
      refine wp_seq ?_
      refine wp_region_lit ?_
      refine op_val (v := .agg #[.int .i64 x0, .int .i64 x1, .slice A2 x2.length c2]) rfl rfl hF rfl (run_loadN rfl ag28 (hF.ev rfl) rfl ((S.free 4 rfl).cells 0 #[.int .i64 x0, .int .i64 x1, .slice A2 x2.length c2] rfl)) ?_; clear hF; intro a hF
      refine op_val (v := .pointer (some ⟨g102, 1, none⟩)) rfl rfl hF rfl (run_fieldAddr rfl fl32_1 (hF.ev rfl) rfl) ?_; clear hF; intro a hF
      refine op_val (v := .int .i64 x4) rfl rfl hF rfl (run_load1 rfl one3 (hF.ev rfl) ((S.free 3 rfl).cell rfl)) ?_; clear hF; intro a hF
      obtain ⟨p114, h114, hM⟩ := bind_ex hM
      refine op_call rfl rfl hF rfl (run_call (vs := [.agg #[.int .i64 x0, .int .i64 x1, .slice A2 x2.length c2], .int .i64 x4]) rfl rfl co26 ⟨(hF.ev rfl), (hF.ev rfl), trivial⟩) (c_spec_l32Epoch (x0 := x0) (x1 := x1) (x2 := x2) (x3 := x4) ⟨(S.rc0 h2.rc), rfl⟩ h114) ?_
      rintro e u ⟨rfl, T⟩
      refine ⟨_, rfl, ?_⟩
      clear hF; intro a hF
      replace S := S.call0 T; clear T
      refine op_val (v := .int .i64 p114) rfl rfl hF rfl (run_assign rfl (hF.ev rfl)) ?_; clear hF; intro a hF
      refine wpList_nil ?_
      refine wp_seq ?_
      refine wp_seq ?_
      refine wp_region_lit ?_
      refine op_val (v := .pointer (some ⟨g102, 0, none⟩)) rfl rfl hF rfl (run_fieldAddr rfl fl32_0 (hF.ev rfl) rfl) ?_; clear hF; intro a hF
      refine op_val (v := .int .i64 x3) rfl rfl hF rfl (run_load1 rfl one3 (hF.ev rfl) ((S.free 3 rfl).cell rfl)) ?_; clear hF; intro a hF
      refine wpList_nil ?_
      refine wp_block ?_
      refine wp_seq ?_
      refine wp_region_lit ?_
      refine op_val (v := .bool (x3 == 0)) rfl rfl hF rfl (run_eql (hF.ev rfl) rfl rfl) ?_; clear hF; intro a hF
      refine op_val (v := .bool (x3 == 0)) rfl rfl hF rfl (run_assign rfl (hF.ev rfl)) ?_; clear hF; intro a hF
      refine wpList_nil ?_
      cases hc115 : (x3 == 0)
      · replace hM := bif_f hc115 hM
        refine cond_f hF rfl hc115 ?_
        refine wp_seq ?_
        refine wp_region_lit ?_
        refine op_val (v := .bool (x3 == 1)) rfl rfl hF rfl (run_eql (hF.ev rfl) rfl rfl) ?_; clear hF; intro a hF
        refine op_val (v := .bool (x3 == 1)) rfl rfl hF rfl (run_assign rfl (hF.ev rfl)) ?_; clear hF; intro a hF
        refine wpList_nil ?_
        cases hc116 : (x3 == 1)
        · replace hM := bif_f hc116 hM
          refine cond_f hF rfl hc116 ?_
          refine wp_seq ?_
          refine wp_region_lit ?_
          refine op_val (v := .bool (x3 == 2)) rfl rfl hF rfl (run_eql (hF.ev rfl) rfl rfl) ?_; clear hF; intro a hF
          refine op_val (v := .bool (x3 == 2)) rfl rfl hF rfl (run_assign rfl (hF.ev rfl)) ?_; clear hF; intro a hF
          refine wpList_nil ?_
          cases hc117 : (x3 == 2)
          · replace hM := bif_f hc117 hM
            refine cond_f hF rfl hc117 ?_
            refine wp_skip ?_
            refine wp_seq ?_
            refine wp_region_lit ?_
            refine op_val (v := .agg #[.int .i64 p106.1, .int .i64 p106.2.1, .slice B107 p106.2.2.length d109]) rfl rfl hF rfl (run_loadN rfl ag28 (hF.ev rfl) rfl ((S.free 0 rfl).cells 0 #[.int .i64 p106.1, .int .i64 p106.2.1, .slice B107 p106.2.2.length d109] rfl)) ?_; clear hF; intro a hF
            refine op_do rfl rfl (run_store (cs' := #[.int .i64 p106.1, .int .i64 p106.2.1, .slice B107 p106.2.2.length d109]) rfl sz28 (hF.ev rfl) (hF.ev rfl) rfl rfl rfl (S.free 2 rfl) rfl rfl) ?_; replace S := S.put 2 rfl (#[.int .i64 p106.1, .int .i64 p106.2.1, .slice B107 p106.2.2.length d109])
            generalize World.setRow _ _ _ = u at S ⊢
            refine op_val (v := .bool false) rfl rfl hF rfl (run_assign rfl rfl) ?_; clear hF; intro a hF
            refine wpList_nil ?_
            refine wp_ret ?_
            repeat with_reducible (first | refine then_ret ?_ | refine in_ret ?_ | refine in_nrm ?_)
            refine ret2_gw (.inl rfl) hF rfl (res_cell (hF.ev rfl) (res_loadN ag28 rfl (S.cells 2 rfl 0 #[.int .i64 p106.1, .int .i64 p106.2.1, .slice B107 p106.2.2.length d109] rfl))) (res_tmp (hF.ev rfl)) ?_
            obtain rfl := Option.some.inj hM
            exact ⟨B107, p106.2.2.length, d109, rfl, rfl, S.sel [1] rfl rfl⟩
          · replace hM := bif_t hc117 hM
            refine cond_t hF rfl hc117 ?_
            refine wp_seq ?_
            obtain ⟨hk118, hM⟩ := chk_ex hM
            replace hk118 := ixB_t hk118
            obtain ⟨hk119, hM⟩ := chk_ex hM
            replace hk119 := ixB_t hk119
            refine region_gw (D := [98, 99, 100, 101, 102, 103, 104, 105, 106, 107, 108, 109, 110]) (Lr := [.box g110 28 #[.int .i64 p106.1, .int .i64 p106.2.1, .slice B107 p106.2.2.length d109], .box g103 28 #[.int .i64 0, .int .i64 0, .slice none 0 0], .box g102 32 #[.int .i64 x3, .int .i64 x4, .int .i64 x5], .box g101 28 #[.int .i64 x0, .int .i64 x1, .slice A2 x2.length c2]]) (deps := (fun | 0 => [98] | 1 => [99] | 2 => [100] | 3 => [101] | 4 => [102] | 5 => [103] | 6 => [104] | 7 => [105] | 8 => [106] | 9 => [107] | 10 => [108] | 11 => [109] | 12 => [110] | 13 => [110] | _ => [])) (rd := (fun _ => [])) (zr := (fun | 12 => [13] | _ => []))
              (φ := fun i vs => match i, vs with | 0, [v98] => v98 = .pointer (some ⟨g110, 2, none⟩) | 1, [v99] => v99 = .slice B107 p106.2.2.length d109 | 2, [v100] => v100 = .pointer (some ⟨g102, 2, none⟩) | 3, [v101] => v101 = .int .i64 x5 | 4, [v102] => v102 = .pointer (some ⟨g101, 2, none⟩) | 5, [v103] => v103 = .slice A2 x2.length c2 | 6, [v104] => v104 = .pointer (some ⟨g102, 2, none⟩) | 7, [v105] => v105 = .int .i64 x5 | 8, [v106] => v106 = .pointer (some ⟨adB A2, adO A2 + x5.toNat * 1, none⟩) | 9, [v107] => v107 = .int .i64 (x2.getD x5.toNat (0 : Int)) | 10, [v108] => v108 = .int .i64 p114 | 11, [v109] => v109 = .int .i64 (max (x2.getD x5.toNat (0 : Int)) p114) | 12, [v110] => v110 = .pointer (some ⟨adB B107, adO B107 + x5.toNat * 1, none⟩) | _, _ => True)
              (C := fun i vs => match i, vs with | 13, [v110] => [.row 3 1 (.slice B107 p106.2.2.length d109) p106.2.2.length ((p106.2.2.set x5.toNat (max (x2.getD x5.toNat (0 : Int)) p114)).flatMap eI)] | _, _ => [])
              (κ := (fun _ => none)) (Z := (fun | 13 => [.row 3 1 (.slice B107 p106.2.2.length d109) p106.2.2.length (p106.2.2.flatMap eI)] | _ => [])) mixed hF (by kernel_rfl) (show St w _ [.row 3 1 (.slice B107 p106.2.2.length d109) p106.2.2.length (p106.2.2.flatMap eI), .box g110 28 #[.int .i64 p106.1, .int .i64 p106.2.1, .slice B107 p106.2.2.length d109], .box g103 28 #[.int .i64 0, .int .i64 0, .slice none 0 0], .box g102 32 #[.int .i64 x3, .int .i64 x4, .int .i64 x5], .box g101 28 #[.int .i64 x0, .int .i64 x1, .slice A2 x2.length c2]] from S.sel [1, 0, 2, 3, 4] rfl rfl) ?_ ?_
            · refine ⟨?_, ?_, ?_, ?_, ?_, ?_, ?_, ?_, ?_, ?_, ?_, ?_, ?_, ?_, trivial⟩
              · intro a u X hB hp hr hz hl S
                replace S : St w u ([] ++ X) := S
                exact .inl ⟨rfl, .pointer (some ⟨g110, 2, none⟩), u, (run_fieldAddr rfl fl28_2 (hF.evB hB rfl rfl) rfl), rfl, S⟩
              · intro a u X hB hp hr hz hl S
                replace S : St w u ([] ++ X) := S
                have e98 : sl a 98 = .pointer (some ⟨g110, 2, none⟩) := hp 0 rfl
                exact .inl ⟨rfl, .slice B107 p106.2.2.length d109, u, (run_load1 rfl one22 (ev_sl e98) ((gr_box S hl 0 rfl).cell rfl)), rfl, S⟩
              · intro a u X hB hp hr hz hl S
                replace S : St w u ([] ++ X) := S
                exact .inl ⟨rfl, .pointer (some ⟨g102, 2, none⟩), u, (run_fieldAddr rfl fl32_2 (hF.evB hB rfl rfl) rfl), rfl, S⟩
              · intro a u X hB hp hr hz hl S
                replace S : St w u ([] ++ X) := S
                have e100 : sl a 100 = .pointer (some ⟨g102, 2, none⟩) := hp 2 rfl
                exact .inl ⟨rfl, .int .i64 x5, u, (run_load1 rfl one3 (ev_sl e100) ((gr_box S hl 2 rfl).cell rfl)), rfl, S⟩
              · intro a u X hB hp hr hz hl S
                replace S : St w u ([] ++ X) := S
                exact .inl ⟨rfl, .pointer (some ⟨g101, 2, none⟩), u, (run_fieldAddr rfl fl28_2 (hF.evB hB rfl rfl) rfl), rfl, S⟩
              · intro a u X hB hp hr hz hl S
                replace S : St w u ([] ++ X) := S
                have e102 : sl a 102 = .pointer (some ⟨g101, 2, none⟩) := hp 4 rfl
                exact .inl ⟨rfl, .slice A2 x2.length c2, u, (run_load1 rfl one22 (ev_sl e102) ((gr_box S hl 3 rfl).cell rfl)), rfl, S⟩
              · intro a u X hB hp hr hz hl S
                replace S : St w u ([] ++ X) := S
                exact .inl ⟨rfl, .pointer (some ⟨g102, 2, none⟩), u, (run_fieldAddr rfl fl32_2 (hF.evB hB rfl rfl) rfl), rfl, S⟩
              · intro a u X hB hp hr hz hl S
                replace S : St w u ([] ++ X) := S
                have e104 : sl a 104 = .pointer (some ⟨g102, 2, none⟩) := hp 6 rfl
                exact .inl ⟨rfl, .int .i64 x5, u, (run_load1 rfl one3 (ev_sl e104) ((gr_box S hl 2 rfl).cell rfl)), rfl, S⟩
              · intro a u X hB hp hr hz hl S
                replace S : St w u ([] ++ X) := S
                have e103 : sl a 103 = .slice A2 x2.length c2 := hp 5 rfl
                have e105 : sl a 105 = .int .i64 x5 := hp 7 rfl
                exact .inl ⟨rfl, .pointer (some ⟨adB A2, adO A2 + x5.toNat * 1, none⟩), u, (run_indexAddr (b := adB A2) (off := adO A2) rfl Try.underlying22 sz3 ((ev_sl e103).trans (congrArg (fun A => Value.slice A x2.length c2) ((S.rc0 h2.rc).rd.ad (ix_pos hk118)))) (ev_sl e105) hk118.1 hk118.2 (k' := adO A2 + x5.toNat * 1) rfl), rfl, S⟩
              · intro a u X hB hp hr hz hl S
                replace S : St w u ([] ++ X) := S
                have e106 : sl a 106 = .pointer (some ⟨adB A2, adO A2 + x5.toNat * 1, none⟩) := hp 8 rfl
                exact .inl ⟨rfl, .int .i64 (x2.getD x5.toNat (0 : Int)), u, (run_load1 rfl one3 (ev_sl e106) (rd_el0 (l := x2) (S.rc0 h2.rc).rd rfl eI_len (0 : Int) (ix_ltn hk118 rfl) rfl)), rfl, S⟩
              · intro a u X hB hp hr hz hl S
                replace S : St w u ([] ++ X) := S
                exact .inl ⟨rfl, .int .i64 p114, u, (run_move rfl (hF.evB hB rfl rfl)), rfl, S⟩
              · intro a u X hB hp hr hz hl S
                replace S : St w u ([] ++ X) := S
                have e107 : sl a 107 = .int .i64 (x2.getD x5.toNat (0 : Int)) := hp 9 rfl
                have e108 : sl a 108 = .int .i64 p114 := hp 10 rfl
                exact .inl ⟨rfl, .int .i64 (max (x2.getD x5.toNat (0 : Int)) p114), u, (run_max rfl (ev_sl e107) (ev_sl e108)), rfl, S⟩
              · intro a u X hB hp hr hz hl S
                replace S : St w u ([] ++ X) := S
                have e99 : sl a 99 = .slice B107 p106.2.2.length d109 := hp 1 rfl
                have e101 : sl a 101 = .int .i64 x5 := hp 3 rfl
                exact .inl ⟨rfl, .pointer (some ⟨adB B107, adO B107 + x5.toNat * 1, none⟩), u, (run_indexAddr (b := adB B107) (off := adO B107) rfl Try.underlying22 sz3 ((ev_sl e99).trans (congrArg (fun A => Value.slice A p106.2.2.length d109) ((own_rc (show World.ownsRow _ 0 _ _ _ _ _ from S.mem (List.mem_append_right _ (hz 13 (List.mem_of_getElem? (i := 0) rfl) _ (List.mem_of_getElem? (i := 0) rfl))))).rd.ad (ix_pos hk119)))) (ev_sl e101) hk119.1 hk119.2 (k' := adO B107 + x5.toNat * 1) rfl), rfl, S⟩
              · intro a u X hB hp hr hz hl S
                replace S : St w u ([.row 3 1 (.slice B107 p106.2.2.length d109) p106.2.2.length (p106.2.2.flatMap eI)] ++ X) := S
                have e109 : sl a 109 = .int .i64 (max (x2.getD x5.toNat (0 : Int)) p114) := hp 11 rfl
                have e110 : sl a 110 = .pointer (some ⟨adB B107, adO B107 + x5.toNat * 1, none⟩) := hp 12 rfl
                obtain ⟨w', hrun, S'⟩ := run_storeElN (P := Try.prog) (ρ := a.eval) (y0 := max (x2.getD x5.toNat (0 : Int)) p114) (off := 0) S 3 (.tmp 110) (.tmp 109) (i := 0) sz3 (ev_sl e110) (ev_sl e109) rfl rfl rfl rfl rfl eI_len (0 : Int) (ix_ltn hk119 rfl) rfl rfl
                exact .inr (.inl ⟨rfl, w', hrun _ rfl, trivial, S'⟩)
            · intro a u hB hp S
              obtain ⟨q0, q1, q2, q3, q4, q5, q6, q7, q8, q9, q10, q11, q12, q13, _⟩ := hp
              have e98 : sl a 98 = .pointer (some ⟨g110, 2, none⟩) := q0
              have e99 : sl a 99 = .slice B107 p106.2.2.length d109 := q1
              have e100 : sl a 100 = .pointer (some ⟨g102, 2, none⟩) := q2
              have e101 : sl a 101 = .int .i64 x5 := q3
              have e102 : sl a 102 = .pointer (some ⟨g101, 2, none⟩) := q4
              have e103 : sl a 103 = .slice A2 x2.length c2 := q5
              have e104 : sl a 104 = .pointer (some ⟨g102, 2, none⟩) := q6
              have e105 : sl a 105 = .int .i64 x5 := q7
              have e106 : sl a 106 = .pointer (some ⟨adB A2, adO A2 + x5.toNat * 1, none⟩) := q8
              have e107 : sl a 107 = .int .i64 (x2.getD x5.toNat (0 : Int)) := q9
              have e108 : sl a 108 = .int .i64 p114 := q10
              have e109 : sl a 109 = .int .i64 (max (x2.getD x5.toNat (0 : Int)) p114) := q11
              have e110 : sl a 110 = .pointer (some ⟨adB B107, adO B107 + x5.toNat * 1, none⟩) := q12
              replace S : St w u [.row 3 1 (.slice B107 p106.2.2.length d109) p106.2.2.length ((p106.2.2.set x5.toNat (max (x2.getD x5.toNat (0 : Int)) p114)).flatMap eI), .box g110 28 #[.int .i64 p106.1, .int .i64 p106.2.1, .slice B107 p106.2.2.length d109], .box g103 28 #[.int .i64 0, .int .i64 0, .slice none 0 0], .box g102 32 #[.int .i64 x3, .int .i64 x4, .int .i64 x5], .box g101 28 #[.int .i64 x0, .int .i64 x1, .slice A2 x2.length c2]] := S
              clear q0 q1 q2 q3 q4 q5 q6 q7 q8 q9 q10 q11 q12 q13
              have hF := hF.region hB [(98, .pointer (some ⟨g110, 2, none⟩)), (99, .slice B107 p106.2.2.length d109), (100, .pointer (some ⟨g102, 2, none⟩)), (101, .int .i64 x5), (102, .pointer (some ⟨g101, 2, none⟩)), (103, .slice A2 x2.length c2), (104, .pointer (some ⟨g102, 2, none⟩)), (105, .int .i64 x5), (106, .pointer (some ⟨adB A2, adO A2 + x5.toNat * 1, none⟩)), (107, .int .i64 (x2.getD x5.toNat (0 : Int))), (108, .int .i64 p114), (109, .int .i64 (max (x2.getD x5.toNat (0 : Int)) p114)), (110, .pointer (some ⟨adB B107, adO B107 + x5.toNat * 1, none⟩))] (allSl_mem ⟨e98, e99, e100, e101, e102, e103, e104, e105, e106, e107, e108, e109, e110, trivial⟩) rfl
              clear hB e98 e99 e100 e101 e102 e103 e104 e105 e106 e107 e108 e109 e110
              refine wp_seq ?_
              refine wp_region_lit ?_
              refine op_val (v := .agg #[.int .i64 p106.1, .int .i64 p106.2.1, .slice B107 p106.2.2.length d109]) rfl rfl hF rfl (run_loadN rfl ag28 (hF.ev rfl) rfl ((S.free 1 rfl).cells 0 #[.int .i64 p106.1, .int .i64 p106.2.1, .slice B107 p106.2.2.length d109] rfl)) ?_; clear hF; intro a hF
              refine op_do rfl rfl (run_store (cs' := #[.int .i64 p106.1, .int .i64 p106.2.1, .slice B107 p106.2.2.length d109]) rfl sz28 (hF.ev rfl) (hF.ev rfl) rfl rfl rfl (S.free 2 rfl) rfl rfl) ?_; replace S := S.put 2 rfl (#[.int .i64 p106.1, .int .i64 p106.2.1, .slice B107 p106.2.2.length d109])
              generalize World.setRow _ _ _ = u at S ⊢
              refine op_val (v := .bool true) rfl rfl hF rfl (run_assign rfl rfl) ?_; clear hF; intro a hF
              refine wpList_nil ?_
              refine wp_ret ?_
              repeat with_reducible (first | refine then_ret ?_ | refine in_ret ?_ | refine in_nrm ?_)
              refine ret2_gw (.inl rfl) hF rfl (res_cell (hF.ev rfl) (res_loadN ag28 rfl (S.cells 2 rfl 0 #[.int .i64 p106.1, .int .i64 p106.2.1, .slice B107 p106.2.2.length d109] rfl))) (res_tmp (hF.ev rfl)) ?_
              obtain rfl := Option.some.inj hM
              exact ⟨B107, p106.2.2.length, d109, rfl, (len_set rfl), S.sel [0] rfl rfl⟩
        · replace hM := bif_t hc116 hM
          refine cond_t hF rfl hc116 ?_
          refine wp_seq ?_
          refine wp_seq ?_
          refine wp_region_lit ?_
          refine op_val (v := .pointer (some ⟨g101, 2, none⟩)) rfl rfl hF rfl (run_fieldAddr rfl fl28_2 (hF.ev rfl) rfl) ?_; clear hF; intro a hF
          refine op_val (v := .slice A2 x2.length c2) rfl rfl hF rfl (run_load1 rfl one22 (hF.ev rfl) ((S.free 4 rfl).cell rfl)) ?_; clear hF; intro a hF
          refine op_val (v := .pointer (some ⟨g102, 2, none⟩)) rfl rfl hF rfl (run_fieldAddr rfl fl32_2 (hF.ev rfl) rfl) ?_; clear hF; intro a hF
          refine op_val (v := .int .i64 x5) rfl rfl hF rfl (run_load1 rfl one3 (hF.ev rfl) ((S.free 3 rfl).cell rfl)) ?_; clear hF; intro a hF
          obtain ⟨hk120, hM⟩ := chk_ex hM
          replace hk120 := ixB_t hk120
          refine op_val (v := .pointer (some ⟨adB A2, adO A2 + x5.toNat * 1, none⟩)) rfl rfl hF rfl (run_indexAddr (b := adB A2) (off := adO A2) rfl Try.underlying22 sz3 ((hF.ev rfl).trans (congrArg (fun A => Value.slice A x2.length c2) ((S.rc0 h2.rc).rd.ad (ix_pos hk120)))) (hF.ev rfl) hk120.1 hk120.2 (k' := adO A2 + x5.toNat * 1) rfl) ?_; clear hF; intro a hF
          refine op_val (v := .int .i64 (x2.getD x5.toNat (0 : Int))) rfl rfl hF rfl (run_load1 rfl one3 (hF.ev rfl) (rd_el0 (l := x2) (S.rc0 h2.rc).rd rfl eI_len (0 : Int) (ix_ltn hk120 rfl) rfl)) ?_; clear hF; intro a hF
          refine op_val (v := .int .i64 p114) rfl rfl hF rfl (run_move rfl (hF.ev rfl)) ?_; clear hF; intro a hF
          refine op_val (v := .bool (ltB (x2.getD x5.toNat (0 : Int)) p114)) rfl rfl hF rfl (run_lss (hF.ev rfl) (hF.ev rfl) rfl) ?_; clear hF; intro a hF
          refine wpList_nil ?_
          cases hc121 : (ltB (x2.getD x5.toNat (0 : Int)) p114)
          · replace hM := bif_f hc121 hM
            refine cond_f hF rfl hc121 ?_
            refine wp_skip ?_
            refine wp_seq ?_
            refine wp_seq ?_
            obtain ⟨hk122, hM⟩ := chk_ex hM
            replace hk122 := ixB_t hk122
            refine region_gw (D := [65, 66, 67, 68, 69, 70, 71, 72, 73, 74]) (Lr := [.box g110 28 #[.int .i64 p106.1, .int .i64 p106.2.1, .slice B107 p106.2.2.length d109], .row 3 1 (.slice B107 p106.2.2.length d109) p106.2.2.length (p106.2.2.flatMap eI), .box g103 28 #[.int .i64 0, .int .i64 0, .slice none 0 0], .box g102 32 #[.int .i64 x3, .int .i64 x4, .int .i64 x5], .box g101 28 #[.int .i64 x0, .int .i64 x1, .slice A2 x2.length c2]]) (deps := (fun | 0 => [65] | 1 => [66] | 2 => [67] | 3 => [68] | 4 => [69] | 5 => [70] | 6 => [71] | 7 => [72] | 8 => [73] | 9 => [74] | _ => [])) (rd := (fun _ => [])) (zr := (fun _ => []))
              (φ := fun i vs => match i, vs with | 0, [v65] => v65 = .pointer (some ⟨g101, 2, none⟩) | 1, [v66] => v66 = .slice A2 x2.length c2 | 2, [v67] => v67 = .pointer (some ⟨g102, 2, none⟩) | 3, [v68] => v68 = .int .i64 x5 | 4, [v69] => v69 = .pointer (some ⟨adB A2, adO A2 + x5.toNat * 1, none⟩) | 5, [v70] => v70 = .int .i64 (x2.getD x5.toNat (0 : Int)) | 6, [v71] => v71 = .int .i64 (Int.tmod (x2.getD x5.toNat (0 : Int)) 2) | 7, [v72] => v72 = .pointer (some ⟨g102, 1, none⟩) | 8, [v73] => v73 = .int .i64 x4 | 9, [v74] => v74 = .bool ((Int.tmod (x2.getD x5.toNat (0 : Int)) 2) == x4) | _, _ => True)
              (C := fun _ _ => [])
              (κ := (fun _ => none)) (Z := (fun _ => [])) mixed hF (by kernel_rfl) S ?_ ?_
            · refine ⟨?_, ?_, ?_, ?_, ?_, ?_, ?_, ?_, ?_, ?_, trivial⟩
              · intro a u X hB hp hr hz hl S
                replace S : St w u ([] ++ X) := S
                exact .inl ⟨rfl, .pointer (some ⟨g101, 2, none⟩), u, (run_fieldAddr rfl fl28_2 (hF.evB hB rfl rfl) rfl), rfl, S⟩
              · intro a u X hB hp hr hz hl S
                replace S : St w u ([] ++ X) := S
                have e65 : sl a 65 = .pointer (some ⟨g101, 2, none⟩) := hp 0 rfl
                exact .inl ⟨rfl, .slice A2 x2.length c2, u, (run_load1 rfl one22 (ev_sl e65) ((gr_box S hl 4 rfl).cell rfl)), rfl, S⟩
              · intro a u X hB hp hr hz hl S
                replace S : St w u ([] ++ X) := S
                exact .inl ⟨rfl, .pointer (some ⟨g102, 2, none⟩), u, (run_fieldAddr rfl fl32_2 (hF.evB hB rfl rfl) rfl), rfl, S⟩
              · intro a u X hB hp hr hz hl S
                replace S : St w u ([] ++ X) := S
                have e67 : sl a 67 = .pointer (some ⟨g102, 2, none⟩) := hp 2 rfl
                exact .inl ⟨rfl, .int .i64 x5, u, (run_load1 rfl one3 (ev_sl e67) ((gr_box S hl 3 rfl).cell rfl)), rfl, S⟩
              · intro a u X hB hp hr hz hl S
                replace S : St w u ([] ++ X) := S
                have e66 : sl a 66 = .slice A2 x2.length c2 := hp 1 rfl
                have e68 : sl a 68 = .int .i64 x5 := hp 3 rfl
                exact .inl ⟨rfl, .pointer (some ⟨adB A2, adO A2 + x5.toNat * 1, none⟩), u, (run_indexAddr (b := adB A2) (off := adO A2) rfl Try.underlying22 sz3 ((ev_sl e66).trans (congrArg (fun A => Value.slice A x2.length c2) ((S.rc0 h2.rc).rd.ad (ix_pos hk122)))) (ev_sl e68) hk122.1 hk122.2 (k' := adO A2 + x5.toNat * 1) rfl), rfl, S⟩
              · intro a u X hB hp hr hz hl S
                replace S : St w u ([] ++ X) := S
                have e69 : sl a 69 = .pointer (some ⟨adB A2, adO A2 + x5.toNat * 1, none⟩) := hp 4 rfl
                exact .inl ⟨rfl, .int .i64 (x2.getD x5.toNat (0 : Int)), u, (run_load1 rfl one3 (ev_sl e69) (rd_el0 (l := x2) (S.rc0 h2.rc).rd rfl eI_len (0 : Int) (ix_ltn hk122 rfl) rfl)), rfl, S⟩
              · intro a u X hB hp hr hz hl S
                replace S : St w u ([] ++ X) := S
                have e70 : sl a 70 = .int .i64 (x2.getD x5.toNat (0 : Int)) := hp 5 rfl
                exact .inl ⟨rfl, .int .i64 (Int.tmod (x2.getD x5.toNat (0 : Int)) 2), u, (run_rem (z := Int.tmod (x2.getD x5.toNat (0 : Int)) 2) (ev_sl e70) (ev_const _ _) rfl (by decide) rfl), rfl, S⟩
              · intro a u X hB hp hr hz hl S
                replace S : St w u ([] ++ X) := S
                exact .inl ⟨rfl, .pointer (some ⟨g102, 1, none⟩), u, (run_fieldAddr rfl fl32_1 (hF.evB hB rfl rfl) rfl), rfl, S⟩
              · intro a u X hB hp hr hz hl S
                replace S : St w u ([] ++ X) := S
                have e72 : sl a 72 = .pointer (some ⟨g102, 1, none⟩) := hp 7 rfl
                exact .inl ⟨rfl, .int .i64 x4, u, (run_load1 rfl one3 (ev_sl e72) ((gr_box S hl 3 rfl).cell rfl)), rfl, S⟩
              · intro a u X hB hp hr hz hl S
                replace S : St w u ([] ++ X) := S
                have e71 : sl a 71 = .int .i64 (Int.tmod (x2.getD x5.toNat (0 : Int)) 2) := hp 6 rfl
                have e73 : sl a 73 = .int .i64 x4 := hp 8 rfl
                exact .inl ⟨rfl, .bool ((Int.tmod (x2.getD x5.toNat (0 : Int)) 2) == x4), u, (run_eql (ev_sl e71) (ev_sl e73) rfl), rfl, S⟩
            · intro a u hB hp S
              obtain ⟨q0, q1, q2, q3, q4, q5, q6, q7, q8, q9, _⟩ := hp
              have e65 : sl a 65 = .pointer (some ⟨g101, 2, none⟩) := q0
              have e66 : sl a 66 = .slice A2 x2.length c2 := q1
              have e67 : sl a 67 = .pointer (some ⟨g102, 2, none⟩) := q2
              have e68 : sl a 68 = .int .i64 x5 := q3
              have e69 : sl a 69 = .pointer (some ⟨adB A2, adO A2 + x5.toNat * 1, none⟩) := q4
              have e70 : sl a 70 = .int .i64 (x2.getD x5.toNat (0 : Int)) := q5
              have e71 : sl a 71 = .int .i64 (Int.tmod (x2.getD x5.toNat (0 : Int)) 2) := q6
              have e72 : sl a 72 = .pointer (some ⟨g102, 1, none⟩) := q7
              have e73 : sl a 73 = .int .i64 x4 := q8
              have e74 : sl a 74 = .bool ((Int.tmod (x2.getD x5.toNat (0 : Int)) 2) == x4) := q9
              replace S : St w u [.box g110 28 #[.int .i64 p106.1, .int .i64 p106.2.1, .slice B107 p106.2.2.length d109], .row 3 1 (.slice B107 p106.2.2.length d109) p106.2.2.length (p106.2.2.flatMap eI), .box g103 28 #[.int .i64 0, .int .i64 0, .slice none 0 0], .box g102 32 #[.int .i64 x3, .int .i64 x4, .int .i64 x5], .box g101 28 #[.int .i64 x0, .int .i64 x1, .slice A2 x2.length c2]] := S
              clear q0 q1 q2 q3 q4 q5 q6 q7 q8 q9
              have hF := hF.region hB [(65, .pointer (some ⟨g101, 2, none⟩)), (66, .slice A2 x2.length c2), (67, .pointer (some ⟨g102, 2, none⟩)), (68, .int .i64 x5), (69, .pointer (some ⟨adB A2, adO A2 + x5.toNat * 1, none⟩)), (70, .int .i64 (x2.getD x5.toNat (0 : Int))), (71, .int .i64 (Int.tmod (x2.getD x5.toNat (0 : Int)) 2)), (72, .pointer (some ⟨g102, 1, none⟩)), (73, .int .i64 x4), (74, .bool ((Int.tmod (x2.getD x5.toNat (0 : Int)) 2) == x4))] (allSl_mem ⟨e65, e66, e67, e68, e69, e70, e71, e72, e73, e74, trivial⟩) rfl
              clear hB e65 e66 e67 e68 e69 e70 e71 e72 e73 e74
              cases hc123 : ((Int.tmod (x2.getD x5.toNat (0 : Int)) 2) == x4)
              · replace hM := bif_f hc123 hM
                refine cond_f hF rfl hc123 ?_
                refine wp_skip ?_
                refine wp_seq ?_
                refine wp_seq ?_
                refine wp_region_lit ?_
                refine op_val (v := .pointer (some ⟨g101, 2, none⟩)) rfl rfl hF rfl (run_fieldAddr rfl fl28_2 (hF.ev rfl) rfl) ?_; clear hF; intro a hF
                refine op_val (v := .slice A2 x2.length c2) rfl rfl hF rfl (run_load1 rfl one22 (hF.ev rfl) ((S.free 4 rfl).cell rfl)) ?_; clear hF; intro a hF
                refine op_val (v := .pointer (some ⟨g102, 2, none⟩)) rfl rfl hF rfl (run_fieldAddr rfl fl32_2 (hF.ev rfl) rfl) ?_; clear hF; intro a hF
                refine op_val (v := .int .i64 x5) rfl rfl hF rfl (run_load1 rfl one3 (hF.ev rfl) ((S.free 3 rfl).cell rfl)) ?_; clear hF; intro a hF
                obtain ⟨hk124, hM⟩ := chk_ex hM
                replace hk124 := ixB_t hk124
                refine op_val (v := .pointer (some ⟨adB A2, adO A2 + x5.toNat * 1, none⟩)) rfl rfl hF rfl (run_indexAddr (b := adB A2) (off := adO A2) rfl Try.underlying22 sz3 ((hF.ev rfl).trans (congrArg (fun A => Value.slice A x2.length c2) ((S.rc0 h2.rc).rd.ad (ix_pos hk124)))) (hF.ev rfl) hk124.1 hk124.2 (k' := adO A2 + x5.toNat * 1) rfl) ?_; clear hF; intro a hF
                refine op_val (v := .int .i64 (x2.getD x5.toNat (0 : Int))) rfl rfl hF rfl (run_load1 rfl one3 (hF.ev rfl) (rd_el0 (l := x2) (S.rc0 h2.rc).rd rfl eI_len (0 : Int) (ix_ltn hk124 rfl) rfl)) ?_; clear hF; intro a hF
                refine op_val (v := .int .i64 (w64 ((x2.getD x5.toNat (0 : Int)) + 1))) rfl rfl hF rfl (run_add (z := w64 ((x2.getD x5.toNat (0 : Int)) + 1)) (hF.ev rfl) rfl rfl rfl) ?_; clear hF; intro a hF
                refine op_val (v := .bool (ltB 99 (w64 ((x2.getD x5.toNat (0 : Int)) + 1)))) rfl rfl hF rfl (run_gtr (hF.ev rfl) rfl rfl) ?_; clear hF; intro a hF
                refine wpList_nil ?_
                cases hc125 : (ltB 99 (w64 ((x2.getD x5.toNat (0 : Int)) + 1)))
                · replace hM := bif_f hc125 hM
                  refine cond_f hF rfl hc125 ?_
                  refine wp_skip ?_
                  refine wp_seq ?_
                  obtain ⟨hk126, hM⟩ := chk_ex hM
                  replace hk126 := ixB_t hk126
                  obtain ⟨p127, h127, hM⟩ := bind_ex hM
                  refine region_gw (D := [85, 86, 87, 88, 89, 90, 91, 92, 93, 94, 95, 5]) (Lr := [.box g110 28 #[.int .i64 p106.1, .int .i64 p106.2.1, .slice B107 p106.2.2.length d109], .row 3 1 (.slice B107 p106.2.2.length d109) p106.2.2.length (p106.2.2.flatMap eI), .box g102 32 #[.int .i64 x3, .int .i64 x4, .int .i64 x5], .box g101 28 #[.int .i64 x0, .int .i64 x1, .slice A2 x2.length c2]]) (deps := (fun | 0 => [85] | 1 => [86] | 2 => [87] | 3 => [88] | 4 => [89] | 5 => [90] | 6 => [91] | 7 => [92] | 8 => [93] | 9 => [94] | 10 => [95] | 11 => [4, 95] | 12 => [5] | _ => [])) (rd := (fun _ => [])) (zr := (fun _ => []))
                    (φ := fun i vs => match i, vs with | 0, [v85] => v85 = .agg #[.int .i64 x0, .int .i64 x1, .slice A2 x2.length c2] | 1, [v86] => v86 = .pointer (some ⟨g102, 1, none⟩) | 2, [v87] => v87 = .int .i64 x4 | 3, [v88] => v88 = .pointer (some ⟨g101, 2, none⟩) | 4, [v89] => v89 = .slice A2 x2.length c2 | 5, [v90] => v90 = .pointer (some ⟨g102, 2, none⟩) | 6, [v91] => v91 = .int .i64 x5 | 7, [v92] => v92 = .pointer (some ⟨adB A2, adO A2 + x5.toNat * 1, none⟩) | 8, [v93] => v93 = .int .i64 (x2.getD x5.toNat (0 : Int)) | 9, [v94] => v94 = .int .i64 (w64 ((x2.getD x5.toNat (0 : Int)) + 1)) | 10, [v95] => v95 = .agg #[.int .i64 p127.1, .int .i64 p127.2.1, .slice (slA (vtup v95 2)) p127.2.2.length (slC (vtup v95 2))] | 12, [v5] => v5 = .bool true | _, _ => True)
                    (C := fun i vs => match i, vs with | 10, [v95] => [.row 3 1 (.slice (slA (vtup v95 2)) p127.2.2.length (slC (vtup v95 2))) p127.2.2.length (p127.2.2.flatMap eI)] | 11, [v4, v95] => [.box g103 28 #[.int .i64 p127.1, .int .i64 p127.2.1, .slice (slA (vtup v95 2)) p127.2.2.length (slC (vtup v95 2))]] | _, _ => [])
                    (κ := (fun _ => none)) (Z := (fun | 11 => [.box g103 28 #[.int .i64 0, .int .i64 0, .slice none 0 0]] | _ => [])) mixed hF (by kernel_rfl) (show St w _ [.box g103 28 #[.int .i64 0, .int .i64 0, .slice none 0 0], .box g110 28 #[.int .i64 p106.1, .int .i64 p106.2.1, .slice B107 p106.2.2.length d109], .row 3 1 (.slice B107 p106.2.2.length d109) p106.2.2.length (p106.2.2.flatMap eI), .box g102 32 #[.int .i64 x3, .int .i64 x4, .int .i64 x5], .box g101 28 #[.int .i64 x0, .int .i64 x1, .slice A2 x2.length c2]] from S.sel [2, 0, 1, 3, 4] rfl rfl) ?_ ?_
                  · refine ⟨?_, ?_, ?_, ?_, ?_, ?_, ?_, ?_, ?_, ?_, ?_, ?_, ?_, trivial⟩
                    · intro a u X hB hp hr hz hl S
                      replace S : St w u ([] ++ X) := S
                      exact .inl ⟨rfl, .agg #[.int .i64 x0, .int .i64 x1, .slice A2 x2.length c2], u, (run_loadN rfl ag28 (hF.evB hB rfl rfl) rfl ((gr_box S hl 3 rfl).cells 0 #[.int .i64 x0, .int .i64 x1, .slice A2 x2.length c2] rfl)), rfl, S⟩
                    · intro a u X hB hp hr hz hl S
                      replace S : St w u ([] ++ X) := S
                      exact .inl ⟨rfl, .pointer (some ⟨g102, 1, none⟩), u, (run_fieldAddr rfl fl32_1 (hF.evB hB rfl rfl) rfl), rfl, S⟩
                    · intro a u X hB hp hr hz hl S
                      replace S : St w u ([] ++ X) := S
                      have e86 : sl a 86 = .pointer (some ⟨g102, 1, none⟩) := hp 1 rfl
                      exact .inl ⟨rfl, .int .i64 x4, u, (run_load1 rfl one3 (ev_sl e86) ((gr_box S hl 2 rfl).cell rfl)), rfl, S⟩
                    · intro a u X hB hp hr hz hl S
                      replace S : St w u ([] ++ X) := S
                      exact .inl ⟨rfl, .pointer (some ⟨g101, 2, none⟩), u, (run_fieldAddr rfl fl28_2 (hF.evB hB rfl rfl) rfl), rfl, S⟩
                    · intro a u X hB hp hr hz hl S
                      replace S : St w u ([] ++ X) := S
                      have e88 : sl a 88 = .pointer (some ⟨g101, 2, none⟩) := hp 3 rfl
                      exact .inl ⟨rfl, .slice A2 x2.length c2, u, (run_load1 rfl one22 (ev_sl e88) ((gr_box S hl 3 rfl).cell rfl)), rfl, S⟩
                    · intro a u X hB hp hr hz hl S
                      replace S : St w u ([] ++ X) := S
                      exact .inl ⟨rfl, .pointer (some ⟨g102, 2, none⟩), u, (run_fieldAddr rfl fl32_2 (hF.evB hB rfl rfl) rfl), rfl, S⟩
                    · intro a u X hB hp hr hz hl S
                      replace S : St w u ([] ++ X) := S
                      have e90 : sl a 90 = .pointer (some ⟨g102, 2, none⟩) := hp 5 rfl
                      exact .inl ⟨rfl, .int .i64 x5, u, (run_load1 rfl one3 (ev_sl e90) ((gr_box S hl 2 rfl).cell rfl)), rfl, S⟩
                    · intro a u X hB hp hr hz hl S
                      replace S : St w u ([] ++ X) := S
                      have e89 : sl a 89 = .slice A2 x2.length c2 := hp 4 rfl
                      have e91 : sl a 91 = .int .i64 x5 := hp 6 rfl
                      exact .inl ⟨rfl, .pointer (some ⟨adB A2, adO A2 + x5.toNat * 1, none⟩), u, (run_indexAddr (b := adB A2) (off := adO A2) rfl Try.underlying22 sz3 ((ev_sl e89).trans (congrArg (fun A => Value.slice A x2.length c2) ((S.rc0 h2.rc).rd.ad (ix_pos hk126)))) (ev_sl e91) hk126.1 hk126.2 (k' := adO A2 + x5.toNat * 1) rfl), rfl, S⟩
                    · intro a u X hB hp hr hz hl S
                      replace S : St w u ([] ++ X) := S
                      have e92 : sl a 92 = .pointer (some ⟨adB A2, adO A2 + x5.toNat * 1, none⟩) := hp 7 rfl
                      exact .inl ⟨rfl, .int .i64 (x2.getD x5.toNat (0 : Int)), u, (run_load1 rfl one3 (ev_sl e92) (rd_el0 (l := x2) (S.rc0 h2.rc).rd rfl eI_len (0 : Int) (ix_ltn hk126 rfl) rfl)), rfl, S⟩
                    · intro a u X hB hp hr hz hl S
                      replace S : St w u ([] ++ X) := S
                      have e93 : sl a 93 = .int .i64 (x2.getD x5.toNat (0 : Int)) := hp 8 rfl
                      exact .inl ⟨rfl, .int .i64 (w64 ((x2.getD x5.toNat (0 : Int)) + 1)), u, (run_add (z := w64 ((x2.getD x5.toNat (0 : Int)) + 1)) (ev_sl e93) (ev_const _ _) rfl rfl), rfl, S⟩
                    · intro a u X hB hp hr hz hl S
                      replace S : St w u ([] ++ X) := S
                      have e85 : sl a 85 = .agg #[.int .i64 x0, .int .i64 x1, .slice A2 x2.length c2] := hp 0 rfl
                      have e87 : sl a 87 = .int .i64 x4 := hp 2 rfl
                      have e94 : sl a 94 = .int .i64 (w64 ((x2.getD x5.toNat (0 : Int)) + 1)) := hp 9 rfl
                      refine .inr (.inr (.inl ⟨rfl, _, _, (run_call (vs := [.agg #[.int .i64 x0, .int .i64 x1, .slice A2 x2.length c2], .int .i64 x4, .int .i64 (w64 ((x2.getD x5.toNat (0 : Int)) + 1))]) rfl rfl co24 ⟨(ev_sl e85), (ev_sl e87), (ev_sl e94), trivial⟩), ?_⟩))
                      refine Calls.mono (c_spec_l32Set (x0 := x0) (x1 := x1) (x2 := x2) (x3 := x4) (x4 := w64 ((x2.getD x5.toNat (0 : Int)) + 1)) ⟨(S.rc0 h2.rc), rfl⟩ h127) ?_
                      rintro e w1 ⟨B131, n132, d133, rfl, rfl, T⟩
                      exact ⟨_, rfl, rfl, S.call1 T⟩
                    · intro a u X hB hp hr hz hl S
                      replace S : St w u ([.box g103 28 #[.int .i64 0, .int .i64 0, .slice none 0 0]] ++ X) := S
                      have e95 : sl a 95 = .agg #[.int .i64 p127.1, .int .i64 p127.2.1, .slice (slA (vtup (sl a 95) 2)) p127.2.2.length (slC (vtup (sl a 95) 2))] := hp 10 rfl
                      exact .inr (.inl ⟨rfl, _, run_store (cs' := #[.int .i64 p127.1, .int .i64 p127.2.1, .slice (slA (vtup (sl a 95) 2)) p127.2.2.length (slC (vtup (sl a 95) 2))]) rfl sz28 (hF.evB hB rfl rfl) (ev_sl e95) rfl rfl rfl (S.free 0 rfl) rfl rfl, trivial, S.put 0 rfl (#[.int .i64 p127.1, .int .i64 p127.2.1, .slice (slA (vtup (sl a 95) 2)) p127.2.2.length (slC (vtup (sl a 95) 2))])⟩)
                    · intro a u X hB hp hr hz hl S
                      replace S : St w u ([] ++ X) := S
                      exact .inl ⟨rfl, .bool true, u, (run_assign rfl (ev_const _ _)), rfl, S⟩
                  · intro a u hB hp S
                    obtain ⟨q0, q1, q2, q3, q4, q5, q6, q7, q8, q9, q10, q11, q12, _⟩ := hp
                    have e85 : sl a 85 = .agg #[.int .i64 x0, .int .i64 x1, .slice A2 x2.length c2] := q0
                    have e86 : sl a 86 = .pointer (some ⟨g102, 1, none⟩) := q1
                    have e87 : sl a 87 = .int .i64 x4 := q2
                    have e88 : sl a 88 = .pointer (some ⟨g101, 2, none⟩) := q3
                    have e89 : sl a 89 = .slice A2 x2.length c2 := q4
                    have e90 : sl a 90 = .pointer (some ⟨g102, 2, none⟩) := q5
                    have e91 : sl a 91 = .int .i64 x5 := q6
                    have e92 : sl a 92 = .pointer (some ⟨adB A2, adO A2 + x5.toNat * 1, none⟩) := q7
                    have e93 : sl a 93 = .int .i64 (x2.getD x5.toNat (0 : Int)) := q8
                    have e94 : sl a 94 = .int .i64 (w64 ((x2.getD x5.toNat (0 : Int)) + 1)) := q9
                    have e95 : sl a 95 = .agg #[.int .i64 p127.1, .int .i64 p127.2.1, .slice (slA (vtup (sl a 95) 2)) p127.2.2.length (slC (vtup (sl a 95) 2))] := q10
                    have e5 : sl a 5 = .bool true := q12
                    replace S : St w u [.row 3 1 (.slice (slA (vtup (sl a 95) 2)) p127.2.2.length (slC (vtup (sl a 95) 2))) p127.2.2.length (p127.2.2.flatMap eI), .box g103 28 #[.int .i64 p127.1, .int .i64 p127.2.1, .slice (slA (vtup (sl a 95) 2)) p127.2.2.length (slC (vtup (sl a 95) 2))], .box g110 28 #[.int .i64 p106.1, .int .i64 p106.2.1, .slice B107 p106.2.2.length d109], .row 3 1 (.slice B107 p106.2.2.length d109) p106.2.2.length (p106.2.2.flatMap eI), .box g102 32 #[.int .i64 x3, .int .i64 x4, .int .i64 x5], .box g101 28 #[.int .i64 x0, .int .i64 x1, .slice A2 x2.length c2]] := S
                    clear q0 q1 q2 q3 q4 q5 q6 q7 q8 q9 q10 q11 q12
                    generalize slA (vtup (sl a 95) 2) = B134 at *
                    generalize slC (vtup (sl a 95) 2) = d135 at *
                    have hF := hF.region hB [(85, .agg #[.int .i64 x0, .int .i64 x1, .slice A2 x2.length c2]), (86, .pointer (some ⟨g102, 1, none⟩)), (87, .int .i64 x4), (88, .pointer (some ⟨g101, 2, none⟩)), (89, .slice A2 x2.length c2), (90, .pointer (some ⟨g102, 2, none⟩)), (91, .int .i64 x5), (92, .pointer (some ⟨adB A2, adO A2 + x5.toNat * 1, none⟩)), (93, .int .i64 (x2.getD x5.toNat (0 : Int))), (94, .int .i64 (w64 ((x2.getD x5.toNat (0 : Int)) + 1))), (95, .agg #[.int .i64 p127.1, .int .i64 p127.2.1, .slice B134 p127.2.2.length d135]), (5, .bool true)] (allSl_mem ⟨e85, e86, e87, e88, e89, e90, e91, e92, e93, e94, e95, e5, trivial⟩) rfl
                    clear hB e85 e86 e87 e88 e89 e90 e91 e92 e93 e94 e95 e5
                    refine wp_ret ?_
                    repeat with_reducible (first | refine then_ret ?_ | refine in_ret ?_ | refine in_nrm ?_)
                    refine ret2_gw (.inl rfl) hF rfl (res_cell (hF.ev rfl) (res_loadN ag28 rfl (S.cells 1 rfl 0 #[.int .i64 p127.1, .int .i64 p127.2.1, .slice B134 p127.2.2.length d135] rfl))) (res_tmp (hF.ev rfl)) ?_
                    obtain rfl := Option.some.inj hM
                    exact ⟨B134, p127.2.2.length, d135, rfl, rfl, S.sel [0] rfl rfl⟩
                · replace hM := bif_t hc125 hM
                  refine cond_t hF rfl hc125 ?_
                  refine wp_seq ?_
                  refine wp_region_lit ?_
                  refine op_val (v := .agg #[.int .i64 p106.1, .int .i64 p106.2.1, .slice B107 p106.2.2.length d109]) rfl rfl hF rfl (run_loadN rfl ag28 (hF.ev rfl) rfl ((S.free 0 rfl).cells 0 #[.int .i64 p106.1, .int .i64 p106.2.1, .slice B107 p106.2.2.length d109] rfl)) ?_; clear hF; intro a hF
                  refine op_do rfl rfl (run_store (cs' := #[.int .i64 p106.1, .int .i64 p106.2.1, .slice B107 p106.2.2.length d109]) rfl sz28 (hF.ev rfl) (hF.ev rfl) rfl rfl rfl (S.free 2 rfl) rfl rfl) ?_; replace S := S.put 2 rfl (#[.int .i64 p106.1, .int .i64 p106.2.1, .slice B107 p106.2.2.length d109])
                  generalize World.setRow _ _ _ = u at S ⊢
                  refine op_val (v := .bool false) rfl rfl hF rfl (run_assign rfl rfl) ?_; clear hF; intro a hF
                  refine wpList_nil ?_
                  refine wp_ret ?_
                  repeat with_reducible (first | refine then_ret ?_ | refine in_ret ?_ | refine in_nrm ?_)
                  refine ret2_gw (.inl rfl) hF rfl (res_cell (hF.ev rfl) (res_loadN ag28 rfl (S.cells 2 rfl 0 #[.int .i64 p106.1, .int .i64 p106.2.1, .slice B107 p106.2.2.length d109] rfl))) (res_tmp (hF.ev rfl)) ?_
                  obtain rfl := Option.some.inj hM
                  exact ⟨B107, p106.2.2.length, d109, rfl, rfl, S.sel [1] rfl rfl⟩
              · replace hM := bif_t hc123 hM
                refine cond_t hF rfl hc123 ?_
                refine wp_seq ?_
                refine wp_region_lit ?_
                refine op_val (v := .agg #[.int .i64 p106.1, .int .i64 p106.2.1, .slice B107 p106.2.2.length d109]) rfl rfl hF rfl (run_loadN rfl ag28 (hF.ev rfl) rfl ((S.free 0 rfl).cells 0 #[.int .i64 p106.1, .int .i64 p106.2.1, .slice B107 p106.2.2.length d109] rfl)) ?_; clear hF; intro a hF
                refine op_do rfl rfl (run_store (cs' := #[.int .i64 p106.1, .int .i64 p106.2.1, .slice B107 p106.2.2.length d109]) rfl sz28 (hF.ev rfl) (hF.ev rfl) rfl rfl rfl (S.free 2 rfl) rfl rfl) ?_; replace S := S.put 2 rfl (#[.int .i64 p106.1, .int .i64 p106.2.1, .slice B107 p106.2.2.length d109])
                generalize World.setRow _ _ _ = u at S ⊢
                refine op_val (v := .bool true) rfl rfl hF rfl (run_assign rfl rfl) ?_; clear hF; intro a hF
                refine wpList_nil ?_
                refine wp_ret ?_
                repeat with_reducible (first | refine then_ret ?_ | refine in_ret ?_ | refine in_nrm ?_)
                refine ret2_gw (.inl rfl) hF rfl (res_cell (hF.ev rfl) (res_loadN ag28 rfl (S.cells 2 rfl 0 #[.int .i64 p106.1, .int .i64 p106.2.1, .slice B107 p106.2.2.length d109] rfl))) (res_tmp (hF.ev rfl)) ?_
                obtain rfl := Option.some.inj hM
                exact ⟨B107, p106.2.2.length, d109, rfl, rfl, S.sel [1] rfl rfl⟩
          · replace hM := bif_t hc121 hM
            refine cond_t hF rfl hc121 ?_
            refine wp_seq ?_
            refine wp_region_lit ?_
            refine op_val (v := .agg #[.int .i64 p106.1, .int .i64 p106.2.1, .slice B107 p106.2.2.length d109]) rfl rfl hF rfl (run_loadN rfl ag28 (hF.ev rfl) rfl ((S.free 0 rfl).cells 0 #[.int .i64 p106.1, .int .i64 p106.2.1, .slice B107 p106.2.2.length d109] rfl)) ?_; clear hF; intro a hF
            refine op_do rfl rfl (run_store (cs' := #[.int .i64 p106.1, .int .i64 p106.2.1, .slice B107 p106.2.2.length d109]) rfl sz28 (hF.ev rfl) (hF.ev rfl) rfl rfl rfl (S.free 2 rfl) rfl rfl) ?_; replace S := S.put 2 rfl (#[.int .i64 p106.1, .int .i64 p106.2.1, .slice B107 p106.2.2.length d109])
            generalize World.setRow _ _ _ = u at S ⊢
            refine op_val (v := .bool true) rfl rfl hF rfl (run_assign rfl rfl) ?_; clear hF; intro a hF
            refine wpList_nil ?_
            refine wp_ret ?_
            repeat with_reducible (first | refine then_ret ?_ | refine in_ret ?_ | refine in_nrm ?_)
            refine ret2_gw (.inl rfl) hF rfl (res_cell (hF.ev rfl) (res_loadN ag28 rfl (S.cells 2 rfl 0 #[.int .i64 p106.1, .int .i64 p106.2.1, .slice B107 p106.2.2.length d109] rfl))) (res_tmp (hF.ev rfl)) ?_
            obtain rfl := Option.some.inj hM
            exact ⟨B107, p106.2.2.length, d109, rfl, rfl, S.sel [1] rfl rfl⟩
      · replace hM := bif_t hc115 hM
        refine cond_t hF rfl hc115 ?_
        refine wp_seq ?_
        refine wp_seq ?_
        refine wp_region_lit ?_
        refine op_val (v := .int .i64 p114) rfl rfl hF rfl (run_move rfl (hF.ev rfl)) ?_; clear hF; intro a hF
        refine op_val (v := .int .i64 (w64 (p114 + 2))) rfl rfl hF rfl (run_add (z := w64 (p114 + 2)) (hF.ev rfl) rfl rfl rfl) ?_; clear hF; intro a hF
        refine op_val (v := .bool (ltB 99 (w64 (p114 + 2)))) rfl rfl hF rfl (run_gtr (hF.ev rfl) rfl rfl) ?_; clear hF; intro a hF
        refine wpList_nil ?_
        cases hc136 : (ltB 99 (w64 (p114 + 2)))
        · replace hM := bif_f hc136 hM
          refine cond_f hF rfl hc136 ?_
          refine wp_skip ?_
          refine wp_seq ?_
          refine wp_region_lit ?_
          refine op_val (v := .agg #[.int .i64 x0, .int .i64 x1, .slice A2 x2.length c2]) rfl rfl hF rfl (run_loadN rfl ag28 (hF.ev rfl) rfl ((S.free 4 rfl).cells 0 #[.int .i64 x0, .int .i64 x1, .slice A2 x2.length c2] rfl)) ?_; clear hF; intro a hF
          refine op_val (v := .pointer (some ⟨g102, 1, none⟩)) rfl rfl hF rfl (run_fieldAddr rfl fl32_1 (hF.ev rfl) rfl) ?_; clear hF; intro a hF
          refine op_val (v := .int .i64 x4) rfl rfl hF rfl (run_load1 rfl one3 (hF.ev rfl) ((S.free 3 rfl).cell rfl)) ?_; clear hF; intro a hF
          refine op_val (v := .int .i64 p114) rfl rfl hF rfl (run_move rfl (hF.ev rfl)) ?_; clear hF; intro a hF
          refine op_val (v := .int .i64 (w64 (p114 + 2))) rfl rfl hF rfl (run_add (z := w64 (p114 + 2)) (hF.ev rfl) rfl rfl rfl) ?_; clear hF; intro a hF
          obtain ⟨p137, h137, hM⟩ := bind_ex hM
          refine op_call rfl rfl hF rfl (run_call (vs := [.agg #[.int .i64 x0, .int .i64 x1, .slice A2 x2.length c2], .int .i64 x4, .int .i64 (w64 (p114 + 2))]) rfl rfl co24 ⟨(hF.ev rfl), (hF.ev rfl), (hF.ev rfl), trivial⟩) (c_spec_l32Set (x0 := x0) (x1 := x1) (x2 := x2) (x3 := x4) (x4 := w64 (p114 + 2)) ⟨(S.rc0 h2.rc), rfl⟩ h137) ?_
          rintro e u ⟨B138, n139, d140, rfl, rfl, T⟩
          refine ⟨_, rfl, ?_⟩
          clear hF; intro a hF
          replace S := S.call1 T; clear T
          refine op_do rfl rfl (run_store (cs' := #[.int .i64 p137.1, .int .i64 p137.2.1, .slice B138 p137.2.2.length d140]) rfl sz28 (hF.ev rfl) (hF.ev rfl) rfl rfl rfl (S.free 3 rfl) rfl rfl) ?_; replace S := S.put 3 rfl (#[.int .i64 p137.1, .int .i64 p137.2.1, .slice B138 p137.2.2.length d140])
          generalize World.setRow _ _ _ = u at S ⊢
          refine op_val (v := .bool true) rfl rfl hF rfl (run_assign rfl rfl) ?_; clear hF; intro a hF
          refine wpList_nil ?_
          refine wp_ret ?_
          repeat with_reducible (first | refine then_ret ?_ | refine in_ret ?_ | refine in_nrm ?_)
          refine ret2_gw (.inl rfl) hF rfl (res_cell (hF.ev rfl) (res_loadN ag28 rfl (S.cells 3 rfl 0 #[.int .i64 p137.1, .int .i64 p137.2.1, .slice B138 p137.2.2.length d140] rfl))) (res_tmp (hF.ev rfl)) ?_
          obtain rfl := Option.some.inj hM
          exact ⟨B138, p137.2.2.length, d140, rfl, rfl, S.sel [0] rfl rfl⟩
        · replace hM := bif_t hc136 hM
          refine cond_t hF rfl hc136 ?_
          refine wp_seq ?_
          refine wp_region_lit ?_
          refine op_val (v := .agg #[.int .i64 p106.1, .int .i64 p106.2.1, .slice B107 p106.2.2.length d109]) rfl rfl hF rfl (run_loadN rfl ag28 (hF.ev rfl) rfl ((S.free 0 rfl).cells 0 #[.int .i64 p106.1, .int .i64 p106.2.1, .slice B107 p106.2.2.length d109] rfl)) ?_; clear hF; intro a hF
          refine op_do rfl rfl (run_store (cs' := #[.int .i64 p106.1, .int .i64 p106.2.1, .slice B107 p106.2.2.length d109]) rfl sz28 (hF.ev rfl) (hF.ev rfl) rfl rfl rfl (S.free 2 rfl) rfl rfl) ?_; replace S := S.put 2 rfl (#[.int .i64 p106.1, .int .i64 p106.2.1, .slice B107 p106.2.2.length d109])
          generalize World.setRow _ _ _ = u at S ⊢
          refine op_val (v := .bool false) rfl rfl hF rfl (run_assign rfl rfl) ?_; clear hF; intro a hF
          refine wpList_nil ?_
          refine wp_ret ?_
          repeat with_reducible (first | refine then_ret ?_ | refine in_ret ?_ | refine in_nrm ?_)
          refine ret2_gw (.inl rfl) hF rfl (res_cell (hF.ev rfl) (res_loadN ag28 rfl (S.cells 2 rfl 0 #[.int .i64 p106.1, .int .i64 p106.2.1, .slice B107 p106.2.2.length d109] rfl))) (res_tmp (hF.ev rfl)) ?_
          obtain rfl := Option.some.inj hM
          exact ⟨B107, p106.2.2.length, d109, rfl, rfl, S.sel [1] rfl rfl⟩
    · replace hM := bif_t hc113 hM
      refine cond_t hF rfl hc113 ?_
      refine wp_seq ?_
      refine wp_region_lit ?_
      refine op_val (v := .agg #[.int .i64 p106.1, .int .i64 p106.2.1, .slice B107 p106.2.2.length d109]) rfl rfl hF rfl (run_loadN rfl ag28 (hF.ev rfl) rfl ((S.free 0 rfl).cells 0 #[.int .i64 p106.1, .int .i64 p106.2.1, .slice B107 p106.2.2.length d109] rfl)) ?_; clear hF; intro a hF
      refine op_do rfl rfl (run_store (cs' := #[.int .i64 p106.1, .int .i64 p106.2.1, .slice B107 p106.2.2.length d109]) rfl sz28 (hF.ev rfl) (hF.ev rfl) rfl rfl rfl (S.free 2 rfl) rfl rfl) ?_; replace S := S.put 2 rfl (#[.int .i64 p106.1, .int .i64 p106.2.1, .slice B107 p106.2.2.length d109])
      generalize World.setRow _ _ _ = u at S ⊢
      refine op_val (v := .bool false) rfl rfl hF rfl (run_assign rfl rfl) ?_; clear hF; intro a hF
      refine wpList_nil ?_
      refine wp_ret ?_
      repeat with_reducible (first | refine then_ret ?_ | refine in_ret ?_ | refine in_nrm ?_)
      refine ret2_gw (.inl rfl) hF rfl (res_cell (hF.ev rfl) (res_loadN ag28 rfl (S.cells 2 rfl 0 #[.int .i64 p106.1, .int .i64 p106.2.1, .slice B107 p106.2.2.length d109] rfl))) (res_tmp (hF.ev rfl)) ?_
      obtain rfl := Option.some.inj hM
      exact ⟨B107, p106.2.2.length, d109, rfl, rfl, S.sel [1] rfl rfl⟩

set_option maxHeartbeats 4000000 in
theorem c_impl_epochValid {x0 : Int} {w : World} {r : Bool}  (hM : m_impl_epochValid x0 = some r) :
    Calls Try.prog 36 #[.int .i64 x0] w (fun e w' => e = .returned (.bool r) ∧ St w w' []) := by
  unfold m_impl_epochValid at hM
  refine calls_gw Try.func36 Try.ntmps36 rfl [(0, .int .i64 x0)] ⟨rfl, trivial⟩ rfl ?_
  intro a hF
  have S := St.nil w
  refine wp_seq ?_
  refine wp_region_lit ?_
  refine op_val (v := .bool false) rfl rfl hF rfl (run_assign rfl rfl) ?_; clear hF; intro a hF
  refine wpList_nil ?_
  refine wp_seq ?_
  refine wp_region_lit ?_
  refine op_val (v := .int .i64 x0) rfl rfl hF rfl (run_move rfl (hF.ev rfl)) ?_; clear hF; intro a hF
  refine op_val (v := .bool (leB 0 x0)) rfl rfl hF rfl (run_geq (hF.ev rfl) rfl rfl) ?_; clear hF; intro a hF
  refine op_val (v := .bool (leB 0 x0)) rfl rfl hF rfl (run_move rfl (hF.ev rfl)) ?_; clear hF; intro a hF
  refine op_gv (v := .int .i64 x0) rfl rfl hF rfl (yt (gw_yield hF rfl rfl rfl)) (fun hg => (run_move rfl (hF.ev rfl))) ?_; clear hF; intro a hF
  refine op_gv (v := .bool (leB x0 99)) rfl rfl hF rfl (yt (gw_yield hF rfl rfl rfl)) (fun hg => (run_leq ((hF.ev rfl).trans (gv_t hg)) rfl rfl)) ?_; clear hF; intro a hF
  refine op_val (v := .bool ((leB 0 x0) && (leB x0 99))) rfl rfl hF rfl (run_pick_and rfl (hF.ev rfl) (fun hp => ((hF.ev rfl).trans (gv_t hp))) rfl) ?_; clear hF; intro a hF
  refine op_val (v := .bool ((leB 0 x0) && (leB x0 99))) rfl rfl hF rfl (run_assign rfl (hF.ev rfl)) ?_; clear hF; intro a hF
  refine wpList_nil ?_
  refine wp_ret ?_
  repeat with_reducible (first | refine then_ret ?_ | refine in_ret ?_ | refine in_nrm ?_)
  refine ret1_gw (.inl rfl) hF rfl (res_tmp (hF.ev rfl)) ?_
  obtain rfl := Option.some.inj hM
  exact ⟨rfl, S.sel [] rfl rfl⟩

theorem c_impl_Rooms_epoch_0 {x3 : Int} {g0 : Nat} {w : World} (y0 : (x3 == 0) = true) :
    Calls Try.prog 37 #[.pointer (some ⟨g0, 0, none⟩), .int .i64 x3] w (fun e w' => e = .returned (.pointer (some ⟨g0, 0, none⟩)) ∧ St w w' []) := by
  refine calls_gw Try.func37 Try.ntmps37 rfl [(0, .pointer (some ⟨g0, 0, none⟩)), (1, .int .i64 x3)] ⟨rfl, rfl, trivial⟩ rfl ?_
  intro a hF
  have S := St.nil w
  refine wp_seq ?_
  refine wp_region_lit ?_
  refine op_val (v := .pointer none) rfl rfl hF rfl (run_assign rfl rfl) ?_; clear hF; intro a hF
  refine wpList_nil ?_
  refine wp_seq ?_
  refine wp_seq ?_
  refine wp_region_lit ?_
  refine op_val (v := .int .i64 x3) rfl rfl hF rfl (run_move rfl (hF.ev rfl)) ?_; clear hF; intro a hF
  refine op_val (v := .bool (x3 == 0)) rfl rfl hF rfl (run_eql (hF.ev rfl) rfl rfl) ?_; clear hF; intro a hF
  refine wpList_nil ?_
  refine cond_t hF rfl y0 ?_
  refine wp_seq ?_
  refine wp_region_lit ?_
  refine op_val (v := .pointer (some ⟨g0, 0, none⟩)) rfl rfl hF rfl (run_move rfl (hF.ev rfl)) ?_; clear hF; intro a hF
  refine op_val (v := .pointer (some ⟨g0, 0, none⟩)) rfl rfl hF rfl (run_nilCheck rfl (hF.ev rfl)) ?_; clear hF; intro a hF
  refine op_val (v := .pointer (some ⟨g0, 0, none⟩)) rfl rfl hF rfl (run_fieldAddr rfl fl28_0 (hF.ev rfl) rfl) ?_; clear hF; intro a hF
  refine op_val (v := .pointer (some ⟨g0, 0, none⟩)) rfl rfl hF rfl (run_assign rfl (hF.ev rfl)) ?_; clear hF; intro a hF
  refine wpList_nil ?_
  refine wp_ret ?_
  repeat with_reducible (first | refine then_ret ?_ | refine in_ret ?_ | refine in_nrm ?_)
  refine ret1_gw (.inl rfl) hF rfl (res_tmp (hF.ev rfl)) ?_
  exact ⟨rfl, S⟩

theorem c_impl_Rooms_epoch_1 {x3 : Int} {g0 : Nat} {w : World} (y0 : (x3 == 0) = false) :
    Calls Try.prog 37 #[.pointer (some ⟨g0, 0, none⟩), .int .i64 x3] w (fun e w' => e = .returned (.pointer (some ⟨g0, 1, none⟩)) ∧ St w w' []) := by
  refine calls_gw Try.func37 Try.ntmps37 rfl [(0, .pointer (some ⟨g0, 0, none⟩)), (1, .int .i64 x3)] ⟨rfl, rfl, trivial⟩ rfl ?_
  intro a hF
  have S := St.nil w
  refine wp_seq ?_
  refine wp_region_lit ?_
  refine op_val (v := .pointer none) rfl rfl hF rfl (run_assign rfl rfl) ?_; clear hF; intro a hF
  refine wpList_nil ?_
  refine wp_seq ?_
  refine wp_seq ?_
  refine wp_region_lit ?_
  refine op_val (v := .int .i64 x3) rfl rfl hF rfl (run_move rfl (hF.ev rfl)) ?_; clear hF; intro a hF
  refine op_val (v := .bool (x3 == 0)) rfl rfl hF rfl (run_eql (hF.ev rfl) rfl rfl) ?_; clear hF; intro a hF
  refine wpList_nil ?_
  refine cond_f hF rfl y0 ?_
  refine wp_skip ?_
  refine wp_seq ?_
  refine wp_region_lit ?_
  refine op_val (v := .pointer (some ⟨g0, 0, none⟩)) rfl rfl hF rfl (run_move rfl (hF.ev rfl)) ?_; clear hF; intro a hF
  refine op_val (v := .pointer (some ⟨g0, 0, none⟩)) rfl rfl hF rfl (run_nilCheck rfl (hF.ev rfl)) ?_; clear hF; intro a hF
  refine op_val (v := .pointer (some ⟨g0, 1, none⟩)) rfl rfl hF rfl (run_fieldAddr rfl fl28_1 (hF.ev rfl) rfl) ?_; clear hF; intro a hF
  refine op_val (v := .pointer (some ⟨g0, 1, none⟩)) rfl rfl hF rfl (run_assign rfl (hF.ev rfl)) ?_; clear hF; intro a hF
  refine wpList_nil ?_
  refine wp_ret ?_
  repeat with_reducible (first | refine then_ret ?_ | refine in_ret ?_ | refine in_nrm ?_)
  refine ret1_gw (.inl rfl) hF rfl (res_tmp (hF.ev rfl)) ?_
  exact ⟨rfl, S⟩

theorem c_impl_Rooms_epoch_2 {x3 : Int} {g0 : Nat} {w : World} (y0 : (x3 == 0) = true) :
    Calls Try.prog 37 #[.pointer (some ⟨g0, 0, none⟩), .int .i64 x3] w (fun e w' => e = .returned (.pointer (some ⟨g0, 0, none⟩)) ∧ St w w' []) := by
  refine calls_gw Try.func37 Try.ntmps37 rfl [(0, .pointer (some ⟨g0, 0, none⟩)), (1, .int .i64 x3)] ⟨rfl, rfl, trivial⟩ rfl ?_
  intro a hF
  have S := St.nil w
  refine wp_seq ?_
  refine wp_region_lit ?_
  refine op_val (v := .pointer none) rfl rfl hF rfl (run_assign rfl rfl) ?_; clear hF; intro a hF
  refine wpList_nil ?_
  refine wp_seq ?_
  refine wp_seq ?_
  refine wp_region_lit ?_
  refine op_val (v := .int .i64 x3) rfl rfl hF rfl (run_move rfl (hF.ev rfl)) ?_; clear hF; intro a hF
  refine op_val (v := .bool (x3 == 0)) rfl rfl hF rfl (run_eql (hF.ev rfl) rfl rfl) ?_; clear hF; intro a hF
  refine wpList_nil ?_
  refine cond_t hF rfl y0 ?_
  refine wp_seq ?_
  refine wp_region_lit ?_
  refine op_val (v := .pointer (some ⟨g0, 0, none⟩)) rfl rfl hF rfl (run_move rfl (hF.ev rfl)) ?_; clear hF; intro a hF
  refine op_val (v := .pointer (some ⟨g0, 0, none⟩)) rfl rfl hF rfl (run_nilCheck rfl (hF.ev rfl)) ?_; clear hF; intro a hF
  refine op_val (v := .pointer (some ⟨g0, 0, none⟩)) rfl rfl hF rfl (run_fieldAddr rfl fl28_0 (hF.ev rfl) rfl) ?_; clear hF; intro a hF
  refine op_val (v := .pointer (some ⟨g0, 0, none⟩)) rfl rfl hF rfl (run_assign rfl (hF.ev rfl)) ?_; clear hF; intro a hF
  refine wpList_nil ?_
  refine wp_ret ?_
  repeat with_reducible (first | refine then_ret ?_ | refine in_ret ?_ | refine in_nrm ?_)
  refine ret1_gw (.inl rfl) hF rfl (res_tmp (hF.ev rfl)) ?_
  exact ⟨rfl, S⟩

set_option maxHeartbeats 4000000 in
theorem c_impl_RoomsValid {x0 : Int} {x1 : Int} {x2 : List Int} {A2 : Option Addr} {n2 c2 : Nat} {w : World} {r : Bool} (h2 : Rt w 1 eI A2 n2 c2 x2) (hM : m_impl_RoomsValid x0 x1 x2 = some r) :
    Calls Try.prog 28 #[.agg #[.int .i64 x0, .int .i64 x1, .slice A2 n2 c2]] w (fun e w' => e = .returned (.bool r) ∧ St w w' []) := by
  obtain rfl := h2.len
  unfold m_impl_RoomsValid at hM
  refine calls_gw Try.func28 Try.ntmps28 rfl [(0, .agg #[.int .i64 x0, .int .i64 x1, .slice A2 x2.length c2])] ⟨rfl, trivial⟩ rfl ?_
  intro a hF
  have S := St.nil w
  refine wp_seq ?_
  refine wp_region_lit ?_
  refine op_new (cs := #[.int .i64 x0, .int .i64 x1, .slice A2 x2.length c2]) rfl rfl hF rfl S (run_box rfl (hF.ev rfl) rfl) ?_; clear hF S; intro a g101 u hF S
  refine op_val (v := .bool false) rfl rfl hF rfl (run_assign rfl rfl) ?_; clear hF; intro a hF
  refine wpList_nil ?_
  refine wp_seq ?_
  refine wp_seq ?_
  refine wp_region_lit ?_
  refine op_val (v := .pointer (some ⟨g101, 0, none⟩)) rfl rfl hF rfl (run_fieldAddr rfl fl28_0 (hF.ev rfl) rfl) ?_; clear hF; intro a hF
  refine op_val (v := .int .i64 x0) rfl rfl hF rfl (run_load1 rfl one3 (hF.ev rfl) ((S.free 0 rfl).cell rfl)) ?_; clear hF; intro a hF
  obtain ⟨p102, h102, hM⟩ := bind_ex hM
  refine op_call rfl rfl hF rfl (run_call (vs := [.int .i64 x0]) rfl rfl co36 ⟨(hF.ev rfl), trivial⟩) (c_impl_epochValid (x0 := x0)  h102) ?_
  rintro e u ⟨rfl, T⟩
  refine ⟨_, rfl, ?_⟩
  clear hF; intro a hF
  replace S := S.call0 T; clear T
  refine op_val (v := .bool (!p102)) rfl rfl hF rfl (run_not rfl (hF.ev rfl)) ?_; clear hF; intro a hF
  refine op_val (v := .bool (!p102)) rfl rfl hF rfl (run_move rfl (hF.ev rfl)) ?_; clear hF; intro a hF
  refine op_gv (v := .pointer (some ⟨g101, 1, none⟩)) rfl rfl hF rfl (yf (gw_yield hF rfl rfl rfl)) (fun hg => (run_fieldAddr rfl fl28_1 (hF.ev rfl) rfl)) ?_; clear hF; intro a hF
  refine op_gv (v := .int .i64 x1) rfl rfl hF rfl (yf (gw_yield hF rfl rfl rfl)) (fun hg => (run_load1 rfl one3 ((hF.ev rfl).trans (gv_t hg)) ((S.free 0 rfl).cell rfl))) ?_; clear hF; intro a hF
  obtain ⟨p103, h103, hM⟩ := bind_ex hM
  refine op_gcall (v := .bool p103) rfl rfl hF rfl S (yf (gw_yield hF rfl rfl rfl)) (fun hg => (run_call (vs := [.int .i64 x1]) rfl rfl co36 ⟨((hF.ev rfl).trans (gv_t hg)), trivial⟩)) (fun hg => c_impl_epochValid (x0 := x1)  (gb_t h103 hg)) ?_; clear hF S; intro a u hF S
  refine op_gv (v := .bool (!p103)) rfl rfl hF rfl (yf (gw_yield hF rfl rfl rfl)) (fun hg => (run_not rfl ((hF.ev rfl).trans (gv_t hg)))) ?_; clear hF; intro a hF
  refine op_val (v := .bool ((!p102) || (!p103))) rfl rfl hF rfl (run_pick_or rfl (hF.ev rfl) rfl (fun hp => ((hF.ev rfl).trans (gv_t (not_t hp))))) ?_; clear hF; intro a hF
  refine op_val (v := .bool ((!p102) || (!p103))) rfl rfl hF rfl (run_move rfl (hF.ev rfl)) ?_; clear hF; intro a hF
  refine op_gv (v := .pointer (some ⟨g101, 0, none⟩)) rfl rfl hF rfl (yf (gw_yield hF rfl rfl rfl)) (fun hg => (run_fieldAddr rfl fl28_0 (hF.ev rfl) rfl)) ?_; clear hF; intro a hF
  refine op_gv (v := .int .i64 x0) rfl rfl hF rfl (yf (gw_yield hF rfl rfl rfl)) (fun hg => (run_load1 rfl one3 ((hF.ev rfl).trans (gv_t hg)) ((S.free 0 rfl).cell rfl))) ?_; clear hF; intro a hF
  refine op_gv (v := .int .i64 (Int.tmod x0 2)) rfl rfl hF rfl (yf (gw_yield hF rfl rfl rfl)) (fun hg => (run_rem (z := Int.tmod x0 2) ((hF.ev rfl).trans (gv_t hg)) rfl rfl (by decide) rfl)) ?_; clear hF; intro a hF
  refine op_gv (v := .bool ((Int.tmod x0 2) != 0)) rfl rfl hF rfl (yf (gw_yield hF rfl rfl rfl)) (fun hg => (run_neq ((hF.ev rfl).trans (gv_t hg)) rfl rfl)) ?_; clear hF; intro a hF
  refine op_val (v := .bool (((!p102) || (!p103)) || ((Int.tmod x0 2) != 0))) rfl rfl hF rfl (run_pick_or rfl (hF.ev rfl) rfl (fun hp => ((hF.ev rfl).trans (gv_t (not_t hp))))) ?_; clear hF; intro a hF
  refine op_val (v := .bool (((!p102) || (!p103)) || ((Int.tmod x0 2) != 0))) rfl rfl hF rfl (run_move rfl (hF.ev rfl)) ?_; clear hF; intro a hF
  refine op_gv (v := .pointer (some ⟨g101, 1, none⟩)) rfl rfl hF rfl (yf (gw_yield hF rfl rfl rfl)) (fun hg => (run_fieldAddr rfl fl28_1 (hF.ev rfl) rfl)) ?_; clear hF; intro a hF
  refine op_gv (v := .int .i64 x1) rfl rfl hF rfl (yf (gw_yield hF rfl rfl rfl)) (fun hg => (run_load1 rfl one3 ((hF.ev rfl).trans (gv_t hg)) ((S.free 0 rfl).cell rfl))) ?_; clear hF; intro a hF
  refine op_gv (v := .int .i64 (Int.tmod x1 2)) rfl rfl hF rfl (yf (gw_yield hF rfl rfl rfl)) (fun hg => (run_rem (z := Int.tmod x1 2) ((hF.ev rfl).trans (gv_t hg)) rfl rfl (by decide) rfl)) ?_; clear hF; intro a hF
  refine op_gv (v := .bool ((Int.tmod x1 2) != 1)) rfl rfl hF rfl (yf (gw_yield hF rfl rfl rfl)) (fun hg => (run_neq ((hF.ev rfl).trans (gv_t hg)) rfl rfl)) ?_; clear hF; intro a hF
  refine op_val (v := .bool ((((!p102) || (!p103)) || ((Int.tmod x0 2) != 0)) || ((Int.tmod x1 2) != 1))) rfl rfl hF rfl (run_pick_or rfl (hF.ev rfl) rfl (fun hp => ((hF.ev rfl).trans (gv_t (not_t hp))))) ?_; clear hF; intro a hF
  refine op_val (v := .bool ((((!p102) || (!p103)) || ((Int.tmod x0 2) != 0)) || ((Int.tmod x1 2) != 1))) rfl rfl hF rfl (run_move rfl (hF.ev rfl)) ?_; clear hF; intro a hF
  refine op_gv (v := .pointer (some ⟨g101, 2, none⟩)) rfl rfl hF rfl (yf (gw_yield hF rfl rfl rfl)) (fun hg => (run_fieldAddr rfl fl28_2 (hF.ev rfl) rfl)) ?_; clear hF; intro a hF
  refine op_gv (v := .slice A2 x2.length c2) rfl rfl hF rfl (yf (gw_yield hF rfl rfl rfl)) (fun hg => (run_load1 rfl one22 ((hF.ev rfl).trans (gv_t hg)) ((S.free 0 rfl).cell rfl))) ?_; clear hF; intro a hF
  refine op_gv (v := .int .i64 (x2.length : Int)) rfl rfl hF rfl (yf (gw_yield hF rfl rfl rfl)) (fun hg => (run_lenL rfl rfl Try.underlying22 ((hF.ev rfl).trans (gv_t hg)))) ?_; clear hF; intro a hF
  refine op_gv (v := .bool (ltB (x2.length : Int) 1)) rfl rfl hF rfl (yf (gw_yield hF rfl rfl rfl)) (fun hg => (run_lss ((hF.ev rfl).trans (gv_t hg)) rfl rfl)) ?_; clear hF; intro a hF
  refine op_val (v := .bool (((((!p102) || (!p103)) || ((Int.tmod x0 2) != 0)) || ((Int.tmod x1 2) != 1)) || (ltB (x2.length : Int) 1))) rfl rfl hF rfl (run_pick_or rfl (hF.ev rfl) rfl (fun hp => ((hF.ev rfl).trans (gv_t (not_t hp))))) ?_; clear hF; intro a hF
  refine op_val (v := .bool (((((!p102) || (!p103)) || ((Int.tmod x0 2) != 0)) || ((Int.tmod x1 2) != 1)) || (ltB (x2.length : Int) 1))) rfl rfl hF rfl (run_move rfl (hF.ev rfl)) ?_; clear hF; intro a hF
  refine op_gv (v := .pointer (some ⟨g101, 2, none⟩)) rfl rfl hF rfl (yf (gw_yield hF rfl rfl rfl)) (fun hg => (run_fieldAddr rfl fl28_2 (hF.ev rfl) rfl)) ?_; clear hF; intro a hF
  refine op_gv (v := .slice A2 x2.length c2) rfl rfl hF rfl (yf (gw_yield hF rfl rfl rfl)) (fun hg => (run_load1 rfl one22 ((hF.ev rfl).trans (gv_t hg)) ((S.free 0 rfl).cell rfl))) ?_; clear hF; intro a hF
  refine op_gv (v := .int .i64 (x2.length : Int)) rfl rfl hF rfl (yf (gw_yield hF rfl rfl rfl)) (fun hg => (run_lenL rfl rfl Try.underlying22 ((hF.ev rfl).trans (gv_t hg)))) ?_; clear hF; intro a hF
  refine op_gv (v := .bool (ltB 5 (x2.length : Int))) rfl rfl hF rfl (yf (gw_yield hF rfl rfl rfl)) (fun hg => (run_gtr ((hF.ev rfl).trans (gv_t hg)) rfl rfl)) ?_; clear hF; intro a hF
  refine op_val (v := .bool ((((((!p102) || (!p103)) || ((Int.tmod x0 2) != 0)) || ((Int.tmod x1 2) != 1)) || (ltB (x2.length : Int) 1)) || (ltB 5 (x2.length : Int)))) rfl rfl hF rfl (run_pick_or rfl (hF.ev rfl) rfl (fun hp => ((hF.ev rfl).trans (gv_t (not_t hp))))) ?_; clear hF; intro a hF
  refine wpList_nil ?_
  cases hc104 : ((((((!p102) || (!p103)) || ((Int.tmod x0 2) != 0)) || ((Int.tmod x1 2) != 1)) || (ltB (x2.length : Int) 1)) || (ltB 5 (x2.length : Int)))
  · replace hM := bif_f hc104 hM
    refine cond_f hF rfl hc104 ?_
    refine wp_skip ?_
    refine wp_seq ?_
    refine wp_seq ?_
    refine wp_region_lit ?_
    refine op_val (v := .pointer (some ⟨g101, 2, none⟩)) rfl rfl hF rfl (run_fieldAddr rfl fl28_2 (hF.ev rfl) rfl) ?_; clear hF; intro a hF
    refine op_val (v := .slice A2 x2.length c2) rfl rfl hF rfl (run_load1 rfl one22 (hF.ev rfl) ((S.free 0 rfl).cell rfl)) ?_; clear hF; intro a hF
    refine op_val (v := .int .i64 (x2.length : Int)) rfl rfl hF rfl (run_lenL rfl rfl Try.underlying22 (hF.ev rfl)) ?_; clear hF; intro a hF
    refine op_val (v := .int .i64 0) rfl rfl hF rfl (run_move rfl rfl) ?_; clear hF; intro a hF
    refine wpList_nil ?_
    obtain ⟨o106, hM107, hM⟩ := bind_ex hM
    refine wp_cut (fun a u => ∃ (p105 : Unit), (Sum.inl p105) = o106 ∧ Fr a 58 [(2, .bool false)] ∧ St w u [.box g101 28 #[.int .i64 x0, .int .i64 x1, .slice A2 x2.length c2]]) ?_ ?_
    · have _ := trivial
      refine wp_block ?_
      refine loop_gw (fun m a u => ∃ (p108 : Int), m_impl_RoomsValid_l1 x0 x1 x2 m p108 = some _ ∧ Fr a 58 [(1, .pointer (some ⟨g101, 0, none⟩)), (2, .bool false), (40, .slice A2 x2.length c2), (41, .int .i64 (x2.length : Int)), (42, .int .i64 p108)] ∧ St w u [.box g101 28 #[.int .i64 x0, .int .i64 x1, .slice A2 x2.length c2]]) FUEL ⟨0, hM107, hF.keep _ ⟨rfl, rfl, rfl, rfl, rfl, trivial⟩, S.sel [0] rfl rfl⟩ ?_
      clear hF S hM107; rintro m a u ⟨p108, hM107, hF, S⟩
      rcases m with _ | f1
      · exact none_some hM107
      rw [m_impl_RoomsValid_l1.eq_2] at hM107
      refine wp_seq ?_
      refine wp_region_lit ?_
      refine op_val (v := .bool (ltB p108 (x2.length : Int))) rfl rfl hF rfl (run_lss (hF.ev rfl) (hF.ev rfl) rfl) ?_; clear hF; intro a hF
      refine wpList_nil ?_
      refine wp_seq ?_
      cases hc109 : (ltB p108 (x2.length : Int))
      · replace hM107 := bif_f hc109 hM107
        refine cond_f hF rfl hc109 ?_
        refine wp_exit ?_
        repeat with_reducible (first | refine then_exit ?_ | refine in_hit ?_ | refine in_miss rfl ?_)
        obtain rfl := Option.some.inj hM107
        exact ⟨(), rfl, hF.keep _ ⟨rfl, trivial⟩, S.sel [0] rfl rfl⟩
      · replace hM107 := bif_t hc109 hM107
        refine cond_t hF rfl hc109 ?_
        refine wp_skip ?_
        refine wp_seq ?_
        refine wp_block ?_
        refine wp_seq ?_
        refine wp_region_lit ?_
        obtain ⟨hk110, hM107⟩ := chk_ex hM107
        replace hk110 := ixB_t hk110
        refine op_val (v := .pointer (some ⟨adB A2, adO A2 + p108.toNat * 1, none⟩)) rfl rfl hF rfl (run_indexAddr (b := adB A2) (off := adO A2) rfl Try.underlying22 sz3 ((hF.ev rfl).trans (congrArg (fun A => Value.slice A x2.length c2) ((S.rc0 h2.rc).rd.ad (ix_pos hk110)))) (hF.ev rfl) hk110.1 hk110.2 (k' := adO A2 + p108.toNat * 1) rfl) ?_; clear hF; intro a hF
        refine op_val (v := .int .i64 (x2.getD p108.toNat (0 : Int))) rfl rfl hF rfl (run_load1 rfl one3 (hF.ev rfl) (rd_el0 (l := x2) (S.rc0 h2.rc).rd rfl eI_len (0 : Int) (ix_ltn hk110 rfl) rfl)) ?_; clear hF; intro a hF
        refine op_val (v := .int .i64 (x2.getD p108.toNat (0 : Int))) rfl rfl hF rfl (run_assign rfl (hF.ev rfl)) ?_; clear hF; intro a hF
        refine wpList_nil ?_
        refine wp_seq ?_
        obtain ⟨o112, hM113, hM107⟩ := bind_ex hM107
        refine wp_cut (fun a u => ∃ (p111 : Bool), p111 = o112 ∧ Fr a 58 [(1, .pointer (some ⟨g101, 0, none⟩)), (2, .bool false), (40, .slice A2 x2.length c2), (41, .int .i64 (x2.length : Int)), (42, .int .i64 p108), (56, .bool p111)] ∧ St w u [.box g101 28 #[.int .i64 x0, .int .i64 x1, .slice A2 x2.length c2]]) ?_ ?_
        · have _ := trivial
          refine wp_region_lit ?_
          refine op_val (v := .int .i64 (x2.getD p108.toNat (0 : Int))) rfl rfl hF rfl (run_move rfl (hF.ev rfl)) ?_; clear hF; intro a hF
          refine op_val (v := .bool (ltB (x2.getD p108.toNat (0 : Int)) 0)) rfl rfl hF rfl (run_lss (hF.ev rfl) rfl rfl) ?_; clear hF; intro a hF
          refine op_val (v := .bool (ltB (x2.getD p108.toNat (0 : Int)) 0)) rfl rfl hF rfl (run_move rfl (hF.ev rfl)) ?_; clear hF; intro a hF
          refine op_gv (v := .int .i64 (x2.getD p108.toNat (0 : Int))) rfl rfl hF rfl (yf (gw_yield hF rfl rfl rfl)) (fun hg => (run_move rfl (hF.ev rfl))) ?_; clear hF; intro a hF
          refine op_gv (v := .int .i64 (x2.getD p108.toNat (0 : Int))) rfl rfl hF rfl (yf (gw_yield hF rfl rfl rfl)) (fun hg => (run_move rfl (hF.ev rfl))) ?_; clear hF; intro a hF
          refine op_gv (v := .int .i64 (Int.tmod (x2.getD p108.toNat (0 : Int)) 2)) rfl rfl hF rfl (yf (gw_yield hF rfl rfl rfl)) (fun hg => (run_rem (z := Int.tmod (x2.getD p108.toNat (0 : Int)) 2) ((hF.ev rfl).trans (gv_t hg)) rfl rfl (by decide) rfl)) ?_; clear hF; intro a hF
          cases hc114 : (ltB (x2.getD p108.toNat (0 : Int)) 0)
          · replace hM113 := bif_f hc114 hM113
            refine op_guarded rfl ((gw_yield hF rfl rfl rfl).trans (congrArg some hc114)) ?_
            cases hc115 : ((Int.tmod (x2.getD p108.toNat (0 : Int)) 2) == 0)
            · replace hM113 := bif_f hc115 hM113
              refine op_call rfl rfl hF rfl (run_call (vs := [.pointer (some ⟨g101, 0, none⟩), .int .i64 (Int.tmod (x2.getD p108.toNat (0 : Int)) 2)]) rfl rfl co37 ⟨(hF.ev rfl), ((hF.ev rfl).trans (gv_t (not_t hc114))), trivial⟩) (c_impl_Rooms_epoch_1 hc115) ?_
              rintro e u ⟨rfl, T⟩
              refine ⟨_, rfl, ?_⟩
              clear hF; intro a hF
              replace S := S.call0 T; clear T
              refine op_guarded rfl ((gw_yield hF rfl rfl rfl).trans (congrArg some hc114)) ?_
              refine op_val (v := .pointer (some ⟨g101, 1, none⟩)) rfl rfl hF rfl (run_nilCheck rfl (hF.ev rfl)) ?_; clear hF; intro a hF
              refine op_guarded rfl ((gw_yield hF rfl rfl rfl).trans (congrArg some hc114)) ?_
              refine op_val (v := .int .i64 x1) rfl rfl hF rfl (run_load1 rfl one3 (hF.ev rfl) ((S.free 0 rfl).cell rfl)) ?_; clear hF; intro a hF
              refine op_guarded rfl ((gw_yield hF rfl rfl rfl).trans (congrArg some hc114)) ?_
              refine op_val (v := .bool (ltB x1 (x2.getD p108.toNat (0 : Int)))) rfl rfl hF rfl (run_gtr ((hF.ev rfl).trans (gv_t (not_t hc114))) (hF.ev rfl) rfl) ?_; clear hF; intro a hF
              refine op_val (v := .bool (ltB x1 (x2.getD p108.toNat (0 : Int)))) rfl rfl hF rfl (run_pick_f rfl (hF.ev rfl) hc114 (hF.ev rfl)) ?_; clear hF; intro a hF
              refine wpList_nil ?_
              obtain rfl := Option.some.inj hM113
              exact ⟨ltB x1 (x2.getD p108.toNat (0 : Int)), rfl, hF.keep _ ⟨rfl, rfl, rfl, rfl, rfl, rfl, trivial⟩, S.sel [0] rfl rfl⟩
            · replace hM113 := bif_t hc115 hM113
              refine op_call rfl rfl hF rfl (run_call (vs := [.pointer (some ⟨g101, 0, none⟩), .int .i64 (Int.tmod (x2.getD p108.toNat (0 : Int)) 2)]) rfl rfl co37 ⟨(hF.ev rfl), ((hF.ev rfl).trans (gv_t (not_t hc114))), trivial⟩) (c_impl_Rooms_epoch_0 hc115) ?_
              rintro e u ⟨rfl, T⟩
              refine ⟨_, rfl, ?_⟩
              clear hF; intro a hF
              replace S := S.call0 T; clear T
              refine op_guarded rfl ((gw_yield hF rfl rfl rfl).trans (congrArg some hc114)) ?_
              refine op_val (v := .pointer (some ⟨g101, 0, none⟩)) rfl rfl hF rfl (run_nilCheck rfl (hF.ev rfl)) ?_; clear hF; intro a hF
              refine op_guarded rfl ((gw_yield hF rfl rfl rfl).trans (congrArg some hc114)) ?_
              refine op_val (v := .int .i64 x0) rfl rfl hF rfl (run_load1 rfl one3 (hF.ev rfl) ((S.free 0 rfl).cell rfl)) ?_; clear hF; intro a hF
              refine op_guarded rfl ((gw_yield hF rfl rfl rfl).trans (congrArg some hc114)) ?_
              refine op_val (v := .bool (ltB x0 (x2.getD p108.toNat (0 : Int)))) rfl rfl hF rfl (run_gtr ((hF.ev rfl).trans (gv_t (not_t hc114))) (hF.ev rfl) rfl) ?_; clear hF; intro a hF
              refine op_val (v := .bool (ltB x0 (x2.getD p108.toNat (0 : Int)))) rfl rfl hF rfl (run_pick_f rfl (hF.ev rfl) hc114 (hF.ev rfl)) ?_; clear hF; intro a hF
              refine wpList_nil ?_
              obtain rfl := Option.some.inj hM113
              exact ⟨ltB x0 (x2.getD p108.toNat (0 : Int)), rfl, hF.keep _ ⟨rfl, rfl, rfl, rfl, rfl, rfl, trivial⟩, S.sel [0] rfl rfl⟩
          · replace hM113 := bif_t hc114 hM113
            refine op_skipped rfl ((gw_yield hF rfl rfl rfl).trans (congrArg some hc114)) rfl rfl hF rfl ?_; clear hF; intro a hF
            refine op_skipped rfl ((gw_yield hF rfl rfl rfl).trans (congrArg some hc114)) rfl rfl hF rfl ?_; clear hF; intro a hF
            refine op_skipped rfl ((gw_yield hF rfl rfl rfl).trans (congrArg some hc114)) rfl rfl hF rfl ?_; clear hF; intro a hF
            refine op_skipped rfl ((gw_yield hF rfl rfl rfl).trans (congrArg some hc114)) rfl rfl hF rfl ?_; clear hF; intro a hF
            refine op_val (v := .bool true) rfl rfl hF rfl (run_pick_t rfl (hF.ev rfl) hc114 rfl) ?_; clear hF; intro a hF
            refine wpList_nil ?_
            obtain rfl := Option.some.inj hM113
            exact ⟨true, rfl, hF.keep _ ⟨rfl, rfl, rfl, rfl, rfl, rfl, trivial⟩, S.sel [0] rfl rfl⟩
        · rintro a u ⟨p111, rfl, hF, S⟩
          cases hc116 : (p111)
          · replace hM107 := bif_f hc116 hM107
            refine cond_f hF rfl hc116 ?_
            refine wp_skip ?_
            refine wp_region_lit ?_
            refine op_val (v := .int .i64 (w64 (p108 + 1))) rfl rfl hF rfl (run_add (z := w64 (p108 + 1)) (hF.ev rfl) rfl rfl rfl) ?_; clear hF; intro a hF
            refine op_val (v := .int .i64 (w64 (p108 + 1))) rfl rfl hF rfl (run_move rfl (hF.ev rfl)) ?_; clear hF; intro a hF
            refine wpList_nil ?_
            exact ⟨f1, Nat.lt_succ_self _, w64 (p108 + 1), hM107, hF.keep _ ⟨rfl, rfl, rfl, rfl, rfl, trivial⟩, S.sel [0] rfl rfl⟩
          · replace hM107 := bif_t hc116 hM107
            refine cond_t hF rfl hc116 ?_
            refine wp_seq ?_
            refine wp_region_lit ?_
            refine op_val (v := .bool false) rfl rfl hF rfl (run_assign rfl rfl) ?_; clear hF; intro a hF
            refine wpList_nil ?_
            refine wp_ret ?_
            repeat with_reducible (first | refine then_ret ?_ | refine in_ret ?_ | refine in_nrm ?_)
            refine ret1_gw (.inl rfl) hF rfl (res_tmp (hF.ev rfl)) ?_
            obtain rfl := Option.some.inj hM107
            obtain rfl := Option.some.inj hM
            exact ⟨rfl, S.sel [] rfl rfl⟩
    · rintro a u ⟨p105, rfl, hF, S⟩
      replace hM := elim_l hM
      refine wp_seq ?_
      refine wp_region_lit ?_
      refine op_val (v := .bool true) rfl rfl hF rfl (run_assign rfl rfl) ?_; clear hF; intro a hF
      refine wpList_nil ?_
      refine wp_ret ?_
      repeat with_reducible (first | refine then_ret ?_ | refine in_ret ?_ | refine in_nrm ?_)
      refine ret1_gw (.inl rfl) hF rfl (res_tmp (hF.ev rfl)) ?_
      obtain rfl := Option.some.inj hM
      exact ⟨rfl, S.sel [] rfl rfl⟩
  · replace hM := bif_t hc104 hM
    refine cond_t hF rfl hc104 ?_
    refine wp_seq ?_
    refine wp_region_lit ?_
    refine op_val (v := .bool false) rfl rfl hF rfl (run_assign rfl rfl) ?_; clear hF; intro a hF
    refine wpList_nil ?_
    refine wp_ret ?_
    repeat with_reducible (first | refine then_ret ?_ | refine in_ret ?_ | refine in_nrm ?_)
    refine ret1_gw (.inl rfl) hF rfl (res_tmp (hF.ev rfl)) ?_
    obtain rfl := Option.some.inj hM
    exact ⟨rfl, S.sel [] rfl rfl⟩

set_option maxHeartbeats 4000000 in
theorem c_slices_Clone_int_int {x0 : List Int} {A0 : Option Addr} {n0 c0 : Nat} {w : World} {r : List Int} (h0 : Rt w 1 eI A0 n0 c0 x0) (hM : m_slices_Clone_int_int x0 = some r) :
    Calls Try.prog 38 #[.slice A0 n0 c0] w (fun e w' => ∃ (B0 : Option Addr) (N0 D0 : Nat), e = .returned (.slice B0 N0 D0) ∧ N0 = r.length ∧ St w w' [.row 3 1 (.slice B0 N0 D0) N0 (r.flatMap eI)]) := by
  obtain rfl := h0.len
  unfold m_slices_Clone_int_int at hM
  obtain ⟨hk, hM⟩ := chk_ex hM
  replace hk := apB_t hk
  obtain rfl := Option.some.inj hM
  refine calls_gw Try.func38 Try.ntmps38 rfl [(0, .slice A0 x0.length c0)] ⟨rfl, trivial⟩ rfl ?_
  intro a hF
  have S := St.nil w
  refine wp_seq ?_
  refine wp_region_lit ?_
  refine op_val (v := .slice none 0 0) rfl rfl hF rfl (run_assign rfl rfl) ?_; clear hF; intro a hF
  refine wpList_nil ?_
  refine wp_seq ?_
  refine wp_seq ?_
  refine wp_region_lit ?_
  refine op_val (v := .slice A0 x0.length c0) rfl rfl hF rfl (run_move rfl (hF.ev rfl)) ?_; clear hF; intro a hF
  refine op_val (v := .bool (Option.isNone A0)) rfl rfl hF rfl (run_eqlNil rfl Try.underlying22 (hF.ev rfl) rfl) ?_; clear hF; intro a hF
  refine wpList_nil ?_
  cases hc101 : (Option.isNone A0)
  · have hx := trivial
    refine cond_f hF rfl hc101 ?_
    refine wp_skip ?_
    refine wp_seq ?_
    refine wp_region_lit ?_
    refine op_newrow (cs := #[]) (size := 1) rfl rfl hF rfl S (run_buildSlice0 rfl Try.underlying22 rfl) rfl (Nat.zero_le _) ?_; clear hF S; intro a g102 u hF S
    refine op_val (v := .slice A0 x0.length c0) rfl rfl hF rfl (run_move rfl (hF.ev rfl)) ?_; clear hF; intro a hF
    have hk105 := hk
    refine op_appendL (lx := []) (ly := x0) rfl rfl hF rfl S rfl (hF.ev rfl) (hF.ev rfl) (i := 0) rfl rfl Try.underlying22 inf3 rfl (by decide) (S.rc0 h0.rc).rd rfl eI_one hk105 (by decide) ?_; clear hF S; intro a B103 d104 u hF S
    refine op_val (v := .slice B103 (([] ++ x0).length) d104) rfl rfl hF rfl (run_assign rfl (hF.ev rfl)) ?_; clear hF; intro a hF
    refine wpList_nil ?_
    refine wp_ret ?_
    repeat with_reducible (first | refine then_ret ?_ | refine in_ret ?_ | refine in_nrm ?_)
    refine ret1_gw (.inl rfl) hF rfl (res_tmp (hF.ev rfl)) ?_
    exact ⟨B103, (([] ++ x0).length), d104, rfl, rfl, S.sel [0] rfl rfl⟩
  · have hx := nil_none h0.rc.rd rfl hc101
    refine cond_t hF rfl hc101 ?_
    refine wp_seq ?_
    refine wp_region_lit ?_
    refine op_val (v := .slice none 0 0) rfl rfl hF rfl (run_assign rfl rfl) ?_; clear hF; intro a hF
    refine wpList_nil ?_
    refine wp_ret ?_
    repeat with_reducible (first | refine then_ret ?_ | refine in_ret ?_ | refine in_nrm ?_)
    refine ret1_gw (.inl rfl) hF rfl (res_tmp (hF.ev rfl)) ?_
    subst hx
    replace S := S.nilrow 3 1
    exact ⟨none, 0, 0, rfl, rfl, S.sel [0] rfl rfl⟩

set_option maxHeartbeats 4000000 in
theorem c_impl_Rooms_clone {x0 : Int} {x1 : Int} {x2 : List Int} {A2 : Option Addr} {n2 c2 : Nat} {w : World} {r : Int × Int × List Int} (h2 : Rt w 1 eI A2 n2 c2 x2) (hM : m_impl_Rooms_clone x0 x1 x2 = some r) :
    Calls Try.prog 29 #[.agg #[.int .i64 x0, .int .i64 x1, .slice A2 n2 c2]] w (fun e w' => ∃ (B0 : Option Addr) (N0 D0 : Nat), e = .returned (.agg #[.int .i64 r.1, .int .i64 r.2.1, .slice B0 N0 D0]) ∧ N0 = r.2.2.length ∧ St w w' [.row 3 1 (.slice B0 N0 D0) N0 (r.2.2.flatMap eI)]) := by
  obtain rfl := h2.len
  unfold m_impl_Rooms_clone at hM
  refine calls_gw Try.func29 Try.ntmps29 rfl [(0, .agg #[.int .i64 x0, .int .i64 x1, .slice A2 x2.length c2])] ⟨rfl, trivial⟩ rfl ?_
  intro a hF
  have S := St.nil w
  refine wp_seq ?_
  refine wp_region_lit ?_
  refine op_new (cs := #[.int .i64 x0, .int .i64 x1, .slice A2 x2.length c2]) rfl rfl hF rfl S (run_box rfl (hF.ev rfl) rfl) ?_; clear hF S; intro a g101 u hF S
  refine op_new (cs := #[.int .i64 0, .int .i64 0, .slice none 0 0]) rfl rfl hF rfl S (run_allocZ rfl zr28) ?_; clear hF S; intro a g102 u hF S
  refine wpList_nil ?_
  refine wp_seq ?_
  refine wp_region_lit ?_
  refine op_val (v := .pointer (some ⟨g101, 2, none⟩)) rfl rfl hF rfl (run_fieldAddr rfl fl28_2 (hF.ev rfl) rfl) ?_; clear hF; intro a hF
  refine op_val (v := .slice A2 x2.length c2) rfl rfl hF rfl (run_load1 rfl one22 (hF.ev rfl) ((S.free 1 rfl).cell rfl)) ?_; clear hF; intro a hF
  obtain ⟨p103, h103, hM⟩ := bind_ex hM
  refine op_call rfl rfl hF rfl (run_call (vs := [.slice A2 x2.length c2]) rfl rfl co38 ⟨(hF.ev rfl), trivial⟩) (c_slices_Clone_int_int (x0 := x2) ⟨(S.rc0 h2.rc), rfl⟩ h103) ?_
  rintro e u ⟨B104, n105, d106, rfl, rfl, T⟩
  refine ⟨_, rfl, ?_⟩
  clear hF; intro a hF
  replace S := S.call1 T; clear T
  refine op_val (v := .pointer (some ⟨g101, 2, none⟩)) rfl rfl hF rfl (run_fieldAddr rfl fl28_2 (hF.ev rfl) rfl) ?_; clear hF; intro a hF
  refine op_do rfl rfl (run_store (cs' := #[.int .i64 x0, .int .i64 x1, .slice B104 p103.length d106]) rfl sz22 (hF.ev rfl) (hF.ev rfl) rfl rfl rfl (S.free 2 rfl) rfl rfl) ?_; replace S := S.put 2 rfl (#[.int .i64 x0, .int .i64 x1, .slice B104 p103.length d106])
  generalize World.setRow _ _ _ = u at S ⊢
  refine wpList_nil ?_
  refine wp_seq ?_
  refine wp_region_lit ?_
  refine op_val (v := .agg #[.int .i64 x0, .int .i64 x1, .slice B104 p103.length d106]) rfl rfl hF rfl (run_loadN rfl ag28 (hF.ev rfl) rfl ((S.free 2 rfl).cells 0 #[.int .i64 x0, .int .i64 x1, .slice B104 p103.length d106] rfl)) ?_; clear hF; intro a hF
  refine op_do rfl rfl (run_store (cs' := #[.int .i64 x0, .int .i64 x1, .slice B104 p103.length d106]) rfl sz28 (hF.ev rfl) (hF.ev rfl) rfl rfl rfl (S.free 1 rfl) rfl rfl) ?_; replace S := S.put 1 rfl (#[.int .i64 x0, .int .i64 x1, .slice B104 p103.length d106])
  generalize World.setRow _ _ _ = u at S ⊢
  refine wpList_nil ?_
  refine wp_ret ?_
  repeat with_reducible (first | refine then_ret ?_ | refine in_ret ?_ | refine in_nrm ?_)
  refine ret1_gw (.inl rfl) hF rfl (res_cell (hF.ev rfl) (res_loadN ag28 rfl (S.cells 1 rfl 0 #[.int .i64 x0, .int .i64 x1, .slice B104 p103.length d106] rfl))) ?_
  obtain rfl := Option.some.inj hM
  exact ⟨B104, p103.length, d106, rfl, rfl, S.sel [0] rfl rfl⟩

set_option maxHeartbeats 4000000 in
theorem c_impl_bitValid {x0 : Int} {w : World} {r : Bool}  (hM : m_impl_bitValid x0 = some r) :
    Calls Try.prog 30 #[.int .i64 x0] w (fun e w' => e = .returned (.bool r) ∧ St w w' []) := by
  unfold m_impl_bitValid at hM
  refine calls_gw Try.func30 Try.ntmps30 rfl [(0, .int .i64 x0)] ⟨rfl, trivial⟩ rfl ?_
  intro a hF
  have S := St.nil w
  refine wp_seq ?_
  refine wp_region_lit ?_
  refine op_val (v := .bool false) rfl rfl hF rfl (run_assign rfl rfl) ?_; clear hF; intro a hF
  refine wpList_nil ?_
  refine wp_seq ?_
  refine wp_region_lit ?_
  refine op_val (v := .int .i64 x0) rfl rfl hF rfl (run_move rfl (hF.ev rfl)) ?_; clear hF; intro a hF
  refine op_val (v := .bool (x0 == 0)) rfl rfl hF rfl (run_eql (hF.ev rfl) rfl rfl) ?_; clear hF; intro a hF
  refine op_val (v := .bool (x0 == 0)) rfl rfl hF rfl (run_move rfl (hF.ev rfl)) ?_; clear hF; intro a hF
  refine op_gv (v := .int .i64 x0) rfl rfl hF rfl (yf (gw_yield hF rfl rfl rfl)) (fun hg => (run_move rfl (hF.ev rfl))) ?_; clear hF; intro a hF
  refine op_gv (v := .bool (x0 == 1)) rfl rfl hF rfl (yf (gw_yield hF rfl rfl rfl)) (fun hg => (run_eql ((hF.ev rfl).trans (gv_t hg)) rfl rfl)) ?_; clear hF; intro a hF
  refine op_val (v := .bool ((x0 == 0) || (x0 == 1))) rfl rfl hF rfl (run_pick_or rfl (hF.ev rfl) rfl (fun hp => ((hF.ev rfl).trans (gv_t (not_t hp))))) ?_; clear hF; intro a hF
  refine op_val (v := .bool ((x0 == 0) || (x0 == 1))) rfl rfl hF rfl (run_assign rfl (hF.ev rfl)) ?_; clear hF; intro a hF
  refine wpList_nil ?_
  refine wp_ret ?_
  repeat with_reducible (first | refine then_ret ?_ | refine in_ret ?_ | refine in_nrm ?_)
  refine ret1_gw (.inl rfl) hF rfl (res_tmp (hF.ev rfl)) ?_
  obtain rfl := Option.some.inj hM
  exact ⟨rfl, S.sel [] rfl rfl⟩

set_option maxHeartbeats 4000000 in
theorem c_impl_Rooms_do {x0 : Int} {x1 : Int} {x2 : List Int} {x3 : Int} {x4 : Int} {x5 : Int} {A2 : Option Addr} {n2 c2 : Nat} {g0 : Nat} {w : World} {r : Bool × Int × Int × List Int} {w0 : World} {X : List Asn} (h2 : n2 = x2.length) (S : St w0 w (Asn.box g0 28 #[.int .i64 x0, .int .i64 x1, .slice A2 n2 c2] :: Asn.row 3 1 (.slice A2 n2 c2) n2 (x2.flatMap eI) :: X)) (hM : m_impl_Rooms_do x0 x1 x2 x3 x4 x5 = some r) :
    Calls Try.prog 31 #[.pointer (some ⟨g0, 0, none⟩), .agg #[.int .i64 x3, .int .i64 x4, .int .i64 x5]] w (fun e w' => ∃ (B0 : Option Addr) (N0 D0 : Nat), e = .returned (.bool r.1) ∧ N0 = r.2.2.2.length ∧ St w0 w' (Asn.box g0 28 #[.int .i64 r.2.1, .int .i64 r.2.2.1, .slice B0 N0 D0] :: Asn.row 3 1 (.slice B0 N0 D0) N0 (r.2.2.2.flatMap eI) :: X)) := by
  obtain rfl := h2
  unfold m_impl_Rooms_do at hM
  refine calls_gw Try.func31 Try.ntmps31 rfl [(0, .pointer (some ⟨g0, 0, none⟩)), (1, .agg #[.int .i64 x3, .int .i64 x4, .int .i64 x5])] ⟨rfl, rfl, trivial⟩ rfl ?_
  intro a hF
  refine wp_seq ?_
  refine wp_region_lit ?_
  refine op_new (cs := #[.int .i64 x3, .int .i64 x4, .int .i64 x5]) rfl rfl hF rfl S (run_box rfl (hF.ev rfl) rfl) ?_; clear hF S; intro a g101 u hF S
  refine op_val (v := .bool false) rfl rfl hF rfl (run_assign rfl rfl) ?_; clear hF; intro a hF
  refine wpList_nil ?_
  refine wp_seq ?_
  refine wp_region_lit ?_
  refine op_val (v := .pointer (some ⟨g0, 0, none⟩)) rfl rfl hF rfl (run_move rfl (hF.ev rfl)) ?_; clear hF; intro a hF
  refine op_val (v := .pointer (some ⟨g101, 1, none⟩)) rfl rfl hF rfl (run_fieldAddr rfl fl32_1 (hF.ev rfl) rfl) ?_; clear hF; intro a hF
  refine op_val (v := .int .i64 x4) rfl rfl hF rfl (run_load1 rfl one3 (hF.ev rfl) ((S.free 0 rfl).cell rfl)) ?_; clear hF; intro a hF
  cases hc102 : (x4 == 0)
  · replace hM := bif_f hc102 hM
    refine op_call rfl rfl hF rfl (run_call (vs := [.pointer (some ⟨g0, 0, none⟩), .int .i64 x4]) rfl rfl co37 ⟨(hF.ev rfl), (hF.ev rfl), trivial⟩) (c_impl_Rooms_epoch_1 hc102) ?_
    rintro e u ⟨rfl, T⟩
    refine ⟨_, rfl, ?_⟩
    clear hF; intro a hF
    replace S := S.call0 T; clear T
    refine op_val (v := .pointer (some ⟨g0, 1, none⟩)) rfl rfl hF rfl (run_assign rfl (hF.ev rfl)) ?_; clear hF; intro a hF
    refine wpList_nil ?_
    refine wp_seq ?_
    refine wp_seq ?_
    refine wp_region_lit ?_
    refine op_val (v := .pointer (some ⟨g101, 0, none⟩)) rfl rfl hF rfl (run_fieldAddr rfl fl32_0 (hF.ev rfl) rfl) ?_; clear hF; intro a hF
    refine op_val (v := .int .i64 x3) rfl rfl hF rfl (run_load1 rfl one3 (hF.ev rfl) ((S.free 0 rfl).cell rfl)) ?_; clear hF; intro a hF
    refine op_val (v := .bool (x3 == 0)) rfl rfl hF rfl (run_eql (hF.ev rfl) rfl rfl) ?_; clear hF; intro a hF
    refine wpList_nil ?_
    cases hc103 : (x3 == 0)
    · replace hM := bif_f hc103 hM
      refine cond_f hF rfl hc103 ?_
      refine wp_skip ?_
      refine wp_seq ?_
      refine wp_seq ?_
      refine region_gw (D := [23, 24, 25, 26, 27, 28, 29, 30, 31, 32, 33, 34, 35]) (Lr := (Asn.box g101 32 #[.int .i64 x3, .int .i64 x4, .int .i64 x5] :: Asn.box g0 28 #[.int .i64 x0, .int .i64 x1, .slice A2 x2.length c2] :: Asn.row 3 1 (.slice A2 x2.length c2) x2.length (x2.flatMap eI) :: X)) (deps := (fun | 0 => [23] | 1 => [24] | 2 => [25] | 3 => [26] | 4 => [27] | 5 => [28] | 6 => [29] | 7 => [30] | 8 => [31] | 9 => [32] | 10 => [33] | 11 => [34] | 12 => [35] | _ => [])) (rd := (fun _ => [])) (zr := (fun _ => []))
        (φ := fun i vs => match i, vs with | 0, [v23] => v23 = .pointer (some ⟨g101, 2, none⟩) | 1, [v24] => v24 = .int .i64 x5 | 2, [v25] => v25 = .bool (ltB x5 0) | 3, [v26] => v26 = .bool (ltB x5 0) | 4, [v27] => v27 = gv (!(ltB x5 0)) (.pointer (some ⟨g101, 2, none⟩)) | 5, [v28] => v28 = gv (!(ltB x5 0)) (.int .i64 x5) | 6, [v29] => v29 = gv (!(ltB x5 0)) (.pointer (some ⟨g0, 0, none⟩)) | 7, [v30] => v30 = gv (!(ltB x5 0)) (.pointer (some ⟨g0, 0, none⟩)) | 8, [v31] => v31 = gv (!(ltB x5 0)) (.pointer (some ⟨g0, 2, none⟩)) | 9, [v32] => v32 = gv (!(ltB x5 0)) (.slice A2 x2.length c2) | 10, [v33] => v33 = gv (!(ltB x5 0)) (.int .i64 (x2.length : Int)) | 11, [v34] => v34 = gv (!(ltB x5 0)) (.bool (leB (x2.length : Int) x5)) | 12, [v35] => v35 = .bool ((ltB x5 0) || (leB (x2.length : Int) x5)) | _, _ => True)
        (C := fun _ _ => [])
        (κ := (fun _ => none)) (Z := (fun _ => [])) mixed hF (by kernel_rfl) S ?_ ?_
      · refine ⟨?_, ?_, ?_, ?_, ?_, ?_, ?_, ?_, ?_, ?_, ?_, ?_, ?_, trivial⟩
        · intro a u X' hB hp hr hz hl S
          replace S : St w0 u ([] ++ X') := S
          exact .inl ⟨rfl, .pointer (some ⟨g101, 2, none⟩), u, (run_fieldAddr rfl fl32_2 (hF.evB hB rfl rfl) rfl), rfl, S⟩
        · intro a u X' hB hp hr hz hl S
          replace S : St w0 u ([] ++ X') := S
          have e23 : sl a 23 = .pointer (some ⟨g101, 2, none⟩) := hp 0 rfl
          exact .inl ⟨rfl, .int .i64 x5, u, (run_load1 rfl one3 (ev_sl e23) ((gr_box S hl 0 rfl).cell rfl)), rfl, S⟩
        · intro a u X' hB hp hr hz hl S
          replace S : St w0 u ([] ++ X') := S
          have e24 : sl a 24 = .int .i64 x5 := hp 1 rfl
          exact .inl ⟨rfl, .bool (ltB x5 0), u, (run_lss (ev_sl e24) (ev_const _ _) rfl), rfl, S⟩
        · intro a u X' hB hp hr hz hl S
          replace S : St w0 u ([] ++ X') := S
          have e25 : sl a 25 = .bool (ltB x5 0) := hp 2 rfl
          exact .inl ⟨rfl, .bool (ltB x5 0), u, (run_move rfl (ev_sl e25)), rfl, S⟩
        · intro a u X' hB hp hr hz hl S
          replace S : St w0 u ([] ++ X') := S
          have e26 : sl a 26 = .bool (ltB x5 0) := hp 3 rfl
          rcases (Bool.eq_false_or_eq_true (!(ltB x5 0))).symm with hg | hg
          · exact .inr (.inr (.inr ⟨gr_eg rfl (yf (gr_yield rfl rfl e26)) hg, (gv_f hg).symm, S⟩))
          · exact .inl ⟨gr_eg rfl (yf (gr_yield rfl rfl e26)) hg, .pointer (some ⟨g101, 2, none⟩), u, (run_fieldAddr rfl fl32_2 (hF.evB hB rfl rfl) rfl), (gv_t hg).symm, S⟩
        · intro a u X' hB hp hr hz hl S
          replace S : St w0 u ([] ++ X') := S
          have e26 : sl a 26 = .bool (ltB x5 0) := hp 3 rfl
          have e27 : sl a 27 = gv (!(ltB x5 0)) (.pointer (some ⟨g101, 2, none⟩)) := hp 4 rfl
          rcases (Bool.eq_false_or_eq_true (!(ltB x5 0))).symm with hg | hg
          · exact .inr (.inr (.inr ⟨gr_eg rfl (yf (gr_yield rfl rfl e26)) hg, (gv_f hg).symm, S⟩))
          · exact .inl ⟨gr_eg rfl (yf (gr_yield rfl rfl e26)) hg, .int .i64 x5, u, (run_load1 rfl one3 ((ev_sl e27).trans (gv_t hg)) ((gr_box S hl 0 rfl).cell rfl)), (gv_t hg).symm, S⟩
        · intro a u X' hB hp hr hz hl S
          replace S : St w0 u ([] ++ X') := S
          have e26 : sl a 26 = .bool (ltB x5 0) := hp 3 rfl
          rcases (Bool.eq_false_or_eq_true (!(ltB x5 0))).symm with hg | hg
          · exact .inr (.inr (.inr ⟨gr_eg rfl (yf (gr_yield rfl rfl e26)) hg, (gv_f hg).symm, S⟩))
          · exact .inl ⟨gr_eg rfl (yf (gr_yield rfl rfl e26)) hg, .pointer (some ⟨g0, 0, none⟩), u, (run_move rfl (hF.evB hB rfl rfl)), (gv_t hg).symm, S⟩
        · intro a u X' hB hp hr hz hl S
          replace S : St w0 u ([] ++ X') := S
          have e26 : sl a 26 = .bool (ltB x5 0) := hp 3 rfl
          have e29 : sl a 29 = gv (!(ltB x5 0)) (.pointer (some ⟨g0, 0, none⟩)) := hp 6 rfl
          rcases (Bool.eq_false_or_eq_true (!(ltB x5 0))).symm with hg | hg
          · exact .inr (.inr (.inr ⟨gr_eg rfl (yf (gr_yield rfl rfl e26)) hg, (gv_f hg).symm, S⟩))
          · exact .inl ⟨gr_eg rfl (yf (gr_yield rfl rfl e26)) hg, .pointer (some ⟨g0, 0, none⟩), u, (run_nilCheck rfl ((ev_sl e29).trans (gv_t hg))), (gv_t hg).symm, S⟩
        · intro a u X' hB hp hr hz hl S
          replace S : St w0 u ([] ++ X') := S
          have e26 : sl a 26 = .bool (ltB x5 0) := hp 3 rfl
          have e30 : sl a 30 = gv (!(ltB x5 0)) (.pointer (some ⟨g0, 0, none⟩)) := hp 7 rfl
          rcases (Bool.eq_false_or_eq_true (!(ltB x5 0))).symm with hg | hg
          · exact .inr (.inr (.inr ⟨gr_eg rfl (yf (gr_yield rfl rfl e26)) hg, (gv_f hg).symm, S⟩))
          · exact .inl ⟨gr_eg rfl (yf (gr_yield rfl rfl e26)) hg, .pointer (some ⟨g0, 2, none⟩), u, (run_fieldAddr rfl fl28_2 ((ev_sl e30).trans (gv_t hg)) rfl), (gv_t hg).symm, S⟩
        · intro a u X' hB hp hr hz hl S
          replace S : St w0 u ([] ++ X') := S
          have e26 : sl a 26 = .bool (ltB x5 0) := hp 3 rfl
          have e31 : sl a 31 = gv (!(ltB x5 0)) (.pointer (some ⟨g0, 2, none⟩)) := hp 8 rfl
          rcases (Bool.eq_false_or_eq_true (!(ltB x5 0))).symm with hg | hg
          · exact .inr (.inr (.inr ⟨gr_eg rfl (yf (gr_yield rfl rfl e26)) hg, (gv_f hg).symm, S⟩))
          · exact .inl ⟨gr_eg rfl (yf (gr_yield rfl rfl e26)) hg, .slice A2 x2.length c2, u, (run_load1 rfl one22 ((ev_sl e31).trans (gv_t hg)) ((gr_box S hl 1 rfl).cell rfl)), (gv_t hg).symm, S⟩
        · intro a u X' hB hp hr hz hl S
          replace S : St w0 u ([] ++ X') := S
          have e26 : sl a 26 = .bool (ltB x5 0) := hp 3 rfl
          have e32 : sl a 32 = gv (!(ltB x5 0)) (.slice A2 x2.length c2) := hp 9 rfl
          rcases (Bool.eq_false_or_eq_true (!(ltB x5 0))).symm with hg | hg
          · exact .inr (.inr (.inr ⟨gr_eg rfl (yf (gr_yield rfl rfl e26)) hg, (gv_f hg).symm, S⟩))
          · exact .inl ⟨gr_eg rfl (yf (gr_yield rfl rfl e26)) hg, .int .i64 (x2.length : Int), u, (run_lenL rfl rfl Try.underlying22 ((ev_sl e32).trans (gv_t hg))), (gv_t hg).symm, S⟩
        · intro a u X' hB hp hr hz hl S
          replace S : St w0 u ([] ++ X') := S
          have e26 : sl a 26 = .bool (ltB x5 0) := hp 3 rfl
          have e28 : sl a 28 = gv (!(ltB x5 0)) (.int .i64 x5) := hp 5 rfl
          have e33 : sl a 33 = gv (!(ltB x5 0)) (.int .i64 (x2.length : Int)) := hp 10 rfl
          rcases (Bool.eq_false_or_eq_true (!(ltB x5 0))).symm with hg | hg
          · exact .inr (.inr (.inr ⟨gr_eg rfl (yf (gr_yield rfl rfl e26)) hg, (gv_f hg).symm, S⟩))
          · exact .inl ⟨gr_eg rfl (yf (gr_yield rfl rfl e26)) hg, .bool (leB (x2.length : Int) x5), u, (run_geq ((ev_sl e28).trans (gv_t hg)) ((ev_sl e33).trans (gv_t hg)) rfl), (gv_t hg).symm, S⟩
        · intro a u X' hB hp hr hz hl S
          replace S : St w0 u ([] ++ X') := S
          have e26 : sl a 26 = .bool (ltB x5 0) := hp 3 rfl
          have e34 : sl a 34 = gv (!(ltB x5 0)) (.bool (leB (x2.length : Int) x5)) := hp 11 rfl
          exact .inl ⟨rfl, .bool ((ltB x5 0) || (leB (x2.length : Int) x5)), u, (run_pick_or rfl (ev_sl e26) (ev_const _ _) (fun hp => ((ev_sl e34).trans (gv_t (not_t hp))))), rfl, S⟩
      · intro a u hB hp S
        obtain ⟨q0, q1, q2, q3, q4, q5, q6, q7, q8, q9, q10, q11, q12, _⟩ := hp
        have e23 : sl a 23 = .pointer (some ⟨g101, 2, none⟩) := q0
        have e24 : sl a 24 = .int .i64 x5 := q1
        have e25 : sl a 25 = .bool (ltB x5 0) := q2
        have e26 : sl a 26 = .bool (ltB x5 0) := q3
        have e27 : sl a 27 = gv (!(ltB x5 0)) (.pointer (some ⟨g101, 2, none⟩)) := q4
        have e28 : sl a 28 = gv (!(ltB x5 0)) (.int .i64 x5) := q5
        have e29 : sl a 29 = gv (!(ltB x5 0)) (.pointer (some ⟨g0, 0, none⟩)) := q6
        have e30 : sl a 30 = gv (!(ltB x5 0)) (.pointer (some ⟨g0, 0, none⟩)) := q7
        have e31 : sl a 31 = gv (!(ltB x5 0)) (.pointer (some ⟨g0, 2, none⟩)) := q8
        have e32 : sl a 32 = gv (!(ltB x5 0)) (.slice A2 x2.length c2) := q9
        have e33 : sl a 33 = gv (!(ltB x5 0)) (.int .i64 (x2.length : Int)) := q10
        have e34 : sl a 34 = gv (!(ltB x5 0)) (.bool (leB (x2.length : Int) x5)) := q11
        have e35 : sl a 35 = .bool ((ltB x5 0) || (leB (x2.length : Int) x5)) := q12
        replace S : St w0 u (Asn.box g101 32 #[.int .i64 x3, .int .i64 x4, .int .i64 x5] :: Asn.box g0 28 #[.int .i64 x0, .int .i64 x1, .slice A2 x2.length c2] :: Asn.row 3 1 (.slice A2 x2.length c2) x2.length (x2.flatMap eI) :: X) := S
        clear q0 q1 q2 q3 q4 q5 q6 q7 q8 q9 q10 q11 q12
        have hF := hF.region hB [(23, .pointer (some ⟨g101, 2, none⟩)), (24, .int .i64 x5), (25, .bool (ltB x5 0)), (26, .bool (ltB x5 0)), (27, gv (!(ltB x5 0)) (.pointer (some ⟨g101, 2, none⟩))), (28, gv (!(ltB x5 0)) (.int .i64 x5)), (29, gv (!(ltB x5 0)) (.pointer (some ⟨g0, 0, none⟩))), (30, gv (!(ltB x5 0)) (.pointer (some ⟨g0, 0, none⟩))), (31, gv (!(ltB x5 0)) (.pointer (some ⟨g0, 2, none⟩))), (32, gv (!(ltB x5 0)) (.slice A2 x2.length c2)), (33, gv (!(ltB x5 0)) (.int .i64 (x2.length : Int))), (34, gv (!(ltB x5 0)) (.bool (leB (x2.length : Int) x5))), (35, .bool ((ltB x5 0) || (leB (x2.length : Int) x5)))] (allSl_mem ⟨e23, e24, e25, e26, e27, e28, e29, e30, e31, e32, e33, e34, e35, trivial⟩) rfl
        clear hB e23 e24 e25 e26 e27 e28 e29 e30 e31 e32 e33 e34 e35
        cases hc104 : ((ltB x5 0) || (leB (x2.length : Int) x5))
        · replace hM := bif_f hc104 hM
          refine cond_f hF rfl hc104 ?_
          refine wp_skip ?_
          refine wp_seq ?_
          obtain ⟨hk105, hM⟩ := chk_ex hM
          replace hk105 := ixB_t hk105
          refine region_gw (D := [36, 37, 38, 39, 40, 41, 42, 6]) (Lr := (Asn.box g101 32 #[.int .i64 x3, .int .i64 x4, .int .i64 x5] :: Asn.box g0 28 #[.int .i64 x0, .int .i64 x1, .slice A2 x2.length c2] :: Asn.row 3 1 (.slice A2 x2.length c2) x2.length (x2.flatMap eI) :: X)) (deps := (fun | 0 => [36] | 1 => [37] | 2 => [38] | 3 => [39] | 4 => [40] | 5 => [41] | 6 => [42] | 7 => [6] | _ => [])) (rd := (fun _ => [])) (zr := (fun _ => []))
            (φ := fun i vs => match i, vs with | 0, [v36] => v36 = .pointer (some ⟨g0, 0, none⟩) | 1, [v37] => v37 = .pointer (some ⟨g0, 0, none⟩) | 2, [v38] => v38 = .pointer (some ⟨g0, 2, none⟩) | 3, [v39] => v39 = .slice A2 x2.length c2 | 4, [v40] => v40 = .pointer (some ⟨g101, 2, none⟩) | 5, [v41] => v41 = .int .i64 x5 | 6, [v42] => v42 = .pointer (some ⟨adB A2, adO A2 + x5.toNat * 1, none⟩) | 7, [v6] => v6 = .pointer (some ⟨adB A2, adO A2 + x5.toNat * 1, none⟩) | _, _ => True)
            (C := fun _ _ => [])
            (κ := (fun _ => none)) (Z := (fun _ => [])) mixed hF (by kernel_rfl) S ?_ ?_
          · refine ⟨?_, ?_, ?_, ?_, ?_, ?_, ?_, ?_, trivial⟩
            · intro a u X' hB hp hr hz hl S
              replace S : St w0 u ([] ++ X') := S
              exact .inl ⟨rfl, .pointer (some ⟨g0, 0, none⟩), u, (run_move rfl (hF.evB hB rfl rfl)), rfl, S⟩
            · intro a u X' hB hp hr hz hl S
              replace S : St w0 u ([] ++ X') := S
              have e36 : sl a 36 = .pointer (some ⟨g0, 0, none⟩) := hp 0 rfl
              exact .inl ⟨rfl, .pointer (some ⟨g0, 0, none⟩), u, (run_nilCheck rfl (ev_sl e36)), rfl, S⟩
            · intro a u X' hB hp hr hz hl S
              replace S : St w0 u ([] ++ X') := S
              have e37 : sl a 37 = .pointer (some ⟨g0, 0, none⟩) := hp 1 rfl
              exact .inl ⟨rfl, .pointer (some ⟨g0, 2, none⟩), u, (run_fieldAddr rfl fl28_2 (ev_sl e37) rfl), rfl, S⟩
            · intro a u X' hB hp hr hz hl S
              replace S : St w0 u ([] ++ X') := S
              have e38 : sl a 38 = .pointer (some ⟨g0, 2, none⟩) := hp 2 rfl
              exact .inl ⟨rfl, .slice A2 x2.length c2, u, (run_load1 rfl one22 (ev_sl e38) ((gr_box S hl 1 rfl).cell rfl)), rfl, S⟩
            · intro a u X' hB hp hr hz hl S
              replace S : St w0 u ([] ++ X') := S
              exact .inl ⟨rfl, .pointer (some ⟨g101, 2, none⟩), u, (run_fieldAddr rfl fl32_2 (hF.evB hB rfl rfl) rfl), rfl, S⟩
            · intro a u X' hB hp hr hz hl S
              replace S : St w0 u ([] ++ X') := S
              have e40 : sl a 40 = .pointer (some ⟨g101, 2, none⟩) := hp 4 rfl
              exact .inl ⟨rfl, .int .i64 x5, u, (run_load1 rfl one3 (ev_sl e40) ((gr_box S hl 0 rfl).cell rfl)), rfl, S⟩
            · intro a u X' hB hp hr hz hl S
              replace S : St w0 u ([] ++ X') := S
              have e39 : sl a 39 = .slice A2 x2.length c2 := hp 3 rfl
              have e41 : sl a 41 = .int .i64 x5 := hp 5 rfl
              exact .inl ⟨rfl, .pointer (some ⟨adB A2, adO A2 + x5.toNat * 1, none⟩), u, (run_indexAddr (b := adB A2) (off := adO A2) rfl Try.underlying22 sz3 ((ev_sl e39).trans (congrArg (fun A => Value.slice A x2.length c2) ((gr_rc S hl 2 rfl).rd.ad (ix_pos hk105)))) (ev_sl e41) hk105.1 hk105.2 (k' := adO A2 + x5.toNat * 1) rfl), rfl, S⟩
            · intro a u X' hB hp hr hz hl S
              replace S : St w0 u ([] ++ X') := S
              have e42 : sl a 42 = .pointer (some ⟨adB A2, adO A2 + x5.toNat * 1, none⟩) := hp 6 rfl
              exact .inl ⟨rfl, .pointer (some ⟨adB A2, adO A2 + x5.toNat * 1, none⟩), u, (run_assign rfl (ev_sl e42)), rfl, S⟩
          · intro a u hB hp S
            obtain ⟨q0, q1, q2, q3, q4, q5, q6, q7, _⟩ := hp
            have e36 : sl a 36 = .pointer (some ⟨g0, 0, none⟩) := q0
            have e37 : sl a 37 = .pointer (some ⟨g0, 0, none⟩) := q1
            have e38 : sl a 38 = .pointer (some ⟨g0, 2, none⟩) := q2
            have e39 : sl a 39 = .slice A2 x2.length c2 := q3
            have e40 : sl a 40 = .pointer (some ⟨g101, 2, none⟩) := q4
            have e41 : sl a 41 = .int .i64 x5 := q5
            have e42 : sl a 42 = .pointer (some ⟨adB A2, adO A2 + x5.toNat * 1, none⟩) := q6
            have e6 : sl a 6 = .pointer (some ⟨adB A2, adO A2 + x5.toNat * 1, none⟩) := q7
            replace S : St w0 u (Asn.box g101 32 #[.int .i64 x3, .int .i64 x4, .int .i64 x5] :: Asn.box g0 28 #[.int .i64 x0, .int .i64 x1, .slice A2 x2.length c2] :: Asn.row 3 1 (.slice A2 x2.length c2) x2.length (x2.flatMap eI) :: X) := S
            clear q0 q1 q2 q3 q4 q5 q6 q7
            have hF := hF.region hB [(36, .pointer (some ⟨g0, 0, none⟩)), (37, .pointer (some ⟨g0, 0, none⟩)), (38, .pointer (some ⟨g0, 2, none⟩)), (39, .slice A2 x2.length c2), (40, .pointer (some ⟨g101, 2, none⟩)), (41, .int .i64 x5), (42, .pointer (some ⟨adB A2, adO A2 + x5.toNat * 1, none⟩)), (6, .pointer (some ⟨adB A2, adO A2 + x5.toNat * 1, none⟩))] (allSl_mem ⟨e36, e37, e38, e39, e40, e41, e42, e6, trivial⟩) rfl
            clear hB e36 e37 e38 e39 e40 e41 e42 e6
            refine wp_seq ?_
            refine wp_seq ?_
            refine wp_region_lit ?_
            refine op_val (v := .pointer (some ⟨g101, 0, none⟩)) rfl rfl hF rfl (run_fieldAddr rfl fl32_0 (hF.ev rfl) rfl) ?_; clear hF; intro a hF
            refine op_val (v := .int .i64 x3) rfl rfl hF rfl (run_load1 rfl one3 (hF.ev rfl) ((S.free 0 rfl).cell rfl)) ?_; clear hF; intro a hF
            refine wpList_nil ?_
            refine wp_block ?_
            refine wp_seq ?_
            refine wp_region_lit ?_
            refine op_val (v := .bool (x3 == 1)) rfl rfl hF rfl (run_eql (hF.ev rfl) rfl rfl) ?_; clear hF; intro a hF
            refine op_val (v := .bool (x3 == 1)) rfl rfl hF rfl (run_assign rfl (hF.ev rfl)) ?_; clear hF; intro a hF
            refine wpList_nil ?_
            cases hc106 : (x3 == 1)
            · replace hM := bif_f hc106 hM
              refine cond_f hF rfl hc106 ?_
              refine wp_seq ?_
              refine wp_region_lit ?_
              refine op_val (v := .bool (x3 == 2)) rfl rfl hF rfl (run_eql (hF.ev rfl) rfl rfl) ?_; clear hF; intro a hF
              refine op_val (v := .bool (x3 == 2)) rfl rfl hF rfl (run_assign rfl (hF.ev rfl)) ?_; clear hF; intro a hF
              refine wpList_nil ?_
              cases hc107 : (x3 == 2)
              · replace hM := bif_f hc107 hM
                refine cond_f hF rfl hc107 ?_
                refine wp_skip ?_
                refine wp_seq ?_
                refine wp_region_lit ?_
                refine op_val (v := .bool false) rfl rfl hF rfl (run_assign rfl rfl) ?_; clear hF; intro a hF
                refine wpList_nil ?_
                refine wp_ret ?_
                repeat with_reducible (first | refine then_ret ?_ | refine in_ret ?_ | refine in_nrm ?_)
                refine ret1_gw (.inl rfl) hF rfl (res_tmp (hF.ev rfl)) ?_
                obtain rfl := Option.some.inj hM
                exact ⟨A2, x2.length, c2, rfl, rfl, S.selT (M := [.box g0 28 #[.int .i64 x0, .int .i64 x1, .slice A2 x2.length c2], .row 3 1 (.slice A2 x2.length c2) x2.length (x2.flatMap eI)]) 3 [1, 2] rfl rfl rfl⟩
              · replace hM := bif_t hc107 hM
                refine cond_t hF rfl hc107 ?_
                refine wp_seq ?_
                refine region_gw (D := [66, 67, 68, 69, 70, 71, 72, 73, 74]) (Lr := (Asn.box g101 32 #[.int .i64 x3, .int .i64 x4, .int .i64 x5] :: Asn.box g0 28 #[.int .i64 x0, .int .i64 x1, .slice A2 x2.length c2] :: X)) (deps := (fun | 0 => [66] | 1 => [67] | 2 => [68] | 3 => [69] | 4 => [70] | 5 => [71] | 6 => [72] | 7 => [73] | 8 => [74] | 9 => [74] | _ => [])) (rd := (fun _ => [])) (zr := (fun | 3 => [9] | _ => []))
                  (φ := fun i vs => match i, vs with | 0, [v66] => v66 = .pointer (some ⟨adB A2, adO A2 + x5.toNat * 1, none⟩) | 1, [v67] => v67 = .pointer (some ⟨adB A2, adO A2 + x5.toNat * 1, none⟩) | 2, [v68] => v68 = .pointer (some ⟨adB A2, adO A2 + x5.toNat * 1, none⟩) | 3, [v69] => v69 = .int .i64 (x2.getD x5.toNat (0 : Int)) | 4, [v70] => v70 = .pointer (some ⟨g0, 1, none⟩) | 5, [v71] => v71 = .pointer (some ⟨g0, 1, none⟩) | 6, [v72] => v72 = .int .i64 x1 | 7, [v73] => v73 = .int .i64 (max (x2.getD x5.toNat (0 : Int)) x1) | 8, [v74] => v74 = .pointer (some ⟨adB A2, adO A2 + x5.toNat * 1, none⟩) | _, _ => True)
                  (C := fun i vs => match i, vs with | 9, [v74] => [.row 3 1 (.slice A2 x2.length c2) x2.length ((x2.set x5.toNat (max (x2.getD x5.toNat (0 : Int)) x1)).flatMap eI)] | _, _ => [])
                  (κ := (fun _ => none)) (Z := (fun | 9 => [.row 3 1 (.slice A2 x2.length c2) x2.length (x2.flatMap eI)] | _ => [])) mixed hF (by kernel_rfl) (show St w0 _ (Asn.row 3 1 (.slice A2 x2.length c2) x2.length (x2.flatMap eI) :: Asn.box g101 32 #[.int .i64 x3, .int .i64 x4, .int .i64 x5] :: Asn.box g0 28 #[.int .i64 x0, .int .i64 x1, .slice A2 x2.length c2] :: X) from S.selT (M := [.row 3 1 (.slice A2 x2.length c2) x2.length (x2.flatMap eI), .box g101 32 #[.int .i64 x3, .int .i64 x4, .int .i64 x5], .box g0 28 #[.int .i64 x0, .int .i64 x1, .slice A2 x2.length c2]]) 3 [2, 0, 1] rfl rfl rfl) ?_ ?_
                · refine ⟨?_, ?_, ?_, ?_, ?_, ?_, ?_, ?_, ?_, ?_, trivial⟩
                  · intro a u X' hB hp hr hz hl S
                    replace S : St w0 u ([] ++ X') := S
                    exact .inl ⟨rfl, .pointer (some ⟨adB A2, adO A2 + x5.toNat * 1, none⟩), u, (run_move rfl (hF.evB hB rfl rfl)), rfl, S⟩
                  · intro a u X' hB hp hr hz hl S
                    replace S : St w0 u ([] ++ X') := S
                    exact .inl ⟨rfl, .pointer (some ⟨adB A2, adO A2 + x5.toNat * 1, none⟩), u, (run_move rfl (hF.evB hB rfl rfl)), rfl, S⟩
                  · intro a u X' hB hp hr hz hl S
                    replace S : St w0 u ([] ++ X') := S
                    have e67 : sl a 67 = .pointer (some ⟨adB A2, adO A2 + x5.toNat * 1, none⟩) := hp 1 rfl
                    exact .inl ⟨rfl, .pointer (some ⟨adB A2, adO A2 + x5.toNat * 1, none⟩), u, (run_nilCheck rfl (ev_sl e67)), rfl, S⟩
                  · intro a u X' hB hp hr hz hl S
                    replace S : St w0 u ([] ++ X') := S
                    have e68 : sl a 68 = .pointer (some ⟨adB A2, adO A2 + x5.toNat * 1, none⟩) := hp 2 rfl
                    exact .inl ⟨rfl, .int .i64 (x2.getD x5.toNat (0 : Int)), u, (run_load1 rfl one3 (ev_sl e68) (rd_el0 (l := x2) (own_rc (show World.ownsRow _ 0 _ _ _ _ _ from S.mem (List.mem_append_right _ (hz 9 (List.mem_of_getElem? (i := 0) rfl) _ (List.mem_of_getElem? (i := 0) rfl))))).rd rfl eI_len (0 : Int) (ix_ltn hk105 rfl) rfl)), rfl, S⟩
                  · intro a u X' hB hp hr hz hl S
                    replace S : St w0 u ([] ++ X') := S
                    exact .inl ⟨rfl, .pointer (some ⟨g0, 1, none⟩), u, (run_move rfl (hF.evB hB rfl rfl)), rfl, S⟩
                  · intro a u X' hB hp hr hz hl S
                    replace S : St w0 u ([] ++ X') := S
                    have e70 : sl a 70 = .pointer (some ⟨g0, 1, none⟩) := hp 4 rfl
                    exact .inl ⟨rfl, .pointer (some ⟨g0, 1, none⟩), u, (run_nilCheck rfl (ev_sl e70)), rfl, S⟩
                  · intro a u X' hB hp hr hz hl S
                    replace S : St w0 u ([] ++ X') := S
                    have e71 : sl a 71 = .pointer (some ⟨g0, 1, none⟩) := hp 5 rfl
                    exact .inl ⟨rfl, .int .i64 x1, u, (run_load1 rfl one3 (ev_sl e71) ((gr_box S hl 1 rfl).cell rfl)), rfl, S⟩
                  · intro a u X' hB hp hr hz hl S
                    replace S : St w0 u ([] ++ X') := S
                    have e69 : sl a 69 = .int .i64 (x2.getD x5.toNat (0 : Int)) := hp 3 rfl
                    have e72 : sl a 72 = .int .i64 x1 := hp 6 rfl
                    exact .inl ⟨rfl, .int .i64 (max (x2.getD x5.toNat (0 : Int)) x1), u, (run_max rfl (ev_sl e69) (ev_sl e72)), rfl, S⟩
                  · intro a u X' hB hp hr hz hl S
                    replace S : St w0 u ([] ++ X') := S
                    have e66 : sl a 66 = .pointer (some ⟨adB A2, adO A2 + x5.toNat * 1, none⟩) := hp 0 rfl
                    exact .inl ⟨rfl, .pointer (some ⟨adB A2, adO A2 + x5.toNat * 1, none⟩), u, (run_nilCheck rfl (ev_sl e66)), rfl, S⟩
                  · intro a u X' hB hp hr hz hl S
                    replace S : St w0 u ([.row 3 1 (.slice A2 x2.length c2) x2.length (x2.flatMap eI)] ++ X') := S
                    have e73 : sl a 73 = .int .i64 (max (x2.getD x5.toNat (0 : Int)) x1) := hp 7 rfl
                    have e74 : sl a 74 = .pointer (some ⟨adB A2, adO A2 + x5.toNat * 1, none⟩) := hp 8 rfl
                    obtain ⟨w', hrun, S'⟩ := run_storeElN (P := Try.prog) (ρ := a.eval) (y0 := max (x2.getD x5.toNat (0 : Int)) x1) (off := 0) S 3 (.tmp 74) (.tmp 73) (i := 0) sz3 (ev_sl e74) (ev_sl e73) rfl rfl rfl rfl rfl eI_len (0 : Int) (ix_ltn hk105 rfl) rfl rfl
                    exact .inr (.inl ⟨rfl, w', hrun _ rfl, trivial, S'⟩)
                · intro a u hB hp S
                  obtain ⟨q0, q1, q2, q3, q4, q5, q6, q7, q8, q9, _⟩ := hp
                  have e66 : sl a 66 = .pointer (some ⟨adB A2, adO A2 + x5.toNat * 1, none⟩) := q0
                  have e67 : sl a 67 = .pointer (some ⟨adB A2, adO A2 + x5.toNat * 1, none⟩) := q1
                  have e68 : sl a 68 = .pointer (some ⟨adB A2, adO A2 + x5.toNat * 1, none⟩) := q2
                  have e69 : sl a 69 = .int .i64 (x2.getD x5.toNat (0 : Int)) := q3
                  have e70 : sl a 70 = .pointer (some ⟨g0, 1, none⟩) := q4
                  have e71 : sl a 71 = .pointer (some ⟨g0, 1, none⟩) := q5
                  have e72 : sl a 72 = .int .i64 x1 := q6
                  have e73 : sl a 73 = .int .i64 (max (x2.getD x5.toNat (0 : Int)) x1) := q7
                  have e74 : sl a 74 = .pointer (some ⟨adB A2, adO A2 + x5.toNat * 1, none⟩) := q8
                  replace S : St w0 u (Asn.row 3 1 (.slice A2 x2.length c2) x2.length ((x2.set x5.toNat (max (x2.getD x5.toNat (0 : Int)) x1)).flatMap eI) :: Asn.box g101 32 #[.int .i64 x3, .int .i64 x4, .int .i64 x5] :: Asn.box g0 28 #[.int .i64 x0, .int .i64 x1, .slice A2 x2.length c2] :: X) := S
                  clear q0 q1 q2 q3 q4 q5 q6 q7 q8 q9
                  have hF := hF.region hB [(66, .pointer (some ⟨adB A2, adO A2 + x5.toNat * 1, none⟩)), (67, .pointer (some ⟨adB A2, adO A2 + x5.toNat * 1, none⟩)), (68, .pointer (some ⟨adB A2, adO A2 + x5.toNat * 1, none⟩)), (69, .int .i64 (x2.getD x5.toNat (0 : Int))), (70, .pointer (some ⟨g0, 1, none⟩)), (71, .pointer (some ⟨g0, 1, none⟩)), (72, .int .i64 x1), (73, .int .i64 (max (x2.getD x5.toNat (0 : Int)) x1)), (74, .pointer (some ⟨adB A2, adO A2 + x5.toNat * 1, none⟩))] (allSl_mem ⟨e66, e67, e68, e69, e70, e71, e72, e73, e74, trivial⟩) rfl
                  clear hB e66 e67 e68 e69 e70 e71 e72 e73 e74
                  refine wp_seq ?_
                  refine wp_region_lit ?_
                  refine op_val (v := .bool true) rfl rfl hF rfl (run_assign rfl rfl) ?_; clear hF; intro a hF
                  refine wpList_nil ?_
                  refine wp_ret ?_
                  repeat with_reducible (first | refine then_ret ?_ | refine in_ret ?_ | refine in_nrm ?_)
                  refine ret1_gw (.inl rfl) hF rfl (res_tmp (hF.ev rfl)) ?_
                  obtain rfl := Option.some.inj hM
                  exact ⟨A2, x2.length, c2, rfl, (len_set rfl), S.selT (M := [.box g0 28 #[.int .i64 x0, .int .i64 x1, .slice A2 x2.length c2], .row 3 1 (.slice A2 x2.length c2) x2.length ((x2.set x5.toNat (max (x2.getD x5.toNat (0 : Int)) x1)).flatMap eI)]) 3 [2, 0] rfl rfl rfl⟩
            · replace hM := bif_t hc106 hM
              refine cond_t hF rfl hc106 ?_
              refine wp_seq ?_
              refine wp_seq ?_
              refine region_gw (D := [47, 48, 49, 50, 51, 52, 53]) (Lr := (Asn.box g101 32 #[.int .i64 x3, .int .i64 x4, .int .i64 x5] :: Asn.box g0 28 #[.int .i64 x0, .int .i64 x1, .slice A2 x2.length c2] :: Asn.row 3 1 (.slice A2 x2.length c2) x2.length (x2.flatMap eI) :: X)) (deps := (fun | 0 => [47] | 1 => [48] | 2 => [49] | 3 => [50] | 4 => [51] | 5 => [52] | 6 => [53] | _ => [])) (rd := (fun _ => [])) (zr := (fun _ => []))
                (φ := fun i vs => match i, vs with | 0, [v47] => v47 = .pointer (some ⟨adB A2, adO A2 + x5.toNat * 1, none⟩) | 1, [v48] => v48 = .pointer (some ⟨adB A2, adO A2 + x5.toNat * 1, none⟩) | 2, [v49] => v49 = .int .i64 (x2.getD x5.toNat (0 : Int)) | 3, [v50] => v50 = .pointer (some ⟨g0, 1, none⟩) | 4, [v51] => v51 = .pointer (some ⟨g0, 1, none⟩) | 5, [v52] => v52 = .int .i64 x1 | 6, [v53] => v53 = .bool (ltB x1 (x2.getD x5.toNat (0 : Int))) | _, _ => True)
                (C := fun _ _ => [])
                (κ := (fun _ => none)) (Z := (fun _ => [])) mixed hF (by kernel_rfl) S ?_ ?_
              · refine ⟨?_, ?_, ?_, ?_, ?_, ?_, ?_, trivial⟩
                · intro a u X' hB hp hr hz hl S
                  replace S : St w0 u ([] ++ X') := S
                  exact .inl ⟨rfl, .pointer (some ⟨adB A2, adO A2 + x5.toNat * 1, none⟩), u, (run_move rfl (hF.evB hB rfl rfl)), rfl, S⟩
                · intro a u X' hB hp hr hz hl S
                  replace S : St w0 u ([] ++ X') := S
                  have e47 : sl a 47 = .pointer (some ⟨adB A2, adO A2 + x5.toNat * 1, none⟩) := hp 0 rfl
                  exact .inl ⟨rfl, .pointer (some ⟨adB A2, adO A2 + x5.toNat * 1, none⟩), u, (run_nilCheck rfl (ev_sl e47)), rfl, S⟩
                · intro a u X' hB hp hr hz hl S
                  replace S : St w0 u ([] ++ X') := S
                  have e48 : sl a 48 = .pointer (some ⟨adB A2, adO A2 + x5.toNat * 1, none⟩) := hp 1 rfl
                  exact .inl ⟨rfl, .int .i64 (x2.getD x5.toNat (0 : Int)), u, (run_load1 rfl one3 (ev_sl e48) (rd_el0 (l := x2) (gr_rc S hl 2 rfl).rd rfl eI_len (0 : Int) (ix_ltn hk105 rfl) rfl)), rfl, S⟩
                · intro a u X' hB hp hr hz hl S
                  replace S : St w0 u ([] ++ X') := S
                  exact .inl ⟨rfl, .pointer (some ⟨g0, 1, none⟩), u, (run_move rfl (hF.evB hB rfl rfl)), rfl, S⟩
                · intro a u X' hB hp hr hz hl S
                  replace S : St w0 u ([] ++ X') := S
                  have e50 : sl a 50 = .pointer (some ⟨g0, 1, none⟩) := hp 3 rfl
                  exact .inl ⟨rfl, .pointer (some ⟨g0, 1, none⟩), u, (run_nilCheck rfl (ev_sl e50)), rfl, S⟩
                · intro a u X' hB hp hr hz hl S
                  replace S : St w0 u ([] ++ X') := S
                  have e51 : sl a 51 = .pointer (some ⟨g0, 1, none⟩) := hp 4 rfl
                  exact .inl ⟨rfl, .int .i64 x1, u, (run_load1 rfl one3 (ev_sl e51) ((gr_box S hl 1 rfl).cell rfl)), rfl, S⟩
                · intro a u X' hB hp hr hz hl S
                  replace S : St w0 u ([] ++ X') := S
                  have e49 : sl a 49 = .int .i64 (x2.getD x5.toNat (0 : Int)) := hp 2 rfl
                  have e52 : sl a 52 = .int .i64 x1 := hp 5 rfl
                  exact .inl ⟨rfl, .bool (ltB x1 (x2.getD x5.toNat (0 : Int))), u, (run_gtr (ev_sl e49) (ev_sl e52) rfl), rfl, S⟩
              · intro a u hB hp S
                obtain ⟨q0, q1, q2, q3, q4, q5, q6, _⟩ := hp
                have e47 : sl a 47 = .pointer (some ⟨adB A2, adO A2 + x5.toNat * 1, none⟩) := q0
                have e48 : sl a 48 = .pointer (some ⟨adB A2, adO A2 + x5.toNat * 1, none⟩) := q1
                have e49 : sl a 49 = .int .i64 (x2.getD x5.toNat (0 : Int)) := q2
                have e50 : sl a 50 = .pointer (some ⟨g0, 1, none⟩) := q3
                have e51 : sl a 51 = .pointer (some ⟨g0, 1, none⟩) := q4
                have e52 : sl a 52 = .int .i64 x1 := q5
                have e53 : sl a 53 = .bool (ltB x1 (x2.getD x5.toNat (0 : Int))) := q6
                replace S : St w0 u (Asn.box g101 32 #[.int .i64 x3, .int .i64 x4, .int .i64 x5] :: Asn.box g0 28 #[.int .i64 x0, .int .i64 x1, .slice A2 x2.length c2] :: Asn.row 3 1 (.slice A2 x2.length c2) x2.length (x2.flatMap eI) :: X) := S
                clear q0 q1 q2 q3 q4 q5 q6
                have hF := hF.region hB [(47, .pointer (some ⟨adB A2, adO A2 + x5.toNat * 1, none⟩)), (48, .pointer (some ⟨adB A2, adO A2 + x5.toNat * 1, none⟩)), (49, .int .i64 (x2.getD x5.toNat (0 : Int))), (50, .pointer (some ⟨g0, 1, none⟩)), (51, .pointer (some ⟨g0, 1, none⟩)), (52, .int .i64 x1), (53, .bool (ltB x1 (x2.getD x5.toNat (0 : Int))))] (allSl_mem ⟨e47, e48, e49, e50, e51, e52, e53, trivial⟩) rfl
                clear hB e47 e48 e49 e50 e51 e52 e53
                obtain ⟨o109, hM110, hM⟩ := bind_ex hM
                refine wp_cut (fun a u => ∃ (p108 : Int), p108 = o109 ∧ Fr a 75 [(4, .bool false), (5, .pointer (some ⟨g0, 1, none⟩))] ∧ St w0 u (Asn.box g101 32 #[.int .i64 x3, .int .i64 x4, .int .i64 x5] :: Asn.box g0 28 #[.int .i64 x0, .int .i64 p108, .slice A2 x2.length c2] :: Asn.row 3 1 (.slice A2 x2.length c2) x2.length (x2.flatMap eI) :: X)) ?_ ?_
                · have _ := trivial
                  cases hc111 : (ltB x1 (x2.getD x5.toNat (0 : Int)))
                  · replace hM110 := bif_f hc111 hM110
                    refine cond_f hF rfl hc111 ?_
                    refine wp_skip ?_
                    obtain rfl := Option.some.inj hM110
                    exact ⟨x1, rfl, hF.keep _ ⟨rfl, rfl, trivial⟩, S.selT (M := [.box g101 32 #[.int .i64 x3, .int .i64 x4, .int .i64 x5], .box g0 28 #[.int .i64 x0, .int .i64 x1, .slice A2 x2.length c2], .row 3 1 (.slice A2 x2.length c2) x2.length (x2.flatMap eI)]) 3 [0, 1, 2] rfl rfl rfl⟩
                  · replace hM110 := bif_t hc111 hM110
                    refine cond_t hF rfl hc111 ?_
                    refine wp_region_lit ?_
                    refine op_val (v := .pointer (some ⟨g0, 1, none⟩)) rfl rfl hF rfl (run_move rfl (hF.ev rfl)) ?_; clear hF; intro a hF
                    refine op_val (v := .pointer (some ⟨adB A2, adO A2 + x5.toNat * 1, none⟩)) rfl rfl hF rfl (run_move rfl (hF.ev rfl)) ?_; clear hF; intro a hF
                    refine op_val (v := .pointer (some ⟨adB A2, adO A2 + x5.toNat * 1, none⟩)) rfl rfl hF rfl (run_nilCheck rfl (hF.ev rfl)) ?_; clear hF; intro a hF
                    refine op_val (v := .int .i64 (x2.getD x5.toNat (0 : Int))) rfl rfl hF rfl (run_load1 rfl one3 (hF.ev rfl) (rd_el0 (l := x2) (S.rc 2 rfl).rd rfl eI_len (0 : Int) (ix_ltn hk105 rfl) rfl)) ?_; clear hF; intro a hF
                    refine op_val (v := .int .i64 (w64 ((x2.getD x5.toNat (0 : Int)) + 1))) rfl rfl hF rfl (run_add (z := w64 ((x2.getD x5.toNat (0 : Int)) + 1)) (hF.ev rfl) rfl rfl rfl) ?_; clear hF; intro a hF
                    refine op_val (v := .pointer (some ⟨g0, 1, none⟩)) rfl rfl hF rfl (run_nilCheck rfl (hF.ev rfl)) ?_; clear hF; intro a hF
                    refine op_do rfl rfl (run_store (cs' := #[.int .i64 x0, .int .i64 (w64 ((x2.getD x5.toNat (0 : Int)) + 1)), .slice A2 x2.length c2]) rfl sz3 (hF.ev rfl) (hF.ev rfl) rfl rfl rfl (S.free 1 rfl) rfl rfl) ?_; replace S := S.put 1 rfl (#[.int .i64 x0, .int .i64 (w64 ((x2.getD x5.toNat (0 : Int)) + 1)), .slice A2 x2.length c2])
                    generalize World.setRow _ _ _ = u at S ⊢
                    refine wpList_nil ?_
                    obtain rfl := Option.some.inj hM110
                    exact ⟨w64 ((x2.getD x5.toNat (0 : Int)) + 1), rfl, hF.keep _ ⟨rfl, rfl, trivial⟩, S.selT (M := [.box g101 32 #[.int .i64 x3, .int .i64 x4, .int .i64 x5], .box g0 28 #[.int .i64 x0, .int .i64 (w64 ((x2.getD x5.toNat (0 : Int)) + 1)), .slice A2 x2.length c2], .row 3 1 (.slice A2 x2.length c2) x2.length (x2.flatMap eI)]) 3 [0, 1, 2] rfl rfl rfl⟩
                · rintro a u ⟨p108, rfl, hF, S⟩
                  refine wp_seq ?_
                  refine wp_region_lit ?_
                  refine op_val (v := .pointer (some ⟨g0, 1, none⟩)) rfl rfl hF rfl (run_move rfl (hF.ev rfl)) ?_; clear hF; intro a hF
                  refine op_val (v := .pointer (some ⟨g0, 1, none⟩)) rfl rfl hF rfl (run_nilCheck rfl (hF.ev rfl)) ?_; clear hF; intro a hF
                  refine op_val (v := .int .i64 p108) rfl rfl hF rfl (run_load1 rfl one3 (hF.ev rfl) ((S.free 1 rfl).cell rfl)) ?_; clear hF; intro a hF
                  obtain ⟨p112, h112, hM⟩ := bind_ex hM
                  refine op_call rfl rfl hF rfl (run_call (vs := [.int .i64 p108]) rfl rfl co36 ⟨(hF.ev rfl), trivial⟩) (c_impl_epochValid (x0 := p108)  h112) ?_
                  rintro e u ⟨rfl, T⟩
                  refine ⟨_, rfl, ?_⟩
                  clear hF; intro a hF
                  replace S := S.call0 T; clear T
                  refine op_val (v := .bool p112) rfl rfl hF rfl (run_assign rfl (hF.ev rfl)) ?_; clear hF; intro a hF
                  refine wpList_nil ?_
                  refine wp_ret ?_
                  repeat with_reducible (first | refine then_ret ?_ | refine in_ret ?_ | refine in_nrm ?_)
                  refine ret1_gw (.inl rfl) hF rfl (res_tmp (hF.ev rfl)) ?_
                  obtain rfl := Option.some.inj hM
                  exact ⟨A2, x2.length, c2, rfl, rfl, S.selT (M := [.box g0 28 #[.int .i64 x0, .int .i64 p108, .slice A2 x2.length c2], .row 3 1 (.slice A2 x2.length c2) x2.length (x2.flatMap eI)]) 3 [1, 2] rfl rfl rfl⟩
        · replace hM := bif_t hc104 hM
          refine cond_t hF rfl hc104 ?_
          refine wp_seq ?_
          refine wp_region_lit ?_
          refine op_val (v := .bool false) rfl rfl hF rfl (run_assign rfl rfl) ?_; clear hF; intro a hF
          refine wpList_nil ?_
          refine wp_ret ?_
          repeat with_reducible (first | refine then_ret ?_ | refine in_ret ?_ | refine in_nrm ?_)
          refine ret1_gw (.inl rfl) hF rfl (res_tmp (hF.ev rfl)) ?_
          obtain rfl := Option.some.inj hM
          exact ⟨A2, x2.length, c2, rfl, rfl, S.selT (M := [.box g0 28 #[.int .i64 x0, .int .i64 x1, .slice A2 x2.length c2], .row 3 1 (.slice A2 x2.length c2) x2.length (x2.flatMap eI)]) 3 [1, 2] rfl rfl rfl⟩
    · replace hM := bif_t hc103 hM
      refine cond_t hF rfl hc103 ?_
      refine wp_seq ?_
      refine wp_region_lit ?_
      refine op_val (v := .pointer (some ⟨g0, 1, none⟩)) rfl rfl hF rfl (run_move rfl (hF.ev rfl)) ?_; clear hF; intro a hF
      refine op_val (v := .pointer (some ⟨g0, 1, none⟩)) rfl rfl hF rfl (run_nilCheck rfl (hF.ev rfl)) ?_; clear hF; intro a hF
      refine op_val (v := .int .i64 x1) rfl rfl hF rfl (run_load1 rfl one3 (hF.ev rfl) ((S.free 1 rfl).cell rfl)) ?_; clear hF; intro a hF
      refine op_val (v := .int .i64 (w64 (x1 + 2))) rfl rfl hF rfl (run_add (z := w64 (x1 + 2)) (hF.ev rfl) rfl rfl rfl) ?_; clear hF; intro a hF
      refine op_val (v := .pointer (some ⟨g0, 1, none⟩)) rfl rfl hF rfl (run_nilCheck rfl (hF.ev rfl)) ?_; clear hF; intro a hF
      refine op_do rfl rfl (run_store (cs' := #[.int .i64 x0, .int .i64 (w64 (x1 + 2)), .slice A2 x2.length c2]) rfl sz3 (hF.ev rfl) (hF.ev rfl) rfl rfl rfl (S.free 1 rfl) rfl rfl) ?_; replace S := S.put 1 rfl (#[.int .i64 x0, .int .i64 (w64 (x1 + 2)), .slice A2 x2.length c2])
      generalize World.setRow _ _ _ = u at S ⊢
      refine wpList_nil ?_
      refine wp_seq ?_
      refine wp_region_lit ?_
      refine op_val (v := .pointer (some ⟨g0, 1, none⟩)) rfl rfl hF rfl (run_move rfl (hF.ev rfl)) ?_; clear hF; intro a hF
      refine op_val (v := .pointer (some ⟨g0, 1, none⟩)) rfl rfl hF rfl (run_nilCheck rfl (hF.ev rfl)) ?_; clear hF; intro a hF
      refine op_val (v := .int .i64 (w64 (x1 + 2))) rfl rfl hF rfl (run_load1 rfl one3 (hF.ev rfl) ((S.free 1 rfl).cell rfl)) ?_; clear hF; intro a hF
      obtain ⟨p113, h113, hM⟩ := bind_ex hM
      refine op_call rfl rfl hF rfl (run_call (vs := [.int .i64 (w64 (x1 + 2))]) rfl rfl co36 ⟨(hF.ev rfl), trivial⟩) (c_impl_epochValid (x0 := w64 (x1 + 2))  h113) ?_
      rintro e u ⟨rfl, T⟩
      refine ⟨_, rfl, ?_⟩
      clear hF; intro a hF
      replace S := S.call0 T; clear T
      refine op_val (v := .bool p113) rfl rfl hF rfl (run_assign rfl (hF.ev rfl)) ?_; clear hF; intro a hF
      refine wpList_nil ?_
      refine wp_ret ?_
      repeat with_reducible (first | refine then_ret ?_ | refine in_ret ?_ | refine in_nrm ?_)
      refine ret1_gw (.inl rfl) hF rfl (res_tmp (hF.ev rfl)) ?_
      obtain rfl := Option.some.inj hM
      exact ⟨A2, x2.length, c2, rfl, rfl, S.selT (M := [.box g0 28 #[.int .i64 x0, .int .i64 (w64 (x1 + 2)), .slice A2 x2.length c2], .row 3 1 (.slice A2 x2.length c2) x2.length (x2.flatMap eI)]) 3 [1, 2] rfl rfl rfl⟩
  · replace hM := bif_t hc102 hM
    refine op_call rfl rfl hF rfl (run_call (vs := [.pointer (some ⟨g0, 0, none⟩), .int .i64 x4]) rfl rfl co37 ⟨(hF.ev rfl), (hF.ev rfl), trivial⟩) (c_impl_Rooms_epoch_0 hc102) ?_
    rintro e u ⟨rfl, T⟩
    refine ⟨_, rfl, ?_⟩
    clear hF; intro a hF
    replace S := S.call0 T; clear T
    refine op_val (v := .pointer (some ⟨g0, 0, none⟩)) rfl rfl hF rfl (run_assign rfl (hF.ev rfl)) ?_; clear hF; intro a hF
    refine wpList_nil ?_
    refine wp_seq ?_
    refine wp_seq ?_
    refine wp_region_lit ?_
    refine op_val (v := .pointer (some ⟨g101, 0, none⟩)) rfl rfl hF rfl (run_fieldAddr rfl fl32_0 (hF.ev rfl) rfl) ?_; clear hF; intro a hF
    refine op_val (v := .int .i64 x3) rfl rfl hF rfl (run_load1 rfl one3 (hF.ev rfl) ((S.free 0 rfl).cell rfl)) ?_; clear hF; intro a hF
    refine op_val (v := .bool (x3 == 0)) rfl rfl hF rfl (run_eql (hF.ev rfl) rfl rfl) ?_; clear hF; intro a hF
    refine wpList_nil ?_
    cases hc114 : (x3 == 0)
    · replace hM := bif_f hc114 hM
      refine cond_f hF rfl hc114 ?_
      refine wp_skip ?_
      refine wp_seq ?_
      refine wp_seq ?_
      refine region_gw (D := [23, 24, 25, 26, 27, 28, 29, 30, 31, 32, 33, 34, 35]) (Lr := (Asn.box g101 32 #[.int .i64 x3, .int .i64 x4, .int .i64 x5] :: Asn.box g0 28 #[.int .i64 x0, .int .i64 x1, .slice A2 x2.length c2] :: Asn.row 3 1 (.slice A2 x2.length c2) x2.length (x2.flatMap eI) :: X)) (deps := (fun | 0 => [23] | 1 => [24] | 2 => [25] | 3 => [26] | 4 => [27] | 5 => [28] | 6 => [29] | 7 => [30] | 8 => [31] | 9 => [32] | 10 => [33] | 11 => [34] | 12 => [35] | _ => [])) (rd := (fun _ => [])) (zr := (fun _ => []))
        (φ := fun i vs => match i, vs with | 0, [v23] => v23 = .pointer (some ⟨g101, 2, none⟩) | 1, [v24] => v24 = .int .i64 x5 | 2, [v25] => v25 = .bool (ltB x5 0) | 3, [v26] => v26 = .bool (ltB x5 0) | 4, [v27] => v27 = gv (!(ltB x5 0)) (.pointer (some ⟨g101, 2, none⟩)) | 5, [v28] => v28 = gv (!(ltB x5 0)) (.int .i64 x5) | 6, [v29] => v29 = gv (!(ltB x5 0)) (.pointer (some ⟨g0, 0, none⟩)) | 7, [v30] => v30 = gv (!(ltB x5 0)) (.pointer (some ⟨g0, 0, none⟩)) | 8, [v31] => v31 = gv (!(ltB x5 0)) (.pointer (some ⟨g0, 2, none⟩)) | 9, [v32] => v32 = gv (!(ltB x5 0)) (.slice A2 x2.length c2) | 10, [v33] => v33 = gv (!(ltB x5 0)) (.int .i64 (x2.length : Int)) | 11, [v34] => v34 = gv (!(ltB x5 0)) (.bool (leB (x2.length : Int) x5)) | 12, [v35] => v35 = .bool ((ltB x5 0) || (leB (x2.length : Int) x5)) | _, _ => True)
        (C := fun _ _ => [])
        (κ := (fun _ => none)) (Z := (fun _ => [])) mixed hF (by kernel_rfl) S ?_ ?_
      · refine ⟨?_, ?_, ?_, ?_, ?_, ?_, ?_, ?_, ?_, ?_, ?_, ?_, ?_, trivial⟩
        · intro a u X' hB hp hr hz hl S
          replace S : St w0 u ([] ++ X') := S
          exact .inl ⟨rfl, .pointer (some ⟨g101, 2, none⟩), u, (run_fieldAddr rfl fl32_2 (hF.evB hB rfl rfl) rfl), rfl, S⟩
        · intro a u X' hB hp hr hz hl S
          replace S : St w0 u ([] ++ X') := S
          have e23 : sl a 23 = .pointer (some ⟨g101, 2, none⟩) := hp 0 rfl
          exact .inl ⟨rfl, .int .i64 x5, u, (run_load1 rfl one3 (ev_sl e23) ((gr_box S hl 0 rfl).cell rfl)), rfl, S⟩
        · intro a u X' hB hp hr hz hl S
          replace S : St w0 u ([] ++ X') := S
          have e24 : sl a 24 = .int .i64 x5 := hp 1 rfl
          exact .inl ⟨rfl, .bool (ltB x5 0), u, (run_lss (ev_sl e24) (ev_const _ _) rfl), rfl, S⟩
        · intro a u X' hB hp hr hz hl S
          replace S : St w0 u ([] ++ X') := S
          have e25 : sl a 25 = .bool (ltB x5 0) := hp 2 rfl
          exact .inl ⟨rfl, .bool (ltB x5 0), u, (run_move rfl (ev_sl e25)), rfl, S⟩
        · intro a u X' hB hp hr hz hl S
          replace S : St w0 u ([] ++ X') := S
          have e26 : sl a 26 = .bool (ltB x5 0) := hp 3 rfl
          rcases (Bool.eq_false_or_eq_true (!(ltB x5 0))).symm with hg | hg
          · exact .inr (.inr (.inr ⟨gr_eg rfl (yf (gr_yield rfl rfl e26)) hg, (gv_f hg).symm, S⟩))
          · exact .inl ⟨gr_eg rfl (yf (gr_yield rfl rfl e26)) hg, .pointer (some ⟨g101, 2, none⟩), u, (run_fieldAddr rfl fl32_2 (hF.evB hB rfl rfl) rfl), (gv_t hg).symm, S⟩
        · intro a u X' hB hp hr hz hl S
          replace S : St w0 u ([] ++ X') := S
          have e26 : sl a 26 = .bool (ltB x5 0) := hp 3 rfl
          have e27 : sl a 27 = gv (!(ltB x5 0)) (.pointer (some ⟨g101, 2, none⟩)) := hp 4 rfl
          rcases (Bool.eq_false_or_eq_true (!(ltB x5 0))).symm with hg | hg
          · exact .inr (.inr (.inr ⟨gr_eg rfl (yf (gr_yield rfl rfl e26)) hg, (gv_f hg).symm, S⟩))
          · exact .inl ⟨gr_eg rfl (yf (gr_yield rfl rfl e26)) hg, .int .i64 x5, u, (run_load1 rfl one3 ((ev_sl e27).trans (gv_t hg)) ((gr_box S hl 0 rfl).cell rfl)), (gv_t hg).symm, S⟩
        · intro a u X' hB hp hr hz hl S
          replace S : St w0 u ([] ++ X') := S
          have e26 : sl a 26 = .bool (ltB x5 0) := hp 3 rfl
          rcases (Bool.eq_false_or_eq_true (!(ltB x5 0))).symm with hg | hg
          · exact .inr (.inr (.inr ⟨gr_eg rfl (yf (gr_yield rfl rfl e26)) hg, (gv_f hg).symm, S⟩))
          · exact .inl ⟨gr_eg rfl (yf (gr_yield rfl rfl e26)) hg, .pointer (some ⟨g0, 0, none⟩), u, (run_move rfl (hF.evB hB rfl rfl)), (gv_t hg).symm, S⟩
        · intro a u X' hB hp hr hz hl S
          replace S : St w0 u ([] ++ X') := S
          have e26 : sl a 26 = .bool (ltB x5 0) := hp 3 rfl
          have e29 : sl a 29 = gv (!(ltB x5 0)) (.pointer (some ⟨g0, 0, none⟩)) := hp 6 rfl
          rcases (Bool.eq_false_or_eq_true (!(ltB x5 0))).symm with hg | hg
          · exact .inr (.inr (.inr ⟨gr_eg rfl (yf (gr_yield rfl rfl e26)) hg, (gv_f hg).symm, S⟩))
          · exact .inl ⟨gr_eg rfl (yf (gr_yield rfl rfl e26)) hg, .pointer (some ⟨g0, 0, none⟩), u, (run_nilCheck rfl ((ev_sl e29).trans (gv_t hg))), (gv_t hg).symm, S⟩
        · intro a u X' hB hp hr hz hl S
          replace S : St w0 u ([] ++ X') := S
          have e26 : sl a 26 = .bool (ltB x5 0) := hp 3 rfl
          have e30 : sl a 30 = gv (!(ltB x5 0)) (.pointer (some ⟨g0, 0, none⟩)) := hp 7 rfl
          rcases (Bool.eq_false_or_eq_true (!(ltB x5 0))).symm with hg | hg
          · exact .inr (.inr (.inr ⟨gr_eg rfl (yf (gr_yield rfl rfl e26)) hg, (gv_f hg).symm, S⟩))
          · exact .inl ⟨gr_eg rfl (yf (gr_yield rfl rfl e26)) hg, .pointer (some ⟨g0, 2, none⟩), u, (run_fieldAddr rfl fl28_2 ((ev_sl e30).trans (gv_t hg)) rfl), (gv_t hg).symm, S⟩
        · intro a u X' hB hp hr hz hl S
          replace S : St w0 u ([] ++ X') := S
          have e26 : sl a 26 = .bool (ltB x5 0) := hp 3 rfl
          have e31 : sl a 31 = gv (!(ltB x5 0)) (.pointer (some ⟨g0, 2, none⟩)) := hp 8 rfl
          rcases (Bool.eq_false_or_eq_true (!(ltB x5 0))).symm with hg | hg
          · exact .inr (.inr (.inr ⟨gr_eg rfl (yf (gr_yield rfl rfl e26)) hg, (gv_f hg).symm, S⟩))
          · exact .inl ⟨gr_eg rfl (yf (gr_yield rfl rfl e26)) hg, .slice A2 x2.length c2, u, (run_load1 rfl one22 ((ev_sl e31).trans (gv_t hg)) ((gr_box S hl 1 rfl).cell rfl)), (gv_t hg).symm, S⟩
        · intro a u X' hB hp hr hz hl S
          replace S : St w0 u ([] ++ X') := S
          have e26 : sl a 26 = .bool (ltB x5 0) := hp 3 rfl
          have e32 : sl a 32 = gv (!(ltB x5 0)) (.slice A2 x2.length c2) := hp 9 rfl
          rcases (Bool.eq_false_or_eq_true (!(ltB x5 0))).symm with hg | hg
          · exact .inr (.inr (.inr ⟨gr_eg rfl (yf (gr_yield rfl rfl e26)) hg, (gv_f hg).symm, S⟩))
          · exact .inl ⟨gr_eg rfl (yf (gr_yield rfl rfl e26)) hg, .int .i64 (x2.length : Int), u, (run_lenL rfl rfl Try.underlying22 ((ev_sl e32).trans (gv_t hg))), (gv_t hg).symm, S⟩
        · intro a u X' hB hp hr hz hl S
          replace S : St w0 u ([] ++ X') := S
          have e26 : sl a 26 = .bool (ltB x5 0) := hp 3 rfl
          have e28 : sl a 28 = gv (!(ltB x5 0)) (.int .i64 x5) := hp 5 rfl
          have e33 : sl a 33 = gv (!(ltB x5 0)) (.int .i64 (x2.length : Int)) := hp 10 rfl
          rcases (Bool.eq_false_or_eq_true (!(ltB x5 0))).symm with hg | hg
          · exact .inr (.inr (.inr ⟨gr_eg rfl (yf (gr_yield rfl rfl e26)) hg, (gv_f hg).symm, S⟩))
          · exact .inl ⟨gr_eg rfl (yf (gr_yield rfl rfl e26)) hg, .bool (leB (x2.length : Int) x5), u, (run_geq ((ev_sl e28).trans (gv_t hg)) ((ev_sl e33).trans (gv_t hg)) rfl), (gv_t hg).symm, S⟩
        · intro a u X' hB hp hr hz hl S
          replace S : St w0 u ([] ++ X') := S
          have e26 : sl a 26 = .bool (ltB x5 0) := hp 3 rfl
          have e34 : sl a 34 = gv (!(ltB x5 0)) (.bool (leB (x2.length : Int) x5)) := hp 11 rfl
          exact .inl ⟨rfl, .bool ((ltB x5 0) || (leB (x2.length : Int) x5)), u, (run_pick_or rfl (ev_sl e26) (ev_const _ _) (fun hp => ((ev_sl e34).trans (gv_t (not_t hp))))), rfl, S⟩
      · intro a u hB hp S
        obtain ⟨q0, q1, q2, q3, q4, q5, q6, q7, q8, q9, q10, q11, q12, _⟩ := hp
        have e23 : sl a 23 = .pointer (some ⟨g101, 2, none⟩) := q0
        have e24 : sl a 24 = .int .i64 x5 := q1
        have e25 : sl a 25 = .bool (ltB x5 0) := q2
        have e26 : sl a 26 = .bool (ltB x5 0) := q3
        have e27 : sl a 27 = gv (!(ltB x5 0)) (.pointer (some ⟨g101, 2, none⟩)) := q4
        have e28 : sl a 28 = gv (!(ltB x5 0)) (.int .i64 x5) := q5
        have e29 : sl a 29 = gv (!(ltB x5 0)) (.pointer (some ⟨g0, 0, none⟩)) := q6
        have e30 : sl a 30 = gv (!(ltB x5 0)) (.pointer (some ⟨g0, 0, none⟩)) := q7
        have e31 : sl a 31 = gv (!(ltB x5 0)) (.pointer (some ⟨g0, 2, none⟩)) := q8
        have e32 : sl a 32 = gv (!(ltB x5 0)) (.slice A2 x2.length c2) := q9
        have e33 : sl a 33 = gv (!(ltB x5 0)) (.int .i64 (x2.length : Int)) := q10
        have e34 : sl a 34 = gv (!(ltB x5 0)) (.bool (leB (x2.length : Int) x5)) := q11
        have e35 : sl a 35 = .bool ((ltB x5 0) || (leB (x2.length : Int) x5)) := q12
        replace S : St w0 u (Asn.box g101 32 #[.int .i64 x3, .int .i64 x4, .int .i64 x5] :: Asn.box g0 28 #[.int .i64 x0, .int .i64 x1, .slice A2 x2.length c2] :: Asn.row 3 1 (.slice A2 x2.length c2) x2.length (x2.flatMap eI) :: X) := S
        clear q0 q1 q2 q3 q4 q5 q6 q7 q8 q9 q10 q11 q12
        have hF := hF.region hB [(23, .pointer (some ⟨g101, 2, none⟩)), (24, .int .i64 x5), (25, .bool (ltB x5 0)), (26, .bool (ltB x5 0)), (27, gv (!(ltB x5 0)) (.pointer (some ⟨g101, 2, none⟩))), (28, gv (!(ltB x5 0)) (.int .i64 x5)), (29, gv (!(ltB x5 0)) (.pointer (some ⟨g0, 0, none⟩))), (30, gv (!(ltB x5 0)) (.pointer (some ⟨g0, 0, none⟩))), (31, gv (!(ltB x5 0)) (.pointer (some ⟨g0, 2, none⟩))), (32, gv (!(ltB x5 0)) (.slice A2 x2.length c2)), (33, gv (!(ltB x5 0)) (.int .i64 (x2.length : Int))), (34, gv (!(ltB x5 0)) (.bool (leB (x2.length : Int) x5))), (35, .bool ((ltB x5 0) || (leB (x2.length : Int) x5)))] (allSl_mem ⟨e23, e24, e25, e26, e27, e28, e29, e30, e31, e32, e33, e34, e35, trivial⟩) rfl
        clear hB e23 e24 e25 e26 e27 e28 e29 e30 e31 e32 e33 e34 e35
        cases hc115 : ((ltB x5 0) || (leB (x2.length : Int) x5))
        · replace hM := bif_f hc115 hM
          refine cond_f hF rfl hc115 ?_
          refine wp_skip ?_
          refine wp_seq ?_
          obtain ⟨hk116, hM⟩ := chk_ex hM
          replace hk116 := ixB_t hk116
          refine region_gw (D := [36, 37, 38, 39, 40, 41, 42, 6]) (Lr := (Asn.box g101 32 #[.int .i64 x3, .int .i64 x4, .int .i64 x5] :: Asn.box g0 28 #[.int .i64 x0, .int .i64 x1, .slice A2 x2.length c2] :: Asn.row 3 1 (.slice A2 x2.length c2) x2.length (x2.flatMap eI) :: X)) (deps := (fun | 0 => [36] | 1 => [37] | 2 => [38] | 3 => [39] | 4 => [40] | 5 => [41] | 6 => [42] | 7 => [6] | _ => [])) (rd := (fun _ => [])) (zr := (fun _ => []))
            (φ := fun i vs => match i, vs with | 0, [v36] => v36 = .pointer (some ⟨g0, 0, none⟩) | 1, [v37] => v37 = .pointer (some ⟨g0, 0, none⟩) | 2, [v38] => v38 = .pointer (some ⟨g0, 2, none⟩) | 3, [v39] => v39 = .slice A2 x2.length c2 | 4, [v40] => v40 = .pointer (some ⟨g101, 2, none⟩) | 5, [v41] => v41 = .int .i64 x5 | 6, [v42] => v42 = .pointer (some ⟨adB A2, adO A2 + x5.toNat * 1, none⟩) | 7, [v6] => v6 = .pointer (some ⟨adB A2, adO A2 + x5.toNat * 1, none⟩) | _, _ => True)
            (C := fun _ _ => [])
            (κ := (fun _ => none)) (Z := (fun _ => [])) mixed hF (by kernel_rfl) S ?_ ?_
          · refine ⟨?_, ?_, ?_, ?_, ?_, ?_, ?_, ?_, trivial⟩
            · intro a u X' hB hp hr hz hl S
              replace S : St w0 u ([] ++ X') := S
              exact .inl ⟨rfl, .pointer (some ⟨g0, 0, none⟩), u, (run_move rfl (hF.evB hB rfl rfl)), rfl, S⟩
            · intro a u X' hB hp hr hz hl S
              replace S : St w0 u ([] ++ X') := S
              have e36 : sl a 36 = .pointer (some ⟨g0, 0, none⟩) := hp 0 rfl
              exact .inl ⟨rfl, .pointer (some ⟨g0, 0, none⟩), u, (run_nilCheck rfl (ev_sl e36)), rfl, S⟩
            · intro a u X' hB hp hr hz hl S
              replace S : St w0 u ([] ++ X') := S
              have e37 : sl a 37 = .pointer (some ⟨g0, 0, none⟩) := hp 1 rfl
              exact .inl ⟨rfl, .pointer (some ⟨g0, 2, none⟩), u, (run_fieldAddr rfl fl28_2 (ev_sl e37) rfl), rfl, S⟩
            · intro a u X' hB hp hr hz hl S
              replace S : St w0 u ([] ++ X') := S
              have e38 : sl a 38 = .pointer (some ⟨g0, 2, none⟩) := hp 2 rfl
              exact .inl ⟨rfl, .slice A2 x2.length c2, u, (run_load1 rfl one22 (ev_sl e38) ((gr_box S hl 1 rfl).cell rfl)), rfl, S⟩
            · intro a u X' hB hp hr hz hl S
              replace S : St w0 u ([] ++ X') := S
              exact .inl ⟨rfl, .pointer (some ⟨g101, 2, none⟩), u, (run_fieldAddr rfl fl32_2 (hF.evB hB rfl rfl) rfl), rfl, S⟩
            · intro a u X' hB hp hr hz hl S
              replace S : St w0 u ([] ++ X') := S
              have e40 : sl a 40 = .pointer (some ⟨g101, 2, none⟩) := hp 4 rfl
              exact .inl ⟨rfl, .int .i64 x5, u, (run_load1 rfl one3 (ev_sl e40) ((gr_box S hl 0 rfl).cell rfl)), rfl, S⟩
            · intro a u X' hB hp hr hz hl S
              replace S : St w0 u ([] ++ X') := S
              have e39 : sl a 39 = .slice A2 x2.length c2 := hp 3 rfl
              have e41 : sl a 41 = .int .i64 x5 := hp 5 rfl
              exact .inl ⟨rfl, .pointer (some ⟨adB A2, adO A2 + x5.toNat * 1, none⟩), u, (run_indexAddr (b := adB A2) (off := adO A2) rfl Try.underlying22 sz3 ((ev_sl e39).trans (congrArg (fun A => Value.slice A x2.length c2) ((gr_rc S hl 2 rfl).rd.ad (ix_pos hk116)))) (ev_sl e41) hk116.1 hk116.2 (k' := adO A2 + x5.toNat * 1) rfl), rfl, S⟩
            · intro a u X' hB hp hr hz hl S
              replace S : St w0 u ([] ++ X') := S
              have e42 : sl a 42 = .pointer (some ⟨adB A2, adO A2 + x5.toNat * 1, none⟩) := hp 6 rfl
              exact .inl ⟨rfl, .pointer (some ⟨adB A2, adO A2 + x5.toNat * 1, none⟩), u, (run_assign rfl (ev_sl e42)), rfl, S⟩
          · intro a u hB hp S
            obtain ⟨q0, q1, q2, q3, q4, q5, q6, q7, _⟩ := hp
            have e36 : sl a 36 = .pointer (some ⟨g0, 0, none⟩) := q0
            have e37 : sl a 37 = .pointer (some ⟨g0, 0, none⟩) := q1
            have e38 : sl a 38 = .pointer (some ⟨g0, 2, none⟩) := q2
            have e39 : sl a 39 = .slice A2 x2.length c2 := q3
            have e40 : sl a 40 = .pointer (some ⟨g101, 2, none⟩) := q4
            have e41 : sl a 41 = .int .i64 x5 := q5
            have e42 : sl a 42 = .pointer (some ⟨adB A2, adO A2 + x5.toNat * 1, none⟩) := q6
            have e6 : sl a 6 = .pointer (some ⟨adB A2, adO A2 + x5.toNat * 1, none⟩) := q7
            replace S : St w0 u (Asn.box g101 32 #[.int .i64 x3, .int .i64 x4, .int .i64 x5] :: Asn.box g0 28 #[.int .i64 x0, .int .i64 x1, .slice A2 x2.length c2] :: Asn.row 3 1 (.slice A2 x2.length c2) x2.length (x2.flatMap eI) :: X) := S
            clear q0 q1 q2 q3 q4 q5 q6 q7
            have hF := hF.region hB [(36, .pointer (some ⟨g0, 0, none⟩)), (37, .pointer (some ⟨g0, 0, none⟩)), (38, .pointer (some ⟨g0, 2, none⟩)), (39, .slice A2 x2.length c2), (40, .pointer (some ⟨g101, 2, none⟩)), (41, .int .i64 x5), (42, .pointer (some ⟨adB A2, adO A2 + x5.toNat * 1, none⟩)), (6, .pointer (some ⟨adB A2, adO A2 + x5.toNat * 1, none⟩))] (allSl_mem ⟨e36, e37, e38, e39, e40, e41, e42, e6, trivial⟩) rfl
            clear hB e36 e37 e38 e39 e40 e41 e42 e6
            refine wp_seq ?_
            refine wp_seq ?_
            refine wp_region_lit ?_
            refine op_val (v := .pointer (some ⟨g101, 0, none⟩)) rfl rfl hF rfl (run_fieldAddr rfl fl32_0 (hF.ev rfl) rfl) ?_; clear hF; intro a hF
            refine op_val (v := .int .i64 x3) rfl rfl hF rfl (run_load1 rfl one3 (hF.ev rfl) ((S.free 0 rfl).cell rfl)) ?_; clear hF; intro a hF
            refine wpList_nil ?_
            refine wp_block ?_
            refine wp_seq ?_
            refine wp_region_lit ?_
            refine op_val (v := .bool (x3 == 1)) rfl rfl hF rfl (run_eql (hF.ev rfl) rfl rfl) ?_; clear hF; intro a hF
            refine op_val (v := .bool (x3 == 1)) rfl rfl hF rfl (run_assign rfl (hF.ev rfl)) ?_; clear hF; intro a hF
            refine wpList_nil ?_
            cases hc117 : (x3 == 1)
            · replace hM := bif_f hc117 hM
              refine cond_f hF rfl hc117 ?_
              refine wp_seq ?_
              refine wp_region_lit ?_
              refine op_val (v := .bool (x3 == 2)) rfl rfl hF rfl (run_eql (hF.ev rfl) rfl rfl) ?_; clear hF; intro a hF
              refine op_val (v := .bool (x3 == 2)) rfl rfl hF rfl (run_assign rfl (hF.ev rfl)) ?_; clear hF; intro a hF
              refine wpList_nil ?_
              cases hc118 : (x3 == 2)
              · replace hM := bif_f hc118 hM
                refine cond_f hF rfl hc118 ?_
                refine wp_skip ?_
                refine wp_seq ?_
                refine wp_region_lit ?_
                refine op_val (v := .bool false) rfl rfl hF rfl (run_assign rfl rfl) ?_; clear hF; intro a hF
                refine wpList_nil ?_
                refine wp_ret ?_
                repeat with_reducible (first | refine then_ret ?_ | refine in_ret ?_ | refine in_nrm ?_)
                refine ret1_gw (.inl rfl) hF rfl (res_tmp (hF.ev rfl)) ?_
                obtain rfl := Option.some.inj hM
                exact ⟨A2, x2.length, c2, rfl, rfl, S.selT (M := [.box g0 28 #[.int .i64 x0, .int .i64 x1, .slice A2 x2.length c2], .row 3 1 (.slice A2 x2.length c2) x2.length (x2.flatMap eI)]) 3 [1, 2] rfl rfl rfl⟩
              · replace hM := bif_t hc118 hM
                refine cond_t hF rfl hc118 ?_
                refine wp_seq ?_
                refine region_gw (D := [66, 67, 68, 69, 70, 71, 72, 73, 74]) (Lr := (Asn.box g101 32 #[.int .i64 x3, .int .i64 x4, .int .i64 x5] :: Asn.box g0 28 #[.int .i64 x0, .int .i64 x1, .slice A2 x2.length c2] :: X)) (deps := (fun | 0 => [66] | 1 => [67] | 2 => [68] | 3 => [69] | 4 => [70] | 5 => [71] | 6 => [72] | 7 => [73] | 8 => [74] | 9 => [74] | _ => [])) (rd := (fun _ => [])) (zr := (fun | 3 => [9] | _ => []))
                  (φ := fun i vs => match i, vs with | 0, [v66] => v66 = .pointer (some ⟨adB A2, adO A2 + x5.toNat * 1, none⟩) | 1, [v67] => v67 = .pointer (some ⟨adB A2, adO A2 + x5.toNat * 1, none⟩) | 2, [v68] => v68 = .pointer (some ⟨adB A2, adO A2 + x5.toNat * 1, none⟩) | 3, [v69] => v69 = .int .i64 (x2.getD x5.toNat (0 : Int)) | 4, [v70] => v70 = .pointer (some ⟨g0, 0, none⟩) | 5, [v71] => v71 = .pointer (some ⟨g0, 0, none⟩) | 6, [v72] => v72 = .int .i64 x0 | 7, [v73] => v73 = .int .i64 (max (x2.getD x5.toNat (0 : Int)) x0) | 8, [v74] => v74 = .pointer (some ⟨adB A2, adO A2 + x5.toNat * 1, none⟩) | _, _ => True)
                  (C := fun i vs => match i, vs with | 9, [v74] => [.row 3 1 (.slice A2 x2.length c2) x2.length ((x2.set x5.toNat (max (x2.getD x5.toNat (0 : Int)) x0)).flatMap eI)] | _, _ => [])
                  (κ := (fun _ => none)) (Z := (fun | 9 => [.row 3 1 (.slice A2 x2.length c2) x2.length (x2.flatMap eI)] | _ => [])) mixed hF (by kernel_rfl) (show St w0 _ (Asn.row 3 1 (.slice A2 x2.length c2) x2.length (x2.flatMap eI) :: Asn.box g101 32 #[.int .i64 x3, .int .i64 x4, .int .i64 x5] :: Asn.box g0 28 #[.int .i64 x0, .int .i64 x1, .slice A2 x2.length c2] :: X) from S.selT (M := [.row 3 1 (.slice A2 x2.length c2) x2.length (x2.flatMap eI), .box g101 32 #[.int .i64 x3, .int .i64 x4, .int .i64 x5], .box g0 28 #[.int .i64 x0, .int .i64 x1, .slice A2 x2.length c2]]) 3 [2, 0, 1] rfl rfl rfl) ?_ ?_
                · refine ⟨?_, ?_, ?_, ?_, ?_, ?_, ?_, ?_, ?_, ?_, trivial⟩
                  · intro a u X' hB hp hr hz hl S
                    replace S : St w0 u ([] ++ X') := S
                    exact .inl ⟨rfl, .pointer (some ⟨adB A2, adO A2 + x5.toNat * 1, none⟩), u, (run_move rfl (hF.evB hB rfl rfl)), rfl, S⟩
                  · intro a u X' hB hp hr hz hl S
                    replace S : St w0 u ([] ++ X') := S
                    exact .inl ⟨rfl, .pointer (some ⟨adB A2, adO A2 + x5.toNat * 1, none⟩), u, (run_move rfl (hF.evB hB rfl rfl)), rfl, S⟩
                  · intro a u X' hB hp hr hz hl S
                    replace S : St w0 u ([] ++ X') := S
                    have e67 : sl a 67 = .pointer (some ⟨adB A2, adO A2 + x5.toNat * 1, none⟩) := hp 1 rfl
                    exact .inl ⟨rfl, .pointer (some ⟨adB A2, adO A2 + x5.toNat * 1, none⟩), u, (run_nilCheck rfl (ev_sl e67)), rfl, S⟩
                  · intro a u X' hB hp hr hz hl S
                    replace S : St w0 u ([] ++ X') := S
                    have e68 : sl a 68 = .pointer (some ⟨adB A2, adO A2 + x5.toNat * 1, none⟩) := hp 2 rfl
                    exact .inl ⟨rfl, .int .i64 (x2.getD x5.toNat (0 : Int)), u, (run_load1 rfl one3 (ev_sl e68) (rd_el0 (l := x2) (own_rc (show World.ownsRow _ 0 _ _ _ _ _ from S.mem (List.mem_append_right _ (hz 9 (List.mem_of_getElem? (i := 0) rfl) _ (List.mem_of_getElem? (i := 0) rfl))))).rd rfl eI_len (0 : Int) (ix_ltn hk116 rfl) rfl)), rfl, S⟩
                  · intro a u X' hB hp hr hz hl S
                    replace S : St w0 u ([] ++ X') := S
                    exact .inl ⟨rfl, .pointer (some ⟨g0, 0, none⟩), u, (run_move rfl (hF.evB hB rfl rfl)), rfl, S⟩
                  · intro a u X' hB hp hr hz hl S
                    replace S : St w0 u ([] ++ X') := S
                    have e70 : sl a 70 = .pointer (some ⟨g0, 0, none⟩) := hp 4 rfl
                    exact .inl ⟨rfl, .pointer (some ⟨g0, 0, none⟩), u, (run_nilCheck rfl (ev_sl e70)), rfl, S⟩
                  · intro a u X' hB hp hr hz hl S
                    replace S : St w0 u ([] ++ X') := S
                    have e71 : sl a 71 = .pointer (some ⟨g0, 0, none⟩) := hp 5 rfl
                    exact .inl ⟨rfl, .int .i64 x0, u, (run_load1 rfl one3 (ev_sl e71) ((gr_box S hl 1 rfl).cell rfl)), rfl, S⟩
                  · intro a u X' hB hp hr hz hl S
                    replace S : St w0 u ([] ++ X') := S
                    have e69 : sl a 69 = .int .i64 (x2.getD x5.toNat (0 : Int)) := hp 3 rfl
                    have e72 : sl a 72 = .int .i64 x0 := hp 6 rfl
                    exact .inl ⟨rfl, .int .i64 (max (x2.getD x5.toNat (0 : Int)) x0), u, (run_max rfl (ev_sl e69) (ev_sl e72)), rfl, S⟩
                  · intro a u X' hB hp hr hz hl S
                    replace S : St w0 u ([] ++ X') := S
                    have e66 : sl a 66 = .pointer (some ⟨adB A2, adO A2 + x5.toNat * 1, none⟩) := hp 0 rfl
                    exact .inl ⟨rfl, .pointer (some ⟨adB A2, adO A2 + x5.toNat * 1, none⟩), u, (run_nilCheck rfl (ev_sl e66)), rfl, S⟩
                  · intro a u X' hB hp hr hz hl S
                    replace S : St w0 u ([.row 3 1 (.slice A2 x2.length c2) x2.length (x2.flatMap eI)] ++ X') := S
                    have e73 : sl a 73 = .int .i64 (max (x2.getD x5.toNat (0 : Int)) x0) := hp 7 rfl
                    have e74 : sl a 74 = .pointer (some ⟨adB A2, adO A2 + x5.toNat * 1, none⟩) := hp 8 rfl
                    obtain ⟨w', hrun, S'⟩ := run_storeElN (P := Try.prog) (ρ := a.eval) (y0 := max (x2.getD x5.toNat (0 : Int)) x0) (off := 0) S 3 (.tmp 74) (.tmp 73) (i := 0) sz3 (ev_sl e74) (ev_sl e73) rfl rfl rfl rfl rfl eI_len (0 : Int) (ix_ltn hk116 rfl) rfl rfl
                    exact .inr (.inl ⟨rfl, w', hrun _ rfl, trivial, S'⟩)
                · intro a u hB hp S
                  obtain ⟨q0, q1, q2, q3, q4, q5, q6, q7, q8, q9, _⟩ := hp
                  have e66 : sl a 66 = .pointer (some ⟨adB A2, adO A2 + x5.toNat * 1, none⟩) := q0
                  have e67 : sl a 67 = .pointer (some ⟨adB A2, adO A2 + x5.toNat * 1, none⟩) := q1
                  have e68 : sl a 68 = .pointer (some ⟨adB A2, adO A2 + x5.toNat * 1, none⟩) := q2
                  have e69 : sl a 69 = .int .i64 (x2.getD x5.toNat (0 : Int)) := q3
                  have e70 : sl a 70 = .pointer (some ⟨g0, 0, none⟩) := q4
                  have e71 : sl a 71 = .pointer (some ⟨g0, 0, none⟩) := q5
                  have e72 : sl a 72 = .int .i64 x0 := q6
                  have e73 : sl a 73 = .int .i64 (max (x2.getD x5.toNat (0 : Int)) x0) := q7
                  have e74 : sl a 74 = .pointer (some ⟨adB A2, adO A2 + x5.toNat * 1, none⟩) := q8
                  replace S : St w0 u (Asn.row 3 1 (.slice A2 x2.length c2) x2.length ((x2.set x5.toNat (max (x2.getD x5.toNat (0 : Int)) x0)).flatMap eI) :: Asn.box g101 32 #[.int .i64 x3, .int .i64 x4, .int .i64 x5] :: Asn.box g0 28 #[.int .i64 x0, .int .i64 x1, .slice A2 x2.length c2] :: X) := S
                  clear q0 q1 q2 q3 q4 q5 q6 q7 q8 q9
                  have hF := hF.region hB [(66, .pointer (some ⟨adB A2, adO A2 + x5.toNat * 1, none⟩)), (67, .pointer (some ⟨adB A2, adO A2 + x5.toNat * 1, none⟩)), (68, .pointer (some ⟨adB A2, adO A2 + x5.toNat * 1, none⟩)), (69, .int .i64 (x2.getD x5.toNat (0 : Int))), (70, .pointer (some ⟨g0, 0, none⟩)), (71, .pointer (some ⟨g0, 0, none⟩)), (72, .int .i64 x0), (73, .int .i64 (max (x2.getD x5.toNat (0 : Int)) x0)), (74, .pointer (some ⟨adB A2, adO A2 + x5.toNat * 1, none⟩))] (allSl_mem ⟨e66, e67, e68, e69, e70, e71, e72, e73, e74, trivial⟩) rfl
                  clear hB e66 e67 e68 e69 e70 e71 e72 e73 e74
                  refine wp_seq ?_
                  refine wp_region_lit ?_
                  refine op_val (v := .bool true) rfl rfl hF rfl (run_assign rfl rfl) ?_; clear hF; intro a hF
                  refine wpList_nil ?_
                  refine wp_ret ?_
                  repeat with_reducible (first | refine then_ret ?_ | refine in_ret ?_ | refine in_nrm ?_)
                  refine ret1_gw (.inl rfl) hF rfl (res_tmp (hF.ev rfl)) ?_
                  obtain rfl := Option.some.inj hM
                  exact ⟨A2, x2.length, c2, rfl, (len_set rfl), S.selT (M := [.box g0 28 #[.int .i64 x0, .int .i64 x1, .slice A2 x2.length c2], .row 3 1 (.slice A2 x2.length c2) x2.length ((x2.set x5.toNat (max (x2.getD x5.toNat (0 : Int)) x0)).flatMap eI)]) 3 [2, 0] rfl rfl rfl⟩
            · replace hM := bif_t hc117 hM
              refine cond_t hF rfl hc117 ?_
              refine wp_seq ?_
              refine wp_seq ?_
              refine region_gw (D := [47, 48, 49, 50, 51, 52, 53]) (Lr := (Asn.box g101 32 #[.int .i64 x3, .int .i64 x4, .int .i64 x5] :: Asn.box g0 28 #[.int .i64 x0, .int .i64 x1, .slice A2 x2.length c2] :: Asn.row 3 1 (.slice A2 x2.length c2) x2.length (x2.flatMap eI) :: X)) (deps := (fun | 0 => [47] | 1 => [48] | 2 => [49] | 3 => [50] | 4 => [51] | 5 => [52] | 6 => [53] | _ => [])) (rd := (fun _ => [])) (zr := (fun _ => []))
                (φ := fun i vs => match i, vs with | 0, [v47] => v47 = .pointer (some ⟨adB A2, adO A2 + x5.toNat * 1, none⟩) | 1, [v48] => v48 = .pointer (some ⟨adB A2, adO A2 + x5.toNat * 1, none⟩) | 2, [v49] => v49 = .int .i64 (x2.getD x5.toNat (0 : Int)) | 3, [v50] => v50 = .pointer (some ⟨g0, 0, none⟩) | 4, [v51] => v51 = .pointer (some ⟨g0, 0, none⟩) | 5, [v52] => v52 = .int .i64 x0 | 6, [v53] => v53 = .bool (ltB x0 (x2.getD x5.toNat (0 : Int))) | _, _ => True)
                (C := fun _ _ => [])
                (κ := (fun _ => none)) (Z := (fun _ => [])) mixed hF (by kernel_rfl) S ?_ ?_
              · refine ⟨?_, ?_, ?_, ?_, ?_, ?_, ?_, trivial⟩
                · intro a u X' hB hp hr hz hl S
                  replace S : St w0 u ([] ++ X') := S
                  exact .inl ⟨rfl, .pointer (some ⟨adB A2, adO A2 + x5.toNat * 1, none⟩), u, (run_move rfl (hF.evB hB rfl rfl)), rfl, S⟩
                · intro a u X' hB hp hr hz hl S
                  replace S : St w0 u ([] ++ X') := S
                  have e47 : sl a 47 = .pointer (some ⟨adB A2, adO A2 + x5.toNat * 1, none⟩) := hp 0 rfl
                  exact .inl ⟨rfl, .pointer (some ⟨adB A2, adO A2 + x5.toNat * 1, none⟩), u, (run_nilCheck rfl (ev_sl e47)), rfl, S⟩
                · intro a u X' hB hp hr hz hl S
                  replace S : St w0 u ([] ++ X') := S
                  have e48 : sl a 48 = .pointer (some ⟨adB A2, adO A2 + x5.toNat * 1, none⟩) := hp 1 rfl
                  exact .inl ⟨rfl, .int .i64 (x2.getD x5.toNat (0 : Int)), u, (run_load1 rfl one3 (ev_sl e48) (rd_el0 (l := x2) (gr_rc S hl 2 rfl).rd rfl eI_len (0 : Int) (ix_ltn hk116 rfl) rfl)), rfl, S⟩
                · intro a u X' hB hp hr hz hl S
                  replace S : St w0 u ([] ++ X') := S
                  exact .inl ⟨rfl, .pointer (some ⟨g0, 0, none⟩), u, (run_move rfl (hF.evB hB rfl rfl)), rfl, S⟩
                · intro a u X' hB hp hr hz hl S
                  replace S : St w0 u ([] ++ X') := S
                  have e50 : sl a 50 = .pointer (some ⟨g0, 0, none⟩) := hp 3 rfl
                  exact .inl ⟨rfl, .pointer (some ⟨g0, 0, none⟩), u, (run_nilCheck rfl (ev_sl e50)), rfl, S⟩
                · intro a u X' hB hp hr hz hl S
                  replace S : St w0 u ([] ++ X') := S
                  have e51 : sl a 51 = .pointer (some ⟨g0, 0, none⟩) := hp 4 rfl
                  exact .inl ⟨rfl, .int .i64 x0, u, (run_load1 rfl one3 (ev_sl e51) ((gr_box S hl 1 rfl).cell rfl)), rfl, S⟩
                · intro a u X' hB hp hr hz hl S
                  replace S : St w0 u ([] ++ X') := S
                  have e49 : sl a 49 = .int .i64 (x2.getD x5.toNat (0 : Int)) := hp 2 rfl
                  have e52 : sl a 52 = .int .i64 x0 := hp 5 rfl
                  exact .inl ⟨rfl, .bool (ltB x0 (x2.getD x5.toNat (0 : Int))), u, (run_gtr (ev_sl e49) (ev_sl e52) rfl), rfl, S⟩
              · intro a u hB hp S
                obtain ⟨q0, q1, q2, q3, q4, q5, q6, _⟩ := hp
                have e47 : sl a 47 = .pointer (some ⟨adB A2, adO A2 + x5.toNat * 1, none⟩) := q0
                have e48 : sl a 48 = .pointer (some ⟨adB A2, adO A2 + x5.toNat * 1, none⟩) := q1
                have e49 : sl a 49 = .int .i64 (x2.getD x5.toNat (0 : Int)) := q2
                have e50 : sl a 50 = .pointer (some ⟨g0, 0, none⟩) := q3
                have e51 : sl a 51 = .pointer (some ⟨g0, 0, none⟩) := q4
                have e52 : sl a 52 = .int .i64 x0 := q5
                have e53 : sl a 53 = .bool (ltB x0 (x2.getD x5.toNat (0 : Int))) := q6
                replace S : St w0 u (Asn.box g101 32 #[.int .i64 x3, .int .i64 x4, .int .i64 x5] :: Asn.box g0 28 #[.int .i64 x0, .int .i64 x1, .slice A2 x2.length c2] :: Asn.row 3 1 (.slice A2 x2.length c2) x2.length (x2.flatMap eI) :: X) := S
                clear q0 q1 q2 q3 q4 q5 q6
                have hF := hF.region hB [(47, .pointer (some ⟨adB A2, adO A2 + x5.toNat * 1, none⟩)), (48, .pointer (some ⟨adB A2, adO A2 + x5.toNat * 1, none⟩)), (49, .int .i64 (x2.getD x5.toNat (0 : Int))), (50, .pointer (some ⟨g0, 0, none⟩)), (51, .pointer (some ⟨g0, 0, none⟩)), (52, .int .i64 x0), (53, .bool (ltB x0 (x2.getD x5.toNat (0 : Int))))] (allSl_mem ⟨e47, e48, e49, e50, e51, e52, e53, trivial⟩) rfl
                clear hB e47 e48 e49 e50 e51 e52 e53
                obtain ⟨o120, hM121, hM⟩ := bind_ex hM
                refine wp_cut (fun a u => ∃ (p119 : Int), p119 = o120 ∧ Fr a 75 [(4, .bool false), (5, .pointer (some ⟨g0, 0, none⟩))] ∧ St w0 u (Asn.box g101 32 #[.int .i64 x3, .int .i64 x4, .int .i64 x5] :: Asn.box g0 28 #[.int .i64 p119, .int .i64 x1, .slice A2 x2.length c2] :: Asn.row 3 1 (.slice A2 x2.length c2) x2.length (x2.flatMap eI) :: X)) ?_ ?_
                · have _ := trivial
                  cases hc122 : (ltB x0 (x2.getD x5.toNat (0 : Int)))
                  · replace hM121 := bif_f hc122 hM121
                    refine cond_f hF rfl hc122 ?_
                    refine wp_skip ?_
                    obtain rfl := Option.some.inj hM121
                    exact ⟨x0, rfl, hF.keep _ ⟨rfl, rfl, trivial⟩, S.selT (M := [.box g101 32 #[.int .i64 x3, .int .i64 x4, .int .i64 x5], .box g0 28 #[.int .i64 x0, .int .i64 x1, .slice A2 x2.length c2], .row 3 1 (.slice A2 x2.length c2) x2.length (x2.flatMap eI)]) 3 [0, 1, 2] rfl rfl rfl⟩
                  · replace hM121 := bif_t hc122 hM121
                    refine cond_t hF rfl hc122 ?_
                    refine wp_region_lit ?_
                    refine op_val (v := .pointer (some ⟨g0, 0, none⟩)) rfl rfl hF rfl (run_move rfl (hF.ev rfl)) ?_; clear hF; intro a hF
                    refine op_val (v := .pointer (some ⟨adB A2, adO A2 + x5.toNat * 1, none⟩)) rfl rfl hF rfl (run_move rfl (hF.ev rfl)) ?_; clear hF; intro a hF
                    refine op_val (v := .pointer (some ⟨adB A2, adO A2 + x5.toNat * 1, none⟩)) rfl rfl hF rfl (run_nilCheck rfl (hF.ev rfl)) ?_; clear hF; intro a hF
                    refine op_val (v := .int .i64 (x2.getD x5.toNat (0 : Int))) rfl rfl hF rfl (run_load1 rfl one3 (hF.ev rfl) (rd_el0 (l := x2) (S.rc 2 rfl).rd rfl eI_len (0 : Int) (ix_ltn hk116 rfl) rfl)) ?_; clear hF; intro a hF
                    refine op_val (v := .int .i64 (w64 ((x2.getD x5.toNat (0 : Int)) + 1))) rfl rfl hF rfl (run_add (z := w64 ((x2.getD x5.toNat (0 : Int)) + 1)) (hF.ev rfl) rfl rfl rfl) ?_; clear hF; intro a hF
                    refine op_val (v := .pointer (some ⟨g0, 0, none⟩)) rfl rfl hF rfl (run_nilCheck rfl (hF.ev rfl)) ?_; clear hF; intro a hF
                    refine op_do rfl rfl (run_store (cs' := #[.int .i64 (w64 ((x2.getD x5.toNat (0 : Int)) + 1)), .int .i64 x1, .slice A2 x2.length c2]) rfl sz3 (hF.ev rfl) (hF.ev rfl) rfl rfl rfl (S.free 1 rfl) rfl rfl) ?_; replace S := S.put 1 rfl (#[.int .i64 (w64 ((x2.getD x5.toNat (0 : Int)) + 1)), .int .i64 x1, .slice A2 x2.length c2])
                    generalize World.setRow _ _ _ = u at S ⊢
                    refine wpList_nil ?_
                    obtain rfl := Option.some.inj hM121
                    exact ⟨w64 ((x2.getD x5.toNat (0 : Int)) + 1), rfl, hF.keep _ ⟨rfl, rfl, trivial⟩, S.selT (M := [.box g101 32 #[.int .i64 x3, .int .i64 x4, .int .i64 x5], .box g0 28 #[.int .i64 (w64 ((x2.getD x5.toNat (0 : Int)) + 1)), .int .i64 x1, .slice A2 x2.length c2], .row 3 1 (.slice A2 x2.length c2) x2.length (x2.flatMap eI)]) 3 [0, 1, 2] rfl rfl rfl⟩
                · rintro a u ⟨p119, rfl, hF, S⟩
                  refine wp_seq ?_
                  refine wp_region_lit ?_
                  refine op_val (v := .pointer (some ⟨g0, 0, none⟩)) rfl rfl hF rfl (run_move rfl (hF.ev rfl)) ?_; clear hF; intro a hF
                  refine op_val (v := .pointer (some ⟨g0, 0, none⟩)) rfl rfl hF rfl (run_nilCheck rfl (hF.ev rfl)) ?_; clear hF; intro a hF
                  refine op_val (v := .int .i64 p119) rfl rfl hF rfl (run_load1 rfl one3 (hF.ev rfl) ((S.free 1 rfl).cell rfl)) ?_; clear hF; intro a hF
                  obtain ⟨p123, h123, hM⟩ := bind_ex hM
                  refine op_call rfl rfl hF rfl (run_call (vs := [.int .i64 p119]) rfl rfl co36 ⟨(hF.ev rfl), trivial⟩) (c_impl_epochValid (x0 := p119)  h123) ?_
                  rintro e u ⟨rfl, T⟩
                  refine ⟨_, rfl, ?_⟩
                  clear hF; intro a hF
                  replace S := S.call0 T; clear T
                  refine op_val (v := .bool p123) rfl rfl hF rfl (run_assign rfl (hF.ev rfl)) ?_; clear hF; intro a hF
                  refine wpList_nil ?_
                  refine wp_ret ?_
                  repeat with_reducible (first | refine then_ret ?_ | refine in_ret ?_ | refine in_nrm ?_)
                  refine ret1_gw (.inl rfl) hF rfl (res_tmp (hF.ev rfl)) ?_
                  obtain rfl := Option.some.inj hM
                  exact ⟨A2, x2.length, c2, rfl, rfl, S.selT (M := [.box g0 28 #[.int .i64 p119, .int .i64 x1, .slice A2 x2.length c2], .row 3 1 (.slice A2 x2.length c2) x2.length (x2.flatMap eI)]) 3 [1, 2] rfl rfl rfl⟩
        · replace hM := bif_t hc115 hM
          refine cond_t hF rfl hc115 ?_
          refine wp_seq ?_
          refine wp_region_lit ?_
          refine op_val (v := .bool false) rfl rfl hF rfl (run_assign rfl rfl) ?_; clear hF; intro a hF
          refine wpList_nil ?_
          refine wp_ret ?_
          repeat with_reducible (first | refine then_ret ?_ | refine in_ret ?_ | refine in_nrm ?_)
          refine ret1_gw (.inl rfl) hF rfl (res_tmp (hF.ev rfl)) ?_
          obtain rfl := Option.some.inj hM
          exact ⟨A2, x2.length, c2, rfl, rfl, S.selT (M := [.box g0 28 #[.int .i64 x0, .int .i64 x1, .slice A2 x2.length c2], .row 3 1 (.slice A2 x2.length c2) x2.length (x2.flatMap eI)]) 3 [1, 2] rfl rfl rfl⟩
    · replace hM := bif_t hc114 hM
      refine cond_t hF rfl hc114 ?_
      refine wp_seq ?_
      refine wp_region_lit ?_
      refine op_val (v := .pointer (some ⟨g0, 0, none⟩)) rfl rfl hF rfl (run_move rfl (hF.ev rfl)) ?_; clear hF; intro a hF
      refine op_val (v := .pointer (some ⟨g0, 0, none⟩)) rfl rfl hF rfl (run_nilCheck rfl (hF.ev rfl)) ?_; clear hF; intro a hF
      refine op_val (v := .int .i64 x0) rfl rfl hF rfl (run_load1 rfl one3 (hF.ev rfl) ((S.free 1 rfl).cell rfl)) ?_; clear hF; intro a hF
      refine op_val (v := .int .i64 (w64 (x0 + 2))) rfl rfl hF rfl (run_add (z := w64 (x0 + 2)) (hF.ev rfl) rfl rfl rfl) ?_; clear hF; intro a hF
      refine op_val (v := .pointer (some ⟨g0, 0, none⟩)) rfl rfl hF rfl (run_nilCheck rfl (hF.ev rfl)) ?_; clear hF; intro a hF
      refine op_do rfl rfl (run_store (cs' := #[.int .i64 (w64 (x0 + 2)), .int .i64 x1, .slice A2 x2.length c2]) rfl sz3 (hF.ev rfl) (hF.ev rfl) rfl rfl rfl (S.free 1 rfl) rfl rfl) ?_; replace S := S.put 1 rfl (#[.int .i64 (w64 (x0 + 2)), .int .i64 x1, .slice A2 x2.length c2])
      generalize World.setRow _ _ _ = u at S ⊢
      refine wpList_nil ?_
      refine wp_seq ?_
      refine wp_region_lit ?_
      refine op_val (v := .pointer (some ⟨g0, 0, none⟩)) rfl rfl hF rfl (run_move rfl (hF.ev rfl)) ?_; clear hF; intro a hF
      refine op_val (v := .pointer (some ⟨g0, 0, none⟩)) rfl rfl hF rfl (run_nilCheck rfl (hF.ev rfl)) ?_; clear hF; intro a hF
      refine op_val (v := .int .i64 (w64 (x0 + 2))) rfl rfl hF rfl (run_load1 rfl one3 (hF.ev rfl) ((S.free 1 rfl).cell rfl)) ?_; clear hF; intro a hF
      obtain ⟨p124, h124, hM⟩ := bind_ex hM
      refine op_call rfl rfl hF rfl (run_call (vs := [.int .i64 (w64 (x0 + 2))]) rfl rfl co36 ⟨(hF.ev rfl), trivial⟩) (c_impl_epochValid (x0 := w64 (x0 + 2))  h124) ?_
      rintro e u ⟨rfl, T⟩
      refine ⟨_, rfl, ?_⟩
      clear hF; intro a hF
      replace S := S.call0 T; clear T
      refine op_val (v := .bool p124) rfl rfl hF rfl (run_assign rfl (hF.ev rfl)) ?_; clear hF; intro a hF
      refine wpList_nil ?_
      refine wp_ret ?_
      repeat with_reducible (first | refine then_ret ?_ | refine in_ret ?_ | refine in_nrm ?_)
      refine ret1_gw (.inl rfl) hF rfl (res_tmp (hF.ev rfl)) ?_
      obtain rfl := Option.some.inj hM
      exact ⟨A2, x2.length, c2, rfl, rfl, S.selT (M := [.box g0 28 #[.int .i64 (w64 (x0 + 2)), .int .i64 x1, .slice A2 x2.length c2], .row 3 1 (.slice A2 x2.length c2) x2.length (x2.flatMap eI)]) 3 [1, 2] rfl rfl rfl⟩

end Go.Proofs.Ythpmmfbnclfbmaa
