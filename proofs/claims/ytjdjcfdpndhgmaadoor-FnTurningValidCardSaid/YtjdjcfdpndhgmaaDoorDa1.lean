/- Calls return what the models say. -/
import Derived.Test.YtjdjcfdpndhgmaaDoorDaT
namespace Go.Proofs.YtjdjcfdpndhgmaaDoor
open Go.ChangeShapes Go.WideShapes Go.ChangeAt Go.RowKit
set_option linter.unusedVariables false
set_option linter.unusedSimpArgs false

theorem c_spec_l20Open {x0 : List Int} {A0 : Option Addr} {n0 c0 : Nat} {w : World} (h0 : Rt w 1 eU A0 n0 c0 x0) :
    Calls Tryd.prog 25 #[.slice A0 n0 c0] w (fun e w' => ∃ G0, e = .returned (.pointer (some ⟨G0, 0, none⟩)) ∧ St w w' [.box G0 57 #[.slice (opA c0 n0 A0) (x0.take 2000).length c0, .int .i64 0]]) := by
  obtain rfl := h0.len
  refine calls_gw Tryd.func25 Tryd.ntmps25 rfl [(0, .slice A0 x0.length c0)] ⟨rfl, trivial⟩ rfl ?_
  intro a hF
  have S := St.nil w
  refine wp_seq ?_
  refine wp_region_lit ?_
  refine op_val (v := .pointer none) rfl rfl hF rfl (run_assign rfl rfl) ?_; clear hF; intro a hF
  refine wpList_nil ?_
  refine wp_seq ?_
  refine wp_seq ?_
  refine wp_region_lit ?_
  refine op_val (v := .slice A0 x0.length c0) rfl rfl hF rfl (run_move rfl (hF.ev rfl)) ?_; clear hF; intro a hF
  refine op_val (v := .int .i64 (x0.length : Int)) rfl rfl hF rfl (run_lenL rfl rfl Tryd.underlying22 (hF.ev rfl)) ?_; clear hF; intro a hF
  refine op_val (v := .bool (ltB 2000 (x0.length : Int))) rfl rfl hF rfl (run_gtr (hF.ev rfl) rfl rfl) ?_; clear hF; intro a hF
  refine wpList_nil ?_
  cases hc101 : (ltB 2000 (x0.length : Int))
  · have hc101_ := hc101
    refine cond_f hF rfl hc101 ?_
    refine wp_skip ?_
    refine wp_seq ?_
    refine wp_region_lit ?_
    refine op_val (v := .slice A0 x0.length c0) rfl rfl hF rfl (run_move rfl (hF.ev rfl)) ?_; clear hF; intro a hF
    refine op_val (v := .agg #[.slice A0 x0.length c0, .int .i64 0]) rfl rfl hF rfl (run_build (vs := [(0, .slice A0 x0.length c0)]) rfl ⟨⟨rfl, (hF.ev rfl)⟩, trivial⟩ (bd57_0 rfl)) ?_; clear hF; intro a hF
    refine op_new (cs := #[.slice A0 x0.length c0, .int .i64 0]) rfl rfl hF rfl S (run_box rfl (hF.ev rfl) rfl) ?_; clear hF S; intro a g102 u hF S
    refine op_val (v := .pointer (some ⟨g102, 0, none⟩)) rfl rfl hF rfl (run_assign rfl (hF.ev rfl)) ?_; clear hF; intro a hF
    refine wpList_nil ?_
    refine wp_ret ?_
    repeat with_reducible (first | refine then_ret ?_ | refine in_ret ?_ | refine in_nrm ?_)
    refine ret1_gw (.inl rfl) hF rfl (res_tmp (hF.ev rfl)) ?_
    have q1 := ltB_f hc101
    rw [opA, if_neg (by omega), List.take_of_length_le (by omega)]
    exact ⟨g102, rfl, S.sel [0] rfl rfl⟩
  · have hc101_ := hc101
    refine cond_t hF rfl hc101 ?_
    refine wp_region_lit ?_
    refine op_val (v := .slice A0 x0.length c0) rfl rfl hF rfl (run_move rfl (hF.ev rfl)) ?_; clear hF; intro a hF
    have hk103 := slB_t (show slB 0 2000 x0.length = true by have := ltB_t hc101; simp [slB]; omega)
    refine op_val (v := .slice (subA c0 ((0 : Int).toNat) 1 A0) ((subL x0 0 2000).length) (c0 - (0 : Int).toNat)) rfl rfl hF rfl (run_sliceH (l := x0) rfl Tryd.underlying22 sz5 (hF.ev rfl) rfl hk103 rfl (S.rc0 h0.rc).cap) ?_; clear hF; intro a hF
    refine op_val (v := .slice (subA c0 ((0 : Int).toNat) 1 A0) ((subL x0 0 2000).length) (c0 - (0 : Int).toNat)) rfl rfl hF rfl (run_assign rfl (hF.ev rfl)) ?_; clear hF; intro a hF
    refine wpList_nil ?_
    refine wp_seq ?_
    refine wp_region_lit ?_
    refine op_val (v := .slice (subA c0 ((0 : Int).toNat) 1 A0) ((subL x0 0 2000).length) (c0 - (0 : Int).toNat)) rfl rfl hF rfl (run_move rfl (hF.ev rfl)) ?_; clear hF; intro a hF
    refine op_val (v := .agg #[.slice (subA c0 ((0 : Int).toNat) 1 A0) ((subL x0 0 2000).length) (c0 - (0 : Int).toNat), .int .i64 0]) rfl rfl hF rfl (run_build (vs := [(0, .slice (subA c0 ((0 : Int).toNat) 1 A0) ((subL x0 0 2000).length) (c0 - (0 : Int).toNat))]) rfl ⟨⟨rfl, (hF.ev rfl)⟩, trivial⟩ (bd57_0 rfl)) ?_; clear hF; intro a hF
    refine op_new (cs := #[.slice (subA c0 ((0 : Int).toNat) 1 A0) ((subL x0 0 2000).length) (c0 - (0 : Int).toNat), .int .i64 0]) rfl rfl hF rfl S (run_box rfl (hF.ev rfl) rfl) ?_; clear hF S; intro a g104 u hF S
    refine op_val (v := .pointer (some ⟨g104, 0, none⟩)) rfl rfl hF rfl (run_assign rfl (hF.ev rfl)) ?_; clear hF; intro a hF
    refine wpList_nil ?_
    refine wp_ret ?_
    repeat with_reducible (first | refine then_ret ?_ | refine in_ret ?_ | refine in_nrm ?_)
    refine ret1_gw (.inl rfl) hF rfl (res_tmp (hF.ev rfl)) ?_
    have q1 := ltB_t hc101
    rw [opA, if_pos (by omega), take_sub]
    exact ⟨g104, rfl, S.sel [0] rfl rfl⟩

set_option maxHeartbeats 4000000 in
theorem c_impl_Net_hasBus {x0 : Int} {x1 : List (Int × Int × Int)} {x2 : Int} {A1 : Option Addr} {n1 c1 : Nat} {w : World} {r : Bool} (h1 : Rt w 3 eLine A1 n1 c1 x1) (hM : m_impl_Net_hasBus x0 x1 x2 = some r) :
    Calls Tryd.prog 40 #[.agg #[.int .i64 x0, .slice A1 n1 c1], .int .i64 x2] w (fun e w' => e = .returned (.bool r) ∧ St w w' []) := by
  obtain rfl := h1.len
  unfold m_impl_Net_hasBus at hM
  refine calls_gw Tryd.func40 Tryd.ntmps40 rfl [(0, .agg #[.int .i64 x0, .slice A1 x1.length c1]), (1, .int .i64 x2)] ⟨rfl, rfl, trivial⟩ rfl ?_
  intro a hF
  have S := St.nil w
  refine wp_seq ?_
  refine wp_region_lit ?_
  refine op_new (cs := #[.int .i64 x0, .slice A1 x1.length c1]) rfl rfl hF rfl S (run_box rfl (hF.ev rfl) rfl) ?_; clear hF S; intro a g101 u hF S
  refine op_val (v := .bool false) rfl rfl hF rfl (run_assign rfl rfl) ?_; clear hF; intro a hF
  refine wpList_nil ?_
  refine wp_seq ?_
  refine wp_region_lit ?_
  refine op_val (v := .int .i64 x2) rfl rfl hF rfl (run_move rfl (hF.ev rfl)) ?_; clear hF; intro a hF
  refine op_val (v := .bool (leB 0 x2)) rfl rfl hF rfl (run_geq (hF.ev rfl) rfl rfl) ?_; clear hF; intro a hF
  refine op_val (v := .bool (leB 0 x2)) rfl rfl hF rfl (run_move rfl (hF.ev rfl)) ?_; clear hF; intro a hF
  refine op_gv (v := .int .i64 x2) rfl rfl hF rfl (yt (gw_yield hF rfl rfl rfl)) (fun hg => (run_move rfl (hF.ev rfl))) ?_; clear hF; intro a hF
  refine op_gv (v := .pointer (some ⟨g101, 0, none⟩)) rfl rfl hF rfl (yt (gw_yield hF rfl rfl rfl)) (fun hg => (run_fieldAddr rfl fl50_0 (hF.ev rfl) rfl)) ?_; clear hF; intro a hF
  refine op_gv (v := .int .i64 x0) rfl rfl hF rfl (yt (gw_yield hF rfl rfl rfl)) (fun hg => (run_load1 rfl one3 ((hF.ev rfl).trans (gv_t hg)) ((S.free 0 rfl).cell rfl))) ?_; clear hF; intro a hF
  refine op_gv (v := .bool (ltB x2 x0)) rfl rfl hF rfl (yt (gw_yield hF rfl rfl rfl)) (fun hg => (run_lss ((hF.ev rfl).trans (gv_t hg)) ((hF.ev rfl).trans (gv_t hg)) rfl)) ?_; clear hF; intro a hF
  refine op_val (v := .bool ((leB 0 x2) && (ltB x2 x0))) rfl rfl hF rfl (run_pick_and rfl (hF.ev rfl) (fun hp => ((hF.ev rfl).trans (gv_t hp))) rfl) ?_; clear hF; intro a hF
  refine op_val (v := .bool ((leB 0 x2) && (ltB x2 x0))) rfl rfl hF rfl (run_assign rfl (hF.ev rfl)) ?_; clear hF; intro a hF
  refine wpList_nil ?_
  refine wp_ret ?_
  repeat with_reducible (first | refine then_ret ?_ | refine in_ret ?_ | refine in_nrm ?_)
  refine ret1_gw (.inl rfl) hF rfl (res_tmp (hF.ev rfl)) ?_
  obtain rfl := Option.some.inj hM
  exact ⟨rfl, S.sel [] rfl rfl⟩

set_option maxHeartbeats 4000000 in
theorem c_impl_NetValid {x0 : Int} {x1 : List (Int × Int × Int)} {A1 : Option Addr} {n1 c1 : Nat} {w : World} {r : Bool} (h1 : Rt w 3 eLine A1 n1 c1 x1) (hM : m_impl_NetValid x0 x1 = some r) :
    Calls Tryd.prog 34 #[.agg #[.int .i64 x0, .slice A1 n1 c1]] w (fun e w' => e = .returned (.bool r) ∧ St w w' []) := by
  obtain rfl := h1.len
  unfold m_impl_NetValid at hM
  refine calls_gw Tryd.func34 Tryd.ntmps34 rfl [(0, .agg #[.int .i64 x0, .slice A1 x1.length c1])] ⟨rfl, trivial⟩ rfl ?_
  intro a hF
  have S := St.nil w
  refine wp_seq ?_
  refine wp_region_lit ?_
  refine op_new (cs := #[.int .i64 x0, .slice A1 x1.length c1]) rfl rfl hF rfl S (run_box rfl (hF.ev rfl) rfl) ?_; clear hF S; intro a g101 u hF S
  refine op_val (v := .bool false) rfl rfl hF rfl (run_assign rfl rfl) ?_; clear hF; intro a hF
  refine wpList_nil ?_
  refine wp_seq ?_
  refine wp_seq ?_
  refine wp_region_lit ?_
  refine op_val (v := .pointer (some ⟨g101, 0, none⟩)) rfl rfl hF rfl (run_fieldAddr rfl fl50_0 (hF.ev rfl) rfl) ?_; clear hF; intro a hF
  refine op_val (v := .int .i64 x0) rfl rfl hF rfl (run_load1 rfl one3 (hF.ev rfl) ((S.free 0 rfl).cell rfl)) ?_; clear hF; intro a hF
  refine op_val (v := .bool (ltB x0 1)) rfl rfl hF rfl (run_lss (hF.ev rfl) rfl rfl) ?_; clear hF; intro a hF
  refine op_val (v := .bool (ltB x0 1)) rfl rfl hF rfl (run_move rfl (hF.ev rfl)) ?_; clear hF; intro a hF
  refine op_gv (v := .pointer (some ⟨g101, 0, none⟩)) rfl rfl hF rfl (yf (gw_yield hF rfl rfl rfl)) (fun hg => (run_fieldAddr rfl fl50_0 (hF.ev rfl) rfl)) ?_; clear hF; intro a hF
  refine op_gv (v := .int .i64 x0) rfl rfl hF rfl (yf (gw_yield hF rfl rfl rfl)) (fun hg => (run_load1 rfl one3 ((hF.ev rfl).trans (gv_t hg)) ((S.free 0 rfl).cell rfl))) ?_; clear hF; intro a hF
  refine op_gv (v := .bool (ltB 8 x0)) rfl rfl hF rfl (yf (gw_yield hF rfl rfl rfl)) (fun hg => (run_gtr ((hF.ev rfl).trans (gv_t hg)) rfl rfl)) ?_; clear hF; intro a hF
  refine op_val (v := .bool ((ltB x0 1) || (ltB 8 x0))) rfl rfl hF rfl (run_pick_or rfl (hF.ev rfl) rfl (fun hp => ((hF.ev rfl).trans (gv_t (not_t hp))))) ?_; clear hF; intro a hF
  refine op_val (v := .bool ((ltB x0 1) || (ltB 8 x0))) rfl rfl hF rfl (run_move rfl (hF.ev rfl)) ?_; clear hF; intro a hF
  refine op_gv (v := .pointer (some ⟨g101, 1, none⟩)) rfl rfl hF rfl (yf (gw_yield hF rfl rfl rfl)) (fun hg => (run_fieldAddr rfl fl50_1 (hF.ev rfl) rfl)) ?_; clear hF; intro a hF
  refine op_gv (v := .slice A1 x1.length c1) rfl rfl hF rfl (yf (gw_yield hF rfl rfl rfl)) (fun hg => (run_load1 rfl one48 ((hF.ev rfl).trans (gv_t hg)) ((S.free 0 rfl).cell rfl))) ?_; clear hF; intro a hF
  refine op_gv (v := .int .i64 (x1.length : Int)) rfl rfl hF rfl (yf (gw_yield hF rfl rfl rfl)) (fun hg => (run_lenL rfl rfl Tryd.underlying48 ((hF.ev rfl).trans (gv_t hg)))) ?_; clear hF; intro a hF
  refine op_gv (v := .bool (ltB 10 (x1.length : Int))) rfl rfl hF rfl (yf (gw_yield hF rfl rfl rfl)) (fun hg => (run_gtr ((hF.ev rfl).trans (gv_t hg)) rfl rfl)) ?_; clear hF; intro a hF
  refine op_val (v := .bool (((ltB x0 1) || (ltB 8 x0)) || (ltB 10 (x1.length : Int)))) rfl rfl hF rfl (run_pick_or rfl (hF.ev rfl) rfl (fun hp => ((hF.ev rfl).trans (gv_t (not_t hp))))) ?_; clear hF; intro a hF
  refine wpList_nil ?_
  cases hc102 : (((ltB x0 1) || (ltB 8 x0)) || (ltB 10 (x1.length : Int)))
  · replace hM := bif_f hc102 hM
    refine cond_f hF rfl hc102 ?_
    refine wp_skip ?_
    refine wp_seq ?_
    refine wp_seq ?_
    refine wp_region_lit ?_
    refine op_val (v := .pointer (some ⟨g101, 1, none⟩)) rfl rfl hF rfl (run_fieldAddr rfl fl50_1 (hF.ev rfl) rfl) ?_; clear hF; intro a hF
    refine op_val (v := .slice A1 x1.length c1) rfl rfl hF rfl (run_load1 rfl one48 (hF.ev rfl) ((S.free 0 rfl).cell rfl)) ?_; clear hF; intro a hF
    refine op_val (v := .int .i64 (x1.length : Int)) rfl rfl hF rfl (run_lenL rfl rfl Tryd.underlying48 (hF.ev rfl)) ?_; clear hF; intro a hF
    refine op_val (v := .int .i64 0) rfl rfl hF rfl (run_move rfl rfl) ?_; clear hF; intro a hF
    refine wpList_nil ?_
    obtain ⟨o104, hM105, hM⟩ := bind_ex hM
    refine wp_cut (fun a u => ∃ (p103 : Unit), (Sum.inl p103) = o104 ∧ Fr a 56 [(2, .bool false)] ∧ St w u [.box g101 50 #[.int .i64 x0, .slice A1 x1.length c1]]) ?_ ?_
    · have _ := trivial
      refine wp_block ?_
      refine loop_gw (fun m a u => ∃ (p106 : Int), m_impl_NetValid_l1 x0 x1 m p106 = some _ ∧ Fr a 56 [(1, .pointer (some ⟨g101, 0, none⟩)), (2, .bool false), (20, .slice A1 x1.length c1), (21, .int .i64 (x1.length : Int)), (22, .int .i64 p106)] ∧ St w u [.box g101 50 #[.int .i64 x0, .slice A1 x1.length c1]]) FUEL ⟨0, hM105, hF.keep _ ⟨rfl, rfl, rfl, rfl, rfl, trivial⟩, S.sel [0] rfl rfl⟩ ?_
      clear hF S hM105; rintro m a u ⟨p106, hM105, hF, S⟩
      rcases m with _ | f1
      · exact none_some hM105
      rw [m_impl_NetValid_l1.eq_2] at hM105
      refine wp_seq ?_
      refine wp_region_lit ?_
      refine op_val (v := .bool (ltB p106 (x1.length : Int))) rfl rfl hF rfl (run_lss (hF.ev rfl) (hF.ev rfl) rfl) ?_; clear hF; intro a hF
      refine wpList_nil ?_
      refine wp_seq ?_
      cases hc107 : (ltB p106 (x1.length : Int))
      · replace hM105 := bif_f hc107 hM105
        refine cond_f hF rfl hc107 ?_
        refine wp_exit ?_
        repeat with_reducible (first | refine then_exit ?_ | refine in_hit ?_ | refine in_miss rfl ?_)
        obtain rfl := Option.some.inj hM105
        exact ⟨(), rfl, hF.keep _ ⟨rfl, trivial⟩, S.sel [0] rfl rfl⟩
      · replace hM105 := bif_t hc107 hM105
        refine cond_t hF rfl hc107 ?_
        refine wp_skip ?_
        refine wp_seq ?_
        refine wp_block ?_
        refine wp_seq ?_
        refine wp_region_lit ?_
        obtain ⟨hk108, hM105⟩ := chk_ex hM105
        replace hk108 := ixB_t hk108
        refine op_val (v := .pointer (some ⟨adB A1, adO A1 + p106.toNat * 3, none⟩)) rfl rfl hF rfl (run_indexAddr (b := adB A1) (off := adO A1) rfl Tryd.underlying48 sz47 ((hF.ev rfl).trans (congrArg (fun A => Value.slice A x1.length c1) ((S.rc0 h1.rc).rd.ad (ix_pos hk108)))) (hF.ev rfl) hk108.1 hk108.2 (k' := adO A1 + p106.toNat * 3) rfl) ?_; clear hF; intro a hF
        refine op_val (v := .agg #[.int .i64 ((x1.getD p106.toNat ((0, 0, 0) : Int × Int × Int)).1), .int .i64 ((x1.getD p106.toNat ((0, 0, 0) : Int × Int × Int)).2.1), .int .i64 ((x1.getD p106.toNat ((0, 0, 0) : Int × Int × Int)).2.2)]) rfl rfl hF rfl (run_loadN (cs := #[.int .i64 ((x1.getD p106.toNat ((0, 0, 0) : Int × Int × Int)).1), .int .i64 ((x1.getD p106.toNat ((0, 0, 0) : Int × Int × Int)).2.1), .int .i64 ((x1.getD p106.toNat ((0, 0, 0) : Int × Int × Int)).2.2)]) rfl ag47 (hF.ev rfl) rfl (rd_elN (l := x1) (S.rc0 h1.rc).rd rfl eLine_len ((0, 0, 0) : Int × Int × Int) (ix_ltn hk108 rfl) rfl)) ?_; clear hF; intro a hF
        refine op_new (cs := #[.int .i64 0, .int .i64 0, .int .i64 0]) rfl rfl hF rfl S (run_allocZ rfl zr47) ?_; clear hF S; intro a g109 u hF S
        refine op_do rfl rfl (run_store (cs' := #[.int .i64 ((x1.getD p106.toNat ((0, 0, 0) : Int × Int × Int)).1), .int .i64 ((x1.getD p106.toNat ((0, 0, 0) : Int × Int × Int)).2.1), .int .i64 ((x1.getD p106.toNat ((0, 0, 0) : Int × Int × Int)).2.2)]) rfl sz47 (hF.ev rfl) (hF.ev rfl) rfl rfl rfl (S.free 0 rfl) rfl rfl) ?_; replace S := S.put 0 rfl (#[.int .i64 ((x1.getD p106.toNat ((0, 0, 0) : Int × Int × Int)).1), .int .i64 ((x1.getD p106.toNat ((0, 0, 0) : Int × Int × Int)).2.1), .int .i64 ((x1.getD p106.toNat ((0, 0, 0) : Int × Int × Int)).2.2)])
        generalize World.setRow _ _ _ = u at S ⊢
        refine wpList_nil ?_
        refine wp_seq ?_
        refine wp_region_lit ?_
        refine op_val (v := .agg #[.int .i64 x0, .slice A1 x1.length c1]) rfl rfl hF rfl (run_loadN rfl ag50 (hF.ev rfl) rfl ((S.free 1 rfl).cells 0 #[.int .i64 x0, .slice A1 x1.length c1] rfl)) ?_; clear hF; intro a hF
        refine op_val (v := .pointer (some ⟨g109, 0, none⟩)) rfl rfl hF rfl (run_fieldAddr rfl fl47_0 (hF.ev rfl) rfl) ?_; clear hF; intro a hF
        refine op_val (v := .int .i64 ((x1.getD p106.toNat ((0, 0, 0) : Int × Int × Int)).1)) rfl rfl hF rfl (run_load1 rfl one3 (hF.ev rfl) ((S.free 0 rfl).cell rfl)) ?_; clear hF; intro a hF
        obtain ⟨p110, h110, hM105⟩ := bind_ex hM105
        refine op_call rfl rfl hF rfl (run_call (vs := [.agg #[.int .i64 x0, .slice A1 x1.length c1], .int .i64 ((x1.getD p106.toNat ((0, 0, 0) : Int × Int × Int)).1)]) rfl rfl co40 ⟨(hF.ev rfl), (hF.ev rfl), trivial⟩) (c_impl_Net_hasBus (x0 := x0) (x1 := x1) (x2 := (x1.getD p106.toNat ((0, 0, 0) : Int × Int × Int)).1) ⟨(S.rc0 h1.rc), rfl⟩ h110) ?_
        rintro e u ⟨rfl, T⟩
        refine ⟨_, rfl, ?_⟩
        clear hF; intro a hF
        replace S := S.call0 T; clear T
        refine op_val (v := .bool (!p110)) rfl rfl hF rfl (run_not rfl (hF.ev rfl)) ?_; clear hF; intro a hF
        refine op_val (v := .bool (!p110)) rfl rfl hF rfl (run_move rfl (hF.ev rfl)) ?_; clear hF; intro a hF
        refine op_gv (v := .agg #[.int .i64 x0, .slice A1 x1.length c1]) rfl rfl hF rfl (yf (gw_yield hF rfl rfl rfl)) (fun hg => (run_loadN rfl ag50 (hF.ev rfl) rfl ((S.free 1 rfl).cells 0 #[.int .i64 x0, .slice A1 x1.length c1] rfl))) ?_; clear hF; intro a hF
        refine op_gv (v := .pointer (some ⟨g109, 1, none⟩)) rfl rfl hF rfl (yf (gw_yield hF rfl rfl rfl)) (fun hg => (run_fieldAddr rfl fl47_1 (hF.ev rfl) rfl)) ?_; clear hF; intro a hF
        refine op_gv (v := .int .i64 ((x1.getD p106.toNat ((0, 0, 0) : Int × Int × Int)).2.1)) rfl rfl hF rfl (yf (gw_yield hF rfl rfl rfl)) (fun hg => (run_load1 rfl one3 ((hF.ev rfl).trans (gv_t hg)) ((S.free 0 rfl).cell rfl))) ?_; clear hF; intro a hF
        obtain ⟨p111, h111, hM105⟩ := bind_ex hM105
        refine op_gcall (v := .bool p111) rfl rfl hF rfl S (yf (gw_yield hF rfl rfl rfl)) (fun hg => (run_call (vs := [.agg #[.int .i64 x0, .slice A1 x1.length c1], .int .i64 ((x1.getD p106.toNat ((0, 0, 0) : Int × Int × Int)).2.1)]) rfl rfl co40 ⟨((hF.ev rfl).trans (gv_t hg)), ((hF.ev rfl).trans (gv_t hg)), trivial⟩)) (fun hg => c_impl_Net_hasBus (x0 := x0) (x1 := x1) (x2 := (x1.getD p106.toNat ((0, 0, 0) : Int × Int × Int)).2.1) ⟨(S.rc0 h1.rc), rfl⟩ (gb_t h111 hg)) ?_; clear hF S; intro a u hF S
        refine op_gv (v := .bool (!p111)) rfl rfl hF rfl (yf (gw_yield hF rfl rfl rfl)) (fun hg => (run_not rfl ((hF.ev rfl).trans (gv_t hg)))) ?_; clear hF; intro a hF
        refine op_val (v := .bool ((!p110) || (!p111))) rfl rfl hF rfl (run_pick_or rfl (hF.ev rfl) rfl (fun hp => ((hF.ev rfl).trans (gv_t (not_t hp))))) ?_; clear hF; intro a hF
        refine op_val (v := .bool ((!p110) || (!p111))) rfl rfl hF rfl (run_move rfl (hF.ev rfl)) ?_; clear hF; intro a hF
        refine op_gv (v := .pointer (some ⟨g109, 0, none⟩)) rfl rfl hF rfl (yf (gw_yield hF rfl rfl rfl)) (fun hg => (run_fieldAddr rfl fl47_0 (hF.ev rfl) rfl)) ?_; clear hF; intro a hF
        refine op_gv (v := .int .i64 ((x1.getD p106.toNat ((0, 0, 0) : Int × Int × Int)).1)) rfl rfl hF rfl (yf (gw_yield hF rfl rfl rfl)) (fun hg => (run_load1 rfl one3 ((hF.ev rfl).trans (gv_t hg)) ((S.free 0 rfl).cell rfl))) ?_; clear hF; intro a hF
        refine op_gv (v := .pointer (some ⟨g109, 1, none⟩)) rfl rfl hF rfl (yf (gw_yield hF rfl rfl rfl)) (fun hg => (run_fieldAddr rfl fl47_1 (hF.ev rfl) rfl)) ?_; clear hF; intro a hF
        refine op_gv (v := .int .i64 ((x1.getD p106.toNat ((0, 0, 0) : Int × Int × Int)).2.1)) rfl rfl hF rfl (yf (gw_yield hF rfl rfl rfl)) (fun hg => (run_load1 rfl one3 ((hF.ev rfl).trans (gv_t hg)) ((S.free 0 rfl).cell rfl))) ?_; clear hF; intro a hF
        refine op_gv (v := .bool (((x1.getD p106.toNat ((0, 0, 0) : Int × Int × Int)).1) == ((x1.getD p106.toNat ((0, 0, 0) : Int × Int × Int)).2.1))) rfl rfl hF rfl (yf (gw_yield hF rfl rfl rfl)) (fun hg => (run_eql ((hF.ev rfl).trans (gv_t hg)) ((hF.ev rfl).trans (gv_t hg)) rfl)) ?_; clear hF; intro a hF
        refine op_val (v := .bool (((!p110) || (!p111)) || (((x1.getD p106.toNat ((0, 0, 0) : Int × Int × Int)).1) == ((x1.getD p106.toNat ((0, 0, 0) : Int × Int × Int)).2.1)))) rfl rfl hF rfl (run_pick_or rfl (hF.ev rfl) rfl (fun hp => ((hF.ev rfl).trans (gv_t (not_t hp))))) ?_; clear hF; intro a hF
        refine op_val (v := .bool (((!p110) || (!p111)) || (((x1.getD p106.toNat ((0, 0, 0) : Int × Int × Int)).1) == ((x1.getD p106.toNat ((0, 0, 0) : Int × Int × Int)).2.1)))) rfl rfl hF rfl (run_move rfl (hF.ev rfl)) ?_; clear hF; intro a hF
        refine op_gv (v := .pointer (some ⟨g109, 2, none⟩)) rfl rfl hF rfl (yf (gw_yield hF rfl rfl rfl)) (fun hg => (run_fieldAddr rfl fl47_2 (hF.ev rfl) rfl)) ?_; clear hF; intro a hF
        refine op_gv (v := .int .i64 ((x1.getD p106.toNat ((0, 0, 0) : Int × Int × Int)).2.2)) rfl rfl hF rfl (yf (gw_yield hF rfl rfl rfl)) (fun hg => (run_load1 rfl one3 ((hF.ev rfl).trans (gv_t hg)) ((S.free 0 rfl).cell rfl))) ?_; clear hF; intro a hF
        refine op_gv (v := .bool (ltB ((x1.getD p106.toNat ((0, 0, 0) : Int × Int × Int)).2.2) 1)) rfl rfl hF rfl (yf (gw_yield hF rfl rfl rfl)) (fun hg => (run_lss ((hF.ev rfl).trans (gv_t hg)) rfl rfl)) ?_; clear hF; intro a hF
        refine op_val (v := .bool ((((!p110) || (!p111)) || (((x1.getD p106.toNat ((0, 0, 0) : Int × Int × Int)).1) == ((x1.getD p106.toNat ((0, 0, 0) : Int × Int × Int)).2.1))) || (ltB ((x1.getD p106.toNat ((0, 0, 0) : Int × Int × Int)).2.2) 1))) rfl rfl hF rfl (run_pick_or rfl (hF.ev rfl) rfl (fun hp => ((hF.ev rfl).trans (gv_t (not_t hp))))) ?_; clear hF; intro a hF
        refine op_val (v := .bool ((((!p110) || (!p111)) || (((x1.getD p106.toNat ((0, 0, 0) : Int × Int × Int)).1) == ((x1.getD p106.toNat ((0, 0, 0) : Int × Int × Int)).2.1))) || (ltB ((x1.getD p106.toNat ((0, 0, 0) : Int × Int × Int)).2.2) 1))) rfl rfl hF rfl (run_move rfl (hF.ev rfl)) ?_; clear hF; intro a hF
        refine op_gv (v := .pointer (some ⟨g109, 2, none⟩)) rfl rfl hF rfl (yf (gw_yield hF rfl rfl rfl)) (fun hg => (run_fieldAddr rfl fl47_2 (hF.ev rfl) rfl)) ?_; clear hF; intro a hF
        refine op_gv (v := .int .i64 ((x1.getD p106.toNat ((0, 0, 0) : Int × Int × Int)).2.2)) rfl rfl hF rfl (yf (gw_yield hF rfl rfl rfl)) (fun hg => (run_load1 rfl one3 ((hF.ev rfl).trans (gv_t hg)) ((S.free 0 rfl).cell rfl))) ?_; clear hF; intro a hF
        refine op_gv (v := .bool (ltB 999 ((x1.getD p106.toNat ((0, 0, 0) : Int × Int × Int)).2.2))) rfl rfl hF rfl (yf (gw_yield hF rfl rfl rfl)) (fun hg => (run_gtr ((hF.ev rfl).trans (gv_t hg)) rfl rfl)) ?_; clear hF; intro a hF
        refine op_val (v := .bool (((((!p110) || (!p111)) || (((x1.getD p106.toNat ((0, 0, 0) : Int × Int × Int)).1) == ((x1.getD p106.toNat ((0, 0, 0) : Int × Int × Int)).2.1))) || (ltB ((x1.getD p106.toNat ((0, 0, 0) : Int × Int × Int)).2.2) 1)) || (ltB 999 ((x1.getD p106.toNat ((0, 0, 0) : Int × Int × Int)).2.2)))) rfl rfl hF rfl (run_pick_or rfl (hF.ev rfl) rfl (fun hp => ((hF.ev rfl).trans (gv_t (not_t hp))))) ?_; clear hF; intro a hF
        refine wpList_nil ?_
        cases hc112 : (((((!p110) || (!p111)) || (((x1.getD p106.toNat ((0, 0, 0) : Int × Int × Int)).1) == ((x1.getD p106.toNat ((0, 0, 0) : Int × Int × Int)).2.1))) || (ltB ((x1.getD p106.toNat ((0, 0, 0) : Int × Int × Int)).2.2) 1)) || (ltB 999 ((x1.getD p106.toNat ((0, 0, 0) : Int × Int × Int)).2.2)))
        · replace hM105 := bif_f hc112 hM105
          refine cond_f hF rfl hc112 ?_
          refine wp_skip ?_
          refine wp_region_lit ?_
          refine op_val (v := .int .i64 (w64 (p106 + 1))) rfl rfl hF rfl (run_add (z := w64 (p106 + 1)) (hF.ev rfl) rfl rfl rfl) ?_; clear hF; intro a hF
          refine op_val (v := .int .i64 (w64 (p106 + 1))) rfl rfl hF rfl (run_move rfl (hF.ev rfl)) ?_; clear hF; intro a hF
          refine wpList_nil ?_
          exact ⟨f1, Nat.lt_succ_self _, w64 (p106 + 1), hM105, hF.keep _ ⟨rfl, rfl, rfl, rfl, rfl, trivial⟩, S.sel [1] rfl rfl⟩
        · replace hM105 := bif_t hc112 hM105
          refine cond_t hF rfl hc112 ?_
          refine wp_seq ?_
          refine wp_region_lit ?_
          refine op_val (v := .bool false) rfl rfl hF rfl (run_assign rfl rfl) ?_; clear hF; intro a hF
          refine wpList_nil ?_
          refine wp_ret ?_
          repeat with_reducible (first | refine then_ret ?_ | refine in_ret ?_ | refine in_nrm ?_)
          refine ret1_gw (.inl rfl) hF rfl (res_tmp (hF.ev rfl)) ?_
          obtain rfl := Option.some.inj hM105
          obtain rfl := Option.some.inj hM
          exact ⟨rfl, S.sel [] rfl rfl⟩
    · rintro a u ⟨p103, rfl, hF, S⟩
      replace hM := elim_l hM
      refine wp_seq ?_
      refine wp_region_lit ?_
      refine op_val (v := .bool true) rfl rfl hF rfl (run_assign rfl rfl) ?_; clear hF; intro a hF
      refine wpList_nil ?_
      refine wp_ret ?_
      repeat with_reducible (first | refine then_ret ?_ | refine in_ret ?_ | refine in_nrm ?_)
      refine ret1_gw (.inl rfl) hF rfl (res_tmp (hF.ev rfl)) ?_
      obtain rfl := Option.some.inj hM
      exact ⟨rfl, S.sel [] rfl rfl⟩
  · replace hM := bif_t hc102 hM
    refine cond_t hF rfl hc102 ?_
    refine wp_seq ?_
    refine wp_region_lit ?_
    refine op_val (v := .bool false) rfl rfl hF rfl (run_assign rfl rfl) ?_; clear hF; intro a hF
    refine wpList_nil ?_
    refine wp_ret ?_
    repeat with_reducible (first | refine then_ret ?_ | refine in_ret ?_ | refine in_nrm ?_)
    refine ret1_gw (.inl rfl) hF rfl (res_tmp (hF.ev rfl)) ?_
    obtain rfl := Option.some.inj hM
    exact ⟨rfl, S.sel [] rfl rfl⟩

theorem c_impl_NetText_bad {x0 : Int} {x1 : List (Int × Int × Int)} {A1 : Option Addr} {n1 c1 : Nat} {w : World} (h1 : Rt w 3 eLine A1 n1 c1 x1) (hv : m_impl_NetValid x0 x1 = some false) :
    Calls Tryd.prog 29 #[.agg #[.int .i64 x0, .slice A1 n1 c1]] w (fun e w' => e = .returned (.string ({ data := #[] } : ByteArray)) ∧ St w w' []) := by
  obtain rfl := h1.len
  refine calls_gw Tryd.func29 Tryd.ntmps29 rfl [(0, .agg #[.int .i64 x0, .slice A1 x1.length c1])] ⟨rfl, trivial⟩ rfl ?_
  intro a hF
  have S := St.nil w
  refine wp_seq ?_
  refine wp_region_lit ?_
  refine op_new (cs := #[.int .i64 x0, .slice A1 x1.length c1]) rfl rfl hF rfl S (run_box rfl (hF.ev rfl) rfl) ?_; clear hF S; intro a g101 u hF S
  refine op_val (v := .string ({ data := #[] } : ByteArray)) rfl rfl hF rfl (run_assign rfl rfl) ?_; clear hF; intro a hF
  refine wpList_nil ?_
  refine wp_seq ?_
  refine wp_seq ?_
  refine wp_region_lit ?_
  refine op_val (v := .agg #[.int .i64 x0, .slice A1 x1.length c1]) rfl rfl hF rfl (run_loadN rfl ag50 (hF.ev rfl) rfl ((S.free 0 rfl).cells 0 #[.int .i64 x0, .slice A1 x1.length c1] rfl)) ?_; clear hF; intro a hF
  refine op_call rfl rfl hF rfl (run_call (vs := [.agg #[.int .i64 x0, .slice A1 x1.length c1]]) rfl rfl co34 ⟨(hF.ev rfl), trivial⟩) (c_impl_NetValid ⟨(S.rc0 h1.rc), rfl⟩ hv) ?_
  rintro e u ⟨rfl, T⟩
  refine ⟨_, rfl, ?_⟩
  clear hF; intro a hF
  replace S := S.call0 T; clear T
  refine op_val (v := .bool (!false)) rfl rfl hF rfl (run_not rfl (hF.ev rfl)) ?_; clear hF; intro a hF
  refine wpList_nil ?_
  refine cond_t hF rfl (not_t rfl) ?_
  refine wp_seq ?_
  refine wp_region_lit ?_
  refine op_val (v := .string ({ data := #[] } : ByteArray)) rfl rfl hF rfl (run_assign rfl rfl) ?_; clear hF; intro a hF
  refine wpList_nil ?_
  refine wp_ret ?_
  repeat with_reducible (first | refine then_ret ?_ | refine in_ret ?_ | refine in_nrm ?_)
  refine ret1_gw (.inl rfl) hF rfl (res_tmp (hF.ev rfl)) ?_
  exact ⟨rfl, S.sel [] rfl rfl⟩

set_option maxHeartbeats 4000000 in
theorem c_spec_l20Rd_pick {x0 : List Int} {x1 : Int} {x2 : Int} {A0 : Option Addr} {n0 c0 : Nat} {g0 : Nat} {w : World} {r : Int × Int} {w0 : World} {X : List Asn} (h0 : Rt w0 1 eU A0 n0 c0 x0) (S : St w0 w (Asn.box g0 57 #[.slice A0 n0 c0, .int .i64 x1] :: X)) (hM : m_spec_l20Rd_pick x0 x1 x2 = some r) :
    Calls Tryd.prog 32 #[.pointer (some ⟨g0, 0, none⟩), .int .i64 x2] w (fun e w' => e = .returned (.int .i64 r.1) ∧ St w0 w' (Asn.box g0 57 #[.slice A0 n0 c0, .int .i64 r.2] :: X)) := by
  obtain rfl := h0.len
  unfold m_spec_l20Rd_pick at hM
  refine calls_gw Tryd.func32 Tryd.ntmps32 rfl [(0, .pointer (some ⟨g0, 0, none⟩)), (1, .int .i64 x2)] ⟨rfl, rfl, trivial⟩ rfl ?_
  intro a hF
  refine wp_seq ?_
  refine wp_region_lit ?_
  refine op_val (v := .int .i64 0) rfl rfl hF rfl (run_assign rfl rfl) ?_; clear hF; intro a hF
  refine wpList_nil ?_
  refine wp_seq ?_
  refine wp_region_lit ?_
  refine op_val (v := .pointer (some ⟨g0, 0, none⟩)) rfl rfl hF rfl (run_move rfl (hF.ev rfl)) ?_; clear hF; intro a hF
  refine op_val (v := .pointer (some ⟨g0, 0, none⟩)) rfl rfl hF rfl (run_move rfl (hF.ev rfl)) ?_; clear hF; intro a hF
  refine op_val (v := .pointer (some ⟨g0, 0, none⟩)) rfl rfl hF rfl (run_nilCheck rfl (hF.ev rfl)) ?_; clear hF; intro a hF
  refine op_val (v := .pointer (some ⟨g0, 1, none⟩)) rfl rfl hF rfl (run_fieldAddr rfl fl57_1 (hF.ev rfl) rfl) ?_; clear hF; intro a hF
  refine op_val (v := .int .i64 x1) rfl rfl hF rfl (run_load1 rfl one3 (hF.ev rfl) ((S.free 0 rfl).cell rfl)) ?_; clear hF; intro a hF
  refine op_val (v := .int .i64 (w64 (x1 + 1))) rfl rfl hF rfl (run_add (z := w64 (x1 + 1)) (hF.ev rfl) rfl rfl rfl) ?_; clear hF; intro a hF
  refine op_val (v := .pointer (some ⟨g0, 0, none⟩)) rfl rfl hF rfl (run_nilCheck rfl (hF.ev rfl)) ?_; clear hF; intro a hF
  refine op_val (v := .pointer (some ⟨g0, 1, none⟩)) rfl rfl hF rfl (run_fieldAddr rfl fl57_1 (hF.ev rfl) rfl) ?_; clear hF; intro a hF
  refine op_do rfl rfl (run_store (cs' := #[.slice A0 x0.length c0, .int .i64 (w64 (x1 + 1))]) rfl sz3 (hF.ev rfl) (hF.ev rfl) rfl rfl rfl (S.free 0 rfl) rfl rfl) ?_; replace S := S.put 0 rfl (#[.slice A0 x0.length c0, .int .i64 (w64 (x1 + 1))])
  generalize World.setRow _ _ _ = u at S ⊢
  refine wpList_nil ?_
  refine wp_seq ?_
  refine wp_seq ?_
  refine wp_region_lit ?_
  refine op_val (v := .int .i64 x2) rfl rfl hF rfl (run_move rfl (hF.ev rfl)) ?_; clear hF; intro a hF
  refine op_val (v := .bool (ltB x2 1)) rfl rfl hF rfl (run_lss (hF.ev rfl) rfl rfl) ?_; clear hF; intro a hF
  refine op_val (v := .bool (ltB x2 1)) rfl rfl hF rfl (run_move rfl (hF.ev rfl)) ?_; clear hF; intro a hF
  refine op_gv (v := .pointer (some ⟨g0, 0, none⟩)) rfl rfl hF rfl (yf (gw_yield hF rfl rfl rfl)) (fun hg => (run_move rfl (hF.ev rfl))) ?_; clear hF; intro a hF
  refine op_gv (v := .pointer (some ⟨g0, 0, none⟩)) rfl rfl hF rfl (yf (gw_yield hF rfl rfl rfl)) (fun hg => (run_nilCheck rfl ((hF.ev rfl).trans (gv_t hg)))) ?_; clear hF; intro a hF
  refine op_gv (v := .pointer (some ⟨g0, 0, none⟩)) rfl rfl hF rfl (yf (gw_yield hF rfl rfl rfl)) (fun hg => (run_fieldAddr rfl fl57_0 ((hF.ev rfl).trans (gv_t hg)) rfl)) ?_; clear hF; intro a hF
  refine op_gv (v := .slice A0 x0.length c0) rfl rfl hF rfl (yf (gw_yield hF rfl rfl rfl)) (fun hg => (run_load1 rfl one22 ((hF.ev rfl).trans (gv_t hg)) ((S.free 0 rfl).cell rfl))) ?_; clear hF; intro a hF
  refine op_gv (v := .int .i64 (x0.length : Int)) rfl rfl hF rfl (yf (gw_yield hF rfl rfl rfl)) (fun hg => (run_lenL rfl rfl Tryd.underlying22 ((hF.ev rfl).trans (gv_t hg)))) ?_; clear hF; intro a hF
  refine op_gv (v := .bool ((x0.length : Int) == 0)) rfl rfl hF rfl (yf (gw_yield hF rfl rfl rfl)) (fun hg => (run_eql ((hF.ev rfl).trans (gv_t hg)) rfl rfl)) ?_; clear hF; intro a hF
  refine op_val (v := .bool ((ltB x2 1) || ((x0.length : Int) == 0))) rfl rfl hF rfl (run_pick_or rfl (hF.ev rfl) rfl (fun hp => ((hF.ev rfl).trans (gv_t (not_t hp))))) ?_; clear hF; intro a hF
  refine wpList_nil ?_
  cases hc101 : ((ltB x2 1) || ((x0.length : Int) == 0))
  · replace hM := bif_f hc101 hM
    refine cond_f hF rfl hc101 ?_
    refine wp_skip ?_
    refine wp_seq ?_
    refine wp_region_lit ?_
    refine op_val (v := .pointer (some ⟨g0, 0, none⟩)) rfl rfl hF rfl (run_move rfl (hF.ev rfl)) ?_; clear hF; intro a hF
    refine op_val (v := .pointer (some ⟨g0, 0, none⟩)) rfl rfl hF rfl (run_nilCheck rfl (hF.ev rfl)) ?_; clear hF; intro a hF
    refine op_val (v := .pointer (some ⟨g0, 1, none⟩)) rfl rfl hF rfl (run_fieldAddr rfl fl57_1 (hF.ev rfl) rfl) ?_; clear hF; intro a hF
    refine op_val (v := .int .i64 (w64 (x1 + 1))) rfl rfl hF rfl (run_load1 rfl one3 (hF.ev rfl) ((S.free 0 rfl).cell rfl)) ?_; clear hF; intro a hF
    refine op_val (v := .int .i64 (w64 ((w64 (x1 + 1)) - 1))) rfl rfl hF rfl (run_sub (z := w64 ((w64 (x1 + 1)) - 1)) (hF.ev rfl) rfl rfl rfl) ?_; clear hF; intro a hF
    refine op_val (v := .int .i64 (w64 ((w64 (x1 + 1)) - 1))) rfl rfl hF rfl (run_assign rfl (hF.ev rfl)) ?_; clear hF; intro a hF
    refine wpList_nil ?_
    refine wp_seq ?_
    refine wp_seq ?_
    refine wp_region_lit ?_
    refine op_val (v := .int .i64 (w64 ((w64 (x1 + 1)) - 1))) rfl rfl hF rfl (run_move rfl (hF.ev rfl)) ?_; clear hF; intro a hF
    refine op_val (v := .pointer (some ⟨g0, 0, none⟩)) rfl rfl hF rfl (run_move rfl (hF.ev rfl)) ?_; clear hF; intro a hF
    refine op_val (v := .pointer (some ⟨g0, 0, none⟩)) rfl rfl hF rfl (run_nilCheck rfl (hF.ev rfl)) ?_; clear hF; intro a hF
    refine op_val (v := .pointer (some ⟨g0, 0, none⟩)) rfl rfl hF rfl (run_fieldAddr rfl fl57_0 (hF.ev rfl) rfl) ?_; clear hF; intro a hF
    refine op_val (v := .slice A0 x0.length c0) rfl rfl hF rfl (run_load1 rfl one22 (hF.ev rfl) ((S.free 0 rfl).cell rfl)) ?_; clear hF; intro a hF
    refine op_val (v := .int .i64 (x0.length : Int)) rfl rfl hF rfl (run_lenL rfl rfl Tryd.underlying22 (hF.ev rfl)) ?_; clear hF; intro a hF
    refine op_val (v := .bool (ltB (w64 ((w64 (x1 + 1)) - 1)) (x0.length : Int))) rfl rfl hF rfl (run_lss (hF.ev rfl) (hF.ev rfl) rfl) ?_; clear hF; intro a hF
    refine wpList_nil ?_
    cases hc102 : (ltB (w64 ((w64 (x1 + 1)) - 1)) (x0.length : Int))
    · replace hM := bif_f hc102 hM
      refine cond_f hF rfl hc102 ?_
      refine wp_skip ?_
      refine wp_seq ?_
      obtain ⟨hk103, hM⟩ := chk_ex hM
      replace hk103 := nzB_t hk103
      obtain ⟨hk104, hM⟩ := chk_ex hM
      replace hk104 := ixB_t hk104
      obtain ⟨hk105, hM⟩ := chk_ex hM
      replace hk105 := nzB_t hk105
      obtain ⟨hk106, hM⟩ := chk_ex hM
      replace hk106 := ixB_t hk106
      obtain ⟨hk107, hM⟩ := chk_ex hM
      replace hk107 := nzB_t hk107
      refine region_gw (D := [47, 48, 49, 50, 51, 52, 53, 54, 55, 56, 57, 58, 59, 60, 61, 62, 63, 64, 65, 66, 67, 68, 69, 70, 71, 72, 73, 74, 75, 76, 77, 78, 79, 80, 81, 82, 83, 84, 85, 86, 87, 88, 89, 90, 91, 6]) (Lr := (Asn.box g0 57 #[.slice A0 x0.length c0, .int .i64 (w64 (x1 + 1))] :: X)) (deps := (fun | 0 => [47] | 1 => [48] | 2 => [49] | 3 => [50] | 4 => [51] | 5 => [52] | 6 => [53] | 7 => [54] | 8 => [55] | 9 => [56] | 10 => [57] | 11 => [58] | 12 => [59] | 13 => [60] | 14 => [61] | 15 => [62] | 16 => [63] | 17 => [64] | 18 => [65] | 19 => [66] | 20 => [67] | 21 => [68] | 22 => [69] | 23 => [70] | 24 => [71] | 25 => [72] | 26 => [73] | 27 => [74] | 28 => [75] | 29 => [76] | 30 => [77] | 31 => [78] | 32 => [79] | 33 => [80] | 34 => [81] | 35 => [82] | 36 => [83] | 37 => [84] | 38 => [85] | 39 => [86] | 40 => [87] | 41 => [88] | 42 => [89] | 43 => [90] | 44 => [91] | 45 => [6] | _ => [])) (rd := (fun _ => [])) (zr := (fun _ => []))
        (φ := fun i vs => match i, vs with | 0, [v47] => v47 = .pointer (some ⟨g0, 0, none⟩) | 1, [v48] => v48 = .pointer (some ⟨g0, 0, none⟩) | 2, [v49] => v49 = .pointer (some ⟨g0, 0, none⟩) | 3, [v50] => v50 = .slice A0 x0.length c0 | 4, [v51] => v51 = .int .i64 (w64 ((w64 (x1 + 1)) - 1)) | 5, [v52] => v52 = .pointer (some ⟨g0, 0, none⟩) | 6, [v53] => v53 = .pointer (some ⟨g0, 0, none⟩) | 7, [v54] => v54 = .pointer (some ⟨g0, 0, none⟩) | 8, [v55] => v55 = .slice A0 x0.length c0 | 9, [v56] => v56 = .int .i64 (x0.length : Int) | 10, [v57] => v57 = .int .i64 (Int.tmod (w64 ((w64 (x1 + 1)) - 1)) (x0.length : Int)) | 11, [v58] => v58 = .pointer (some ⟨adB A0, adO A0 + ((Int.tmod (w64 ((w64 (x1 + 1)) - 1)) (x0.length : Int)).toNat) * 1, none⟩) | 12, [v59] => v59 = .int .u8 (x0.getD ((Int.tmod (w64 ((w64 (x1 + 1)) - 1)) (x0.length : Int)).toNat) (0 : Int)) | 13, [v60] => v60 = .int .i64 (w64 ((x0.getD ((Int.tmod (w64 ((w64 (x1 + 1)) - 1)) (x0.length : Int)).toNat) (0 : Int)))) | 14, [v61] => v61 = .int .i64 (w64 ((w64 ((x0.getD ((Int.tmod (w64 ((w64 (x1 + 1)) - 1)) (x0.length : Int)).toNat) (0 : Int)))) * 131)) | 15, [v62] => v62 = .pointer (some ⟨g0, 0, none⟩) | 16, [v63] => v63 = .pointer (some ⟨g0, 0, none⟩) | 17, [v64] => v64 = .pointer (some ⟨g0, 0, none⟩) | 18, [v65] => v65 = .slice A0 x0.length c0 | 19, [v66] => v66 = .int .i64 (w64 ((w64 (x1 + 1)) - 1)) | 20, [v67] => v67 = .int .i64 (w64 ((w64 ((w64 (x1 + 1)) - 1)) * 7)) | 21, [v68] => v68 = .int .i64 (w64 ((w64 ((w64 ((w64 (x1 + 1)) - 1)) * 7)) + 3)) | 22, [v69] => v69 = .pointer (some ⟨g0, 0, none⟩) | 23, [v70] => v70 = .pointer (some ⟨g0, 0, none⟩) | 24, [v71] => v71 = .pointer (some ⟨g0, 0, none⟩) | 25, [v72] => v72 = .slice A0 x0.length c0 | 26, [v73] => v73 = .int .i64 (x0.length : Int) | 27, [v74] => v74 = .int .i64 (Int.tmod (w64 ((w64 ((w64 ((w64 (x1 + 1)) - 1)) * 7)) + 3)) (x0.length : Int)) | 28, [v75] => v75 = .pointer (some ⟨adB A0, adO A0 + ((Int.tmod (w64 ((w64 ((w64 ((w64 (x1 + 1)) - 1)) * 7)) + 3)) (x0.length : Int)).toNat) * 1, none⟩) | 29, [v76] => v76 = .int .u8 (x0.getD ((Int.tmod (w64 ((w64 ((w64 ((w64 (x1 + 1)) - 1)) * 7)) + 3)) (x0.length : Int)).toNat) (0 : Int)) | 30, [v77] => v77 = .int .i64 (w64 ((x0.getD ((Int.tmod (w64 ((w64 ((w64 ((w64 (x1 + 1)) - 1)) * 7)) + 3)) (x0.length : Int)).toNat) (0 : Int)))) | 31, [v78] => v78 = .int .i64 (w64 ((w64 ((x0.getD ((Int.tmod (w64 ((w64 ((w64 ((w64 (x1 + 1)) - 1)) * 7)) + 3)) (x0.length : Int)).toNat) (0 : Int)))) * 1117)) | 32, [v79] => v79 = .int .i64 (w64 ((w64 ((w64 ((x0.getD ((Int.tmod (w64 ((w64 (x1 + 1)) - 1)) (x0.length : Int)).toNat) (0 : Int)))) * 131)) + (w64 ((w64 ((x0.getD ((Int.tmod (w64 ((w64 ((w64 ((w64 (x1 + 1)) - 1)) * 7)) + 3)) (x0.length : Int)).toNat) (0 : Int)))) * 1117)))) | 33, [v80] => v80 = .int .i64 (w64 ((w64 (x1 + 1)) - 1)) | 34, [v81] => v81 = .int .i64 (w64 ((w64 ((w64 (x1 + 1)) - 1)) * 29)) | 35, [v82] => v82 = .int .i64 (w64 ((w64 ((w64 ((w64 ((x0.getD ((Int.tmod (w64 ((w64 (x1 + 1)) - 1)) (x0.length : Int)).toNat) (0 : Int)))) * 131)) + (w64 ((w64 ((x0.getD ((Int.tmod (w64 ((w64 ((w64 ((w64 (x1 + 1)) - 1)) * 7)) + 3)) (x0.length : Int)).toNat) (0 : Int)))) * 1117)))) + (w64 ((w64 ((w64 (x1 + 1)) - 1)) * 29)))) | 36, [v83] => v83 = .int .i64 (w64 ((w64 (x1 + 1)) - 1)) | 37, [v84] => v84 = .pointer (some ⟨g0, 0, none⟩) | 38, [v85] => v85 = .pointer (some ⟨g0, 0, none⟩) | 39, [v86] => v86 = .pointer (some ⟨g0, 0, none⟩) | 40, [v87] => v87 = .slice A0 x0.length c0 | 41, [v88] => v88 = .int .i64 (x0.length : Int) | 42, [v89] => v89 = .int .i64 (w64 (Int.tdiv (w64 ((w64 (x1 + 1)) - 1)) (x0.length : Int))) | 43, [v90] => v90 = .int .i64 (w64 ((w64 (Int.tdiv (w64 ((w64 (x1 + 1)) - 1)) (x0.length : Int))) * 53)) | 44, [v91] => v91 = .int .i64 (w64 ((w64 ((w64 ((w64 ((w64 ((x0.getD ((Int.tmod (w64 ((w64 (x1 + 1)) - 1)) (x0.length : Int)).toNat) (0 : Int)))) * 131)) + (w64 ((w64 ((x0.getD ((Int.tmod (w64 ((w64 ((w64 ((w64 (x1 + 1)) - 1)) * 7)) + 3)) (x0.length : Int)).toNat) (0 : Int)))) * 1117)))) + (w64 ((w64 ((w64 (x1 + 1)) - 1)) * 29)))) + (w64 ((w64 (Int.tdiv (w64 ((w64 (x1 + 1)) - 1)) (x0.length : Int))) * 53)))) | 45, [v6] => v6 = .int .i64 (w64 ((w64 ((w64 ((w64 ((w64 ((x0.getD ((Int.tmod (w64 ((w64 (x1 + 1)) - 1)) (x0.length : Int)).toNat) (0 : Int)))) * 131)) + (w64 ((w64 ((x0.getD ((Int.tmod (w64 ((w64 ((w64 ((w64 (x1 + 1)) - 1)) * 7)) + 3)) (x0.length : Int)).toNat) (0 : Int)))) * 1117)))) + (w64 ((w64 ((w64 (x1 + 1)) - 1)) * 29)))) + (w64 ((w64 (Int.tdiv (w64 ((w64 (x1 + 1)) - 1)) (x0.length : Int))) * 53)))) | _, _ => True)
        (C := fun _ _ => [])
        (κ := (fun _ => none)) (Z := (fun _ => [])) mixed hF (by kernel_rfl) S ?_ ?_
      · refine ⟨?_, ?_, ?_, ?_, ?_, ?_, ?_, ?_, ?_, ?_, ?_, ?_, ?_, ?_, ?_, ?_, ?_, ?_, ?_, ?_, ?_, ?_, ?_, ?_, ?_, ?_, ?_, ?_, ?_, ?_, ?_, ?_, ?_, ?_, ?_, ?_, ?_, ?_, ?_, ?_, ?_, ?_, ?_, ?_, ?_, ?_, trivial⟩
        · intro a u X' hB hu hp hr hz hl S
          replace S : St w0 u ([] ++ X') := S
          exact .inl ⟨rfl, .pointer (some ⟨g0, 0, none⟩), u, (run_move rfl (hF.evB hB rfl rfl)), rfl, S⟩
        · intro a u X' hB hu hp hr hz hl S
          replace S : St w0 u ([] ++ X') := S
          have e47 : sl a 47 = .pointer (some ⟨g0, 0, none⟩) := hp 0 rfl
          exact .inl ⟨rfl, .pointer (some ⟨g0, 0, none⟩), u, (run_nilCheck rfl (ev_sl e47)), rfl, S⟩
        · intro a u X' hB hu hp hr hz hl S
          replace S : St w0 u ([] ++ X') := S
          have e48 : sl a 48 = .pointer (some ⟨g0, 0, none⟩) := hp 1 rfl
          exact .inl ⟨rfl, .pointer (some ⟨g0, 0, none⟩), u, (run_fieldAddr rfl fl57_0 (ev_sl e48) rfl), rfl, S⟩
        · intro a u X' hB hu hp hr hz hl S
          replace S : St w0 u ([] ++ X') := S
          have e49 : sl a 49 = .pointer (some ⟨g0, 0, none⟩) := hp 2 rfl
          exact .inl ⟨rfl, .slice A0 x0.length c0, u, (run_load1 rfl one22 (ev_sl e49) ((gr_box S hl 0 rfl).cell rfl)), rfl, S⟩
        · intro a u X' hB hu hp hr hz hl S
          replace S : St w0 u ([] ++ X') := S
          exact .inl ⟨rfl, .int .i64 (w64 ((w64 (x1 + 1)) - 1)), u, (run_move rfl (hF.evB hB rfl rfl)), rfl, S⟩
        · intro a u X' hB hu hp hr hz hl S
          replace S : St w0 u ([] ++ X') := S
          exact .inl ⟨rfl, .pointer (some ⟨g0, 0, none⟩), u, (run_move rfl (hF.evB hB rfl rfl)), rfl, S⟩
        · intro a u X' hB hu hp hr hz hl S
          replace S : St w0 u ([] ++ X') := S
          have e52 : sl a 52 = .pointer (some ⟨g0, 0, none⟩) := hp 5 rfl
          exact .inl ⟨rfl, .pointer (some ⟨g0, 0, none⟩), u, (run_nilCheck rfl (ev_sl e52)), rfl, S⟩
        · intro a u X' hB hu hp hr hz hl S
          replace S : St w0 u ([] ++ X') := S
          have e53 : sl a 53 = .pointer (some ⟨g0, 0, none⟩) := hp 6 rfl
          exact .inl ⟨rfl, .pointer (some ⟨g0, 0, none⟩), u, (run_fieldAddr rfl fl57_0 (ev_sl e53) rfl), rfl, S⟩
        · intro a u X' hB hu hp hr hz hl S
          replace S : St w0 u ([] ++ X') := S
          have e54 : sl a 54 = .pointer (some ⟨g0, 0, none⟩) := hp 7 rfl
          exact .inl ⟨rfl, .slice A0 x0.length c0, u, (run_load1 rfl one22 (ev_sl e54) ((gr_box S hl 0 rfl).cell rfl)), rfl, S⟩
        · intro a u X' hB hu hp hr hz hl S
          replace S : St w0 u ([] ++ X') := S
          have e55 : sl a 55 = .slice A0 x0.length c0 := hp 8 rfl
          exact .inl ⟨rfl, .int .i64 (x0.length : Int), u, (run_lenL rfl rfl Tryd.underlying22 (ev_sl e55)), rfl, S⟩
        · intro a u X' hB hu hp hr hz hl S
          replace S : St w0 u ([] ++ X') := S
          have e51 : sl a 51 = .int .i64 (w64 ((w64 (x1 + 1)) - 1)) := hp 4 rfl
          have e56 : sl a 56 = .int .i64 (x0.length : Int) := hp 9 rfl
          exact .inl ⟨rfl, .int .i64 (Int.tmod (w64 ((w64 (x1 + 1)) - 1)) (x0.length : Int)), u, (run_rem (z := Int.tmod (w64 ((w64 (x1 + 1)) - 1)) (x0.length : Int)) (ev_sl e51) (ev_sl e56) rfl hk103 rfl), rfl, S⟩
        · intro a u X' hB hu hp hr hz hl S
          replace S : St w0 u ([] ++ X') := S
          have e50 : sl a 50 = .slice A0 x0.length c0 := hp 3 rfl
          have e57 : sl a 57 = .int .i64 (Int.tmod (w64 ((w64 (x1 + 1)) - 1)) (x0.length : Int)) := hp 10 rfl
          exact .inl ⟨rfl, .pointer (some ⟨adB A0, adO A0 + ((Int.tmod (w64 ((w64 (x1 + 1)) - 1)) (x0.length : Int)).toNat) * 1, none⟩), u, (run_indexAddr (b := adB A0) (off := adO A0) rfl Tryd.underlying22 sz5 ((ev_sl e50).trans (congrArg (fun A => Value.slice A x0.length c0) ((S.rc0 h0.rc).rd.ad (ix_pos hk104)))) (ev_sl e57) hk104.1 hk104.2 (k' := adO A0 + ((Int.tmod (w64 ((w64 (x1 + 1)) - 1)) (x0.length : Int)).toNat) * 1) rfl), rfl, S⟩
        · intro a u X' hB hu hp hr hz hl S
          replace S : St w0 u ([] ++ X') := S
          have e58 : sl a 58 = .pointer (some ⟨adB A0, adO A0 + ((Int.tmod (w64 ((w64 (x1 + 1)) - 1)) (x0.length : Int)).toNat) * 1, none⟩) := hp 11 rfl
          exact .inl ⟨rfl, .int .u8 (x0.getD ((Int.tmod (w64 ((w64 (x1 + 1)) - 1)) (x0.length : Int)).toNat) (0 : Int)), u, (run_load1 rfl one5 (ev_sl e58) (rd_el0 (l := x0) (S.rc0 h0.rc).rd rfl eU_len (0 : Int) (ix_ltn hk104 rfl) rfl)), rfl, S⟩
        · intro a u X' hB hu hp hr hz hl S
          replace S : St w0 u ([] ++ X') := S
          have e59 : sl a 59 = .int .u8 (x0.getD ((Int.tmod (w64 ((w64 (x1 + 1)) - 1)) (x0.length : Int)).toNat) (0 : Int)) := hp 12 rfl
          exact .inl ⟨rfl, .int .i64 (w64 ((x0.getD ((Int.tmod (w64 ((w64 (x1 + 1)) - 1)) (x0.length : Int)).toNat) (0 : Int)))), u, (run_convI rfl Tryd.underlying5 Tryd.underlying3 (ev_sl e59)), rfl, S⟩
        · intro a u X' hB hu hp hr hz hl S
          replace S : St w0 u ([] ++ X') := S
          have e60 : sl a 60 = .int .i64 (w64 ((x0.getD ((Int.tmod (w64 ((w64 (x1 + 1)) - 1)) (x0.length : Int)).toNat) (0 : Int)))) := hp 13 rfl
          exact .inl ⟨rfl, .int .i64 (w64 ((w64 ((x0.getD ((Int.tmod (w64 ((w64 (x1 + 1)) - 1)) (x0.length : Int)).toNat) (0 : Int)))) * 131)), u, (run_mul (z := w64 ((w64 ((x0.getD ((Int.tmod (w64 ((w64 (x1 + 1)) - 1)) (x0.length : Int)).toNat) (0 : Int)))) * 131)) (ev_sl e60) (ev_const _ _) rfl rfl), rfl, S⟩
        · intro a u X' hB hu hp hr hz hl S
          replace S : St w0 u ([] ++ X') := S
          exact .inl ⟨rfl, .pointer (some ⟨g0, 0, none⟩), u, (run_move rfl (hF.evB hB rfl rfl)), rfl, S⟩
        · intro a u X' hB hu hp hr hz hl S
          replace S : St w0 u ([] ++ X') := S
          have e62 : sl a 62 = .pointer (some ⟨g0, 0, none⟩) := hp 15 rfl
          exact .inl ⟨rfl, .pointer (some ⟨g0, 0, none⟩), u, (run_nilCheck rfl (ev_sl e62)), rfl, S⟩
        · intro a u X' hB hu hp hr hz hl S
          replace S : St w0 u ([] ++ X') := S
          have e63 : sl a 63 = .pointer (some ⟨g0, 0, none⟩) := hp 16 rfl
          exact .inl ⟨rfl, .pointer (some ⟨g0, 0, none⟩), u, (run_fieldAddr rfl fl57_0 (ev_sl e63) rfl), rfl, S⟩
        · intro a u X' hB hu hp hr hz hl S
          replace S : St w0 u ([] ++ X') := S
          have e64 : sl a 64 = .pointer (some ⟨g0, 0, none⟩) := hp 17 rfl
          exact .inl ⟨rfl, .slice A0 x0.length c0, u, (run_load1 rfl one22 (ev_sl e64) ((gr_box S hl 0 rfl).cell rfl)), rfl, S⟩
        · intro a u X' hB hu hp hr hz hl S
          replace S : St w0 u ([] ++ X') := S
          exact .inl ⟨rfl, .int .i64 (w64 ((w64 (x1 + 1)) - 1)), u, (run_move rfl (hF.evB hB rfl rfl)), rfl, S⟩
        · intro a u X' hB hu hp hr hz hl S
          replace S : St w0 u ([] ++ X') := S
          have e66 : sl a 66 = .int .i64 (w64 ((w64 (x1 + 1)) - 1)) := hp 19 rfl
          exact .inl ⟨rfl, .int .i64 (w64 ((w64 ((w64 (x1 + 1)) - 1)) * 7)), u, (run_mul (z := w64 ((w64 ((w64 (x1 + 1)) - 1)) * 7)) (ev_sl e66) (ev_const _ _) rfl rfl), rfl, S⟩
        · intro a u X' hB hu hp hr hz hl S
          replace S : St w0 u ([] ++ X') := S
          have e67 : sl a 67 = .int .i64 (w64 ((w64 ((w64 (x1 + 1)) - 1)) * 7)) := hp 20 rfl
          exact .inl ⟨rfl, .int .i64 (w64 ((w64 ((w64 ((w64 (x1 + 1)) - 1)) * 7)) + 3)), u, (run_add (z := w64 ((w64 ((w64 ((w64 (x1 + 1)) - 1)) * 7)) + 3)) (ev_sl e67) (ev_const _ _) rfl rfl), rfl, S⟩
        · intro a u X' hB hu hp hr hz hl S
          replace S : St w0 u ([] ++ X') := S
          exact .inl ⟨rfl, .pointer (some ⟨g0, 0, none⟩), u, (run_move rfl (hF.evB hB rfl rfl)), rfl, S⟩
        · intro a u X' hB hu hp hr hz hl S
          replace S : St w0 u ([] ++ X') := S
          have e69 : sl a 69 = .pointer (some ⟨g0, 0, none⟩) := hp 22 rfl
          exact .inl ⟨rfl, .pointer (some ⟨g0, 0, none⟩), u, (run_nilCheck rfl (ev_sl e69)), rfl, S⟩
        · intro a u X' hB hu hp hr hz hl S
          replace S : St w0 u ([] ++ X') := S
          have e70 : sl a 70 = .pointer (some ⟨g0, 0, none⟩) := hp 23 rfl
          exact .inl ⟨rfl, .pointer (some ⟨g0, 0, none⟩), u, (run_fieldAddr rfl fl57_0 (ev_sl e70) rfl), rfl, S⟩
        · intro a u X' hB hu hp hr hz hl S
          replace S : St w0 u ([] ++ X') := S
          have e71 : sl a 71 = .pointer (some ⟨g0, 0, none⟩) := hp 24 rfl
          exact .inl ⟨rfl, .slice A0 x0.length c0, u, (run_load1 rfl one22 (ev_sl e71) ((gr_box S hl 0 rfl).cell rfl)), rfl, S⟩
        · intro a u X' hB hu hp hr hz hl S
          replace S : St w0 u ([] ++ X') := S
          have e72 : sl a 72 = .slice A0 x0.length c0 := hp 25 rfl
          exact .inl ⟨rfl, .int .i64 (x0.length : Int), u, (run_lenL rfl rfl Tryd.underlying22 (ev_sl e72)), rfl, S⟩
        · intro a u X' hB hu hp hr hz hl S
          replace S : St w0 u ([] ++ X') := S
          have e68 : sl a 68 = .int .i64 (w64 ((w64 ((w64 ((w64 (x1 + 1)) - 1)) * 7)) + 3)) := hp 21 rfl
          have e73 : sl a 73 = .int .i64 (x0.length : Int) := hp 26 rfl
          exact .inl ⟨rfl, .int .i64 (Int.tmod (w64 ((w64 ((w64 ((w64 (x1 + 1)) - 1)) * 7)) + 3)) (x0.length : Int)), u, (run_rem (z := Int.tmod (w64 ((w64 ((w64 ((w64 (x1 + 1)) - 1)) * 7)) + 3)) (x0.length : Int)) (ev_sl e68) (ev_sl e73) rfl hk105 rfl), rfl, S⟩
        · intro a u X' hB hu hp hr hz hl S
          replace S : St w0 u ([] ++ X') := S
          have e65 : sl a 65 = .slice A0 x0.length c0 := hp 18 rfl
          have e74 : sl a 74 = .int .i64 (Int.tmod (w64 ((w64 ((w64 ((w64 (x1 + 1)) - 1)) * 7)) + 3)) (x0.length : Int)) := hp 27 rfl
          exact .inl ⟨rfl, .pointer (some ⟨adB A0, adO A0 + ((Int.tmod (w64 ((w64 ((w64 ((w64 (x1 + 1)) - 1)) * 7)) + 3)) (x0.length : Int)).toNat) * 1, none⟩), u, (run_indexAddr (b := adB A0) (off := adO A0) rfl Tryd.underlying22 sz5 ((ev_sl e65).trans (congrArg (fun A => Value.slice A x0.length c0) ((S.rc0 h0.rc).rd.ad (ix_pos hk106)))) (ev_sl e74) hk106.1 hk106.2 (k' := adO A0 + ((Int.tmod (w64 ((w64 ((w64 ((w64 (x1 + 1)) - 1)) * 7)) + 3)) (x0.length : Int)).toNat) * 1) rfl), rfl, S⟩
        · intro a u X' hB hu hp hr hz hl S
          replace S : St w0 u ([] ++ X') := S
          have e75 : sl a 75 = .pointer (some ⟨adB A0, adO A0 + ((Int.tmod (w64 ((w64 ((w64 ((w64 (x1 + 1)) - 1)) * 7)) + 3)) (x0.length : Int)).toNat) * 1, none⟩) := hp 28 rfl
          exact .inl ⟨rfl, .int .u8 (x0.getD ((Int.tmod (w64 ((w64 ((w64 ((w64 (x1 + 1)) - 1)) * 7)) + 3)) (x0.length : Int)).toNat) (0 : Int)), u, (run_load1 rfl one5 (ev_sl e75) (rd_el0 (l := x0) (S.rc0 h0.rc).rd rfl eU_len (0 : Int) (ix_ltn hk106 rfl) rfl)), rfl, S⟩
        · intro a u X' hB hu hp hr hz hl S
          replace S : St w0 u ([] ++ X') := S
          have e76 : sl a 76 = .int .u8 (x0.getD ((Int.tmod (w64 ((w64 ((w64 ((w64 (x1 + 1)) - 1)) * 7)) + 3)) (x0.length : Int)).toNat) (0 : Int)) := hp 29 rfl
          exact .inl ⟨rfl, .int .i64 (w64 ((x0.getD ((Int.tmod (w64 ((w64 ((w64 ((w64 (x1 + 1)) - 1)) * 7)) + 3)) (x0.length : Int)).toNat) (0 : Int)))), u, (run_convI rfl Tryd.underlying5 Tryd.underlying3 (ev_sl e76)), rfl, S⟩
        · intro a u X' hB hu hp hr hz hl S
          replace S : St w0 u ([] ++ X') := S
          have e77 : sl a 77 = .int .i64 (w64 ((x0.getD ((Int.tmod (w64 ((w64 ((w64 ((w64 (x1 + 1)) - 1)) * 7)) + 3)) (x0.length : Int)).toNat) (0 : Int)))) := hp 30 rfl
          exact .inl ⟨rfl, .int .i64 (w64 ((w64 ((x0.getD ((Int.tmod (w64 ((w64 ((w64 ((w64 (x1 + 1)) - 1)) * 7)) + 3)) (x0.length : Int)).toNat) (0 : Int)))) * 1117)), u, (run_mul (z := w64 ((w64 ((x0.getD ((Int.tmod (w64 ((w64 ((w64 ((w64 (x1 + 1)) - 1)) * 7)) + 3)) (x0.length : Int)).toNat) (0 : Int)))) * 1117)) (ev_sl e77) (ev_const _ _) rfl rfl), rfl, S⟩
        · intro a u X' hB hu hp hr hz hl S
          replace S : St w0 u ([] ++ X') := S
          have e61 : sl a 61 = .int .i64 (w64 ((w64 ((x0.getD ((Int.tmod (w64 ((w64 (x1 + 1)) - 1)) (x0.length : Int)).toNat) (0 : Int)))) * 131)) := hp 14 rfl
          have e78 : sl a 78 = .int .i64 (w64 ((w64 ((x0.getD ((Int.tmod (w64 ((w64 ((w64 ((w64 (x1 + 1)) - 1)) * 7)) + 3)) (x0.length : Int)).toNat) (0 : Int)))) * 1117)) := hp 31 rfl
          exact .inl ⟨rfl, .int .i64 (w64 ((w64 ((w64 ((x0.getD ((Int.tmod (w64 ((w64 (x1 + 1)) - 1)) (x0.length : Int)).toNat) (0 : Int)))) * 131)) + (w64 ((w64 ((x0.getD ((Int.tmod (w64 ((w64 ((w64 ((w64 (x1 + 1)) - 1)) * 7)) + 3)) (x0.length : Int)).toNat) (0 : Int)))) * 1117)))), u, (run_add (z := w64 ((w64 ((w64 ((x0.getD ((Int.tmod (w64 ((w64 (x1 + 1)) - 1)) (x0.length : Int)).toNat) (0 : Int)))) * 131)) + (w64 ((w64 ((x0.getD ((Int.tmod (w64 ((w64 ((w64 ((w64 (x1 + 1)) - 1)) * 7)) + 3)) (x0.length : Int)).toNat) (0 : Int)))) * 1117)))) (ev_sl e61) (ev_sl e78) rfl rfl), rfl, S⟩
        · intro a u X' hB hu hp hr hz hl S
          replace S : St w0 u ([] ++ X') := S
          exact .inl ⟨rfl, .int .i64 (w64 ((w64 (x1 + 1)) - 1)), u, (run_move rfl (hF.evB hB rfl rfl)), rfl, S⟩
        · intro a u X' hB hu hp hr hz hl S
          replace S : St w0 u ([] ++ X') := S
          have e80 : sl a 80 = .int .i64 (w64 ((w64 (x1 + 1)) - 1)) := hp 33 rfl
          exact .inl ⟨rfl, .int .i64 (w64 ((w64 ((w64 (x1 + 1)) - 1)) * 29)), u, (run_mul (z := w64 ((w64 ((w64 (x1 + 1)) - 1)) * 29)) (ev_sl e80) (ev_const _ _) rfl rfl), rfl, S⟩
        · intro a u X' hB hu hp hr hz hl S
          replace S : St w0 u ([] ++ X') := S
          have e79 : sl a 79 = .int .i64 (w64 ((w64 ((w64 ((x0.getD ((Int.tmod (w64 ((w64 (x1 + 1)) - 1)) (x0.length : Int)).toNat) (0 : Int)))) * 131)) + (w64 ((w64 ((x0.getD ((Int.tmod (w64 ((w64 ((w64 ((w64 (x1 + 1)) - 1)) * 7)) + 3)) (x0.length : Int)).toNat) (0 : Int)))) * 1117)))) := hp 32 rfl
          have e81 : sl a 81 = .int .i64 (w64 ((w64 ((w64 (x1 + 1)) - 1)) * 29)) := hp 34 rfl
          exact .inl ⟨rfl, .int .i64 (w64 ((w64 ((w64 ((w64 ((x0.getD ((Int.tmod (w64 ((w64 (x1 + 1)) - 1)) (x0.length : Int)).toNat) (0 : Int)))) * 131)) + (w64 ((w64 ((x0.getD ((Int.tmod (w64 ((w64 ((w64 ((w64 (x1 + 1)) - 1)) * 7)) + 3)) (x0.length : Int)).toNat) (0 : Int)))) * 1117)))) + (w64 ((w64 ((w64 (x1 + 1)) - 1)) * 29)))), u, (run_add (z := w64 ((w64 ((w64 ((w64 ((x0.getD ((Int.tmod (w64 ((w64 (x1 + 1)) - 1)) (x0.length : Int)).toNat) (0 : Int)))) * 131)) + (w64 ((w64 ((x0.getD ((Int.tmod (w64 ((w64 ((w64 ((w64 (x1 + 1)) - 1)) * 7)) + 3)) (x0.length : Int)).toNat) (0 : Int)))) * 1117)))) + (w64 ((w64 ((w64 (x1 + 1)) - 1)) * 29)))) (ev_sl e79) (ev_sl e81) rfl rfl), rfl, S⟩
        · intro a u X' hB hu hp hr hz hl S
          replace S : St w0 u ([] ++ X') := S
          exact .inl ⟨rfl, .int .i64 (w64 ((w64 (x1 + 1)) - 1)), u, (run_move rfl (hF.evB hB rfl rfl)), rfl, S⟩
        · intro a u X' hB hu hp hr hz hl S
          replace S : St w0 u ([] ++ X') := S
          exact .inl ⟨rfl, .pointer (some ⟨g0, 0, none⟩), u, (run_move rfl (hF.evB hB rfl rfl)), rfl, S⟩
        · intro a u X' hB hu hp hr hz hl S
          replace S : St w0 u ([] ++ X') := S
          have e84 : sl a 84 = .pointer (some ⟨g0, 0, none⟩) := hp 37 rfl
          exact .inl ⟨rfl, .pointer (some ⟨g0, 0, none⟩), u, (run_nilCheck rfl (ev_sl e84)), rfl, S⟩
        · intro a u X' hB hu hp hr hz hl S
          replace S : St w0 u ([] ++ X') := S
          have e85 : sl a 85 = .pointer (some ⟨g0, 0, none⟩) := hp 38 rfl
          exact .inl ⟨rfl, .pointer (some ⟨g0, 0, none⟩), u, (run_fieldAddr rfl fl57_0 (ev_sl e85) rfl), rfl, S⟩
        · intro a u X' hB hu hp hr hz hl S
          replace S : St w0 u ([] ++ X') := S
          have e86 : sl a 86 = .pointer (some ⟨g0, 0, none⟩) := hp 39 rfl
          exact .inl ⟨rfl, .slice A0 x0.length c0, u, (run_load1 rfl one22 (ev_sl e86) ((gr_box S hl 0 rfl).cell rfl)), rfl, S⟩
        · intro a u X' hB hu hp hr hz hl S
          replace S : St w0 u ([] ++ X') := S
          have e87 : sl a 87 = .slice A0 x0.length c0 := hp 40 rfl
          exact .inl ⟨rfl, .int .i64 (x0.length : Int), u, (run_lenL rfl rfl Tryd.underlying22 (ev_sl e87)), rfl, S⟩
        · intro a u X' hB hu hp hr hz hl S
          replace S : St w0 u ([] ++ X') := S
          have e83 : sl a 83 = .int .i64 (w64 ((w64 (x1 + 1)) - 1)) := hp 36 rfl
          have e88 : sl a 88 = .int .i64 (x0.length : Int) := hp 41 rfl
          exact .inl ⟨rfl, .int .i64 (w64 (Int.tdiv (w64 ((w64 (x1 + 1)) - 1)) (x0.length : Int))), u, (run_quo (z := w64 (Int.tdiv (w64 ((w64 (x1 + 1)) - 1)) (x0.length : Int))) (ev_sl e83) (ev_sl e88) rfl hk107 rfl), rfl, S⟩
        · intro a u X' hB hu hp hr hz hl S
          replace S : St w0 u ([] ++ X') := S
          have e89 : sl a 89 = .int .i64 (w64 (Int.tdiv (w64 ((w64 (x1 + 1)) - 1)) (x0.length : Int))) := hp 42 rfl
          exact .inl ⟨rfl, .int .i64 (w64 ((w64 (Int.tdiv (w64 ((w64 (x1 + 1)) - 1)) (x0.length : Int))) * 53)), u, (run_mul (z := w64 ((w64 (Int.tdiv (w64 ((w64 (x1 + 1)) - 1)) (x0.length : Int))) * 53)) (ev_sl e89) (ev_const _ _) rfl rfl), rfl, S⟩
        · intro a u X' hB hu hp hr hz hl S
          replace S : St w0 u ([] ++ X') := S
          have e82 : sl a 82 = .int .i64 (w64 ((w64 ((w64 ((w64 ((x0.getD ((Int.tmod (w64 ((w64 (x1 + 1)) - 1)) (x0.length : Int)).toNat) (0 : Int)))) * 131)) + (w64 ((w64 ((x0.getD ((Int.tmod (w64 ((w64 ((w64 ((w64 (x1 + 1)) - 1)) * 7)) + 3)) (x0.length : Int)).toNat) (0 : Int)))) * 1117)))) + (w64 ((w64 ((w64 (x1 + 1)) - 1)) * 29)))) := hp 35 rfl
          have e90 : sl a 90 = .int .i64 (w64 ((w64 (Int.tdiv (w64 ((w64 (x1 + 1)) - 1)) (x0.length : Int))) * 53)) := hp 43 rfl
          exact .inl ⟨rfl, .int .i64 (w64 ((w64 ((w64 ((w64 ((w64 ((x0.getD ((Int.tmod (w64 ((w64 (x1 + 1)) - 1)) (x0.length : Int)).toNat) (0 : Int)))) * 131)) + (w64 ((w64 ((x0.getD ((Int.tmod (w64 ((w64 ((w64 ((w64 (x1 + 1)) - 1)) * 7)) + 3)) (x0.length : Int)).toNat) (0 : Int)))) * 1117)))) + (w64 ((w64 ((w64 (x1 + 1)) - 1)) * 29)))) + (w64 ((w64 (Int.tdiv (w64 ((w64 (x1 + 1)) - 1)) (x0.length : Int))) * 53)))), u, (run_add (z := w64 ((w64 ((w64 ((w64 ((w64 ((x0.getD ((Int.tmod (w64 ((w64 (x1 + 1)) - 1)) (x0.length : Int)).toNat) (0 : Int)))) * 131)) + (w64 ((w64 ((x0.getD ((Int.tmod (w64 ((w64 ((w64 ((w64 (x1 + 1)) - 1)) * 7)) + 3)) (x0.length : Int)).toNat) (0 : Int)))) * 1117)))) + (w64 ((w64 ((w64 (x1 + 1)) - 1)) * 29)))) + (w64 ((w64 (Int.tdiv (w64 ((w64 (x1 + 1)) - 1)) (x0.length : Int))) * 53)))) (ev_sl e82) (ev_sl e90) rfl rfl), rfl, S⟩
        · intro a u X' hB hu hp hr hz hl S
          replace S : St w0 u ([] ++ X') := S
          have e91 : sl a 91 = .int .i64 (w64 ((w64 ((w64 ((w64 ((w64 ((x0.getD ((Int.tmod (w64 ((w64 (x1 + 1)) - 1)) (x0.length : Int)).toNat) (0 : Int)))) * 131)) + (w64 ((w64 ((x0.getD ((Int.tmod (w64 ((w64 ((w64 ((w64 (x1 + 1)) - 1)) * 7)) + 3)) (x0.length : Int)).toNat) (0 : Int)))) * 1117)))) + (w64 ((w64 ((w64 (x1 + 1)) - 1)) * 29)))) + (w64 ((w64 (Int.tdiv (w64 ((w64 (x1 + 1)) - 1)) (x0.length : Int))) * 53)))) := hp 44 rfl
          exact .inl ⟨rfl, .int .i64 (w64 ((w64 ((w64 ((w64 ((w64 ((x0.getD ((Int.tmod (w64 ((w64 (x1 + 1)) - 1)) (x0.length : Int)).toNat) (0 : Int)))) * 131)) + (w64 ((w64 ((x0.getD ((Int.tmod (w64 ((w64 ((w64 ((w64 (x1 + 1)) - 1)) * 7)) + 3)) (x0.length : Int)).toNat) (0 : Int)))) * 1117)))) + (w64 ((w64 ((w64 (x1 + 1)) - 1)) * 29)))) + (w64 ((w64 (Int.tdiv (w64 ((w64 (x1 + 1)) - 1)) (x0.length : Int))) * 53)))), u, (run_assign rfl (ev_sl e91)), rfl, S⟩
      · intro a u hB hp S
        obtain ⟨q0, q1, q2, q3, q4, q5, q6, q7, q8, q9, q10, q11, q12, q13, q14, q15, q16, q17, q18, q19, q20, q21, q22, q23, q24, q25, q26, q27, q28, q29, q30, q31, q32, q33, q34, q35, q36, q37, q38, q39, q40, q41, q42, q43, q44, q45, _⟩ := hp
        have e47 : sl a 47 = .pointer (some ⟨g0, 0, none⟩) := q0
        have e48 : sl a 48 = .pointer (some ⟨g0, 0, none⟩) := q1
        have e49 : sl a 49 = .pointer (some ⟨g0, 0, none⟩) := q2
        have e50 : sl a 50 = .slice A0 x0.length c0 := q3
        have e51 : sl a 51 = .int .i64 (w64 ((w64 (x1 + 1)) - 1)) := q4
        have e52 : sl a 52 = .pointer (some ⟨g0, 0, none⟩) := q5
        have e53 : sl a 53 = .pointer (some ⟨g0, 0, none⟩) := q6
        have e54 : sl a 54 = .pointer (some ⟨g0, 0, none⟩) := q7
        have e55 : sl a 55 = .slice A0 x0.length c0 := q8
        have e56 : sl a 56 = .int .i64 (x0.length : Int) := q9
        have e57 : sl a 57 = .int .i64 (Int.tmod (w64 ((w64 (x1 + 1)) - 1)) (x0.length : Int)) := q10
        have e58 : sl a 58 = .pointer (some ⟨adB A0, adO A0 + ((Int.tmod (w64 ((w64 (x1 + 1)) - 1)) (x0.length : Int)).toNat) * 1, none⟩) := q11
        have e59 : sl a 59 = .int .u8 (x0.getD ((Int.tmod (w64 ((w64 (x1 + 1)) - 1)) (x0.length : Int)).toNat) (0 : Int)) := q12
        have e60 : sl a 60 = .int .i64 (w64 ((x0.getD ((Int.tmod (w64 ((w64 (x1 + 1)) - 1)) (x0.length : Int)).toNat) (0 : Int)))) := q13
        have e61 : sl a 61 = .int .i64 (w64 ((w64 ((x0.getD ((Int.tmod (w64 ((w64 (x1 + 1)) - 1)) (x0.length : Int)).toNat) (0 : Int)))) * 131)) := q14
        have e62 : sl a 62 = .pointer (some ⟨g0, 0, none⟩) := q15
        have e63 : sl a 63 = .pointer (some ⟨g0, 0, none⟩) := q16
        have e64 : sl a 64 = .pointer (some ⟨g0, 0, none⟩) := q17
        have e65 : sl a 65 = .slice A0 x0.length c0 := q18
        have e66 : sl a 66 = .int .i64 (w64 ((w64 (x1 + 1)) - 1)) := q19
        have e67 : sl a 67 = .int .i64 (w64 ((w64 ((w64 (x1 + 1)) - 1)) * 7)) := q20
        have e68 : sl a 68 = .int .i64 (w64 ((w64 ((w64 ((w64 (x1 + 1)) - 1)) * 7)) + 3)) := q21
        have e69 : sl a 69 = .pointer (some ⟨g0, 0, none⟩) := q22
        have e70 : sl a 70 = .pointer (some ⟨g0, 0, none⟩) := q23
        have e71 : sl a 71 = .pointer (some ⟨g0, 0, none⟩) := q24
        have e72 : sl a 72 = .slice A0 x0.length c0 := q25
        have e73 : sl a 73 = .int .i64 (x0.length : Int) := q26
        have e74 : sl a 74 = .int .i64 (Int.tmod (w64 ((w64 ((w64 ((w64 (x1 + 1)) - 1)) * 7)) + 3)) (x0.length : Int)) := q27
        have e75 : sl a 75 = .pointer (some ⟨adB A0, adO A0 + ((Int.tmod (w64 ((w64 ((w64 ((w64 (x1 + 1)) - 1)) * 7)) + 3)) (x0.length : Int)).toNat) * 1, none⟩) := q28
        have e76 : sl a 76 = .int .u8 (x0.getD ((Int.tmod (w64 ((w64 ((w64 ((w64 (x1 + 1)) - 1)) * 7)) + 3)) (x0.length : Int)).toNat) (0 : Int)) := q29
        have e77 : sl a 77 = .int .i64 (w64 ((x0.getD ((Int.tmod (w64 ((w64 ((w64 ((w64 (x1 + 1)) - 1)) * 7)) + 3)) (x0.length : Int)).toNat) (0 : Int)))) := q30
        have e78 : sl a 78 = .int .i64 (w64 ((w64 ((x0.getD ((Int.tmod (w64 ((w64 ((w64 ((w64 (x1 + 1)) - 1)) * 7)) + 3)) (x0.length : Int)).toNat) (0 : Int)))) * 1117)) := q31
        have e79 : sl a 79 = .int .i64 (w64 ((w64 ((w64 ((x0.getD ((Int.tmod (w64 ((w64 (x1 + 1)) - 1)) (x0.length : Int)).toNat) (0 : Int)))) * 131)) + (w64 ((w64 ((x0.getD ((Int.tmod (w64 ((w64 ((w64 ((w64 (x1 + 1)) - 1)) * 7)) + 3)) (x0.length : Int)).toNat) (0 : Int)))) * 1117)))) := q32
        have e80 : sl a 80 = .int .i64 (w64 ((w64 (x1 + 1)) - 1)) := q33
        have e81 : sl a 81 = .int .i64 (w64 ((w64 ((w64 (x1 + 1)) - 1)) * 29)) := q34
        have e82 : sl a 82 = .int .i64 (w64 ((w64 ((w64 ((w64 ((x0.getD ((Int.tmod (w64 ((w64 (x1 + 1)) - 1)) (x0.length : Int)).toNat) (0 : Int)))) * 131)) + (w64 ((w64 ((x0.getD ((Int.tmod (w64 ((w64 ((w64 ((w64 (x1 + 1)) - 1)) * 7)) + 3)) (x0.length : Int)).toNat) (0 : Int)))) * 1117)))) + (w64 ((w64 ((w64 (x1 + 1)) - 1)) * 29)))) := q35
        have e83 : sl a 83 = .int .i64 (w64 ((w64 (x1 + 1)) - 1)) := q36
        have e84 : sl a 84 = .pointer (some ⟨g0, 0, none⟩) := q37
        have e85 : sl a 85 = .pointer (some ⟨g0, 0, none⟩) := q38
        have e86 : sl a 86 = .pointer (some ⟨g0, 0, none⟩) := q39
        have e87 : sl a 87 = .slice A0 x0.length c0 := q40
        have e88 : sl a 88 = .int .i64 (x0.length : Int) := q41
        have e89 : sl a 89 = .int .i64 (w64 (Int.tdiv (w64 ((w64 (x1 + 1)) - 1)) (x0.length : Int))) := q42
        have e90 : sl a 90 = .int .i64 (w64 ((w64 (Int.tdiv (w64 ((w64 (x1 + 1)) - 1)) (x0.length : Int))) * 53)) := q43
        have e91 : sl a 91 = .int .i64 (w64 ((w64 ((w64 ((w64 ((w64 ((x0.getD ((Int.tmod (w64 ((w64 (x1 + 1)) - 1)) (x0.length : Int)).toNat) (0 : Int)))) * 131)) + (w64 ((w64 ((x0.getD ((Int.tmod (w64 ((w64 ((w64 ((w64 (x1 + 1)) - 1)) * 7)) + 3)) (x0.length : Int)).toNat) (0 : Int)))) * 1117)))) + (w64 ((w64 ((w64 (x1 + 1)) - 1)) * 29)))) + (w64 ((w64 (Int.tdiv (w64 ((w64 (x1 + 1)) - 1)) (x0.length : Int))) * 53)))) := q44
        have e6 : sl a 6 = .int .i64 (w64 ((w64 ((w64 ((w64 ((w64 ((x0.getD ((Int.tmod (w64 ((w64 (x1 + 1)) - 1)) (x0.length : Int)).toNat) (0 : Int)))) * 131)) + (w64 ((w64 ((x0.getD ((Int.tmod (w64 ((w64 ((w64 ((w64 (x1 + 1)) - 1)) * 7)) + 3)) (x0.length : Int)).toNat) (0 : Int)))) * 1117)))) + (w64 ((w64 ((w64 (x1 + 1)) - 1)) * 29)))) + (w64 ((w64 (Int.tdiv (w64 ((w64 (x1 + 1)) - 1)) (x0.length : Int))) * 53)))) := q45
        replace S : St w0 u (Asn.box g0 57 #[.slice A0 x0.length c0, .int .i64 (w64 (x1 + 1))] :: X) := S
        clear q0 q1 q2 q3 q4 q5 q6 q7 q8 q9 q10 q11 q12 q13 q14 q15 q16 q17 q18 q19 q20 q21 q22 q23 q24 q25 q26 q27 q28 q29 q30 q31 q32 q33 q34 q35 q36 q37 q38 q39 q40 q41 q42 q43 q44 q45
        have hF := hF.region hB [(47, .pointer (some ⟨g0, 0, none⟩)), (48, .pointer (some ⟨g0, 0, none⟩)), (49, .pointer (some ⟨g0, 0, none⟩)), (50, .slice A0 x0.length c0), (51, .int .i64 (w64 ((w64 (x1 + 1)) - 1))), (52, .pointer (some ⟨g0, 0, none⟩)), (53, .pointer (some ⟨g0, 0, none⟩)), (54, .pointer (some ⟨g0, 0, none⟩)), (55, .slice A0 x0.length c0), (56, .int .i64 (x0.length : Int)), (57, .int .i64 (Int.tmod (w64 ((w64 (x1 + 1)) - 1)) (x0.length : Int))), (58, .pointer (some ⟨adB A0, adO A0 + ((Int.tmod (w64 ((w64 (x1 + 1)) - 1)) (x0.length : Int)).toNat) * 1, none⟩)), (59, .int .u8 (x0.getD ((Int.tmod (w64 ((w64 (x1 + 1)) - 1)) (x0.length : Int)).toNat) (0 : Int))), (60, .int .i64 (w64 ((x0.getD ((Int.tmod (w64 ((w64 (x1 + 1)) - 1)) (x0.length : Int)).toNat) (0 : Int))))), (61, .int .i64 (w64 ((w64 ((x0.getD ((Int.tmod (w64 ((w64 (x1 + 1)) - 1)) (x0.length : Int)).toNat) (0 : Int)))) * 131))), (62, .pointer (some ⟨g0, 0, none⟩)), (63, .pointer (some ⟨g0, 0, none⟩)), (64, .pointer (some ⟨g0, 0, none⟩)), (65, .slice A0 x0.length c0), (66, .int .i64 (w64 ((w64 (x1 + 1)) - 1))), (67, .int .i64 (w64 ((w64 ((w64 (x1 + 1)) - 1)) * 7))), (68, .int .i64 (w64 ((w64 ((w64 ((w64 (x1 + 1)) - 1)) * 7)) + 3))), (69, .pointer (some ⟨g0, 0, none⟩)), (70, .pointer (some ⟨g0, 0, none⟩)), (71, .pointer (some ⟨g0, 0, none⟩)), (72, .slice A0 x0.length c0), (73, .int .i64 (x0.length : Int)), (74, .int .i64 (Int.tmod (w64 ((w64 ((w64 ((w64 (x1 + 1)) - 1)) * 7)) + 3)) (x0.length : Int))), (75, .pointer (some ⟨adB A0, adO A0 + ((Int.tmod (w64 ((w64 ((w64 ((w64 (x1 + 1)) - 1)) * 7)) + 3)) (x0.length : Int)).toNat) * 1, none⟩)), (76, .int .u8 (x0.getD ((Int.tmod (w64 ((w64 ((w64 ((w64 (x1 + 1)) - 1)) * 7)) + 3)) (x0.length : Int)).toNat) (0 : Int))), (77, .int .i64 (w64 ((x0.getD ((Int.tmod (w64 ((w64 ((w64 ((w64 (x1 + 1)) - 1)) * 7)) + 3)) (x0.length : Int)).toNat) (0 : Int))))), (78, .int .i64 (w64 ((w64 ((x0.getD ((Int.tmod (w64 ((w64 ((w64 ((w64 (x1 + 1)) - 1)) * 7)) + 3)) (x0.length : Int)).toNat) (0 : Int)))) * 1117))), (79, .int .i64 (w64 ((w64 ((w64 ((x0.getD ((Int.tmod (w64 ((w64 (x1 + 1)) - 1)) (x0.length : Int)).toNat) (0 : Int)))) * 131)) + (w64 ((w64 ((x0.getD ((Int.tmod (w64 ((w64 ((w64 ((w64 (x1 + 1)) - 1)) * 7)) + 3)) (x0.length : Int)).toNat) (0 : Int)))) * 1117))))), (80, .int .i64 (w64 ((w64 (x1 + 1)) - 1))), (81, .int .i64 (w64 ((w64 ((w64 (x1 + 1)) - 1)) * 29))), (82, .int .i64 (w64 ((w64 ((w64 ((w64 ((x0.getD ((Int.tmod (w64 ((w64 (x1 + 1)) - 1)) (x0.length : Int)).toNat) (0 : Int)))) * 131)) + (w64 ((w64 ((x0.getD ((Int.tmod (w64 ((w64 ((w64 ((w64 (x1 + 1)) - 1)) * 7)) + 3)) (x0.length : Int)).toNat) (0 : Int)))) * 1117)))) + (w64 ((w64 ((w64 (x1 + 1)) - 1)) * 29))))), (83, .int .i64 (w64 ((w64 (x1 + 1)) - 1))), (84, .pointer (some ⟨g0, 0, none⟩)), (85, .pointer (some ⟨g0, 0, none⟩)), (86, .pointer (some ⟨g0, 0, none⟩)), (87, .slice A0 x0.length c0), (88, .int .i64 (x0.length : Int)), (89, .int .i64 (w64 (Int.tdiv (w64 ((w64 (x1 + 1)) - 1)) (x0.length : Int)))), (90, .int .i64 (w64 ((w64 (Int.tdiv (w64 ((w64 (x1 + 1)) - 1)) (x0.length : Int))) * 53))), (91, .int .i64 (w64 ((w64 ((w64 ((w64 ((w64 ((x0.getD ((Int.tmod (w64 ((w64 (x1 + 1)) - 1)) (x0.length : Int)).toNat) (0 : Int)))) * 131)) + (w64 ((w64 ((x0.getD ((Int.tmod (w64 ((w64 ((w64 ((w64 (x1 + 1)) - 1)) * 7)) + 3)) (x0.length : Int)).toNat) (0 : Int)))) * 1117)))) + (w64 ((w64 ((w64 (x1 + 1)) - 1)) * 29)))) + (w64 ((w64 (Int.tdiv (w64 ((w64 (x1 + 1)) - 1)) (x0.length : Int))) * 53))))), (6, .int .i64 (w64 ((w64 ((w64 ((w64 ((w64 ((x0.getD ((Int.tmod (w64 ((w64 (x1 + 1)) - 1)) (x0.length : Int)).toNat) (0 : Int)))) * 131)) + (w64 ((w64 ((x0.getD ((Int.tmod (w64 ((w64 ((w64 ((w64 (x1 + 1)) - 1)) * 7)) + 3)) (x0.length : Int)).toNat) (0 : Int)))) * 1117)))) + (w64 ((w64 ((w64 (x1 + 1)) - 1)) * 29)))) + (w64 ((w64 (Int.tdiv (w64 ((w64 (x1 + 1)) - 1)) (x0.length : Int))) * 53)))))] (allSl_mem ⟨e47, e48, e49, e50, e51, e52, e53, e54, e55, e56, e57, e58, e59, e60, e61, e62, e63, e64, e65, e66, e67, e68, e69, e70, e71, e72, e73, e74, e75, e76, e77, e78, e79, e80, e81, e82, e83, e84, e85, e86, e87, e88, e89, e90, e91, e6, trivial⟩) rfl
        clear hB e47 e48 e49 e50 e51 e52 e53 e54 e55 e56 e57 e58 e59 e60 e61 e62 e63 e64 e65 e66 e67 e68 e69 e70 e71 e72 e73 e74 e75 e76 e77 e78 e79 e80 e81 e82 e83 e84 e85 e86 e87 e88 e89 e90 e91 e6
        refine wp_seq ?_
        refine wp_region_lit ?_
        refine op_val (v := .int .i64 (w64 ((w64 ((w64 ((w64 ((w64 ((x0.getD ((Int.tmod (w64 ((w64 (x1 + 1)) - 1)) (x0.length : Int)).toNat) (0 : Int)))) * 131)) + (w64 ((w64 ((x0.getD ((Int.tmod (w64 ((w64 ((w64 ((w64 (x1 + 1)) - 1)) * 7)) + 3)) (x0.length : Int)).toNat) (0 : Int)))) * 1117)))) + (w64 ((w64 ((w64 (x1 + 1)) - 1)) * 29)))) + (w64 ((w64 (Int.tdiv (w64 ((w64 (x1 + 1)) - 1)) (x0.length : Int))) * 53))))) rfl rfl hF rfl (run_move rfl (hF.ev rfl)) ?_; clear hF; intro a hF
        refine op_val (v := .int .i64 (w64 ((w64 ((w64 ((w64 ((w64 ((x0.getD ((Int.tmod (w64 ((w64 (x1 + 1)) - 1)) (x0.length : Int)).toNat) (0 : Int)))) * 131)) + (w64 ((w64 ((x0.getD ((Int.tmod (w64 ((w64 ((w64 ((w64 (x1 + 1)) - 1)) * 7)) + 3)) (x0.length : Int)).toNat) (0 : Int)))) * 1117)))) + (w64 ((w64 ((w64 (x1 + 1)) - 1)) * 29)))) + (w64 ((w64 (Int.tdiv (w64 ((w64 (x1 + 1)) - 1)) (x0.length : Int))) * 53))))) rfl rfl hF rfl (run_move rfl (hF.ev rfl)) ?_; clear hF; intro a hF
        refine op_val (v := .int .i64 (w64 (Int.tdiv (w64 ((w64 ((w64 ((w64 ((w64 ((x0.getD ((Int.tmod (w64 ((w64 (x1 + 1)) - 1)) (x0.length : Int)).toNat) (0 : Int)))) * 131)) + (w64 ((w64 ((x0.getD ((Int.tmod (w64 ((w64 ((w64 ((w64 (x1 + 1)) - 1)) * 7)) + 3)) (x0.length : Int)).toNat) (0 : Int)))) * 1117)))) + (w64 ((w64 ((w64 (x1 + 1)) - 1)) * 29)))) + (w64 ((w64 (Int.tdiv (w64 ((w64 (x1 + 1)) - 1)) (x0.length : Int))) * 53)))) 64))) rfl rfl hF rfl (run_quo (z := w64 (Int.tdiv (w64 ((w64 ((w64 ((w64 ((w64 ((x0.getD ((Int.tmod (w64 ((w64 (x1 + 1)) - 1)) (x0.length : Int)).toNat) (0 : Int)))) * 131)) + (w64 ((w64 ((x0.getD ((Int.tmod (w64 ((w64 ((w64 ((w64 (x1 + 1)) - 1)) * 7)) + 3)) (x0.length : Int)).toNat) (0 : Int)))) * 1117)))) + (w64 ((w64 ((w64 (x1 + 1)) - 1)) * 29)))) + (w64 ((w64 (Int.tdiv (w64 ((w64 (x1 + 1)) - 1)) (x0.length : Int))) * 53)))) 64)) (hF.ev rfl) rfl rfl (by decide) rfl) ?_; clear hF; intro a hF
        refine op_val (v := .int .i64 (bitsXor .i64 (w64 ((w64 ((w64 ((w64 ((w64 ((x0.getD ((Int.tmod (w64 ((w64 (x1 + 1)) - 1)) (x0.length : Int)).toNat) (0 : Int)))) * 131)) + (w64 ((w64 ((x0.getD ((Int.tmod (w64 ((w64 ((w64 ((w64 (x1 + 1)) - 1)) * 7)) + 3)) (x0.length : Int)).toNat) (0 : Int)))) * 1117)))) + (w64 ((w64 ((w64 (x1 + 1)) - 1)) * 29)))) + (w64 ((w64 (Int.tdiv (w64 ((w64 (x1 + 1)) - 1)) (x0.length : Int))) * 53)))) (w64 (Int.tdiv (w64 ((w64 ((w64 ((w64 ((w64 ((x0.getD ((Int.tmod (w64 ((w64 (x1 + 1)) - 1)) (x0.length : Int)).toNat) (0 : Int)))) * 131)) + (w64 ((w64 ((x0.getD ((Int.tmod (w64 ((w64 ((w64 ((w64 (x1 + 1)) - 1)) * 7)) + 3)) (x0.length : Int)).toNat) (0 : Int)))) * 1117)))) + (w64 ((w64 ((w64 (x1 + 1)) - 1)) * 29)))) + (w64 ((w64 (Int.tdiv (w64 ((w64 (x1 + 1)) - 1)) (x0.length : Int))) * 53)))) 64)))) rfl rfl hF rfl (run_bxor (hF.ev rfl) (hF.ev rfl) rfl) ?_; clear hF; intro a hF
        refine op_val (v := .int .i64 (bitsXor .i64 (w64 ((w64 ((w64 ((w64 ((w64 ((x0.getD ((Int.tmod (w64 ((w64 (x1 + 1)) - 1)) (x0.length : Int)).toNat) (0 : Int)))) * 131)) + (w64 ((w64 ((x0.getD ((Int.tmod (w64 ((w64 ((w64 ((w64 (x1 + 1)) - 1)) * 7)) + 3)) (x0.length : Int)).toNat) (0 : Int)))) * 1117)))) + (w64 ((w64 ((w64 (x1 + 1)) - 1)) * 29)))) + (w64 ((w64 (Int.tdiv (w64 ((w64 (x1 + 1)) - 1)) (x0.length : Int))) * 53)))) (w64 (Int.tdiv (w64 ((w64 ((w64 ((w64 ((w64 ((x0.getD ((Int.tmod (w64 ((w64 (x1 + 1)) - 1)) (x0.length : Int)).toNat) (0 : Int)))) * 131)) + (w64 ((w64 ((x0.getD ((Int.tmod (w64 ((w64 ((w64 ((w64 (x1 + 1)) - 1)) * 7)) + 3)) (x0.length : Int)).toNat) (0 : Int)))) * 1117)))) + (w64 ((w64 ((w64 (x1 + 1)) - 1)) * 29)))) + (w64 ((w64 (Int.tdiv (w64 ((w64 (x1 + 1)) - 1)) (x0.length : Int))) * 53)))) 64)))) rfl rfl hF rfl (run_assign rfl (hF.ev rfl)) ?_; clear hF; intro a hF
        refine wpList_nil ?_
        refine wp_seq ?_
        refine wp_region_lit ?_
        refine op_val (v := .int .i64 (bitsXor .i64 (w64 ((w64 ((w64 ((w64 ((w64 ((x0.getD ((Int.tmod (w64 ((w64 (x1 + 1)) - 1)) (x0.length : Int)).toNat) (0 : Int)))) * 131)) + (w64 ((w64 ((x0.getD ((Int.tmod (w64 ((w64 ((w64 ((w64 (x1 + 1)) - 1)) * 7)) + 3)) (x0.length : Int)).toNat) (0 : Int)))) * 1117)))) + (w64 ((w64 ((w64 (x1 + 1)) - 1)) * 29)))) + (w64 ((w64 (Int.tdiv (w64 ((w64 (x1 + 1)) - 1)) (x0.length : Int))) * 53)))) (w64 (Int.tdiv (w64 ((w64 ((w64 ((w64 ((w64 ((x0.getD ((Int.tmod (w64 ((w64 (x1 + 1)) - 1)) (x0.length : Int)).toNat) (0 : Int)))) * 131)) + (w64 ((w64 ((x0.getD ((Int.tmod (w64 ((w64 ((w64 ((w64 (x1 + 1)) - 1)) * 7)) + 3)) (x0.length : Int)).toNat) (0 : Int)))) * 1117)))) + (w64 ((w64 ((w64 (x1 + 1)) - 1)) * 29)))) + (w64 ((w64 (Int.tdiv (w64 ((w64 (x1 + 1)) - 1)) (x0.length : Int))) * 53)))) 64)))) rfl rfl hF rfl (run_move rfl (hF.ev rfl)) ?_; clear hF; intro a hF
        refine op_val (v := .int .i64 x2) rfl rfl hF rfl (run_move rfl (hF.ev rfl)) ?_; clear hF; intro a hF
        obtain ⟨hk108, hM⟩ := chk_ex hM
        replace hk108 := nzB_t hk108
        refine op_val (v := .int .i64 (Int.tmod (bitsXor .i64 (w64 ((w64 ((w64 ((w64 ((w64 ((x0.getD ((Int.tmod (w64 ((w64 (x1 + 1)) - 1)) (x0.length : Int)).toNat) (0 : Int)))) * 131)) + (w64 ((w64 ((x0.getD ((Int.tmod (w64 ((w64 ((w64 ((w64 (x1 + 1)) - 1)) * 7)) + 3)) (x0.length : Int)).toNat) (0 : Int)))) * 1117)))) + (w64 ((w64 ((w64 (x1 + 1)) - 1)) * 29)))) + (w64 ((w64 (Int.tdiv (w64 ((w64 (x1 + 1)) - 1)) (x0.length : Int))) * 53)))) (w64 (Int.tdiv (w64 ((w64 ((w64 ((w64 ((w64 ((x0.getD ((Int.tmod (w64 ((w64 (x1 + 1)) - 1)) (x0.length : Int)).toNat) (0 : Int)))) * 131)) + (w64 ((w64 ((x0.getD ((Int.tmod (w64 ((w64 ((w64 ((w64 (x1 + 1)) - 1)) * 7)) + 3)) (x0.length : Int)).toNat) (0 : Int)))) * 1117)))) + (w64 ((w64 ((w64 (x1 + 1)) - 1)) * 29)))) + (w64 ((w64 (Int.tdiv (w64 ((w64 (x1 + 1)) - 1)) (x0.length : Int))) * 53)))) 64))) x2)) rfl rfl hF rfl (run_rem (z := Int.tmod (bitsXor .i64 (w64 ((w64 ((w64 ((w64 ((w64 ((x0.getD ((Int.tmod (w64 ((w64 (x1 + 1)) - 1)) (x0.length : Int)).toNat) (0 : Int)))) * 131)) + (w64 ((w64 ((x0.getD ((Int.tmod (w64 ((w64 ((w64 ((w64 (x1 + 1)) - 1)) * 7)) + 3)) (x0.length : Int)).toNat) (0 : Int)))) * 1117)))) + (w64 ((w64 ((w64 (x1 + 1)) - 1)) * 29)))) + (w64 ((w64 (Int.tdiv (w64 ((w64 (x1 + 1)) - 1)) (x0.length : Int))) * 53)))) (w64 (Int.tdiv (w64 ((w64 ((w64 ((w64 ((w64 ((x0.getD ((Int.tmod (w64 ((w64 (x1 + 1)) - 1)) (x0.length : Int)).toNat) (0 : Int)))) * 131)) + (w64 ((w64 ((x0.getD ((Int.tmod (w64 ((w64 ((w64 ((w64 (x1 + 1)) - 1)) * 7)) + 3)) (x0.length : Int)).toNat) (0 : Int)))) * 1117)))) + (w64 ((w64 ((w64 (x1 + 1)) - 1)) * 29)))) + (w64 ((w64 (Int.tdiv (w64 ((w64 (x1 + 1)) - 1)) (x0.length : Int))) * 53)))) 64))) x2) (hF.ev rfl) (hF.ev rfl) rfl hk108 rfl) ?_; clear hF; intro a hF
        refine op_val (v := .int .i64 (Int.tmod (bitsXor .i64 (w64 ((w64 ((w64 ((w64 ((w64 ((x0.getD ((Int.tmod (w64 ((w64 (x1 + 1)) - 1)) (x0.length : Int)).toNat) (0 : Int)))) * 131)) + (w64 ((w64 ((x0.getD ((Int.tmod (w64 ((w64 ((w64 ((w64 (x1 + 1)) - 1)) * 7)) + 3)) (x0.length : Int)).toNat) (0 : Int)))) * 1117)))) + (w64 ((w64 ((w64 (x1 + 1)) - 1)) * 29)))) + (w64 ((w64 (Int.tdiv (w64 ((w64 (x1 + 1)) - 1)) (x0.length : Int))) * 53)))) (w64 (Int.tdiv (w64 ((w64 ((w64 ((w64 ((w64 ((x0.getD ((Int.tmod (w64 ((w64 (x1 + 1)) - 1)) (x0.length : Int)).toNat) (0 : Int)))) * 131)) + (w64 ((w64 ((x0.getD ((Int.tmod (w64 ((w64 ((w64 ((w64 (x1 + 1)) - 1)) * 7)) + 3)) (x0.length : Int)).toNat) (0 : Int)))) * 1117)))) + (w64 ((w64 ((w64 (x1 + 1)) - 1)) * 29)))) + (w64 ((w64 (Int.tdiv (w64 ((w64 (x1 + 1)) - 1)) (x0.length : Int))) * 53)))) 64))) x2)) rfl rfl hF rfl (run_assign rfl (hF.ev rfl)) ?_; clear hF; intro a hF
        refine wpList_nil ?_
        refine wp_ret ?_
        repeat with_reducible (first | refine then_ret ?_ | refine in_ret ?_ | refine in_nrm ?_)
        refine ret1_gw (.inl rfl) hF rfl (res_tmp (hF.ev rfl)) ?_
        obtain rfl := Option.some.inj hM
        exact ⟨rfl, S.selT (M := [.box g0 57 #[.slice A0 x0.length c0, .int .i64 (w64 (x1 + 1))]]) 1 [0] rfl rfl rfl⟩
    · replace hM := bif_t hc102 hM
      refine cond_t hF rfl hc102 ?_
      refine wp_seq ?_
      refine wp_region_lit ?_
      refine op_val (v := .pointer (some ⟨g0, 0, none⟩)) rfl rfl hF rfl (run_move rfl (hF.ev rfl)) ?_; clear hF; intro a hF
      refine op_val (v := .pointer (some ⟨g0, 0, none⟩)) rfl rfl hF rfl (run_nilCheck rfl (hF.ev rfl)) ?_; clear hF; intro a hF
      refine op_val (v := .pointer (some ⟨g0, 0, none⟩)) rfl rfl hF rfl (run_fieldAddr rfl fl57_0 (hF.ev rfl) rfl) ?_; clear hF; intro a hF
      refine op_val (v := .slice A0 x0.length c0) rfl rfl hF rfl (run_load1 rfl one22 (hF.ev rfl) ((S.free 0 rfl).cell rfl)) ?_; clear hF; intro a hF
      refine op_val (v := .int .i64 (w64 ((w64 (x1 + 1)) - 1))) rfl rfl hF rfl (run_move rfl (hF.ev rfl)) ?_; clear hF; intro a hF
      obtain ⟨hk109, hM⟩ := chk_ex hM
      replace hk109 := ixB_t hk109
      refine op_val (v := .pointer (some ⟨adB A0, adO A0 + ((w64 ((w64 (x1 + 1)) - 1)).toNat) * 1, none⟩)) rfl rfl hF rfl (run_indexAddr (b := adB A0) (off := adO A0) rfl Tryd.underlying22 sz5 ((hF.ev rfl).trans (congrArg (fun A => Value.slice A x0.length c0) ((S.rc0 h0.rc).rd.ad (ix_pos hk109)))) (hF.ev rfl) hk109.1 hk109.2 (k' := adO A0 + ((w64 ((w64 (x1 + 1)) - 1)).toNat) * 1) rfl) ?_; clear hF; intro a hF
      refine op_val (v := .int .u8 (x0.getD ((w64 ((w64 (x1 + 1)) - 1)).toNat) (0 : Int))) rfl rfl hF rfl (run_load1 rfl one5 (hF.ev rfl) (rd_el0 (l := x0) (S.rc0 h0.rc).rd rfl eU_len (0 : Int) (ix_ltn hk109 rfl) rfl)) ?_; clear hF; intro a hF
      refine op_val (v := .int .i64 (w64 ((x0.getD ((w64 ((w64 (x1 + 1)) - 1)).toNat) (0 : Int))))) rfl rfl hF rfl (run_convI rfl Tryd.underlying5 Tryd.underlying3 (hF.ev rfl)) ?_; clear hF; intro a hF
      refine op_val (v := .int .i64 x2) rfl rfl hF rfl (run_move rfl (hF.ev rfl)) ?_; clear hF; intro a hF
      obtain ⟨hk110, hM⟩ := chk_ex hM
      replace hk110 := nzB_t hk110
      refine op_val (v := .int .i64 (Int.tmod (w64 ((x0.getD ((w64 ((w64 (x1 + 1)) - 1)).toNat) (0 : Int)))) x2)) rfl rfl hF rfl (run_rem (z := Int.tmod (w64 ((x0.getD ((w64 ((w64 (x1 + 1)) - 1)).toNat) (0 : Int)))) x2) (hF.ev rfl) (hF.ev rfl) rfl hk110 rfl) ?_; clear hF; intro a hF
      refine op_val (v := .int .i64 (Int.tmod (w64 ((x0.getD ((w64 ((w64 (x1 + 1)) - 1)).toNat) (0 : Int)))) x2)) rfl rfl hF rfl (run_assign rfl (hF.ev rfl)) ?_; clear hF; intro a hF
      refine wpList_nil ?_
      refine wp_ret ?_
      repeat with_reducible (first | refine then_ret ?_ | refine in_ret ?_ | refine in_nrm ?_)
      refine ret1_gw (.inl rfl) hF rfl (res_tmp (hF.ev rfl)) ?_
      obtain rfl := Option.some.inj hM
      exact ⟨rfl, S.selT (M := [.box g0 57 #[.slice A0 x0.length c0, .int .i64 (w64 (x1 + 1))]]) 1 [0] rfl rfl rfl⟩
  · replace hM := bif_t hc101 hM
    refine cond_t hF rfl hc101 ?_
    refine wp_seq ?_
    refine wp_region_lit ?_
    refine op_val (v := .int .i64 0) rfl rfl hF rfl (run_assign rfl rfl) ?_; clear hF; intro a hF
    refine wpList_nil ?_
    refine wp_ret ?_
    repeat with_reducible (first | refine then_ret ?_ | refine in_ret ?_ | refine in_nrm ?_)
    refine ret1_gw (.inl rfl) hF rfl (res_tmp (hF.ev rfl)) ?_
    obtain rfl := Option.some.inj hM
    exact ⟨rfl, S.selT (M := [.box g0 57 #[.slice A0 x0.length c0, .int .i64 (w64 (x1 + 1))]]) 1 [0] rfl rfl rfl⟩

set_option maxHeartbeats 4000000 in
theorem c_spec_l20Rd_odd {x0 : List Int} {x1 : Int} {x2 : Int} {A0 : Option Addr} {n0 c0 : Nat} {g0 : Nat} {w : World} {r : Bool × Int} {w0 : World} {X : List Asn} (h0 : Rt w0 1 eU A0 n0 c0 x0) (S : St w0 w (Asn.box g0 57 #[.slice A0 n0 c0, .int .i64 x1] :: X)) (hM : m_spec_l20Rd_odd x0 x1 x2 = some r) :
    Calls Tryd.prog 33 #[.pointer (some ⟨g0, 0, none⟩), .int .i64 x2] w (fun e w' => e = .returned (.bool r.1) ∧ St w0 w' (Asn.box g0 57 #[.slice A0 n0 c0, .int .i64 r.2] :: X)) := by
  obtain rfl := h0.len
  unfold m_spec_l20Rd_odd at hM
  refine calls_gw Tryd.func33 Tryd.ntmps33 rfl [(0, .pointer (some ⟨g0, 0, none⟩)), (1, .int .i64 x2)] ⟨rfl, rfl, trivial⟩ rfl ?_
  intro a hF
  refine wp_seq ?_
  refine wp_region_lit ?_
  refine op_val (v := .bool false) rfl rfl hF rfl (run_assign rfl rfl) ?_; clear hF; intro a hF
  refine wpList_nil ?_
  refine wp_seq ?_
  obtain ⟨o102, hM103, hM⟩ := bind_ex hM
  refine wp_cut (fun a u => ∃ (p101 : Bool × Int), p101 = o102 ∧ Fr a 15 [(4, .bool p101.1)] ∧ St w0 u (Asn.box g0 57 #[.slice A0 x0.length c0, .int .i64 p101.2] :: X)) ?_ ?_
  · have _ := trivial
    refine wp_region_lit ?_
    refine op_val (v := .int .i64 x2) rfl rfl hF rfl (run_move rfl (hF.ev rfl)) ?_; clear hF; intro a hF
    refine op_val (v := .bool (ltB 0 x2)) rfl rfl hF rfl (run_gtr (hF.ev rfl) rfl rfl) ?_; clear hF; intro a hF
    refine op_val (v := .bool (ltB 0 x2)) rfl rfl hF rfl (run_move rfl (hF.ev rfl)) ?_; clear hF; intro a hF
    refine op_gv (v := .pointer (some ⟨g0, 0, none⟩)) rfl rfl hF rfl (yt (gw_yield hF rfl rfl rfl)) (fun hg => (run_move rfl (hF.ev rfl))) ?_; clear hF; intro a hF
    refine op_gv (v := .int .i64 x2) rfl rfl hF rfl (yt (gw_yield hF rfl rfl rfl)) (fun hg => (run_move rfl (hF.ev rfl))) ?_; clear hF; intro a hF
    cases hc104 : (ltB 0 x2)
    · replace hM103 := bif_f hc104 hM103
      refine op_skipped rfl ((gw_yield hF rfl rfl rfl).trans (congrArg some hc104)) rfl rfl hF rfl ?_; clear hF; intro a hF
      refine op_skipped rfl ((gw_yield hF rfl rfl rfl).trans (congrArg some hc104)) rfl rfl hF rfl ?_; clear hF; intro a hF
      refine op_skipped rfl ((gw_yield hF rfl rfl rfl).trans (congrArg some hc104)) rfl rfl hF rfl ?_; clear hF; intro a hF
      refine op_skipped rfl ((gw_yield hF rfl rfl rfl).trans (congrArg some hc104)) rfl rfl hF rfl ?_; clear hF; intro a hF
      refine op_val (v := .bool false) rfl rfl hF rfl (run_pick_f rfl (hF.ev rfl) hc104 rfl) ?_; clear hF; intro a hF
      refine op_val (v := .bool false) rfl rfl hF rfl (run_assign rfl (hF.ev rfl)) ?_; clear hF; intro a hF
      refine wpList_nil ?_
      obtain rfl := Option.some.inj hM103
      exact ⟨(false, x1), rfl, hF.keep _ ⟨rfl, trivial⟩, S.selT (M := [.box g0 57 #[.slice A0 x0.length c0, .int .i64 x1]]) 1 [0] rfl rfl rfl⟩
    · replace hM103 := bif_t hc104 hM103
      refine op_guarded rfl ((gw_yield hF rfl rfl rfl).trans (congrArg some hc104)) ?_
      obtain ⟨p105, h105, hM103⟩ := bind_ex hM103
      refine op_call rfl rfl hF rfl (run_call (vs := [.pointer (some ⟨g0, 0, none⟩), .int .i64 x2]) rfl rfl co32 ⟨((hF.ev rfl).trans (gv_t hc104)), ((hF.ev rfl).trans (gv_t hc104)), trivial⟩) (c_spec_l20Rd_pick (x0 := x0) (x1 := x1) (x2 := x2) ⟨h0.rc, rfl⟩ (show St w0 _ (Asn.box g0 57 #[.slice A0 x0.length c0, .int .i64 x1] :: X) from S.selT (M := [.box g0 57 #[.slice A0 x0.length c0, .int .i64 x1]]) 1 [0] rfl rfl rfl) h105) ?_
      rintro e u ⟨rfl, T⟩
      refine ⟨_, rfl, ?_⟩
      clear hF; intro a hF
      clear S; have S := T; clear T
      refine op_guarded rfl ((gw_yield hF rfl rfl rfl).trans (congrArg some hc104)) ?_
      refine op_val (v := .int .i64 x2) rfl rfl hF rfl (run_move rfl (hF.ev rfl)) ?_; clear hF; intro a hF
      refine op_guarded rfl ((gw_yield hF rfl rfl rfl).trans (congrArg some hc104)) ?_
      refine op_val (v := .int .i64 (w64 (x2 - 1))) rfl rfl hF rfl (run_sub (z := w64 (x2 - 1)) (hF.ev rfl) rfl rfl rfl) ?_; clear hF; intro a hF
      refine op_guarded rfl ((gw_yield hF rfl rfl rfl).trans (congrArg some hc104)) ?_
      refine op_val (v := .bool (p105.1 == (w64 (x2 - 1)))) rfl rfl hF rfl (run_eql (hF.ev rfl) (hF.ev rfl) rfl) ?_; clear hF; intro a hF
      refine op_val (v := .bool (p105.1 == (w64 (x2 - 1)))) rfl rfl hF rfl (run_pick_t rfl (hF.ev rfl) hc104 (hF.ev rfl)) ?_; clear hF; intro a hF
      refine op_val (v := .bool (p105.1 == (w64 (x2 - 1)))) rfl rfl hF rfl (run_assign rfl (hF.ev rfl)) ?_; clear hF; intro a hF
      refine wpList_nil ?_
      obtain rfl := Option.some.inj hM103
      exact ⟨(p105.1 == (w64 (x2 - 1)), p105.2), rfl, hF.keep _ ⟨rfl, trivial⟩, S.selT (M := [.box g0 57 #[.slice A0 x0.length c0, .int .i64 p105.2]]) 1 [0] rfl rfl rfl⟩
  · rintro a u ⟨p101, rfl, hF, S⟩
    refine wp_ret ?_
    repeat with_reducible (first | refine then_ret ?_ | refine in_ret ?_ | refine in_nrm ?_)
    refine ret1_gw (.inl rfl) hF rfl (res_tmp (hF.ev rfl)) ?_
    obtain rfl := Option.some.inj hM
    exact ⟨rfl, S.selT (M := [.box g0 57 #[.slice A0 x0.length c0, .int .i64 p101.2]]) 1 [0] rfl rfl rfl⟩

set_option maxHeartbeats 4000000 in
theorem c_spec_l20Turning {x0 : List Int} {x1 : Int} {x2 : Int} {A0 : Option Addr} {n0 c0 : Nat} {g0 : Nat} {w : World} {r : Int × Int × Int} {w0 : World} {X : List Asn} (h0 : Rt w0 1 eU A0 n0 c0 x0) (S : St w0 w (Asn.box g0 57 #[.slice A0 n0 c0, .int .i64 x1] :: X)) (hM : m_spec_l20Turning x0 x1 x2 = some r) :
    Calls Tryd.prog 24 #[.pointer (some ⟨g0, 0, none⟩), .int .i64 x2] w (fun e w' => e = .returned (.agg #[.int .i64 r.1, .int .i64 r.2.1]) ∧ St w0 w' (Asn.box g0 57 #[.slice A0 n0 c0, .int .i64 r.2.2] :: X)) := by
  obtain rfl := h0.len
  unfold m_spec_l20Turning at hM
  refine calls_gw Tryd.func24 Tryd.ntmps24 rfl [(0, .pointer (some ⟨g0, 0, none⟩)), (1, .int .i64 x2)] ⟨rfl, rfl, trivial⟩ rfl ?_
  intro a hF
  refine wp_seq ?_
  refine wp_region_lit ?_
  refine op_new (cs := #[.int .i64 0, .int .i64 0]) rfl rfl hF rfl S (run_allocZ rfl zr24) ?_; clear hF S; intro a g101 u hF S
  refine wpList_nil ?_
  refine wp_seq ?_
  refine wp_region_lit ?_
  refine op_val (v := .pointer (some ⟨g0, 0, none⟩)) rfl rfl hF rfl (run_move rfl (hF.ev rfl)) ?_; clear hF; intro a hF
  obtain ⟨p102, h102, hM⟩ := bind_ex hM
  refine op_call rfl rfl hF rfl (run_call (vs := [.pointer (some ⟨g0, 0, none⟩), .int .i64 200]) rfl rfl co32 ⟨(hF.ev rfl), rfl, trivial⟩) (c_spec_l20Rd_pick (x0 := x0) (x1 := x1) (x2 := 200) ⟨h0.rc, rfl⟩ (show St w0 _ (Asn.box g0 57 #[.slice A0 x0.length c0, .int .i64 x1] :: Asn.box g101 24 #[.int .i64 0, .int .i64 0] :: X) from S.selT (M := [.box g0 57 #[.slice A0 x0.length c0, .int .i64 x1], .box g101 24 #[.int .i64 0, .int .i64 0]]) 2 [1, 0] rfl rfl rfl) h102) ?_
  rintro e u ⟨rfl, T⟩
  refine ⟨_, rfl, ?_⟩
  clear hF; intro a hF
  clear S; have S := T; clear T
  refine op_val (v := .int .i64 (w64 (400 + p102.1))) rfl rfl hF rfl (run_add (z := w64 (400 + p102.1)) rfl (hF.ev rfl) rfl rfl) ?_; clear hF; intro a hF
  refine op_val (v := .pointer (some ⟨g0, 0, none⟩)) rfl rfl hF rfl (run_move rfl (hF.ev rfl)) ?_; clear hF; intro a hF
  obtain ⟨p103, h103, hM⟩ := bind_ex hM
  refine op_call rfl rfl hF rfl (run_call (vs := [.pointer (some ⟨g0, 0, none⟩), .int .i64 50]) rfl rfl co32 ⟨(hF.ev rfl), rfl, trivial⟩) (c_spec_l20Rd_pick (x0 := x0) (x1 := p102.2) (x2 := 50) ⟨h0.rc, rfl⟩ (show St w0 _ (Asn.box g0 57 #[.slice A0 x0.length c0, .int .i64 p102.2] :: Asn.box g101 24 #[.int .i64 0, .int .i64 0] :: X) from S.selT (M := [.box g0 57 #[.slice A0 x0.length c0, .int .i64 p102.2], .box g101 24 #[.int .i64 0, .int .i64 0]]) 2 [0, 1] rfl rfl rfl) h103) ?_
  rintro e u ⟨rfl, T⟩
  refine ⟨_, rfl, ?_⟩
  clear hF; intro a hF
  clear S; have S := T; clear T
  refine op_val (v := .int .i64 (w64 (1 + p103.1))) rfl rfl hF rfl (run_add (z := w64 (1 + p103.1)) rfl (hF.ev rfl) rfl rfl) ?_; clear hF; intro a hF
  refine op_val (v := .agg #[.int .i64 (w64 (400 + p102.1)), .int .i64 (w64 (1 + p103.1))]) rfl rfl hF rfl (run_build (vs := [(0, .int .i64 (w64 (400 + p102.1))), (1, .int .i64 (w64 (1 + p103.1)))]) rfl ⟨⟨rfl, (hF.ev rfl)⟩, ⟨rfl, (hF.ev rfl)⟩, trivial⟩ (bd24_0_1 rfl rfl)) ?_; clear hF; intro a hF
  refine op_new (cs := #[.int .i64 0, .int .i64 0]) rfl rfl hF rfl S (run_allocZ rfl zr24) ?_; clear hF S; intro a g104 u hF S
  refine op_do rfl rfl (run_store (cs' := #[.int .i64 (w64 (400 + p102.1)), .int .i64 (w64 (1 + p103.1))]) rfl sz24 (hF.ev rfl) (hF.ev rfl) rfl rfl rfl (S.free 0 rfl) rfl rfl) ?_; replace S := S.put 0 rfl (#[.int .i64 (w64 (400 + p102.1)), .int .i64 (w64 (1 + p103.1))])
  generalize World.setRow _ _ _ = u at S ⊢
  refine wpList_nil ?_
  refine wp_seq ?_
  refine wp_seq ?_
  refine wp_region_lit ?_
  refine op_val (v := .pointer (some ⟨g0, 0, none⟩)) rfl rfl hF rfl (run_move rfl (hF.ev rfl)) ?_; clear hF; intro a hF
  refine op_val (v := .int .i64 x2) rfl rfl hF rfl (run_move rfl (hF.ev rfl)) ?_; clear hF; intro a hF
  obtain ⟨p105, h105, hM⟩ := bind_ex hM
  refine op_call rfl rfl hF rfl (run_call (vs := [.pointer (some ⟨g0, 0, none⟩), .int .i64 x2]) rfl rfl co33 ⟨(hF.ev rfl), (hF.ev rfl), trivial⟩) (c_spec_l20Rd_odd (x0 := x0) (x1 := p103.2) (x2 := x2) ⟨h0.rc, rfl⟩ (show St w0 _ (Asn.box g0 57 #[.slice A0 x0.length c0, .int .i64 p103.2] :: Asn.box g104 24 #[.int .i64 (w64 (400 + p102.1)), .int .i64 (w64 (1 + p103.1))] :: Asn.box g101 24 #[.int .i64 0, .int .i64 0] :: X) from S.selT (M := [.box g0 57 #[.slice A0 x0.length c0, .int .i64 p103.2], .box g104 24 #[.int .i64 (w64 (400 + p102.1)), .int .i64 (w64 (1 + p103.1))], .box g101 24 #[.int .i64 0, .int .i64 0]]) 3 [1, 0, 2] rfl rfl rfl) h105) ?_
  rintro e u ⟨rfl, T⟩
  refine ⟨_, rfl, ?_⟩
  clear hF; intro a hF
  clear S; have S := T; clear T
  refine wpList_nil ?_
  obtain ⟨o107, hM108, hM⟩ := bind_ex hM
  refine wp_cut (fun a u => ∃ (p106 : Int × Int × Int), p106 = o107 ∧ Fr a 32 [(4, .pointer (some ⟨g101, 0, none⟩)), (5, .pointer (some ⟨g104, 0, none⟩))] ∧ St w0 u (Asn.box g0 57 #[.slice A0 x0.length c0, .int .i64 p106.1] :: Asn.box g104 24 #[.int .i64 p106.2.1, .int .i64 p106.2.2] :: Asn.box g101 24 #[.int .i64 0, .int .i64 0] :: X)) ?_ ?_
  · have _ := trivial
    cases hc109 : (p105.1)
    · replace hM108 := bif_f hc109 hM108
      refine cond_f hF rfl hc109 ?_
      refine wp_skip ?_
      obtain rfl := Option.some.inj hM108
      exact ⟨(p105.2, w64 (400 + p102.1), w64 (1 + p103.1)), rfl, hF.keep _ ⟨rfl, rfl, trivial⟩, S.selT (M := [.box g0 57 #[.slice A0 x0.length c0, .int .i64 p105.2], .box g104 24 #[.int .i64 (w64 (400 + p102.1)), .int .i64 (w64 (1 + p103.1))], .box g101 24 #[.int .i64 0, .int .i64 0]]) 3 [0, 1, 2] rfl rfl rfl⟩
    · replace hM108 := bif_t hc109 hM108
      refine cond_t hF rfl hc109 ?_
      refine wp_seq ?_
      refine wp_region_lit ?_
      refine op_val (v := .pointer (some ⟨g0, 0, none⟩)) rfl rfl hF rfl (run_move rfl (hF.ev rfl)) ?_; clear hF; intro a hF
      obtain ⟨p110, h110, hM108⟩ := bind_ex hM108
      refine op_call rfl rfl hF rfl (run_call (vs := [.pointer (some ⟨g0, 0, none⟩), .int .i64 2]) rfl rfl co32 ⟨(hF.ev rfl), rfl, trivial⟩) (c_spec_l20Rd_pick (x0 := x0) (x1 := p105.2) (x2 := 2) ⟨h0.rc, rfl⟩ (show St w0 _ (Asn.box g0 57 #[.slice A0 x0.length c0, .int .i64 p105.2] :: Asn.box g104 24 #[.int .i64 (w64 (400 + p102.1)), .int .i64 (w64 (1 + p103.1))] :: Asn.box g101 24 #[.int .i64 0, .int .i64 0] :: X) from S.selT (M := [.box g0 57 #[.slice A0 x0.length c0, .int .i64 p105.2], .box g104 24 #[.int .i64 (w64 (400 + p102.1)), .int .i64 (w64 (1 + p103.1))], .box g101 24 #[.int .i64 0, .int .i64 0]]) 3 [0, 1, 2] rfl rfl rfl) h110) ?_
      rintro e u ⟨rfl, T⟩
      refine ⟨_, rfl, ?_⟩
      clear hF; intro a hF
      clear S; have S := T; clear T
      refine op_val (v := .bool (p110.1 == 0)) rfl rfl hF rfl (run_eql (hF.ev rfl) rfl rfl) ?_; clear hF; intro a hF
      refine wpList_nil ?_
      obtain ⟨o112, hM113, hM108⟩ := bind_ex hM108
      refine wp_cut (fun a u => ∃ (p111 : Int × Int × Int), p111 = o112 ∧ Fr a 32 [(4, .pointer (some ⟨g101, 0, none⟩)), (5, .pointer (some ⟨g104, 0, none⟩))] ∧ St w0 u (Asn.box g0 57 #[.slice A0 x0.length c0, .int .i64 p111.1] :: Asn.box g104 24 #[.int .i64 p111.2.1, .int .i64 p111.2.2] :: Asn.box g101 24 #[.int .i64 0, .int .i64 0] :: X)) ?_ ?_
      · have _ := trivial
        cases hc114 : (p110.1 == 0)
        · replace hM113 := bif_f hc114 hM113
          refine cond_f hF rfl hc114 ?_
          refine wp_region_lit ?_
          refine op_newrowL (ls := ([0, 100] : List Int)) (e := eI) rfl rfl hF rfl S (run_buildS (vs := [(0, .int .i64 0), (1, .int .i64 100)]) rfl ⟨⟨rfl, rfl⟩, ⟨rfl, rfl⟩, trivial⟩ (bs55_2_0_0 rfl rfl)) rfl eI_len (Nat.le_of_ble_eq_true rfl) ?_; clear hF S; intro a g115 u hF S
          refine op_val (v := .pointer (some ⟨g0, 0, none⟩)) rfl rfl hF rfl (run_move rfl (hF.ev rfl)) ?_; clear hF; intro a hF
          obtain ⟨p116, h116, hM113⟩ := bind_ex hM113
          refine op_call rfl rfl hF rfl (run_call (vs := [.pointer (some ⟨g0, 0, none⟩), .int .i64 2]) rfl rfl co32 ⟨(hF.ev rfl), rfl, trivial⟩) (c_spec_l20Rd_pick (x0 := x0) (x1 := p110.2) (x2 := 2) ⟨h0.rc, rfl⟩ (show St w0 _ (Asn.box g0 57 #[.slice A0 x0.length c0, .int .i64 p110.2] :: Asn.row 3 1 (.slice (some ⟨g115, 0, none⟩) (([0, 100]).length) (([0, 100]).length)) (([0, 100]).length) (([0, 100]).flatMap eI) :: Asn.box g104 24 #[.int .i64 (w64 (400 + p102.1)), .int .i64 (w64 (1 + p103.1))] :: Asn.box g101 24 #[.int .i64 0, .int .i64 0] :: X) from S.selT (M := [.box g0 57 #[.slice A0 x0.length c0, .int .i64 p110.2], .row 3 1 (.slice (some ⟨g115, 0, none⟩) (([0, 100]).length) (([0, 100]).length)) (([0, 100]).length) (([0, 100]).flatMap eI), .box g104 24 #[.int .i64 (w64 (400 + p102.1)), .int .i64 (w64 (1 + p103.1))], .box g101 24 #[.int .i64 0, .int .i64 0]]) 4 [1, 0, 2, 3] rfl rfl rfl) h116) ?_
          rintro e u ⟨rfl, T⟩
          refine ⟨_, rfl, ?_⟩
          clear hF; intro a hF
          clear S; have S := T; clear T
          obtain ⟨hk117, hM113⟩ := chk_ex hM113
          replace hk117 := ixB_t hk117
          refine op_val (v := .pointer (some ⟨adB (some ⟨g115, 0, none⟩), adO (some ⟨g115, 0, none⟩) + p116.1.toNat * 1, none⟩)) rfl rfl hF rfl (run_indexAddr (b := adB (some ⟨g115, 0, none⟩)) (off := adO (some ⟨g115, 0, none⟩)) rfl Tryd.underlying55 sz3 ((hF.ev rfl).trans (congrArg (fun A => Value.slice A (([0, 100]).length) (([0, 100]).length)) ((S.rc 1 rfl).rd.ad (ix_pos hk117)))) (hF.ev rfl) hk117.1 hk117.2 (k' := adO (some ⟨g115, 0, none⟩) + p116.1.toNat * 1) rfl) ?_; clear hF; intro a hF
          refine op_val (v := .int .i64 (([0, 100]).getD p116.1.toNat (0 : Int))) rfl rfl hF rfl (run_load1 rfl one3 (hF.ev rfl) (rd_el0 (l := [0, 100]) (S.rc 1 rfl).rd rfl eI_len (0 : Int) (ix_ltn hk117 rfl) rfl)) ?_; clear hF; intro a hF
          refine op_val (v := .pointer (some ⟨g104, 1, none⟩)) rfl rfl hF rfl (run_fieldAddr rfl fl24_1 (hF.ev rfl) rfl) ?_; clear hF; intro a hF
          refine op_do rfl rfl (run_store (cs' := #[.int .i64 (w64 (400 + p102.1)), .int .i64 (([0, 100]).getD p116.1.toNat (0 : Int))]) rfl sz3 (hF.ev rfl) (hF.ev rfl) rfl rfl rfl (S.free 2 rfl) rfl rfl) ?_; replace S := S.put 2 rfl (#[.int .i64 (w64 (400 + p102.1)), .int .i64 (([0, 100]).getD p116.1.toNat (0 : Int))])
          generalize World.setRow _ _ _ = u at S ⊢
          refine wpList_nil ?_
          obtain rfl := Option.some.inj hM113
          exact ⟨(p116.2, w64 (400 + p102.1), (([0, 100]).getD p116.1.toNat (0 : Int))), rfl, hF.keep _ ⟨rfl, rfl, trivial⟩, S.selT (M := [.box g0 57 #[.slice A0 x0.length c0, .int .i64 p116.2], .box g104 24 #[.int .i64 (w64 (400 + p102.1)), .int .i64 (([0, 100]).getD p116.1.toNat (0 : Int))], .box g101 24 #[.int .i64 0, .int .i64 0]]) 4 [0, 2, 3] rfl rfl rfl⟩
        · replace hM113 := bif_t hc114 hM113
          refine cond_t hF rfl hc114 ?_
          refine wp_region_lit ?_
          refine op_newrowL (ls := ([-1, 1000] : List Int)) (e := eI) rfl rfl hF rfl S (run_buildS (vs := [(0, .int .i64 (-1)), (1, .int .i64 1000)]) rfl ⟨⟨rfl, rfl⟩, ⟨rfl, rfl⟩, trivial⟩ (bs55_2_0_0 rfl rfl)) rfl eI_len (Nat.le_of_ble_eq_true rfl) ?_; clear hF S; intro a g118 u hF S
          refine op_val (v := .pointer (some ⟨g0, 0, none⟩)) rfl rfl hF rfl (run_move rfl (hF.ev rfl)) ?_; clear hF; intro a hF
          obtain ⟨p119, h119, hM113⟩ := bind_ex hM113
          refine op_call rfl rfl hF rfl (run_call (vs := [.pointer (some ⟨g0, 0, none⟩), .int .i64 2]) rfl rfl co32 ⟨(hF.ev rfl), rfl, trivial⟩) (c_spec_l20Rd_pick (x0 := x0) (x1 := p110.2) (x2 := 2) ⟨h0.rc, rfl⟩ (show St w0 _ (Asn.box g0 57 #[.slice A0 x0.length c0, .int .i64 p110.2] :: Asn.row 3 1 (.slice (some ⟨g118, 0, none⟩) (([-1, 1000]).length) (([-1, 1000]).length)) (([-1, 1000]).length) (([-1, 1000]).flatMap eI) :: Asn.box g104 24 #[.int .i64 (w64 (400 + p102.1)), .int .i64 (w64 (1 + p103.1))] :: Asn.box g101 24 #[.int .i64 0, .int .i64 0] :: X) from S.selT (M := [.box g0 57 #[.slice A0 x0.length c0, .int .i64 p110.2], .row 3 1 (.slice (some ⟨g118, 0, none⟩) (([-1, 1000]).length) (([-1, 1000]).length)) (([-1, 1000]).length) (([-1, 1000]).flatMap eI), .box g104 24 #[.int .i64 (w64 (400 + p102.1)), .int .i64 (w64 (1 + p103.1))], .box g101 24 #[.int .i64 0, .int .i64 0]]) 4 [1, 0, 2, 3] rfl rfl rfl) h119) ?_
          rintro e u ⟨rfl, T⟩
          refine ⟨_, rfl, ?_⟩
          clear hF; intro a hF
          clear S; have S := T; clear T
          obtain ⟨hk120, hM113⟩ := chk_ex hM113
          replace hk120 := ixB_t hk120
          refine op_val (v := .pointer (some ⟨adB (some ⟨g118, 0, none⟩), adO (some ⟨g118, 0, none⟩) + p119.1.toNat * 1, none⟩)) rfl rfl hF rfl (run_indexAddr (b := adB (some ⟨g118, 0, none⟩)) (off := adO (some ⟨g118, 0, none⟩)) rfl Tryd.underlying55 sz3 ((hF.ev rfl).trans (congrArg (fun A => Value.slice A (([-1, 1000]).length) (([-1, 1000]).length)) ((S.rc 1 rfl).rd.ad (ix_pos hk120)))) (hF.ev rfl) hk120.1 hk120.2 (k' := adO (some ⟨g118, 0, none⟩) + p119.1.toNat * 1) rfl) ?_; clear hF; intro a hF
          refine op_val (v := .int .i64 (([-1, 1000]).getD p119.1.toNat (0 : Int))) rfl rfl hF rfl (run_load1 rfl one3 (hF.ev rfl) (rd_el0 (l := [-1, 1000]) (S.rc 1 rfl).rd rfl eI_len (0 : Int) (ix_ltn hk120 rfl) rfl)) ?_; clear hF; intro a hF
          refine op_val (v := .pointer (some ⟨g104, 0, none⟩)) rfl rfl hF rfl (run_fieldAddr rfl fl24_0 (hF.ev rfl) rfl) ?_; clear hF; intro a hF
          refine op_do rfl rfl (run_store (cs' := #[.int .i64 (([-1, 1000]).getD p119.1.toNat (0 : Int)), .int .i64 (w64 (1 + p103.1))]) rfl sz3 (hF.ev rfl) (hF.ev rfl) rfl rfl rfl (S.free 2 rfl) rfl rfl) ?_; replace S := S.put 2 rfl (#[.int .i64 (([-1, 1000]).getD p119.1.toNat (0 : Int)), .int .i64 (w64 (1 + p103.1))])
          generalize World.setRow _ _ _ = u at S ⊢
          refine wpList_nil ?_
          obtain rfl := Option.some.inj hM113
          exact ⟨(p119.2, (([-1, 1000]).getD p119.1.toNat (0 : Int)), w64 (1 + p103.1)), rfl, hF.keep _ ⟨rfl, rfl, trivial⟩, S.selT (M := [.box g0 57 #[.slice A0 x0.length c0, .int .i64 p119.2], .box g104 24 #[.int .i64 (([-1, 1000]).getD p119.1.toNat (0 : Int)), .int .i64 (w64 (1 + p103.1))], .box g101 24 #[.int .i64 0, .int .i64 0]]) 4 [0, 2, 3] rfl rfl rfl⟩
      · rintro a u ⟨p111, rfl, hF, S⟩
        obtain rfl := Option.some.inj hM108
        exact ⟨(p111.1, p111.2.1, p111.2.2), rfl, hF.keep _ ⟨rfl, rfl, trivial⟩, S.selT (M := [.box g0 57 #[.slice A0 x0.length c0, .int .i64 p111.1], .box g104 24 #[.int .i64 p111.2.1, .int .i64 p111.2.2], .box g101 24 #[.int .i64 0, .int .i64 0]]) 3 [0, 1, 2] rfl rfl rfl⟩
  · rintro a u ⟨p106, rfl, hF, S⟩
    refine wp_seq ?_
    refine wp_region_lit ?_
    refine op_val (v := .agg #[.int .i64 p106.2.1, .int .i64 p106.2.2]) rfl rfl hF rfl (run_loadN rfl ag24 (hF.ev rfl) rfl ((S.free 1 rfl).cells 0 #[.int .i64 p106.2.1, .int .i64 p106.2.2] rfl)) ?_; clear hF; intro a hF
    refine op_do rfl rfl (run_store (cs' := #[.int .i64 p106.2.1, .int .i64 p106.2.2]) rfl sz24 (hF.ev rfl) (hF.ev rfl) rfl rfl rfl (S.free 2 rfl) rfl rfl) ?_; replace S := S.put 2 rfl (#[.int .i64 p106.2.1, .int .i64 p106.2.2])
    generalize World.setRow _ _ _ = u at S ⊢
    refine wpList_nil ?_
    refine wp_ret ?_
    repeat with_reducible (first | refine then_ret ?_ | refine in_ret ?_ | refine in_nrm ?_)
    refine ret1_gw (.inl rfl) hF rfl (res_cell (hF.ev rfl) (res_loadN ag24 rfl (S.cells 2 rfl 0 #[.int .i64 p106.2.1, .int .i64 p106.2.2] rfl))) ?_
    obtain rfl := Option.some.inj hM
    exact ⟨rfl, S.selT (M := [.box g0 57 #[.slice A0 x0.length c0, .int .i64 p106.1]]) 3 [0] rfl rfl rfl⟩

set_option maxHeartbeats 4000000 in
theorem c_spec_DrawTurningValid {x0 : List Int} {A0 : Option Addr} {n0 c0 : Nat} {w : World} {r : Int × Int} (h0 : Rt w 1 eU A0 n0 c0 x0) (hM : m_spec_DrawTurningValid x0 = some r) :
    Calls Tryd.prog 8 #[.slice A0 n0 c0] w (fun e w' => e = .returned (.agg #[.int .i64 r.1, .int .i64 r.2]) ∧ St w w' []) := by
  obtain rfl := h0.len
  unfold m_spec_DrawTurningValid at hM
  refine calls_gw Tryd.func8 Tryd.ntmps8 rfl [(0, .slice A0 x0.length c0)] ⟨rfl, trivial⟩ rfl ?_
  intro a hF
  have S := St.nil w
  refine wp_seq ?_
  refine wp_region_lit ?_
  refine op_new (cs := #[.int .i64 0, .int .i64 0]) rfl rfl hF rfl S (run_allocZ rfl zr24) ?_; clear hF S; intro a g101 u hF S
  refine wpList_nil ?_
  refine wp_seq ?_
  refine wp_region_lit ?_
  refine op_val (v := .slice A0 x0.length c0) rfl rfl hF rfl (run_move rfl (hF.ev rfl)) ?_; clear hF; intro a hF
  refine op_call rfl rfl hF rfl (run_call (vs := [.slice A0 x0.length c0]) rfl rfl co25 ⟨(hF.ev rfl), trivial⟩) (c_spec_l20Open ⟨(S.rc0 h0.rc), rfl⟩) ?_
  rintro e u ⟨g102, rfl, T⟩
  refine ⟨_, rfl, ?_⟩
  clear hF; intro a hF
  replace S := S.call1 T; clear T
  obtain ⟨p103, h103, hM⟩ := bind_ex hM
  refine op_call rfl rfl hF rfl (run_call (vs := [.pointer (some ⟨g102, 0, none⟩), .int .i64 2]) rfl rfl co24 ⟨(hF.ev rfl), rfl, trivial⟩) (c_spec_l20Turning (x0 := x0.take 2000) (x1 := 0) (x2 := 2) ⟨(op_rc h0.rc rfl), rfl⟩ (show St w _ [.box g102 57 #[.slice (opA c0 x0.length A0) ((x0.take 2000).length) c0, .int .i64 0], .box g101 24 #[.int .i64 0, .int .i64 0]] from S.sel [0, 1] rfl rfl) h103) ?_
  rintro e u ⟨rfl, T⟩
  refine ⟨_, rfl, ?_⟩
  clear hF; intro a hF
  clear S; have S := T; clear T
  refine op_do rfl rfl (run_store (cs' := #[.int .i64 p103.1, .int .i64 p103.2.1]) rfl sz24 (hF.ev rfl) (hF.ev rfl) rfl rfl rfl (S.free 1 rfl) rfl rfl) ?_; replace S := S.put 1 rfl (#[.int .i64 p103.1, .int .i64 p103.2.1])
  generalize World.setRow _ _ _ = u at S ⊢
  refine wpList_nil ?_
  refine wp_ret ?_
  repeat with_reducible (first | refine then_ret ?_ | refine in_ret ?_ | refine in_nrm ?_)
  refine ret1_gw (.inl rfl) hF rfl (res_cell (hF.ev rfl) (res_loadN ag24 rfl (S.cells 1 rfl 0 #[.int .i64 p103.1, .int .i64 p103.2.1] rfl))) ?_
  obtain rfl := Option.some.inj hM
  exact ⟨rfl, S.sel [] rfl rfl⟩

set_option maxHeartbeats 4000000 in
theorem c_impl_powerValid {x0 : Int} {w : World} {r : Bool}  (hM : m_impl_powerValid x0 = some r) :
    Calls Tryd.prog 26 #[.int .i64 x0] w (fun e w' => e = .returned (.bool r) ∧ St w w' []) := by
  unfold m_impl_powerValid at hM
  refine calls_gw Tryd.func26 Tryd.ntmps26 rfl [(0, .int .i64 x0)] ⟨rfl, trivial⟩ rfl ?_
  intro a hF
  have S := St.nil w
  refine wp_seq ?_
  refine wp_region_lit ?_
  refine op_val (v := .bool false) rfl rfl hF rfl (run_assign rfl rfl) ?_; clear hF; intro a hF
  refine wpList_nil ?_
  refine wp_seq ?_
  refine wp_region_lit ?_
  refine op_val (v := .int .i64 x0) rfl rfl hF rfl (run_move rfl (hF.ev rfl)) ?_; clear hF; intro a hF
  refine op_val (v := .bool (leB 0 x0)) rfl rfl hF rfl (run_geq (hF.ev rfl) rfl rfl) ?_; clear hF; intro a hF
  refine op_val (v := .bool (leB 0 x0)) rfl rfl hF rfl (run_move rfl (hF.ev rfl)) ?_; clear hF; intro a hF
  refine op_gv (v := .int .i64 x0) rfl rfl hF rfl (yt (gw_yield hF rfl rfl rfl)) (fun hg => (run_move rfl (hF.ev rfl))) ?_; clear hF; intro a hF
  refine op_gv (v := .bool (leB x0 999)) rfl rfl hF rfl (yt (gw_yield hF rfl rfl rfl)) (fun hg => (run_leq ((hF.ev rfl).trans (gv_t hg)) rfl rfl)) ?_; clear hF; intro a hF
  refine op_val (v := .bool ((leB 0 x0) && (leB x0 999))) rfl rfl hF rfl (run_pick_and rfl (hF.ev rfl) (fun hp => ((hF.ev rfl).trans (gv_t hp))) rfl) ?_; clear hF; intro a hF
  refine op_val (v := .bool ((leB 0 x0) && (leB x0 999))) rfl rfl hF rfl (run_assign rfl (hF.ev rfl)) ?_; clear hF; intro a hF
  refine wpList_nil ?_
  refine wp_ret ?_
  repeat with_reducible (first | refine then_ret ?_ | refine in_ret ?_ | refine in_nrm ?_)
  refine ret1_gw (.inl rfl) hF rfl (res_tmp (hF.ev rfl)) ?_
  obtain rfl := Option.some.inj hM
  exact ⟨rfl, S.sel [] rfl rfl⟩

set_option maxHeartbeats 4000000 in
theorem c_impl_TurningValid {x0 : Int} {x1 : Int} {w : World} {r : Bool}  (hM : m_impl_TurningValid x0 x1 = some r) :
    Calls Tryd.prog 9 #[.agg #[.int .i64 x0, .int .i64 x1]] w (fun e w' => e = .returned (.bool r) ∧ St w w' []) := by
  unfold m_impl_TurningValid at hM
  refine calls_gw Tryd.func9 Tryd.ntmps9 rfl [(0, .agg #[.int .i64 x0, .int .i64 x1])] ⟨rfl, trivial⟩ rfl ?_
  intro a hF
  have S := St.nil w
  refine wp_seq ?_
  refine wp_region_lit ?_
  refine op_new (cs := #[.int .i64 x0, .int .i64 x1]) rfl rfl hF rfl S (run_box rfl (hF.ev rfl) rfl) ?_; clear hF S; intro a g101 u hF S
  refine op_val (v := .bool false) rfl rfl hF rfl (run_assign rfl rfl) ?_; clear hF; intro a hF
  refine wpList_nil ?_
  refine wp_seq ?_
  refine wp_region_lit ?_
  refine op_val (v := .pointer (some ⟨g101, 0, none⟩)) rfl rfl hF rfl (run_fieldAddr rfl fl24_0 (hF.ev rfl) rfl) ?_; clear hF; intro a hF
  refine op_val (v := .int .i64 x0) rfl rfl hF rfl (run_load1 rfl one3 (hF.ev rfl) ((S.free 0 rfl).cell rfl)) ?_; clear hF; intro a hF
  obtain ⟨p102, h102, hM⟩ := bind_ex hM
  refine op_call rfl rfl hF rfl (run_call (vs := [.int .i64 x0]) rfl rfl co26 ⟨(hF.ev rfl), trivial⟩) (c_impl_powerValid (x0 := x0)  h102) ?_
  rintro e u ⟨rfl, T⟩
  refine ⟨_, rfl, ?_⟩
  clear hF; intro a hF
  replace S := S.call0 T; clear T
  refine op_val (v := .bool p102) rfl rfl hF rfl (run_move rfl (hF.ev rfl)) ?_; clear hF; intro a hF
  refine op_gv (v := .pointer (some ⟨g101, 1, none⟩)) rfl rfl hF rfl (yt (gw_yield hF rfl rfl rfl)) (fun hg => (run_fieldAddr rfl fl24_1 (hF.ev rfl) rfl)) ?_; clear hF; intro a hF
  refine op_gv (v := .int .i64 x1) rfl rfl hF rfl (yt (gw_yield hF rfl rfl rfl)) (fun hg => (run_load1 rfl one3 ((hF.ev rfl).trans (gv_t hg)) ((S.free 0 rfl).cell rfl))) ?_; clear hF; intro a hF
  refine op_gv (v := .bool (leB 1 x1)) rfl rfl hF rfl (yt (gw_yield hF rfl rfl rfl)) (fun hg => (run_geq ((hF.ev rfl).trans (gv_t hg)) rfl rfl)) ?_; clear hF; intro a hF
  refine op_val (v := .bool (p102 && (leB 1 x1))) rfl rfl hF rfl (run_pick_and rfl (hF.ev rfl) (fun hp => ((hF.ev rfl).trans (gv_t hp))) rfl) ?_; clear hF; intro a hF
  refine op_val (v := .bool (p102 && (leB 1 x1))) rfl rfl hF rfl (run_move rfl (hF.ev rfl)) ?_; clear hF; intro a hF
  refine op_gv (v := .pointer (some ⟨g101, 1, none⟩)) rfl rfl hF rfl (yt (gw_yield hF rfl rfl rfl)) (fun hg => (run_fieldAddr rfl fl24_1 (hF.ev rfl) rfl)) ?_; clear hF; intro a hF
  refine op_gv (v := .int .i64 x1) rfl rfl hF rfl (yt (gw_yield hF rfl rfl rfl)) (fun hg => (run_load1 rfl one3 ((hF.ev rfl).trans (gv_t hg)) ((S.free 0 rfl).cell rfl))) ?_; clear hF; intro a hF
  refine op_gv (v := .bool (leB x1 99)) rfl rfl hF rfl (yt (gw_yield hF rfl rfl rfl)) (fun hg => (run_leq ((hF.ev rfl).trans (gv_t hg)) rfl rfl)) ?_; clear hF; intro a hF
  refine op_val (v := .bool ((p102 && (leB 1 x1)) && (leB x1 99))) rfl rfl hF rfl (run_pick_and rfl (hF.ev rfl) (fun hp => ((hF.ev rfl).trans (gv_t hp))) rfl) ?_; clear hF; intro a hF
  refine op_val (v := .bool ((p102 && (leB 1 x1)) && (leB x1 99))) rfl rfl hF rfl (run_assign rfl (hF.ev rfl)) ?_; clear hF; intro a hF
  refine wpList_nil ?_
  refine wp_ret ?_
  repeat with_reducible (first | refine then_ret ?_ | refine in_ret ?_ | refine in_nrm ?_)
  refine ret1_gw (.inl rfl) hF rfl (res_tmp (hF.ev rfl)) ?_
  obtain rfl := Option.some.inj hM
  exact ⟨rfl, S.sel [] rfl rfl⟩

set_option maxHeartbeats 4000000 in
theorem c_spec_l1In {x0 : Int} {x1 : Int} {x2 : Int} {w : World} {r : Bool}  (hM : m_spec_l1In x0 x1 x2 = some r) :
    Calls Tryd.prog 27 #[.int .i64 x0, .int .i64 x1, .int .i64 x2] w (fun e w' => e = .returned (.bool r) ∧ St w w' []) := by
  unfold m_spec_l1In at hM
  refine calls_gw Tryd.func27 Tryd.ntmps27 rfl [(0, .int .i64 x0), (1, .int .i64 x1), (2, .int .i64 x2)] ⟨rfl, rfl, rfl, trivial⟩ rfl ?_
  intro a hF
  have S := St.nil w
  refine wp_seq ?_
  refine wp_region_lit ?_
  refine op_val (v := .bool false) rfl rfl hF rfl (run_assign rfl rfl) ?_; clear hF; intro a hF
  refine wpList_nil ?_
  refine wp_seq ?_
  refine wp_region_lit ?_
  refine op_val (v := .int .i64 x0) rfl rfl hF rfl (run_move rfl (hF.ev rfl)) ?_; clear hF; intro a hF
  refine op_val (v := .int .i64 x1) rfl rfl hF rfl (run_move rfl (hF.ev rfl)) ?_; clear hF; intro a hF
  refine op_val (v := .bool (leB x1 x0)) rfl rfl hF rfl (run_geq (hF.ev rfl) (hF.ev rfl) rfl) ?_; clear hF; intro a hF
  refine op_val (v := .bool (leB x1 x0)) rfl rfl hF rfl (run_move rfl (hF.ev rfl)) ?_; clear hF; intro a hF
  refine op_gv (v := .int .i64 x0) rfl rfl hF rfl (yt (gw_yield hF rfl rfl rfl)) (fun hg => (run_move rfl (hF.ev rfl))) ?_; clear hF; intro a hF
  refine op_gv (v := .int .i64 x2) rfl rfl hF rfl (yt (gw_yield hF rfl rfl rfl)) (fun hg => (run_move rfl (hF.ev rfl))) ?_; clear hF; intro a hF
  refine op_gv (v := .bool (leB x0 x2)) rfl rfl hF rfl (yt (gw_yield hF rfl rfl rfl)) (fun hg => (run_leq ((hF.ev rfl).trans (gv_t hg)) ((hF.ev rfl).trans (gv_t hg)) rfl)) ?_; clear hF; intro a hF
  refine op_val (v := .bool ((leB x1 x0) && (leB x0 x2))) rfl rfl hF rfl (run_pick_and rfl (hF.ev rfl) (fun hp => ((hF.ev rfl).trans (gv_t hp))) rfl) ?_; clear hF; intro a hF
  refine op_val (v := .bool ((leB x1 x0) && (leB x0 x2))) rfl rfl hF rfl (run_assign rfl (hF.ev rfl)) ?_; clear hF; intro a hF
  refine wpList_nil ?_
  refine wp_ret ?_
  repeat with_reducible (first | refine then_ret ?_ | refine in_ret ?_ | refine in_nrm ?_)
  refine ret1_gw (.inl rfl) hF rfl (res_tmp (hF.ev rfl)) ?_
  obtain rfl := Option.some.inj hM
  exact ⟨rfl, S.sel [] rfl rfl⟩

set_option maxHeartbeats 4000000 in
theorem c_spec_TurningValid {x0 : Int} {x1 : Int} {w : World} {r : Bool}  (hM : m_spec_TurningValid x0 x1 = some r) :
    Calls Tryd.prog 10 #[.agg #[.int .i64 x0, .int .i64 x1]] w (fun e w' => e = .returned (.bool r) ∧ St w w' []) := by
  unfold m_spec_TurningValid at hM
  refine calls_gw Tryd.func10 Tryd.ntmps10 rfl [(0, .agg #[.int .i64 x0, .int .i64 x1])] ⟨rfl, trivial⟩ rfl ?_
  intro a hF
  have S := St.nil w
  refine wp_seq ?_
  refine wp_region_lit ?_
  refine op_new (cs := #[.int .i64 x0, .int .i64 x1]) rfl rfl hF rfl S (run_box rfl (hF.ev rfl) rfl) ?_; clear hF S; intro a g101 u hF S
  refine op_val (v := .bool false) rfl rfl hF rfl (run_assign rfl rfl) ?_; clear hF; intro a hF
  refine wpList_nil ?_
  refine wp_seq ?_
  refine wp_region_lit ?_
  refine op_val (v := .pointer (some ⟨g101, 0, none⟩)) rfl rfl hF rfl (run_fieldAddr rfl fl24_0 (hF.ev rfl) rfl) ?_; clear hF; intro a hF
  refine op_val (v := .int .i64 x0) rfl rfl hF rfl (run_load1 rfl one3 (hF.ev rfl) ((S.free 0 rfl).cell rfl)) ?_; clear hF; intro a hF
  obtain ⟨p102, h102, hM⟩ := bind_ex hM
  refine op_call rfl rfl hF rfl (run_call (vs := [.int .i64 x0, .int .i64 0, .int .i64 999]) rfl rfl co27 ⟨(hF.ev rfl), rfl, rfl, trivial⟩) (c_spec_l1In (x0 := x0) (x1 := 0) (x2 := 999)  h102) ?_
  rintro e u ⟨rfl, T⟩
  refine ⟨_, rfl, ?_⟩
  clear hF; intro a hF
  replace S := S.call0 T; clear T
  refine op_val (v := .bool p102) rfl rfl hF rfl (run_move rfl (hF.ev rfl)) ?_; clear hF; intro a hF
  refine op_gv (v := .pointer (some ⟨g101, 1, none⟩)) rfl rfl hF rfl (yt (gw_yield hF rfl rfl rfl)) (fun hg => (run_fieldAddr rfl fl24_1 (hF.ev rfl) rfl)) ?_; clear hF; intro a hF
  refine op_gv (v := .int .i64 x1) rfl rfl hF rfl (yt (gw_yield hF rfl rfl rfl)) (fun hg => (run_load1 rfl one3 ((hF.ev rfl).trans (gv_t hg)) ((S.free 0 rfl).cell rfl))) ?_; clear hF; intro a hF
  obtain ⟨p103, h103, hM⟩ := bind_ex hM
  refine op_gcall (v := .bool p103) rfl rfl hF rfl S (yt (gw_yield hF rfl rfl rfl)) (fun hg => (run_call (vs := [.int .i64 x1, .int .i64 1, .int .i64 99]) rfl rfl co27 ⟨((hF.ev rfl).trans (gv_t hg)), rfl, rfl, trivial⟩)) (fun hg => c_spec_l1In (x0 := x1) (x1 := 1) (x2 := 99)  (gb_t h103 hg)) ?_; clear hF S; intro a u hF S
  refine op_val (v := .bool (p102 && p103)) rfl rfl hF rfl (run_pick_and rfl (hF.ev rfl) (fun hp => ((hF.ev rfl).trans (gv_t hp))) rfl) ?_; clear hF; intro a hF
  refine op_val (v := .bool (p102 && p103)) rfl rfl hF rfl (run_assign rfl (hF.ev rfl)) ?_; clear hF; intro a hF
  refine wpList_nil ?_
  refine wp_ret ?_
  repeat with_reducible (first | refine then_ret ?_ | refine in_ret ?_ | refine in_nrm ?_)
  refine ret1_gw (.inl rfl) hF rfl (res_tmp (hF.ev rfl)) ?_
  obtain rfl := Option.some.inj hM
  exact ⟨rfl, S.sel [] rfl rfl⟩

set_option maxHeartbeats 4000000 in
theorem c_impl_Net_hasLine {x0 : Int} {x1 : List (Int × Int × Int)} {x2 : Int} {A1 : Option Addr} {n1 c1 : Nat} {w : World} {r : Bool} (h1 : Rt w 3 eLine A1 n1 c1 x1) (hM : m_impl_Net_hasLine x0 x1 x2 = some r) :
    Calls Tryd.prog 35 #[.agg #[.int .i64 x0, .slice A1 n1 c1], .int .i64 x2] w (fun e w' => e = .returned (.bool r) ∧ St w w' []) := by
  obtain rfl := h1.len
  unfold m_impl_Net_hasLine at hM
  refine calls_gw Tryd.func35 Tryd.ntmps35 rfl [(0, .agg #[.int .i64 x0, .slice A1 x1.length c1]), (1, .int .i64 x2)] ⟨rfl, rfl, trivial⟩ rfl ?_
  intro a hF
  have S := St.nil w
  refine wp_seq ?_
  refine wp_region_lit ?_
  refine op_new (cs := #[.int .i64 x0, .slice A1 x1.length c1]) rfl rfl hF rfl S (run_box rfl (hF.ev rfl) rfl) ?_; clear hF S; intro a g101 u hF S
  refine op_val (v := .bool false) rfl rfl hF rfl (run_assign rfl rfl) ?_; clear hF; intro a hF
  refine wpList_nil ?_
  refine wp_seq ?_
  refine wp_region_lit ?_
  refine op_val (v := .int .i64 x2) rfl rfl hF rfl (run_move rfl (hF.ev rfl)) ?_; clear hF; intro a hF
  refine op_val (v := .bool (leB 0 x2)) rfl rfl hF rfl (run_geq (hF.ev rfl) rfl rfl) ?_; clear hF; intro a hF
  refine op_val (v := .bool (leB 0 x2)) rfl rfl hF rfl (run_move rfl (hF.ev rfl)) ?_; clear hF; intro a hF
  refine op_gv (v := .int .i64 x2) rfl rfl hF rfl (yt (gw_yield hF rfl rfl rfl)) (fun hg => (run_move rfl (hF.ev rfl))) ?_; clear hF; intro a hF
  refine op_gv (v := .pointer (some ⟨g101, 1, none⟩)) rfl rfl hF rfl (yt (gw_yield hF rfl rfl rfl)) (fun hg => (run_fieldAddr rfl fl50_1 (hF.ev rfl) rfl)) ?_; clear hF; intro a hF
  refine op_gv (v := .slice A1 x1.length c1) rfl rfl hF rfl (yt (gw_yield hF rfl rfl rfl)) (fun hg => (run_load1 rfl one48 ((hF.ev rfl).trans (gv_t hg)) ((S.free 0 rfl).cell rfl))) ?_; clear hF; intro a hF
  refine op_gv (v := .int .i64 (x1.length : Int)) rfl rfl hF rfl (yt (gw_yield hF rfl rfl rfl)) (fun hg => (run_lenL rfl rfl Tryd.underlying48 ((hF.ev rfl).trans (gv_t hg)))) ?_; clear hF; intro a hF
  refine op_gv (v := .bool (ltB x2 (x1.length : Int))) rfl rfl hF rfl (yt (gw_yield hF rfl rfl rfl)) (fun hg => (run_lss ((hF.ev rfl).trans (gv_t hg)) ((hF.ev rfl).trans (gv_t hg)) rfl)) ?_; clear hF; intro a hF
  refine op_val (v := .bool ((leB 0 x2) && (ltB x2 (x1.length : Int)))) rfl rfl hF rfl (run_pick_and rfl (hF.ev rfl) (fun hp => ((hF.ev rfl).trans (gv_t hp))) rfl) ?_; clear hF; intro a hF
  refine op_val (v := .bool ((leB 0 x2) && (ltB x2 (x1.length : Int)))) rfl rfl hF rfl (run_assign rfl (hF.ev rfl)) ?_; clear hF; intro a hF
  refine wpList_nil ?_
  refine wp_ret ?_
  repeat with_reducible (first | refine then_ret ?_ | refine in_ret ?_ | refine in_nrm ?_)
  refine ret1_gw (.inl rfl) hF rfl (res_tmp (hF.ev rfl)) ?_
  obtain rfl := Option.some.inj hM
  exact ⟨rfl, S.sel [] rfl rfl⟩

set_option maxHeartbeats 4000000 in
theorem c_impl_Line_other {x0 : Int} {x1 : Int} {x2 : Int} {x3 : Int} {w : World} {r : Int}  (hM : m_impl_Line_other x0 x1 x2 x3 = some r) :
    Calls Tryd.prog 36 #[.agg #[.int .i64 x0, .int .i64 x1, .int .i64 x2], .int .i64 x3] w (fun e w' => e = .returned (.int .i64 r) ∧ St w w' []) := by
  unfold m_impl_Line_other at hM
  refine calls_gw Tryd.func36 Tryd.ntmps36 rfl [(0, .agg #[.int .i64 x0, .int .i64 x1, .int .i64 x2]), (1, .int .i64 x3)] ⟨rfl, rfl, trivial⟩ rfl ?_
  intro a hF
  have S := St.nil w
  refine wp_seq ?_
  refine wp_region_lit ?_
  refine op_new (cs := #[.int .i64 x0, .int .i64 x1, .int .i64 x2]) rfl rfl hF rfl S (run_box rfl (hF.ev rfl) rfl) ?_; clear hF S; intro a g101 u hF S
  refine op_val (v := .int .i64 0) rfl rfl hF rfl (run_assign rfl rfl) ?_; clear hF; intro a hF
  refine wpList_nil ?_
  refine wp_seq ?_
  refine wp_seq ?_
  refine wp_region_lit ?_
  refine op_val (v := .int .i64 x3) rfl rfl hF rfl (run_move rfl (hF.ev rfl)) ?_; clear hF; intro a hF
  refine wpList_nil ?_
  refine wp_block ?_
  refine wp_seq ?_
  refine wp_region_lit ?_
  refine op_val (v := .pointer (some ⟨g101, 0, none⟩)) rfl rfl hF rfl (run_fieldAddr rfl fl47_0 (hF.ev rfl) rfl) ?_; clear hF; intro a hF
  refine op_val (v := .int .i64 x0) rfl rfl hF rfl (run_load1 rfl one3 (hF.ev rfl) ((S.free 0 rfl).cell rfl)) ?_; clear hF; intro a hF
  refine op_val (v := .bool (x3 == x0)) rfl rfl hF rfl (run_eql (hF.ev rfl) (hF.ev rfl) rfl) ?_; clear hF; intro a hF
  refine op_val (v := .bool (x3 == x0)) rfl rfl hF rfl (run_assign rfl (hF.ev rfl)) ?_; clear hF; intro a hF
  refine wpList_nil ?_
  cases hc102 : (x3 == x0)
  · replace hM := bif_f hc102 hM
    refine cond_f hF rfl hc102 ?_
    refine wp_seq ?_
    refine wp_region_lit ?_
    refine op_val (v := .pointer (some ⟨g101, 1, none⟩)) rfl rfl hF rfl (run_fieldAddr rfl fl47_1 (hF.ev rfl) rfl) ?_; clear hF; intro a hF
    refine op_val (v := .int .i64 x1) rfl rfl hF rfl (run_load1 rfl one3 (hF.ev rfl) ((S.free 0 rfl).cell rfl)) ?_; clear hF; intro a hF
    refine op_val (v := .bool (x3 == x1)) rfl rfl hF rfl (run_eql (hF.ev rfl) (hF.ev rfl) rfl) ?_; clear hF; intro a hF
    refine op_val (v := .bool (x3 == x1)) rfl rfl hF rfl (run_assign rfl (hF.ev rfl)) ?_; clear hF; intro a hF
    refine wpList_nil ?_
    cases hc103 : (x3 == x1)
    · replace hM := bif_f hc103 hM
      refine cond_f hF rfl hc103 ?_
      refine wp_skip ?_
      refine wp_seq ?_
      refine wp_region_lit ?_
      refine op_val (v := .int .i64 (-1)) rfl rfl hF rfl (run_assign rfl rfl) ?_; clear hF; intro a hF
      refine wpList_nil ?_
      refine wp_ret ?_
      repeat with_reducible (first | refine then_ret ?_ | refine in_ret ?_ | refine in_nrm ?_)
      refine ret1_gw (.inl rfl) hF rfl (res_tmp (hF.ev rfl)) ?_
      obtain rfl := Option.some.inj hM
      exact ⟨rfl, S.sel [] rfl rfl⟩
    · replace hM := bif_t hc103 hM
      refine cond_t hF rfl hc103 ?_
      refine wp_seq ?_
      refine wp_region_lit ?_
      refine op_val (v := .pointer (some ⟨g101, 0, none⟩)) rfl rfl hF rfl (run_fieldAddr rfl fl47_0 (hF.ev rfl) rfl) ?_; clear hF; intro a hF
      refine op_val (v := .int .i64 x0) rfl rfl hF rfl (run_load1 rfl one3 (hF.ev rfl) ((S.free 0 rfl).cell rfl)) ?_; clear hF; intro a hF
      refine op_val (v := .int .i64 x0) rfl rfl hF rfl (run_assign rfl (hF.ev rfl)) ?_; clear hF; intro a hF
      refine wpList_nil ?_
      refine wp_ret ?_
      repeat with_reducible (first | refine then_ret ?_ | refine in_ret ?_ | refine in_nrm ?_)
      refine ret1_gw (.inl rfl) hF rfl (res_tmp (hF.ev rfl)) ?_
      obtain rfl := Option.some.inj hM
      exact ⟨rfl, S.sel [] rfl rfl⟩
  · replace hM := bif_t hc102 hM
    refine cond_t hF rfl hc102 ?_
    refine wp_seq ?_
    refine wp_region_lit ?_
    refine op_val (v := .pointer (some ⟨g101, 1, none⟩)) rfl rfl hF rfl (run_fieldAddr rfl fl47_1 (hF.ev rfl) rfl) ?_; clear hF; intro a hF
    refine op_val (v := .int .i64 x1) rfl rfl hF rfl (run_load1 rfl one3 (hF.ev rfl) ((S.free 0 rfl).cell rfl)) ?_; clear hF; intro a hF
    refine op_val (v := .int .i64 x1) rfl rfl hF rfl (run_assign rfl (hF.ev rfl)) ?_; clear hF; intro a hF
    refine wpList_nil ?_
    refine wp_ret ?_
    repeat with_reducible (first | refine then_ret ?_ | refine in_ret ?_ | refine in_nrm ?_)
    refine ret1_gw (.inl rfl) hF rfl (res_tmp (hF.ev rfl)) ?_
    obtain rfl := Option.some.inj hM
    exact ⟨rfl, S.sel [] rfl rfl⟩

set_option maxHeartbeats 4000000 in
theorem c_impl_OtherEnd {x0 : Int} {x1 : List (Int × Int × Int)} {x2 : Int} {x3 : Int} {A1 : Option Addr} {n1 c1 : Nat} {w : World} {r : Int} (h1 : Rt w 3 eLine A1 n1 c1 x1) (hM : m_impl_OtherEnd x0 x1 x2 x3 = some r) :
    Calls Tryd.prog 28 #[.agg #[.int .i64 x0, .slice A1 n1 c1], .int .i64 x2, .int .i64 x3] w (fun e w' => e = .returned (.int .i64 r) ∧ St w w' []) := by
  obtain rfl := h1.len
  unfold m_impl_OtherEnd at hM
  refine calls_gw Tryd.func28 Tryd.ntmps28 rfl [(0, .agg #[.int .i64 x0, .slice A1 x1.length c1]), (1, .int .i64 x2), (2, .int .i64 x3)] ⟨rfl, rfl, rfl, trivial⟩ rfl ?_
  intro a hF
  have S := St.nil w
  refine wp_seq ?_
  refine wp_region_lit ?_
  refine op_new (cs := #[.int .i64 x0, .slice A1 x1.length c1]) rfl rfl hF rfl S (run_box rfl (hF.ev rfl) rfl) ?_; clear hF S; intro a g101 u hF S
  refine op_val (v := .int .i64 0) rfl rfl hF rfl (run_assign rfl rfl) ?_; clear hF; intro a hF
  refine wpList_nil ?_
  refine wp_seq ?_
  refine wp_seq ?_
  refine wp_region_lit ?_
  refine op_val (v := .agg #[.int .i64 x0, .slice A1 x1.length c1]) rfl rfl hF rfl (run_loadN rfl ag50 (hF.ev rfl) rfl ((S.free 0 rfl).cells 0 #[.int .i64 x0, .slice A1 x1.length c1] rfl)) ?_; clear hF; intro a hF
  obtain ⟨p102, h102, hM⟩ := bind_ex hM
  refine op_call rfl rfl hF rfl (run_call (vs := [.agg #[.int .i64 x0, .slice A1 x1.length c1]]) rfl rfl co34 ⟨(hF.ev rfl), trivial⟩) (c_impl_NetValid (x0 := x0) (x1 := x1) ⟨(S.rc0 h1.rc), rfl⟩ h102) ?_
  rintro e u ⟨rfl, T⟩
  refine ⟨_, rfl, ?_⟩
  clear hF; intro a hF
  replace S := S.call0 T; clear T
  refine op_val (v := .bool (!p102)) rfl rfl hF rfl (run_not rfl (hF.ev rfl)) ?_; clear hF; intro a hF
  refine op_val (v := .bool (!p102)) rfl rfl hF rfl (run_move rfl (hF.ev rfl)) ?_; clear hF; intro a hF
  refine op_gv (v := .agg #[.int .i64 x0, .slice A1 x1.length c1]) rfl rfl hF rfl (yf (gw_yield hF rfl rfl rfl)) (fun hg => (run_loadN rfl ag50 (hF.ev rfl) rfl ((S.free 0 rfl).cells 0 #[.int .i64 x0, .slice A1 x1.length c1] rfl))) ?_; clear hF; intro a hF
  refine op_gv (v := .int .i64 x2) rfl rfl hF rfl (yf (gw_yield hF rfl rfl rfl)) (fun hg => (run_move rfl (hF.ev rfl))) ?_; clear hF; intro a hF
  obtain ⟨p103, h103, hM⟩ := bind_ex hM
  refine op_gcall (v := .bool p103) rfl rfl hF rfl S (yf (gw_yield hF rfl rfl rfl)) (fun hg => (run_call (vs := [.agg #[.int .i64 x0, .slice A1 x1.length c1], .int .i64 x2]) rfl rfl co35 ⟨((hF.ev rfl).trans (gv_t hg)), ((hF.ev rfl).trans (gv_t hg)), trivial⟩)) (fun hg => c_impl_Net_hasLine (x0 := x0) (x1 := x1) (x2 := x2) ⟨(S.rc0 h1.rc), rfl⟩ (gb_t h103 hg)) ?_; clear hF S; intro a u hF S
  refine op_gv (v := .bool (!p103)) rfl rfl hF rfl (yf (gw_yield hF rfl rfl rfl)) (fun hg => (run_not rfl ((hF.ev rfl).trans (gv_t hg)))) ?_; clear hF; intro a hF
  refine op_val (v := .bool ((!p102) || (!p103))) rfl rfl hF rfl (run_pick_or rfl (hF.ev rfl) rfl (fun hp => ((hF.ev rfl).trans (gv_t (not_t hp))))) ?_; clear hF; intro a hF
  refine wpList_nil ?_
  cases hc104 : ((!p102) || (!p103))
  · replace hM := bif_f hc104 hM
    refine cond_f hF rfl hc104 ?_
    refine wp_skip ?_
    refine wp_seq ?_
    refine wp_region_lit ?_
    refine op_val (v := .pointer (some ⟨g101, 1, none⟩)) rfl rfl hF rfl (run_fieldAddr rfl fl50_1 (hF.ev rfl) rfl) ?_; clear hF; intro a hF
    refine op_val (v := .slice A1 x1.length c1) rfl rfl hF rfl (run_load1 rfl one48 (hF.ev rfl) ((S.free 0 rfl).cell rfl)) ?_; clear hF; intro a hF
    refine op_val (v := .int .i64 x2) rfl rfl hF rfl (run_move rfl (hF.ev rfl)) ?_; clear hF; intro a hF
    obtain ⟨hk105, hM⟩ := chk_ex hM
    replace hk105 := ixB_t hk105
    refine op_val (v := .pointer (some ⟨adB A1, adO A1 + x2.toNat * 3, none⟩)) rfl rfl hF rfl (run_indexAddr (b := adB A1) (off := adO A1) rfl Tryd.underlying48 sz47 ((hF.ev rfl).trans (congrArg (fun A => Value.slice A x1.length c1) ((S.rc0 h1.rc).rd.ad (ix_pos hk105)))) (hF.ev rfl) hk105.1 hk105.2 (k' := adO A1 + x2.toNat * 3) rfl) ?_; clear hF; intro a hF
    refine op_val (v := .agg #[.int .i64 ((x1.getD x2.toNat ((0, 0, 0) : Int × Int × Int)).1), .int .i64 ((x1.getD x2.toNat ((0, 0, 0) : Int × Int × Int)).2.1), .int .i64 ((x1.getD x2.toNat ((0, 0, 0) : Int × Int × Int)).2.2)]) rfl rfl hF rfl (run_loadN (cs := #[.int .i64 ((x1.getD x2.toNat ((0, 0, 0) : Int × Int × Int)).1), .int .i64 ((x1.getD x2.toNat ((0, 0, 0) : Int × Int × Int)).2.1), .int .i64 ((x1.getD x2.toNat ((0, 0, 0) : Int × Int × Int)).2.2)]) rfl ag47 (hF.ev rfl) rfl (rd_elN (l := x1) (S.rc0 h1.rc).rd rfl eLine_len ((0, 0, 0) : Int × Int × Int) (ix_ltn hk105 rfl) rfl)) ?_; clear hF; intro a hF
    refine op_val (v := .int .i64 x3) rfl rfl hF rfl (run_move rfl (hF.ev rfl)) ?_; clear hF; intro a hF
    obtain ⟨p106, h106, hM⟩ := bind_ex hM
    refine op_call rfl rfl hF rfl (run_call (vs := [.agg #[.int .i64 ((x1.getD x2.toNat ((0, 0, 0) : Int × Int × Int)).1), .int .i64 ((x1.getD x2.toNat ((0, 0, 0) : Int × Int × Int)).2.1), .int .i64 ((x1.getD x2.toNat ((0, 0, 0) : Int × Int × Int)).2.2)], .int .i64 x3]) rfl rfl co36 ⟨(hF.ev rfl), (hF.ev rfl), trivial⟩) (c_impl_Line_other (x0 := (x1.getD x2.toNat ((0, 0, 0) : Int × Int × Int)).1) (x1 := (x1.getD x2.toNat ((0, 0, 0) : Int × Int × Int)).2.1) (x2 := (x1.getD x2.toNat ((0, 0, 0) : Int × Int × Int)).2.2) (x3 := x3)  h106) ?_
    rintro e u ⟨rfl, T⟩
    refine ⟨_, rfl, ?_⟩
    clear hF; intro a hF
    replace S := S.call0 T; clear T
    refine op_val (v := .int .i64 p106) rfl rfl hF rfl (run_assign rfl (hF.ev rfl)) ?_; clear hF; intro a hF
    refine wpList_nil ?_
    refine wp_ret ?_
    repeat with_reducible (first | refine then_ret ?_ | refine in_ret ?_ | refine in_nrm ?_)
    refine ret1_gw (.inl rfl) hF rfl (res_tmp (hF.ev rfl)) ?_
    obtain rfl := Option.some.inj hM
    exact ⟨rfl, S.sel [] rfl rfl⟩
  · replace hM := bif_t hc104 hM
    refine cond_t hF rfl hc104 ?_
    refine wp_seq ?_
    refine wp_region_lit ?_
    refine op_val (v := .int .i64 (-1)) rfl rfl hF rfl (run_assign rfl rfl) ?_; clear hF; intro a hF
    refine wpList_nil ?_
    refine wp_ret ?_
    repeat with_reducible (first | refine then_ret ?_ | refine in_ret ?_ | refine in_nrm ?_)
    refine ret1_gw (.inl rfl) hF rfl (res_tmp (hF.ev rfl)) ?_
    obtain rfl := Option.some.inj hM
    exact ⟨rfl, S.sel [] rfl rfl⟩

set_option maxHeartbeats 4000000 in
theorem c_laws_alive {w : World} {r : Bool}  (hM : m_laws_alive = some r) :
    Calls Tryd.prog 11 #[] w (fun e w' => e = .returned (.bool r) ∧ St w w' []) := by
  unfold m_laws_alive at hM
  refine calls_gw Tryd.func11 Tryd.ntmps11 rfl [] trivial rfl ?_
  intro a hF
  have S := St.nil w
  refine wp_seq ?_
  refine wp_region_lit ?_
  refine op_val (v := .bool false) rfl rfl hF rfl (run_assign rfl rfl) ?_; clear hF; intro a hF
  refine wpList_nil ?_
  refine wp_seq ?_
  obtain ⟨o102, hM103, hM⟩ := bind_ex hM
  refine wp_cut (fun a u => ∃ (p101 : Bool), p101 = o102 ∧ Fr a 11 [(0, .bool p101)] ∧ St w u []) ?_ ?_
  · have _ := trivial
    refine wp_region_lit ?_
    refine op_val (v := .agg #[.int .i64 0, .int .i64 1, .int .i64 1]) rfl rfl hF rfl (run_build (vs := [(0, .int .i64 0), (1, .int .i64 1), (2, .int .i64 1)]) rfl ⟨⟨rfl, rfl⟩, ⟨rfl, rfl⟩, ⟨rfl, rfl⟩, trivial⟩ (bd47_0_1_2 rfl rfl rfl)) ?_; clear hF; intro a hF
    refine op_newrowL (ls := ([(0, 1, 1)] : List (Int × Int × Int))) (e := eLine) rfl rfl hF rfl S (run_buildS (vs := [(0, .agg #[.int .i64 0, .int .i64 1, .int .i64 1])]) rfl ⟨⟨rfl, (hF.ev rfl)⟩, trivial⟩ (bs48_1_3 )) rfl eLine_len (Nat.le_of_ble_eq_true rfl) ?_; clear hF S; intro a g104 u hF S
    refine op_val (v := .agg #[.int .i64 2, .slice (some ⟨g104, 0, none⟩) (([(0, 1, 1)]).length) (([(0, 1, 1)]).length)]) rfl rfl hF rfl (run_build (vs := [(0, .int .i64 2), (1, .slice (some ⟨g104, 0, none⟩) (([(0, 1, 1)]).length) (([(0, 1, 1)]).length))]) rfl ⟨⟨rfl, rfl⟩, ⟨rfl, (hF.ev rfl)⟩, trivial⟩ (bd50_0_1 rfl rfl)) ?_; clear hF; intro a hF
    obtain ⟨p105, h105, hM103⟩ := bind_ex hM103
    refine op_call rfl rfl hF rfl (run_call (vs := [.agg #[.int .i64 2, .slice (some ⟨g104, 0, none⟩) (([(0, 1, 1)]).length) (([(0, 1, 1)]).length)], .int .i64 0, .int .i64 0]) rfl rfl co28 ⟨(hF.ev rfl), rfl, rfl, trivial⟩) (c_impl_OtherEnd (x0 := 2) (x1 := [(0, 1, 1)]) (x2 := 0) (x3 := 0) ⟨(S.rc 0 rfl), rfl⟩ h105) ?_
    rintro e u ⟨rfl, T⟩
    refine ⟨_, rfl, ?_⟩
    clear hF; intro a hF
    replace S := S.call0 T; clear T
    refine op_val (v := .bool (p105 == 1)) rfl rfl hF rfl (run_eql (hF.ev rfl) rfl rfl) ?_; clear hF; intro a hF
    refine op_val (v := .bool (p105 == 1)) rfl rfl hF rfl (run_move rfl (hF.ev rfl)) ?_; clear hF; intro a hF
    refine op_gv (v := .agg #[.int .i64 0, .slice none 0 0]) rfl rfl hF rfl (yt (gw_yield hF rfl rfl rfl)) (fun hg => (run_build (vs := []) rfl trivial (bd50 ))) ?_; clear hF; intro a hF
    cases hc106 : (p105 == 1)
    · replace hM103 := bif_f hc106 hM103
      refine op_skipped rfl ((gw_yield hF rfl rfl rfl).trans (congrArg some hc106)) rfl rfl hF rfl ?_; clear hF; intro a hF
      refine op_skipped rfl ((gw_yield hF rfl rfl rfl).trans (congrArg some hc106)) rfl rfl hF rfl ?_; clear hF; intro a hF
      refine op_val (v := .bool false) rfl rfl hF rfl (run_pick_f rfl (hF.ev rfl) hc106 rfl) ?_; clear hF; intro a hF
      refine op_val (v := .bool false) rfl rfl hF rfl (run_assign rfl (hF.ev rfl)) ?_; clear hF; intro a hF
      refine wpList_nil ?_
      obtain rfl := Option.some.inj hM103
      exact ⟨false, rfl, hF.keep _ ⟨rfl, trivial⟩, S.sel [] rfl rfl⟩
    · replace hM103 := bif_t hc106 hM103
      refine op_guarded rfl ((gw_yield hF rfl rfl rfl).trans (congrArg some hc106)) ?_
      obtain ⟨p107, h107, hM103⟩ := bind_ex hM103
      obtain ⟨hk108, hM103⟩ := chk_ex hM103
      refine op_call rfl rfl hF rfl (run_call (vs := [.agg #[.int .i64 0, .slice none 0 0]]) rfl rfl co29 ⟨((hF.ev rfl).trans (gv_t hc106)), trivial⟩) (c_impl_NetText_bad (x0 := 0) (x1 := ([] : List (Int × Int × Int))) Rt.nil (h107.trans (congrArg some (of_not hk108)))) ?_
      rintro e u ⟨rfl, T⟩
      refine ⟨_, rfl, ?_⟩
      clear hF; intro a hF
      replace S := S.call0 T; clear T
      refine op_guarded rfl ((gw_yield hF rfl rfl rfl).trans (congrArg some hc106)) ?_
      refine op_val (v := .bool (({ data := #[] } : ByteArray).toList == ({ data := #[] } : ByteArray).toList)) rfl rfl hF rfl (run_eqlS (hF.ev rfl) rfl rfl) ?_; clear hF; intro a hF
      refine op_val (v := .bool (({ data := #[] } : ByteArray).toList == ({ data := #[] } : ByteArray).toList)) rfl rfl hF rfl (run_pick_t rfl (hF.ev rfl) hc106 (hF.ev rfl)) ?_; clear hF; intro a hF
      refine op_val (v := .bool (({ data := #[] } : ByteArray).toList == ({ data := #[] } : ByteArray).toList)) rfl rfl hF rfl (run_assign rfl (hF.ev rfl)) ?_; clear hF; intro a hF
      refine wpList_nil ?_
      obtain rfl := Option.some.inj hM103
      exact ⟨({ data := #[] } : ByteArray).toList == ({ data := #[] } : ByteArray).toList, rfl, hF.keep _ ⟨rfl, trivial⟩, S.sel [] rfl rfl⟩
  · rintro a u ⟨p101, rfl, hF, S⟩
    refine wp_ret ?_
    repeat with_reducible (first | refine then_ret ?_ | refine in_ret ?_ | refine in_nrm ?_)
    refine ret1_gw (.inl rfl) hF rfl (res_tmp (hF.ev rfl)) ?_
    obtain rfl := Option.some.inj hM
    exact ⟨rfl, S.sel [] rfl rfl⟩

set_option maxHeartbeats 4000000 in
theorem c_laws_FnTurningValid {x0 : List Int} {A0 : Option Addr} {n0 c0 : Nat} {w : World} {r : Bool} (h0 : Rt w 1 eU A0 n0 c0 x0) (hM : m_laws_FnTurningValid x0 = some r) :
    Calls Tryd.prog 3 #[.slice A0 n0 c0] w (fun e w' => e = .returned (.bool r) ∧ St w w' []) := by
  obtain rfl := h0.len
  unfold m_laws_FnTurningValid at hM
  refine calls_gw Tryd.func3 Tryd.ntmps3 rfl [(0, .slice A0 x0.length c0)] ⟨rfl, trivial⟩ rfl ?_
  intro a hF
  have S := St.nil w
  refine wp_seq ?_
  refine wp_region_lit ?_
  refine op_val (v := .bool false) rfl rfl hF rfl (run_assign rfl rfl) ?_; clear hF; intro a hF
  refine wpList_nil ?_
  refine wp_seq ?_
  refine wp_seq ?_
  refine wp_region_lit ?_
  refine op_val (v := .slice A0 x0.length c0) rfl rfl hF rfl (run_move rfl (hF.ev rfl)) ?_; clear hF; intro a hF
  refine op_val (v := .int .i64 (x0.length : Int)) rfl rfl hF rfl (run_lenL rfl rfl Tryd.underlying22 (hF.ev rfl)) ?_; clear hF; intro a hF
  refine op_val (v := .bool (ltB 1048576 (x0.length : Int))) rfl rfl hF rfl (run_gtr (hF.ev rfl) rfl rfl) ?_; clear hF; intro a hF
  refine wpList_nil ?_
  cases hc101 : (ltB 1048576 (x0.length : Int))
  · replace hM := bif_f hc101 hM
    refine cond_f hF rfl hc101 ?_
    refine wp_skip ?_
    refine wp_seq ?_
    refine wp_region_lit ?_
    refine op_val (v := .slice A0 x0.length c0) rfl rfl hF rfl (run_move rfl (hF.ev rfl)) ?_; clear hF; intro a hF
    obtain ⟨p102, h102, hM⟩ := bind_ex hM
    refine op_call rfl rfl hF rfl (run_call (vs := [.slice A0 x0.length c0]) rfl rfl co8 ⟨(hF.ev rfl), trivial⟩) (c_spec_DrawTurningValid (x0 := x0) ⟨(S.rc0 h0.rc), rfl⟩ h102) ?_
    rintro e u ⟨rfl, T⟩
    refine ⟨_, rfl, ?_⟩
    clear hF; intro a hF
    replace S := S.call0 T; clear T
    refine op_new (cs := #[.int .i64 0, .int .i64 0]) rfl rfl hF rfl S (run_allocZ rfl zr24) ?_; clear hF S; intro a g103 u hF S
    refine op_do rfl rfl (run_store (cs' := #[.int .i64 p102.1, .int .i64 p102.2]) rfl sz24 (hF.ev rfl) (hF.ev rfl) rfl rfl rfl (S.free 0 rfl) rfl rfl) ?_; replace S := S.put 0 rfl (#[.int .i64 p102.1, .int .i64 p102.2])
    generalize World.setRow _ _ _ = u at S ⊢
    refine wpList_nil ?_
    refine wp_seq ?_
    refine wp_region_lit ?_
    refine op_val (v := .agg #[.int .i64 p102.1, .int .i64 p102.2]) rfl rfl hF rfl (run_loadN rfl ag24 (hF.ev rfl) rfl ((S.free 0 rfl).cells 0 #[.int .i64 p102.1, .int .i64 p102.2] rfl)) ?_; clear hF; intro a hF
    obtain ⟨p104, h104, hM⟩ := bind_ex hM
    refine op_call rfl rfl hF rfl (run_call (vs := [.agg #[.int .i64 p102.1, .int .i64 p102.2]]) rfl rfl co9 ⟨(hF.ev rfl), trivial⟩) (c_impl_TurningValid (x0 := p102.1) (x1 := p102.2)  h104) ?_
    rintro e u ⟨rfl, T⟩
    refine ⟨_, rfl, ?_⟩
    clear hF; intro a hF
    replace S := S.call0 T; clear T
    refine op_val (v := .bool p104) rfl rfl hF rfl (run_assign rfl (hF.ev rfl)) ?_; clear hF; intro a hF
    refine wpList_nil ?_
    refine wp_seq ?_
    refine wp_seq ?_
    refine wp_region_lit ?_
    refine op_val (v := .bool p104) rfl rfl hF rfl (run_move rfl (hF.ev rfl)) ?_; clear hF; intro a hF
    refine op_val (v := .agg #[.int .i64 p102.1, .int .i64 p102.2]) rfl rfl hF rfl (run_loadN rfl ag24 (hF.ev rfl) rfl ((S.free 0 rfl).cells 0 #[.int .i64 p102.1, .int .i64 p102.2] rfl)) ?_; clear hF; intro a hF
    obtain ⟨p105, h105, hM⟩ := bind_ex hM
    refine op_call rfl rfl hF rfl (run_call (vs := [.agg #[.int .i64 p102.1, .int .i64 p102.2]]) rfl rfl co10 ⟨(hF.ev rfl), trivial⟩) (c_spec_TurningValid (x0 := p102.1) (x1 := p102.2)  h105) ?_
    rintro e u ⟨rfl, T⟩
    refine ⟨_, rfl, ?_⟩
    clear hF; intro a hF
    replace S := S.call0 T; clear T
    refine op_val (v := .bool (p104 != p105)) rfl rfl hF rfl (run_neqB (hF.ev rfl) (hF.ev rfl) Tryd.underlying4 rfl) ?_; clear hF; intro a hF
    refine wpList_nil ?_
    cases hc106 : (p104 != p105)
    · replace hM := bif_f hc106 hM
      refine cond_f hF rfl hc106 ?_
      refine wp_skip ?_
      refine wp_seq ?_
      refine wp_region_lit ?_
      refine op_val (v := .pointer (some ⟨g103, 0, none⟩)) rfl rfl hF rfl (run_fieldAddr rfl fl24_0 (hF.ev rfl) rfl) ?_; clear hF; intro a hF
      refine op_val (v := .int .i64 p102.1) rfl rfl hF rfl (run_load1 rfl one3 (hF.ev rfl) ((S.free 0 rfl).cell rfl)) ?_; clear hF; intro a hF
      refine op_val (v := .agg #[.int .i64 p102.1, .int .i64 0]) rfl rfl hF rfl (run_build (vs := [(0, .int .i64 p102.1)]) rfl ⟨⟨rfl, (hF.ev rfl)⟩, trivial⟩ (bd24_0 rfl)) ?_; clear hF; intro a hF
      obtain ⟨p107, h107, hM⟩ := bind_ex hM
      refine op_call rfl rfl hF rfl (run_call (vs := [.agg #[.int .i64 p102.1, .int .i64 0]]) rfl rfl co9 ⟨(hF.ev rfl), trivial⟩) (c_impl_TurningValid (x0 := p102.1) (x1 := 0)  h107) ?_
      rintro e u ⟨rfl, T⟩
      refine ⟨_, rfl, ?_⟩
      clear hF; intro a hF
      replace S := S.call0 T; clear T
      refine op_val (v := .bool (!p107)) rfl rfl hF rfl (run_not rfl (hF.ev rfl)) ?_; clear hF; intro a hF
      refine op_val (v := .bool (!p107)) rfl rfl hF rfl (run_move rfl (hF.ev rfl)) ?_; clear hF; intro a hF
      refine op_gv (v := .bool p104) rfl rfl hF rfl (yt (gw_yield hF rfl rfl rfl)) (fun hg => (run_move rfl (hF.ev rfl))) ?_; clear hF; intro a hF
      refine op_gv (v := .bool (!p104)) rfl rfl hF rfl (yt (gw_yield hF rfl rfl rfl)) (fun hg => (run_not rfl ((hF.ev rfl).trans (gv_t hg)))) ?_; clear hF; intro a hF
      refine op_gv (v := .bool (!p104)) rfl rfl hF rfl (yt (gw_yield hF rfl rfl rfl)) (fun hg => (run_move rfl ((hF.ev rfl).trans (gv_t hg)))) ?_; clear hF; intro a hF
      refine op_gv (v := .pointer (some ⟨g103, 1, none⟩)) rfl rfl hF rfl (yfG (gw_yieldG hF rfl rfl rfl)) (fun hg => (run_fieldAddr rfl fl24_1 (hF.ev rfl) rfl)) ?_; clear hF; intro a hF
      refine op_gv (v := .int .i64 p102.2) rfl rfl hF rfl (yfG (gw_yieldG hF rfl rfl rfl)) (fun hg => (run_load1 rfl one3 ((hF.ev rfl).trans (gv_t hg)) ((S.free 0 rfl).cell rfl))) ?_; clear hF; intro a hF
      refine op_gv (v := .agg #[.int .i64 0, .int .i64 p102.2]) rfl rfl hF rfl (yfG (gw_yieldG hF rfl rfl rfl)) (fun hg => (run_build (vs := [(1, .int .i64 p102.2)]) rfl ⟨⟨rfl, ((hF.ev rfl).trans (gv_t hg))⟩, trivial⟩ (bd24_1 rfl))) ?_; clear hF; intro a hF
      obtain ⟨p108, h108, hM⟩ := bind_ex hM
      refine op_gcall (v := .bool p108) rfl rfl hF rfl S (yfG (gw_yieldG hF rfl rfl rfl)) (fun hg => (run_call (vs := [.agg #[.int .i64 0, .int .i64 p102.2]]) rfl rfl co9 ⟨((hF.ev rfl).trans (gv_t hg)), trivial⟩)) (fun hg => c_impl_TurningValid (x0 := 0) (x1 := p102.2)  (gb_t h108 hg)) ?_; clear hF S; intro a u hF S
      refine op_gv (v := .bool ((!p104) || p108)) rfl rfl hF rfl (yt (gw_yield hF rfl rfl rfl)) (fun hg => (run_pick_or rfl ((hF.ev rfl).trans (gv_t hg)) rfl (fun hp => ((hF.ev rfl).trans (gv_t (and_i hg (not_t hp))))))) ?_; clear hF; intro a hF
      refine op_val (v := .bool ((!p107) && ((!p104) || p108))) rfl rfl hF rfl (run_pick_and rfl (hF.ev rfl) (fun hp => ((hF.ev rfl).trans (gv_t hp))) rfl) ?_; clear hF; intro a hF
      refine op_val (v := .bool ((!p107) && ((!p104) || p108))) rfl rfl hF rfl (run_move rfl (hF.ev rfl)) ?_; clear hF; intro a hF
      obtain ⟨p109, h109, hM⟩ := bind_ex hM
      refine op_gcall (v := .bool p109) rfl rfl hF rfl S (yt (gw_yield hF rfl rfl rfl)) (fun hg => (run_call (vs := []) rfl rfl co11 trivial)) (fun hg => c_laws_alive   (gb_t h109 hg)) ?_; clear hF S; intro a u hF S
      refine op_val (v := .bool (((!p107) && ((!p104) || p108)) && p109)) rfl rfl hF rfl (run_pick_and rfl (hF.ev rfl) (fun hp => ((hF.ev rfl).trans (gv_t hp))) rfl) ?_; clear hF; intro a hF
      refine op_val (v := .bool (((!p107) && ((!p104) || p108)) && p109)) rfl rfl hF rfl (run_assign rfl (hF.ev rfl)) ?_; clear hF; intro a hF
      refine wpList_nil ?_
      refine wp_ret ?_
      repeat with_reducible (first | refine then_ret ?_ | refine in_ret ?_ | refine in_nrm ?_)
      refine ret1_gw (.inl rfl) hF rfl (res_tmp (hF.ev rfl)) ?_
      obtain rfl := Option.some.inj hM
      exact ⟨rfl, S.sel [] rfl rfl⟩
    · replace hM := bif_t hc106 hM
      refine cond_t hF rfl hc106 ?_
      refine wp_seq ?_
      refine wp_region_lit ?_
      refine op_val (v := .bool false) rfl rfl hF rfl (run_assign rfl rfl) ?_; clear hF; intro a hF
      refine wpList_nil ?_
      refine wp_ret ?_
      repeat with_reducible (first | refine then_ret ?_ | refine in_ret ?_ | refine in_nrm ?_)
      refine ret1_gw (.inl rfl) hF rfl (res_tmp (hF.ev rfl)) ?_
      obtain rfl := Option.some.inj hM
      exact ⟨rfl, S.sel [] rfl rfl⟩
  · replace hM := bif_t hc101 hM
    refine cond_t hF rfl hc101 ?_
    refine wp_seq ?_
    refine wp_region_lit ?_
    refine op_val (v := .bool true) rfl rfl hF rfl (run_assign rfl rfl) ?_; clear hF; intro a hF
    refine wpList_nil ?_
    refine wp_ret ?_
    repeat with_reducible (first | refine then_ret ?_ | refine in_ret ?_ | refine in_nrm ?_)
    refine ret1_gw (.inl rfl) hF rfl (res_tmp (hF.ev rfl)) ?_
    obtain rfl := Option.some.inj hM
    exact ⟨rfl, S.sel [] rfl rfl⟩

set_option maxHeartbeats 4000000 in
theorem c_spec_l20Turnings {x0 : List Int} {x1 : Int} {A0 : Option Addr} {n0 c0 : Nat} {g0 : Nat} {w : World} {r : Int × Int × Int × Int × Int × Int} {w0 : World} {X : List Asn} (h0 : Rt w0 1 eU A0 n0 c0 x0) (S : St w0 w (Asn.box g0 57 #[.slice A0 n0 c0, .int .i64 x1] :: X)) (hM : m_spec_l20Turnings x0 x1 = some r) :
    Calls Tryd.prog 30 #[.pointer (some ⟨g0, 0, none⟩)] w (fun e w' => e = .returned (.tuple #[.agg #[.int .i64 r.1, .int .i64 r.2.1], .agg #[.int .i64 r.2.2.1, .int .i64 r.2.2.2.1], .int .i64 r.2.2.2.2.1]) ∧ St w0 w' (Asn.box g0 57 #[.slice A0 n0 c0, .int .i64 r.2.2.2.2.2] :: X)) := by
  obtain rfl := h0.len
  unfold m_spec_l20Turnings at hM
  refine calls_gw Tryd.func30 Tryd.ntmps30 rfl [(0, .pointer (some ⟨g0, 0, none⟩))] ⟨rfl, trivial⟩ rfl ?_
  intro a hF
  refine wp_seq ?_
  refine wp_region_lit ?_
  refine op_new (cs := #[.int .i64 0, .int .i64 0]) rfl rfl hF rfl S (run_allocZ rfl zr24) ?_; clear hF S; intro a g101 u hF S
  refine op_new (cs := #[.int .i64 0, .int .i64 0]) rfl rfl hF rfl S (run_allocZ rfl zr24) ?_; clear hF S; intro a g102 u hF S
  refine op_val (v := .int .i64 0) rfl rfl hF rfl (run_assign rfl rfl) ?_; clear hF; intro a hF
  refine wpList_nil ?_
  refine wp_seq ?_
  refine wp_region_lit ?_
  refine op_val (v := .pointer (some ⟨g0, 0, none⟩)) rfl rfl hF rfl (run_move rfl (hF.ev rfl)) ?_; clear hF; intro a hF
  obtain ⟨p103, h103, hM⟩ := bind_ex hM
  refine op_call rfl rfl hF rfl (run_call (vs := [.pointer (some ⟨g0, 0, none⟩), .int .i64 12]) rfl rfl co24 ⟨(hF.ev rfl), rfl, trivial⟩) (c_spec_l20Turning (x0 := x0) (x1 := x1) (x2 := 12) ⟨h0.rc, rfl⟩ (show St w0 _ (Asn.box g0 57 #[.slice A0 x0.length c0, .int .i64 x1] :: Asn.box g102 24 #[.int .i64 0, .int .i64 0] :: Asn.box g101 24 #[.int .i64 0, .int .i64 0] :: X) from S.selT (M := [.box g0 57 #[.slice A0 x0.length c0, .int .i64 x1], .box g102 24 #[.int .i64 0, .int .i64 0], .box g101 24 #[.int .i64 0, .int .i64 0]]) 3 [2, 0, 1] rfl rfl rfl) h103) ?_
  rintro e u ⟨rfl, T⟩
  refine ⟨_, rfl, ?_⟩
  clear hF; intro a hF
  clear S; have S := T; clear T
  refine op_new (cs := #[.int .i64 0, .int .i64 0]) rfl rfl hF rfl S (run_allocZ rfl zr24) ?_; clear hF S; intro a g104 u hF S
  refine op_do rfl rfl (run_store (cs' := #[.int .i64 p103.1, .int .i64 p103.2.1]) rfl sz24 (hF.ev rfl) (hF.ev rfl) rfl rfl rfl (S.free 0 rfl) rfl rfl) ?_; replace S := S.put 0 rfl (#[.int .i64 p103.1, .int .i64 p103.2.1])
  generalize World.setRow _ _ _ = u at S ⊢
  refine wpList_nil ?_
  refine wp_seq ?_
  refine wp_region_lit ?_
  refine op_val (v := .pointer (some ⟨g0, 0, none⟩)) rfl rfl hF rfl (run_move rfl (hF.ev rfl)) ?_; clear hF; intro a hF
  obtain ⟨p105, h105, hM⟩ := bind_ex hM
  refine op_call rfl rfl hF rfl (run_call (vs := [.pointer (some ⟨g0, 0, none⟩), .int .i64 12]) rfl rfl co24 ⟨(hF.ev rfl), rfl, trivial⟩) (c_spec_l20Turning (x0 := x0) (x1 := p103.2.2) (x2 := 12) ⟨h0.rc, rfl⟩ (show St w0 _ (Asn.box g0 57 #[.slice A0 x0.length c0, .int .i64 p103.2.2] :: Asn.box g104 24 #[.int .i64 p103.1, .int .i64 p103.2.1] :: Asn.box g102 24 #[.int .i64 0, .int .i64 0] :: Asn.box g101 24 #[.int .i64 0, .int .i64 0] :: X) from S.selT (M := [.box g0 57 #[.slice A0 x0.length c0, .int .i64 p103.2.2], .box g104 24 #[.int .i64 p103.1, .int .i64 p103.2.1], .box g102 24 #[.int .i64 0, .int .i64 0], .box g101 24 #[.int .i64 0, .int .i64 0]]) 4 [1, 0, 2, 3] rfl rfl rfl) h105) ?_
  rintro e u ⟨rfl, T⟩
  refine ⟨_, rfl, ?_⟩
  clear hF; intro a hF
  clear S; have S := T; clear T
  refine op_new (cs := #[.int .i64 0, .int .i64 0]) rfl rfl hF rfl S (run_allocZ rfl zr24) ?_; clear hF S; intro a g106 u hF S
  refine op_do rfl rfl (run_store (cs' := #[.int .i64 p105.1, .int .i64 p105.2.1]) rfl sz24 (hF.ev rfl) (hF.ev rfl) rfl rfl rfl (S.free 0 rfl) rfl rfl) ?_; replace S := S.put 0 rfl (#[.int .i64 p105.1, .int .i64 p105.2.1])
  generalize World.setRow _ _ _ = u at S ⊢
  refine wpList_nil ?_
  refine wp_seq ?_
  refine wp_seq ?_
  refine wp_region_lit ?_
  refine op_val (v := .pointer (some ⟨g0, 0, none⟩)) rfl rfl hF rfl (run_move rfl (hF.ev rfl)) ?_; clear hF; intro a hF
  obtain ⟨p107, h107, hM⟩ := bind_ex hM
  refine op_call rfl rfl hF rfl (run_call (vs := [.pointer (some ⟨g0, 0, none⟩), .int .i64 2]) rfl rfl co32 ⟨(hF.ev rfl), rfl, trivial⟩) (c_spec_l20Rd_pick (x0 := x0) (x1 := p105.2.2) (x2 := 2) ⟨h0.rc, rfl⟩ (show St w0 _ (Asn.box g0 57 #[.slice A0 x0.length c0, .int .i64 p105.2.2] :: Asn.box g106 24 #[.int .i64 p105.1, .int .i64 p105.2.1] :: Asn.box g104 24 #[.int .i64 p103.1, .int .i64 p103.2.1] :: Asn.box g102 24 #[.int .i64 0, .int .i64 0] :: Asn.box g101 24 #[.int .i64 0, .int .i64 0] :: X) from S.selT (M := [.box g0 57 #[.slice A0 x0.length c0, .int .i64 p105.2.2], .box g106 24 #[.int .i64 p105.1, .int .i64 p105.2.1], .box g104 24 #[.int .i64 p103.1, .int .i64 p103.2.1], .box g102 24 #[.int .i64 0, .int .i64 0], .box g101 24 #[.int .i64 0, .int .i64 0]]) 5 [1, 0, 2, 3, 4] rfl rfl rfl) h107) ?_
  rintro e u ⟨rfl, T⟩
  refine ⟨_, rfl, ?_⟩
  clear hF; intro a hF
  clear S; have S := T; clear T
  refine op_val (v := .bool (p107.1 == 0)) rfl rfl hF rfl (run_eql (hF.ev rfl) rfl rfl) ?_; clear hF; intro a hF
  refine wpList_nil ?_
  obtain ⟨o109, hM110, hM⟩ := bind_ex hM
  refine wp_cut (fun a u => ∃ (p108 : Int × Int), p108 = o109 ∧ Fr a 30 [(0, .pointer (some ⟨g0, 0, none⟩)), (2, .pointer (some ⟨g101, 0, none⟩)), (3, .pointer (some ⟨g102, 0, none⟩)), (4, .int .i64 0), (5, .pointer (some ⟨g104, 0, none⟩)), (6, .pointer (some ⟨g106, 0, none⟩))] ∧ St w0 u (Asn.box g0 57 #[.slice A0 x0.length c0, .int .i64 p108.1] :: Asn.box g106 24 #[.int .i64 p108.2, .int .i64 p105.2.1] :: Asn.box g104 24 #[.int .i64 p103.1, .int .i64 p103.2.1] :: Asn.box g102 24 #[.int .i64 0, .int .i64 0] :: Asn.box g101 24 #[.int .i64 0, .int .i64 0] :: X)) ?_ ?_
  · have _ := trivial
    cases hc111 : (p107.1 == 0)
    · replace hM110 := bif_f hc111 hM110
      refine cond_f hF rfl hc111 ?_
      refine wp_skip ?_
      obtain rfl := Option.some.inj hM110
      exact ⟨(p107.2, p105.1), rfl, hF.keep _ ⟨rfl, rfl, rfl, rfl, rfl, rfl, trivial⟩, S.selT (M := [.box g0 57 #[.slice A0 x0.length c0, .int .i64 p107.2], .box g106 24 #[.int .i64 p105.1, .int .i64 p105.2.1], .box g104 24 #[.int .i64 p103.1, .int .i64 p103.2.1], .box g102 24 #[.int .i64 0, .int .i64 0], .box g101 24 #[.int .i64 0, .int .i64 0]]) 5 [0, 1, 2, 3, 4] rfl rfl rfl⟩
    · replace hM110 := bif_t hc111 hM110
      refine cond_t hF rfl hc111 ?_
      obtain ⟨p112, h112, hM110⟩ := bind_ex hM110
      refine region_gw (D := [14, 15, 16, 17, 18, 19, 20]) (Lr := (Asn.box g104 24 #[.int .i64 p103.1, .int .i64 p103.2.1] :: Asn.box g102 24 #[.int .i64 0, .int .i64 0] :: Asn.box g101 24 #[.int .i64 0, .int .i64 0] :: X)) (deps := (fun | 0 => [14] | 1 => [15] | 2 => [16] | 3 => [17] | 4 => [18] | 5 => [19] | 6 => [20] | 7 => [20] | _ => [])) (rd := (fun _ => [])) (zr := (fun _ => []))
        (φ := fun i vs => match i, vs with | 0, [v14] => v14 = .pointer (some ⟨g104, 0, none⟩) | 1, [v15] => v15 = .int .i64 p103.1 | 2, [v16] => v16 = .pointer (some ⟨g0, 0, none⟩) | 3, [v17] => v17 = .int .i64 p112.1 | 4, [v18] => v18 = .int .i64 (w64 (p103.1 + p112.1)) | 5, [v19] => v19 = .int .i64 (w64 ((w64 (p103.1 + p112.1)) - 4)) | 6, [v20] => v20 = .pointer (some ⟨g106, 0, none⟩) | _, _ => True)
        (C := fun i vs => match i, vs with | 3, [v17] => [.box g0 57 #[.slice A0 x0.length c0, .int .i64 p112.2]] | 7, [v20] => [.box g106 24 #[.int .i64 (w64 ((w64 (p103.1 + p112.1)) - 4)), .int .i64 p105.2.1]] | _, _ => [])
        (κ := (fun _ => none)) (Z := (fun | 3 => [.box g0 57 #[.slice A0 x0.length c0, .int .i64 p107.2]] | 7 => [.box g106 24 #[.int .i64 p105.1, .int .i64 p105.2.1]] | _ => [])) mixed hF (by kernel_rfl) (show St w0 _ (Asn.box g0 57 #[.slice A0 x0.length c0, .int .i64 p107.2] :: Asn.box g106 24 #[.int .i64 p105.1, .int .i64 p105.2.1] :: Asn.box g104 24 #[.int .i64 p103.1, .int .i64 p103.2.1] :: Asn.box g102 24 #[.int .i64 0, .int .i64 0] :: Asn.box g101 24 #[.int .i64 0, .int .i64 0] :: X) from S.selT (M := [.box g0 57 #[.slice A0 x0.length c0, .int .i64 p107.2], .box g106 24 #[.int .i64 p105.1, .int .i64 p105.2.1], .box g104 24 #[.int .i64 p103.1, .int .i64 p103.2.1], .box g102 24 #[.int .i64 0, .int .i64 0], .box g101 24 #[.int .i64 0, .int .i64 0]]) 5 [0, 1, 2, 3, 4] rfl rfl rfl) ?_ ?_
      · refine ⟨?_, ?_, ?_, ?_, ?_, ?_, ?_, ?_, trivial⟩
        · intro a u X' hB hu hp hr hz hl S
          replace S : St w0 u ([] ++ X') := S
          exact .inl ⟨rfl, .pointer (some ⟨g104, 0, none⟩), u, (run_fieldAddr rfl fl24_0 (hF.evB hB rfl rfl) rfl), rfl, S⟩
        · intro a u X' hB hu hp hr hz hl S
          replace S : St w0 u ([] ++ X') := S
          have e14 : sl a 14 = .pointer (some ⟨g104, 0, none⟩) := hp 0 rfl
          exact .inl ⟨rfl, .int .i64 p103.1, u, (run_load1 rfl one3 (ev_sl e14) ((gr_box S hl 0 rfl).cell rfl)), rfl, S⟩
        · intro a u X' hB hu hp hr hz hl S
          replace S : St w0 u ([] ++ X') := S
          exact .inl ⟨rfl, .pointer (some ⟨g0, 0, none⟩), u, (run_move rfl (hF.evB hB rfl rfl)), rfl, S⟩
        · intro a u X' hB hu hp hr hz hl S
          replace S : St w0 u ([.box g0 57 #[.slice A0 x0.length c0, .int .i64 p107.2]] ++ X') := S
          have e16 : sl a 16 = .pointer (some ⟨g0, 0, none⟩) := hp 2 rfl
          refine .inr (.inr (.inl ⟨rfl, _, _, (run_call (vs := [.pointer (some ⟨g0, 0, none⟩), .int .i64 9]) rfl rfl co32 ⟨(ev_sl e16), (ev_const _ _), trivial⟩), ?_⟩))
          refine Calls.mono (c_spec_l20Rd_pick (x0 := x0) (x1 := p107.2) (x2 := 9) ⟨h0.rc, rfl⟩ S h112) ?_
          rintro e w1 ⟨rfl, T⟩
          exact ⟨_, rfl, rfl, T⟩
        · intro a u X' hB hu hp hr hz hl S
          replace S : St w0 u ([] ++ X') := S
          have e15 : sl a 15 = .int .i64 p103.1 := hp 1 rfl
          have e17 : sl a 17 = .int .i64 p112.1 := hp 3 rfl
          exact .inl ⟨rfl, .int .i64 (w64 (p103.1 + p112.1)), u, (run_add (z := w64 (p103.1 + p112.1)) (ev_sl e15) (ev_sl e17) rfl rfl), rfl, S⟩
        · intro a u X' hB hu hp hr hz hl S
          replace S : St w0 u ([] ++ X') := S
          have e18 : sl a 18 = .int .i64 (w64 (p103.1 + p112.1)) := hp 4 rfl
          exact .inl ⟨rfl, .int .i64 (w64 ((w64 (p103.1 + p112.1)) - 4)), u, (run_sub (z := w64 ((w64 (p103.1 + p112.1)) - 4)) (ev_sl e18) (ev_const _ _) rfl rfl), rfl, S⟩
        · intro a u X' hB hu hp hr hz hl S
          replace S : St w0 u ([] ++ X') := S
          exact .inl ⟨rfl, .pointer (some ⟨g106, 0, none⟩), u, (run_fieldAddr rfl fl24_0 (hF.evB hB rfl rfl) rfl), rfl, S⟩
        · intro a u X' hB hu hp hr hz hl S
          replace S : St w0 u ([.box g106 24 #[.int .i64 p105.1, .int .i64 p105.2.1]] ++ X') := S
          have e19 : sl a 19 = .int .i64 (w64 ((w64 (p103.1 + p112.1)) - 4)) := hp 5 rfl
          have e20 : sl a 20 = .pointer (some ⟨g106, 0, none⟩) := hp 6 rfl
          exact .inr (.inl ⟨rfl, _, run_store (cs' := #[.int .i64 (w64 ((w64 (p103.1 + p112.1)) - 4)), .int .i64 p105.2.1]) rfl sz3 (ev_sl e20) (ev_sl e19) rfl rfl rfl (S.free 0 rfl) rfl rfl, trivial, S.put 0 rfl (#[.int .i64 (w64 ((w64 (p103.1 + p112.1)) - 4)), .int .i64 p105.2.1])⟩)
      · intro a u hB hp S
        obtain ⟨q0, q1, q2, q3, q4, q5, q6, q7, _⟩ := hp
        have e14 : sl a 14 = .pointer (some ⟨g104, 0, none⟩) := q0
        have e15 : sl a 15 = .int .i64 p103.1 := q1
        have e16 : sl a 16 = .pointer (some ⟨g0, 0, none⟩) := q2
        have e17 : sl a 17 = .int .i64 p112.1 := q3
        have e18 : sl a 18 = .int .i64 (w64 (p103.1 + p112.1)) := q4
        have e19 : sl a 19 = .int .i64 (w64 ((w64 (p103.1 + p112.1)) - 4)) := q5
        have e20 : sl a 20 = .pointer (some ⟨g106, 0, none⟩) := q6
        replace S : St w0 u (Asn.box g0 57 #[.slice A0 x0.length c0, .int .i64 p112.2] :: Asn.box g106 24 #[.int .i64 (w64 ((w64 (p103.1 + p112.1)) - 4)), .int .i64 p105.2.1] :: Asn.box g104 24 #[.int .i64 p103.1, .int .i64 p103.2.1] :: Asn.box g102 24 #[.int .i64 0, .int .i64 0] :: Asn.box g101 24 #[.int .i64 0, .int .i64 0] :: X) := S
        clear q0 q1 q2 q3 q4 q5 q6 q7
        have hF := hF.region hB [(14, .pointer (some ⟨g104, 0, none⟩)), (15, .int .i64 p103.1), (16, .pointer (some ⟨g0, 0, none⟩)), (17, .int .i64 p112.1), (18, .int .i64 (w64 (p103.1 + p112.1))), (19, .int .i64 (w64 ((w64 (p103.1 + p112.1)) - 4))), (20, .pointer (some ⟨g106, 0, none⟩))] (allSl_mem ⟨e14, e15, e16, e17, e18, e19, e20, trivial⟩) rfl
        clear hB e14 e15 e16 e17 e18 e19 e20
        obtain rfl := Option.some.inj hM110
        exact ⟨(p112.2, w64 ((w64 (p103.1 + p112.1)) - 4)), rfl, hF.keep _ ⟨rfl, rfl, rfl, rfl, rfl, rfl, trivial⟩, S.selT (M := [.box g0 57 #[.slice A0 x0.length c0, .int .i64 p112.2], .box g106 24 #[.int .i64 (w64 ((w64 (p103.1 + p112.1)) - 4)), .int .i64 p105.2.1], .box g104 24 #[.int .i64 p103.1, .int .i64 p103.2.1], .box g102 24 #[.int .i64 0, .int .i64 0], .box g101 24 #[.int .i64 0, .int .i64 0]]) 5 [0, 1, 2, 3, 4] rfl rfl rfl⟩
  · rintro a u ⟨p108, rfl, hF, S⟩
    refine wp_seq ?_
    obtain ⟨p113, h113, hM⟩ := bind_ex hM
    obtain ⟨p114, h114, hM⟩ := bind_ex hM
    refine region_gw (D := [21, 22, 23, 24, 25, 26, 27, 28, 29, 4]) (Lr := (Asn.box g106 24 #[.int .i64 p108.2, .int .i64 p105.2.1] :: Asn.box g104 24 #[.int .i64 p103.1, .int .i64 p103.2.1] :: X)) (deps := (fun | 0 => [21] | 1 => [22] | 2 => [23] | 3 => [24] | 4 => [25] | 5 => [26] | 6 => [27] | 7 => [28] | 8 => [29] | 9 => [2] | 10 => [3] | 11 => [4] | _ => [])) (rd := (fun _ => [])) (zr := (fun _ => []))
      (φ := fun i vs => match i, vs with | 0, [v21] => v21 = .agg #[.int .i64 p103.1, .int .i64 p103.2.1] | 1, [v22] => v22 = .agg #[.int .i64 p108.2, .int .i64 p105.2.1] | 2, [v23] => v23 = .pointer (some ⟨g0, 0, none⟩) | 3, [v24] => v24 = .int .i64 p113.1 | 4, [v25] => v25 = .pointer (some ⟨g0, 0, none⟩) | 5, [v26] => v26 = .int .i64 p114.1 | 6, [v27] => v27 = .int .i64 (w64 (Int.tdiv p114.1 11)) | 7, [v28] => v28 = .int .i64 (w64 ((w64 (Int.tdiv p114.1 11)) * 3)) | 8, [v29] => v29 = .int .i64 (w64 (p113.1 - (w64 ((w64 (Int.tdiv p114.1 11)) * 3)))) | 11, [v4] => v4 = .int .i64 (w64 (p113.1 - (w64 ((w64 (Int.tdiv p114.1 11)) * 3)))) | _, _ => True)
      (C := fun i vs => match i, vs with | 3, [v24] => [.box g0 57 #[.slice A0 x0.length c0, .int .i64 p113.2]] | 5, [v26] => [.box g0 57 #[.slice A0 x0.length c0, .int .i64 p114.2]] | 9, [v2] => [.box g101 24 #[.int .i64 p103.1, .int .i64 p103.2.1]] | 10, [v3] => [.box g102 24 #[.int .i64 p108.2, .int .i64 p105.2.1]] | _, _ => [])
      (κ := (fun | 3 => some 5 | _ => none)) (Z := (fun | 3 => [.box g0 57 #[.slice A0 x0.length c0, .int .i64 p108.1]] | 9 => [.box g101 24 #[.int .i64 0, .int .i64 0]] | 10 => [.box g102 24 #[.int .i64 0, .int .i64 0]] | _ => [])) mixed hF (by kernel_rfl) (show St w0 _ (Asn.box g0 57 #[.slice A0 x0.length c0, .int .i64 p108.1] :: Asn.box g101 24 #[.int .i64 0, .int .i64 0] :: Asn.box g102 24 #[.int .i64 0, .int .i64 0] :: Asn.box g106 24 #[.int .i64 p108.2, .int .i64 p105.2.1] :: Asn.box g104 24 #[.int .i64 p103.1, .int .i64 p103.2.1] :: X) from S.selT (M := [.box g0 57 #[.slice A0 x0.length c0, .int .i64 p108.1], .box g101 24 #[.int .i64 0, .int .i64 0], .box g102 24 #[.int .i64 0, .int .i64 0], .box g106 24 #[.int .i64 p108.2, .int .i64 p105.2.1], .box g104 24 #[.int .i64 p103.1, .int .i64 p103.2.1]]) 5 [0, 4, 3, 1, 2] rfl rfl rfl) ?_ ?_
    · refine ⟨?_, ?_, ?_, ?_, ?_, ?_, ?_, ?_, ?_, ?_, ?_, ?_, trivial⟩
      · intro a u X' hB hu hp hr hz hl S
        replace S : St w0 u ([] ++ X') := S
        exact .inl ⟨rfl, .agg #[.int .i64 p103.1, .int .i64 p103.2.1], u, (run_loadN rfl ag24 (hF.evB hB rfl rfl) rfl ((gr_box S hl 1 rfl).cells 0 #[.int .i64 p103.1, .int .i64 p103.2.1] rfl)), rfl, S⟩
      · intro a u X' hB hu hp hr hz hl S
        replace S : St w0 u ([] ++ X') := S
        exact .inl ⟨rfl, .agg #[.int .i64 p108.2, .int .i64 p105.2.1], u, (run_loadN rfl ag24 (hF.evB hB rfl rfl) rfl ((gr_box S hl 0 rfl).cells 0 #[.int .i64 p108.2, .int .i64 p105.2.1] rfl)), rfl, S⟩
      · intro a u X' hB hu hp hr hz hl S
        replace S : St w0 u ([] ++ X') := S
        exact .inl ⟨rfl, .pointer (some ⟨g0, 0, none⟩), u, (run_move rfl (hF.evB hB rfl rfl)), rfl, S⟩
      · intro a u X' hB hu hp hr hz hl S
        replace S : St w0 u ([.box g0 57 #[.slice A0 x0.length c0, .int .i64 p108.1]] ++ X') := S
        have e23 : sl a 23 = .pointer (some ⟨g0, 0, none⟩) := hp 2 rfl
        refine .inr (.inr (.inl ⟨rfl, _, _, (run_call (vs := [.pointer (some ⟨g0, 0, none⟩), .int .i64 12]) rfl rfl co32 ⟨(ev_sl e23), (ev_const _ _), trivial⟩), ?_⟩))
        refine Calls.mono (c_spec_l20Rd_pick (x0 := x0) (x1 := p108.1) (x2 := 12) ⟨h0.rc, rfl⟩ S h113) ?_
        rintro e w1 ⟨rfl, T⟩
        exact ⟨_, rfl, rfl, T⟩
      · intro a u X' hB hu hp hr hz hl S
        replace S : St w0 u ([] ++ X') := S
        exact .inl ⟨rfl, .pointer (some ⟨g0, 0, none⟩), u, (run_move rfl (hF.evB hB rfl rfl)), rfl, S⟩
      · intro a u X' hB hu hp hr hz hl S
        replace S : St w0 u ([.box g0 57 #[.slice A0 x0.length c0, .int .i64 p113.2]] ++ X') := S
        have e25 : sl a 25 = .pointer (some ⟨g0, 0, none⟩) := hp 4 rfl
        refine .inr (.inr (.inl ⟨rfl, _, _, (run_call (vs := [.pointer (some ⟨g0, 0, none⟩), .int .i64 12]) rfl rfl co32 ⟨(ev_sl e25), (ev_const _ _), trivial⟩), ?_⟩))
        refine Calls.mono (c_spec_l20Rd_pick (x0 := x0) (x1 := p113.2) (x2 := 12) ⟨h0.rc, rfl⟩ S h114) ?_
        rintro e w1 ⟨rfl, T⟩
        exact ⟨_, rfl, rfl, T⟩
      · intro a u X' hB hu hp hr hz hl S
        replace S : St w0 u ([] ++ X') := S
        have e26 : sl a 26 = .int .i64 p114.1 := hp 5 rfl
        exact .inl ⟨rfl, .int .i64 (w64 (Int.tdiv p114.1 11)), u, (run_quo (z := w64 (Int.tdiv p114.1 11)) (ev_sl e26) (ev_const _ _) rfl (by decide) rfl), rfl, S⟩
      · intro a u X' hB hu hp hr hz hl S
        replace S : St w0 u ([] ++ X') := S
        have e27 : sl a 27 = .int .i64 (w64 (Int.tdiv p114.1 11)) := hp 6 rfl
        exact .inl ⟨rfl, .int .i64 (w64 ((w64 (Int.tdiv p114.1 11)) * 3)), u, (run_mul (z := w64 ((w64 (Int.tdiv p114.1 11)) * 3)) (ev_sl e27) (ev_const _ _) rfl rfl), rfl, S⟩
      · intro a u X' hB hu hp hr hz hl S
        replace S : St w0 u ([] ++ X') := S
        have e24 : sl a 24 = .int .i64 p113.1 := hp 3 rfl
        have e28 : sl a 28 = .int .i64 (w64 ((w64 (Int.tdiv p114.1 11)) * 3)) := hp 7 rfl
        exact .inl ⟨rfl, .int .i64 (w64 (p113.1 - (w64 ((w64 (Int.tdiv p114.1 11)) * 3)))), u, (run_sub (z := w64 (p113.1 - (w64 ((w64 (Int.tdiv p114.1 11)) * 3)))) (ev_sl e24) (ev_sl e28) rfl rfl), rfl, S⟩
      · intro a u X' hB hu hp hr hz hl S
        replace S : St w0 u ([.box g101 24 #[.int .i64 0, .int .i64 0]] ++ X') := S
        have e21 : sl a 21 = .agg #[.int .i64 p103.1, .int .i64 p103.2.1] := hp 0 rfl
        exact .inr (.inl ⟨rfl, _, run_store (cs' := #[.int .i64 p103.1, .int .i64 p103.2.1]) rfl sz24 (hF.evB hB rfl rfl) (ev_sl e21) rfl rfl rfl (S.free 0 rfl) rfl rfl, trivial, S.put 0 rfl (#[.int .i64 p103.1, .int .i64 p103.2.1])⟩)
      · intro a u X' hB hu hp hr hz hl S
        replace S : St w0 u ([.box g102 24 #[.int .i64 0, .int .i64 0]] ++ X') := S
        have e22 : sl a 22 = .agg #[.int .i64 p108.2, .int .i64 p105.2.1] := hp 1 rfl
        exact .inr (.inl ⟨rfl, _, run_store (cs' := #[.int .i64 p108.2, .int .i64 p105.2.1]) rfl sz24 (hF.evB hB rfl rfl) (ev_sl e22) rfl rfl rfl (S.free 0 rfl) rfl rfl, trivial, S.put 0 rfl (#[.int .i64 p108.2, .int .i64 p105.2.1])⟩)
      · intro a u X' hB hu hp hr hz hl S
        replace S : St w0 u ([] ++ X') := S
        have e29 : sl a 29 = .int .i64 (w64 (p113.1 - (w64 ((w64 (Int.tdiv p114.1 11)) * 3)))) := hp 8 rfl
        exact .inl ⟨rfl, .int .i64 (w64 (p113.1 - (w64 ((w64 (Int.tdiv p114.1 11)) * 3)))), u, (run_assign rfl (ev_sl e29)), rfl, S⟩
    · intro a u hB hp S
      obtain ⟨q0, q1, q2, q3, q4, q5, q6, q7, q8, q9, q10, q11, _⟩ := hp
      have e21 : sl a 21 = .agg #[.int .i64 p103.1, .int .i64 p103.2.1] := q0
      have e22 : sl a 22 = .agg #[.int .i64 p108.2, .int .i64 p105.2.1] := q1
      have e23 : sl a 23 = .pointer (some ⟨g0, 0, none⟩) := q2
      have e24 : sl a 24 = .int .i64 p113.1 := q3
      have e25 : sl a 25 = .pointer (some ⟨g0, 0, none⟩) := q4
      have e26 : sl a 26 = .int .i64 p114.1 := q5
      have e27 : sl a 27 = .int .i64 (w64 (Int.tdiv p114.1 11)) := q6
      have e28 : sl a 28 = .int .i64 (w64 ((w64 (Int.tdiv p114.1 11)) * 3)) := q7
      have e29 : sl a 29 = .int .i64 (w64 (p113.1 - (w64 ((w64 (Int.tdiv p114.1 11)) * 3)))) := q8
      have e4 : sl a 4 = .int .i64 (w64 (p113.1 - (w64 ((w64 (Int.tdiv p114.1 11)) * 3)))) := q11
      replace S : St w0 u (Asn.box g0 57 #[.slice A0 x0.length c0, .int .i64 p114.2] :: Asn.box g101 24 #[.int .i64 p103.1, .int .i64 p103.2.1] :: Asn.box g102 24 #[.int .i64 p108.2, .int .i64 p105.2.1] :: Asn.box g106 24 #[.int .i64 p108.2, .int .i64 p105.2.1] :: Asn.box g104 24 #[.int .i64 p103.1, .int .i64 p103.2.1] :: X) := S
      clear q0 q1 q2 q3 q4 q5 q6 q7 q8 q9 q10 q11
      have hF := hF.region hB [(21, .agg #[.int .i64 p103.1, .int .i64 p103.2.1]), (22, .agg #[.int .i64 p108.2, .int .i64 p105.2.1]), (23, .pointer (some ⟨g0, 0, none⟩)), (24, .int .i64 p113.1), (25, .pointer (some ⟨g0, 0, none⟩)), (26, .int .i64 p114.1), (27, .int .i64 (w64 (Int.tdiv p114.1 11))), (28, .int .i64 (w64 ((w64 (Int.tdiv p114.1 11)) * 3))), (29, .int .i64 (w64 (p113.1 - (w64 ((w64 (Int.tdiv p114.1 11)) * 3))))), (4, .int .i64 (w64 (p113.1 - (w64 ((w64 (Int.tdiv p114.1 11)) * 3)))))] (allSl_mem ⟨e21, e22, e23, e24, e25, e26, e27, e28, e29, e4, trivial⟩) rfl
      clear hB e21 e22 e23 e24 e25 e26 e27 e28 e29 e4
      refine wp_ret ?_
      repeat with_reducible (first | refine then_ret ?_ | refine in_ret ?_ | refine in_nrm ?_)
      refine ret3_gw (.inl rfl) hF rfl (res_cell (hF.ev rfl) (res_loadN ag24 rfl (S.cells 1 rfl 0 #[.int .i64 p103.1, .int .i64 p103.2.1] rfl))) (res_cell (hF.ev rfl) (res_loadN ag24 rfl (S.cells 2 rfl 0 #[.int .i64 p108.2, .int .i64 p105.2.1] rfl))) (res_tmp (hF.ev rfl)) ?_
      obtain rfl := Option.some.inj hM
      exact ⟨rfl, S.selT (M := [.box g0 57 #[.slice A0 x0.length c0, .int .i64 p114.2]]) 5 [0] rfl rfl rfl⟩

set_option maxHeartbeats 4000000 in
theorem c_spec_DrawSyncMay {x0 : List Int} {A0 : Option Addr} {n0 c0 : Nat} {w : World} {r : Int × Int × Int × Int × Int} (h0 : Rt w 1 eU A0 n0 c0 x0) (hM : m_spec_DrawSyncMay x0 = some r) :
    Calls Tryd.prog 12 #[.slice A0 n0 c0] w (fun e w' => e = .returned (.tuple #[.agg #[.int .i64 r.1, .int .i64 r.2.1], .agg #[.int .i64 r.2.2.1, .int .i64 r.2.2.2.1], .int .i64 r.2.2.2.2]) ∧ St w w' []) := by
  obtain rfl := h0.len
  unfold m_spec_DrawSyncMay at hM
  refine calls_gw Tryd.func12 Tryd.ntmps12 rfl [(0, .slice A0 x0.length c0)] ⟨rfl, trivial⟩ rfl ?_
  intro a hF
  have S := St.nil w
  refine wp_seq ?_
  refine wp_region_lit ?_
  refine op_new (cs := #[.int .i64 0, .int .i64 0]) rfl rfl hF rfl S (run_allocZ rfl zr24) ?_; clear hF S; intro a g101 u hF S
  refine op_new (cs := #[.int .i64 0, .int .i64 0]) rfl rfl hF rfl S (run_allocZ rfl zr24) ?_; clear hF S; intro a g102 u hF S
  refine op_val (v := .int .i64 0) rfl rfl hF rfl (run_assign rfl rfl) ?_; clear hF; intro a hF
  refine wpList_nil ?_
  refine wp_seq ?_
  refine wp_region_lit ?_
  refine op_val (v := .slice A0 x0.length c0) rfl rfl hF rfl (run_move rfl (hF.ev rfl)) ?_; clear hF; intro a hF
  refine op_call rfl rfl hF rfl (run_call (vs := [.slice A0 x0.length c0]) rfl rfl co25 ⟨(hF.ev rfl), trivial⟩) (c_spec_l20Open ⟨(S.rc0 h0.rc), rfl⟩) ?_
  rintro e u ⟨g103, rfl, T⟩
  refine ⟨_, rfl, ?_⟩
  clear hF; intro a hF
  replace S := S.call1 T; clear T
  obtain ⟨p104, h104, hM⟩ := bind_ex hM
  refine op_call rfl rfl hF rfl (run_call (vs := [.pointer (some ⟨g103, 0, none⟩)]) rfl rfl co30 ⟨(hF.ev rfl), trivial⟩) (c_spec_l20Turnings (x0 := x0.take 2000) (x1 := 0) ⟨(op_rc h0.rc rfl), rfl⟩ (show St w _ [.box g103 57 #[.slice (opA c0 x0.length A0) ((x0.take 2000).length) c0, .int .i64 0], .box g102 24 #[.int .i64 0, .int .i64 0], .box g101 24 #[.int .i64 0, .int .i64 0]] from S.sel [0, 1, 2] rfl rfl) h104) ?_
  rintro e u ⟨rfl, T⟩
  refine ⟨_, rfl, ?_⟩
  clear hF; intro a hF
  clear S; have S := T; clear T
  refine op_val (v := .agg #[.int .i64 p104.1, .int .i64 p104.2.1]) rfl rfl hF rfl (run_extract rfl (hF.ev rfl) rfl) ?_; clear hF; intro a hF
  refine op_val (v := .agg #[.int .i64 p104.2.2.1, .int .i64 p104.2.2.2.1]) rfl rfl hF rfl (run_extract rfl (hF.ev rfl) rfl) ?_; clear hF; intro a hF
  refine op_val (v := .int .i64 p104.2.2.2.2.1) rfl rfl hF rfl (run_extract rfl (hF.ev rfl) rfl) ?_; clear hF; intro a hF
  refine op_do rfl rfl (run_store (cs' := #[.int .i64 p104.1, .int .i64 p104.2.1]) rfl sz24 (hF.ev rfl) (hF.ev rfl) rfl rfl rfl (S.free 2 rfl) rfl rfl) ?_; replace S := S.put 2 rfl (#[.int .i64 p104.1, .int .i64 p104.2.1])
  generalize World.setRow _ _ _ = u at S ⊢
  refine op_do rfl rfl (run_store (cs' := #[.int .i64 p104.2.2.1, .int .i64 p104.2.2.2.1]) rfl sz24 (hF.ev rfl) (hF.ev rfl) rfl rfl rfl (S.free 1 rfl) rfl rfl) ?_; replace S := S.put 1 rfl (#[.int .i64 p104.2.2.1, .int .i64 p104.2.2.2.1])
  generalize World.setRow _ _ _ = u at S ⊢
  refine op_val (v := .int .i64 p104.2.2.2.2.1) rfl rfl hF rfl (run_assign rfl (hF.ev rfl)) ?_; clear hF; intro a hF
  refine wpList_nil ?_
  refine wp_ret ?_
  repeat with_reducible (first | refine then_ret ?_ | refine in_ret ?_ | refine in_nrm ?_)
  refine ret3_gw (.inl rfl) hF rfl (res_cell (hF.ev rfl) (res_loadN ag24 rfl (S.cells 2 rfl 0 #[.int .i64 p104.1, .int .i64 p104.2.1] rfl))) (res_cell (hF.ev rfl) (res_loadN ag24 rfl (S.cells 1 rfl 0 #[.int .i64 p104.2.2.1, .int .i64 p104.2.2.2.1] rfl))) (res_tmp (hF.ev rfl)) ?_
  obtain rfl := Option.some.inj hM
  exact ⟨rfl, S.sel [] rfl rfl⟩

set_option maxHeartbeats 4000000 in
theorem c_impl_distance {x0 : Int} {x1 : Int} {w : World} {r : Int}  (hM : m_impl_distance x0 x1 = some r) :
    Calls Tryd.prog 31 #[.int .i64 x0, .int .i64 x1] w (fun e w' => e = .returned (.int .i64 r) ∧ St w w' []) := by
  unfold m_impl_distance at hM
  refine calls_gw Tryd.func31 Tryd.ntmps31 rfl [(0, .int .i64 x0), (1, .int .i64 x1)] ⟨rfl, rfl, trivial⟩ rfl ?_
  intro a hF
  have S := St.nil w
  refine wp_seq ?_
  refine wp_region_lit ?_
  refine op_val (v := .int .i64 0) rfl rfl hF rfl (run_assign rfl rfl) ?_; clear hF; intro a hF
  refine wpList_nil ?_
  refine wp_seq ?_
  refine wp_region_lit ?_
  refine op_val (v := .int .i64 x0) rfl rfl hF rfl (run_move rfl (hF.ev rfl)) ?_; clear hF; intro a hF
  refine op_val (v := .int .i64 x1) rfl rfl hF rfl (run_move rfl (hF.ev rfl)) ?_; clear hF; intro a hF
  refine op_val (v := .int .i64 (w64 (x0 - x1))) rfl rfl hF rfl (run_sub (z := w64 (x0 - x1)) (hF.ev rfl) (hF.ev rfl) rfl rfl) ?_; clear hF; intro a hF
  refine op_val (v := .int .i64 x1) rfl rfl hF rfl (run_move rfl (hF.ev rfl)) ?_; clear hF; intro a hF
  refine op_val (v := .int .i64 x0) rfl rfl hF rfl (run_move rfl (hF.ev rfl)) ?_; clear hF; intro a hF
  refine op_val (v := .int .i64 (w64 (x1 - x0))) rfl rfl hF rfl (run_sub (z := w64 (x1 - x0)) (hF.ev rfl) (hF.ev rfl) rfl rfl) ?_; clear hF; intro a hF
  refine op_val (v := .int .i64 (max (w64 (x0 - x1)) (w64 (x1 - x0)))) rfl rfl hF rfl (run_max rfl (hF.ev rfl) (hF.ev rfl)) ?_; clear hF; intro a hF
  refine op_val (v := .int .i64 (max (w64 (x0 - x1)) (w64 (x1 - x0)))) rfl rfl hF rfl (run_assign rfl (hF.ev rfl)) ?_; clear hF; intro a hF
  refine wpList_nil ?_
  refine wp_ret ?_
  repeat with_reducible (first | refine then_ret ?_ | refine in_ret ?_ | refine in_nrm ?_)
  refine ret1_gw (.inl rfl) hF rfl (res_tmp (hF.ev rfl)) ?_
  obtain rfl := Option.some.inj hM
  exact ⟨rfl, S.sel [] rfl rfl⟩

set_option maxHeartbeats 4000000 in
theorem c_impl_SyncMay {x0 : Int} {x1 : Int} {x2 : Int} {x3 : Int} {x4 : Int} {w : World} {r : Bool}  (hM : m_impl_SyncMay x0 x1 x2 x3 x4 = some r) :
    Calls Tryd.prog 13 #[.agg #[.int .i64 x0, .int .i64 x1], .agg #[.int .i64 x2, .int .i64 x3], .int .i64 x4] w (fun e w' => e = .returned (.bool r) ∧ St w w' []) := by
  unfold m_impl_SyncMay at hM
  refine calls_gw Tryd.func13 Tryd.ntmps13 rfl [(0, .agg #[.int .i64 x0, .int .i64 x1]), (1, .agg #[.int .i64 x2, .int .i64 x3]), (2, .int .i64 x4)] ⟨rfl, rfl, rfl, trivial⟩ rfl ?_
  intro a hF
  have S := St.nil w
  refine wp_seq ?_
  refine wp_region_lit ?_
  refine op_new (cs := #[.int .i64 x0, .int .i64 x1]) rfl rfl hF rfl S (run_box rfl (hF.ev rfl) rfl) ?_; clear hF S; intro a g101 u hF S
  refine op_new (cs := #[.int .i64 x2, .int .i64 x3]) rfl rfl hF rfl S (run_box rfl (hF.ev rfl) rfl) ?_; clear hF S; intro a g102 u hF S
  refine op_val (v := .bool false) rfl rfl hF rfl (run_assign rfl rfl) ?_; clear hF; intro a hF
  refine wpList_nil ?_
  refine wp_seq ?_
  refine wp_region_lit ?_
  refine op_val (v := .agg #[.int .i64 x0, .int .i64 x1]) rfl rfl hF rfl (run_loadN rfl ag24 (hF.ev rfl) rfl ((S.free 1 rfl).cells 0 #[.int .i64 x0, .int .i64 x1] rfl)) ?_; clear hF; intro a hF
  obtain ⟨p103, h103, hM⟩ := bind_ex hM
  refine op_call rfl rfl hF rfl (run_call (vs := [.agg #[.int .i64 x0, .int .i64 x1]]) rfl rfl co9 ⟨(hF.ev rfl), trivial⟩) (c_impl_TurningValid (x0 := x0) (x1 := x1)  h103) ?_
  rintro e u ⟨rfl, T⟩
  refine ⟨_, rfl, ?_⟩
  clear hF; intro a hF
  replace S := S.call0 T; clear T
  refine op_val (v := .bool p103) rfl rfl hF rfl (run_move rfl (hF.ev rfl)) ?_; clear hF; intro a hF
  refine op_gv (v := .agg #[.int .i64 x2, .int .i64 x3]) rfl rfl hF rfl (yt (gw_yield hF rfl rfl rfl)) (fun hg => (run_loadN rfl ag24 (hF.ev rfl) rfl ((S.free 0 rfl).cells 0 #[.int .i64 x2, .int .i64 x3] rfl))) ?_; clear hF; intro a hF
  obtain ⟨p104, h104, hM⟩ := bind_ex hM
  refine op_gcall (v := .bool p104) rfl rfl hF rfl S (yt (gw_yield hF rfl rfl rfl)) (fun hg => (run_call (vs := [.agg #[.int .i64 x2, .int .i64 x3]]) rfl rfl co9 ⟨((hF.ev rfl).trans (gv_t hg)), trivial⟩)) (fun hg => c_impl_TurningValid (x0 := x2) (x1 := x3)  (gb_t h104 hg)) ?_; clear hF S; intro a u hF S
  refine op_val (v := .bool (p103 && p104)) rfl rfl hF rfl (run_pick_and rfl (hF.ev rfl) (fun hp => ((hF.ev rfl).trans (gv_t hp))) rfl) ?_; clear hF; intro a hF
  refine op_val (v := .bool (p103 && p104)) rfl rfl hF rfl (run_move rfl (hF.ev rfl)) ?_; clear hF; intro a hF
  refine op_gv (v := .pointer (some ⟨g101, 0, none⟩)) rfl rfl hF rfl (yt (gw_yield hF rfl rfl rfl)) (fun hg => (run_fieldAddr rfl fl24_0 (hF.ev rfl) rfl)) ?_; clear hF; intro a hF
  refine op_gv (v := .int .i64 x0) rfl rfl hF rfl (yt (gw_yield hF rfl rfl rfl)) (fun hg => (run_load1 rfl one3 ((hF.ev rfl).trans (gv_t hg)) ((S.free 1 rfl).cell rfl))) ?_; clear hF; intro a hF
  refine op_gv (v := .pointer (some ⟨g102, 0, none⟩)) rfl rfl hF rfl (yt (gw_yield hF rfl rfl rfl)) (fun hg => (run_fieldAddr rfl fl24_0 (hF.ev rfl) rfl)) ?_; clear hF; intro a hF
  refine op_gv (v := .int .i64 x2) rfl rfl hF rfl (yt (gw_yield hF rfl rfl rfl)) (fun hg => (run_load1 rfl one3 ((hF.ev rfl).trans (gv_t hg)) ((S.free 0 rfl).cell rfl))) ?_; clear hF; intro a hF
  obtain ⟨p105, h105, hM⟩ := bind_ex hM
  refine op_gcall (v := .int .i64 p105) rfl rfl hF rfl S (yt (gw_yield hF rfl rfl rfl)) (fun hg => (run_call (vs := [.int .i64 x0, .int .i64 x2]) rfl rfl co31 ⟨((hF.ev rfl).trans (gv_t hg)), ((hF.ev rfl).trans (gv_t hg)), trivial⟩)) (fun hg => c_impl_distance (x0 := x0) (x1 := x2)  (gb_t h105 hg)) ?_; clear hF S; intro a u hF S
  refine op_gv (v := .int .i64 x4) rfl rfl hF rfl (yt (gw_yield hF rfl rfl rfl)) (fun hg => (run_move rfl (hF.ev rfl))) ?_; clear hF; intro a hF
  refine op_gv (v := .bool (leB p105 x4)) rfl rfl hF rfl (yt (gw_yield hF rfl rfl rfl)) (fun hg => (run_leq ((hF.ev rfl).trans (gv_t hg)) ((hF.ev rfl).trans (gv_t hg)) rfl)) ?_; clear hF; intro a hF
  refine op_val (v := .bool ((p103 && p104) && (leB p105 x4))) rfl rfl hF rfl (run_pick_and rfl (hF.ev rfl) (fun hp => ((hF.ev rfl).trans (gv_t hp))) rfl) ?_; clear hF; intro a hF
  refine op_val (v := .bool ((p103 && p104) && (leB p105 x4))) rfl rfl hF rfl (run_move rfl (hF.ev rfl)) ?_; clear hF; intro a hF
  refine op_gv (v := .pointer (some ⟨g101, 1, none⟩)) rfl rfl hF rfl (yt (gw_yield hF rfl rfl rfl)) (fun hg => (run_fieldAddr rfl fl24_1 (hF.ev rfl) rfl)) ?_; clear hF; intro a hF
  refine op_gv (v := .int .i64 x1) rfl rfl hF rfl (yt (gw_yield hF rfl rfl rfl)) (fun hg => (run_load1 rfl one3 ((hF.ev rfl).trans (gv_t hg)) ((S.free 1 rfl).cell rfl))) ?_; clear hF; intro a hF
  refine op_gv (v := .pointer (some ⟨g102, 1, none⟩)) rfl rfl hF rfl (yt (gw_yield hF rfl rfl rfl)) (fun hg => (run_fieldAddr rfl fl24_1 (hF.ev rfl) rfl)) ?_; clear hF; intro a hF
  refine op_gv (v := .int .i64 x3) rfl rfl hF rfl (yt (gw_yield hF rfl rfl rfl)) (fun hg => (run_load1 rfl one3 ((hF.ev rfl).trans (gv_t hg)) ((S.free 0 rfl).cell rfl))) ?_; clear hF; intro a hF
  refine op_gv (v := .int .i64 (w64 (x1 + x3))) rfl rfl hF rfl (yt (gw_yield hF rfl rfl rfl)) (fun hg => (run_add (z := w64 (x1 + x3)) ((hF.ev rfl).trans (gv_t hg)) ((hF.ev rfl).trans (gv_t hg)) rfl rfl)) ?_; clear hF; intro a hF
  refine op_gv (v := .bool (leB (w64 (x1 + x3)) 99)) rfl rfl hF rfl (yt (gw_yield hF rfl rfl rfl)) (fun hg => (run_leq ((hF.ev rfl).trans (gv_t hg)) rfl rfl)) ?_; clear hF; intro a hF
  refine op_val (v := .bool (((p103 && p104) && (leB p105 x4)) && (leB (w64 (x1 + x3)) 99))) rfl rfl hF rfl (run_pick_and rfl (hF.ev rfl) (fun hp => ((hF.ev rfl).trans (gv_t hp))) rfl) ?_; clear hF; intro a hF
  refine op_val (v := .bool (((p103 && p104) && (leB p105 x4)) && (leB (w64 (x1 + x3)) 99))) rfl rfl hF rfl (run_assign rfl (hF.ev rfl)) ?_; clear hF; intro a hF
  refine wpList_nil ?_
  refine wp_ret ?_
  repeat with_reducible (first | refine then_ret ?_ | refine in_ret ?_ | refine in_nrm ?_)
  refine ret1_gw (.inl rfl) hF rfl (res_tmp (hF.ev rfl)) ?_
  obtain rfl := Option.some.inj hM
  exact ⟨rfl, S.sel [] rfl rfl⟩

set_option maxHeartbeats 4000000 in
theorem c_spec_SyncMay {x0 : Int} {x1 : Int} {x2 : Int} {x3 : Int} {x4 : Int} {w : World} {r : Bool}  (hM : m_spec_SyncMay x0 x1 x2 x3 x4 = some r) :
    Calls Tryd.prog 14 #[.agg #[.int .i64 x0, .int .i64 x1], .agg #[.int .i64 x2, .int .i64 x3], .int .i64 x4] w (fun e w' => e = .returned (.bool r) ∧ St w w' []) := by
  unfold m_spec_SyncMay at hM
  refine calls_gw Tryd.func14 Tryd.ntmps14 rfl [(0, .agg #[.int .i64 x0, .int .i64 x1]), (1, .agg #[.int .i64 x2, .int .i64 x3]), (2, .int .i64 x4)] ⟨rfl, rfl, rfl, trivial⟩ rfl ?_
  intro a hF
  have S := St.nil w
  refine wp_seq ?_
  refine wp_region_lit ?_
  refine op_new (cs := #[.int .i64 x0, .int .i64 x1]) rfl rfl hF rfl S (run_box rfl (hF.ev rfl) rfl) ?_; clear hF S; intro a g101 u hF S
  refine op_new (cs := #[.int .i64 x2, .int .i64 x3]) rfl rfl hF rfl S (run_box rfl (hF.ev rfl) rfl) ?_; clear hF S; intro a g102 u hF S
  refine op_val (v := .bool false) rfl rfl hF rfl (run_assign rfl rfl) ?_; clear hF; intro a hF
  refine wpList_nil ?_
  refine wp_seq ?_
  refine wp_region_lit ?_
  refine op_val (v := .agg #[.int .i64 x0, .int .i64 x1]) rfl rfl hF rfl (run_loadN rfl ag24 (hF.ev rfl) rfl ((S.free 1 rfl).cells 0 #[.int .i64 x0, .int .i64 x1] rfl)) ?_; clear hF; intro a hF
  obtain ⟨p103, h103, hM⟩ := bind_ex hM
  refine op_call rfl rfl hF rfl (run_call (vs := [.agg #[.int .i64 x0, .int .i64 x1]]) rfl rfl co10 ⟨(hF.ev rfl), trivial⟩) (c_spec_TurningValid (x0 := x0) (x1 := x1)  h103) ?_
  rintro e u ⟨rfl, T⟩
  refine ⟨_, rfl, ?_⟩
  clear hF; intro a hF
  replace S := S.call0 T; clear T
  refine op_val (v := .bool p103) rfl rfl hF rfl (run_move rfl (hF.ev rfl)) ?_; clear hF; intro a hF
  refine op_gv (v := .agg #[.int .i64 x2, .int .i64 x3]) rfl rfl hF rfl (yt (gw_yield hF rfl rfl rfl)) (fun hg => (run_loadN rfl ag24 (hF.ev rfl) rfl ((S.free 0 rfl).cells 0 #[.int .i64 x2, .int .i64 x3] rfl))) ?_; clear hF; intro a hF
  obtain ⟨p104, h104, hM⟩ := bind_ex hM
  refine op_gcall (v := .bool p104) rfl rfl hF rfl S (yt (gw_yield hF rfl rfl rfl)) (fun hg => (run_call (vs := [.agg #[.int .i64 x2, .int .i64 x3]]) rfl rfl co10 ⟨((hF.ev rfl).trans (gv_t hg)), trivial⟩)) (fun hg => c_spec_TurningValid (x0 := x2) (x1 := x3)  (gb_t h104 hg)) ?_; clear hF S; intro a u hF S
  refine op_val (v := .bool (p103 && p104)) rfl rfl hF rfl (run_pick_and rfl (hF.ev rfl) (fun hp => ((hF.ev rfl).trans (gv_t hp))) rfl) ?_; clear hF; intro a hF
  refine op_val (v := .bool (p103 && p104)) rfl rfl hF rfl (run_move rfl (hF.ev rfl)) ?_; clear hF; intro a hF
  refine op_gv (v := .pointer (some ⟨g101, 1, none⟩)) rfl rfl hF rfl (yt (gw_yield hF rfl rfl rfl)) (fun hg => (run_fieldAddr rfl fl24_1 (hF.ev rfl) rfl)) ?_; clear hF; intro a hF
  refine op_gv (v := .int .i64 x1) rfl rfl hF rfl (yt (gw_yield hF rfl rfl rfl)) (fun hg => (run_load1 rfl one3 ((hF.ev rfl).trans (gv_t hg)) ((S.free 1 rfl).cell rfl))) ?_; clear hF; intro a hF
  refine op_gv (v := .pointer (some ⟨g102, 1, none⟩)) rfl rfl hF rfl (yt (gw_yield hF rfl rfl rfl)) (fun hg => (run_fieldAddr rfl fl24_1 (hF.ev rfl) rfl)) ?_; clear hF; intro a hF
  refine op_gv (v := .int .i64 x3) rfl rfl hF rfl (yt (gw_yield hF rfl rfl rfl)) (fun hg => (run_load1 rfl one3 ((hF.ev rfl).trans (gv_t hg)) ((S.free 0 rfl).cell rfl))) ?_; clear hF; intro a hF
  refine op_gv (v := .int .i64 (w64 (x1 + x3))) rfl rfl hF rfl (yt (gw_yield hF rfl rfl rfl)) (fun hg => (run_add (z := w64 (x1 + x3)) ((hF.ev rfl).trans (gv_t hg)) ((hF.ev rfl).trans (gv_t hg)) rfl rfl)) ?_; clear hF; intro a hF
  refine op_gv (v := .bool (leB (w64 (x1 + x3)) 99)) rfl rfl hF rfl (yt (gw_yield hF rfl rfl rfl)) (fun hg => (run_leq ((hF.ev rfl).trans (gv_t hg)) rfl rfl)) ?_; clear hF; intro a hF
  refine op_val (v := .bool ((p103 && p104) && (leB (w64 (x1 + x3)) 99))) rfl rfl hF rfl (run_pick_and rfl (hF.ev rfl) (fun hp => ((hF.ev rfl).trans (gv_t hp))) rfl) ?_; clear hF; intro a hF
  refine op_val (v := .bool ((p103 && p104) && (leB (w64 (x1 + x3)) 99))) rfl rfl hF rfl (run_move rfl (hF.ev rfl)) ?_; clear hF; intro a hF
  refine op_gv (v := .pointer (some ⟨g101, 0, none⟩)) rfl rfl hF rfl (yt (gw_yield hF rfl rfl rfl)) (fun hg => (run_fieldAddr rfl fl24_0 (hF.ev rfl) rfl)) ?_; clear hF; intro a hF
  refine op_gv (v := .int .i64 x0) rfl rfl hF rfl (yt (gw_yield hF rfl rfl rfl)) (fun hg => (run_load1 rfl one3 ((hF.ev rfl).trans (gv_t hg)) ((S.free 1 rfl).cell rfl))) ?_; clear hF; intro a hF
  refine op_gv (v := .pointer (some ⟨g102, 0, none⟩)) rfl rfl hF rfl (yt (gw_yield hF rfl rfl rfl)) (fun hg => (run_fieldAddr rfl fl24_0 (hF.ev rfl) rfl)) ?_; clear hF; intro a hF
  refine op_gv (v := .int .i64 x2) rfl rfl hF rfl (yt (gw_yield hF rfl rfl rfl)) (fun hg => (run_load1 rfl one3 ((hF.ev rfl).trans (gv_t hg)) ((S.free 0 rfl).cell rfl))) ?_; clear hF; intro a hF
  refine op_gv (v := .int .i64 (w64 (x0 - x2))) rfl rfl hF rfl (yt (gw_yield hF rfl rfl rfl)) (fun hg => (run_sub (z := w64 (x0 - x2)) ((hF.ev rfl).trans (gv_t hg)) ((hF.ev rfl).trans (gv_t hg)) rfl rfl)) ?_; clear hF; intro a hF
  refine op_gv (v := .int .i64 x4) rfl rfl hF rfl (yt (gw_yield hF rfl rfl rfl)) (fun hg => (run_move rfl (hF.ev rfl))) ?_; clear hF; intro a hF
  refine op_gv (v := .bool (leB (w64 (x0 - x2)) x4)) rfl rfl hF rfl (yt (gw_yield hF rfl rfl rfl)) (fun hg => (run_leq ((hF.ev rfl).trans (gv_t hg)) ((hF.ev rfl).trans (gv_t hg)) rfl)) ?_; clear hF; intro a hF
  refine op_val (v := .bool (((p103 && p104) && (leB (w64 (x1 + x3)) 99)) && (leB (w64 (x0 - x2)) x4))) rfl rfl hF rfl (run_pick_and rfl (hF.ev rfl) (fun hp => ((hF.ev rfl).trans (gv_t hp))) rfl) ?_; clear hF; intro a hF
  refine op_val (v := .bool (((p103 && p104) && (leB (w64 (x1 + x3)) 99)) && (leB (w64 (x0 - x2)) x4))) rfl rfl hF rfl (run_move rfl (hF.ev rfl)) ?_; clear hF; intro a hF
  refine op_gv (v := .pointer (some ⟨g102, 0, none⟩)) rfl rfl hF rfl (yt (gw_yield hF rfl rfl rfl)) (fun hg => (run_fieldAddr rfl fl24_0 (hF.ev rfl) rfl)) ?_; clear hF; intro a hF
  refine op_gv (v := .int .i64 x2) rfl rfl hF rfl (yt (gw_yield hF rfl rfl rfl)) (fun hg => (run_load1 rfl one3 ((hF.ev rfl).trans (gv_t hg)) ((S.free 0 rfl).cell rfl))) ?_; clear hF; intro a hF
  refine op_gv (v := .pointer (some ⟨g101, 0, none⟩)) rfl rfl hF rfl (yt (gw_yield hF rfl rfl rfl)) (fun hg => (run_fieldAddr rfl fl24_0 (hF.ev rfl) rfl)) ?_; clear hF; intro a hF
  refine op_gv (v := .int .i64 x0) rfl rfl hF rfl (yt (gw_yield hF rfl rfl rfl)) (fun hg => (run_load1 rfl one3 ((hF.ev rfl).trans (gv_t hg)) ((S.free 1 rfl).cell rfl))) ?_; clear hF; intro a hF
  refine op_gv (v := .int .i64 (w64 (x2 - x0))) rfl rfl hF rfl (yt (gw_yield hF rfl rfl rfl)) (fun hg => (run_sub (z := w64 (x2 - x0)) ((hF.ev rfl).trans (gv_t hg)) ((hF.ev rfl).trans (gv_t hg)) rfl rfl)) ?_; clear hF; intro a hF
  refine op_gv (v := .int .i64 x4) rfl rfl hF rfl (yt (gw_yield hF rfl rfl rfl)) (fun hg => (run_move rfl (hF.ev rfl))) ?_; clear hF; intro a hF
  refine op_gv (v := .bool (leB (w64 (x2 - x0)) x4)) rfl rfl hF rfl (yt (gw_yield hF rfl rfl rfl)) (fun hg => (run_leq ((hF.ev rfl).trans (gv_t hg)) ((hF.ev rfl).trans (gv_t hg)) rfl)) ?_; clear hF; intro a hF
  refine op_val (v := .bool ((((p103 && p104) && (leB (w64 (x1 + x3)) 99)) && (leB (w64 (x0 - x2)) x4)) && (leB (w64 (x2 - x0)) x4))) rfl rfl hF rfl (run_pick_and rfl (hF.ev rfl) (fun hp => ((hF.ev rfl).trans (gv_t hp))) rfl) ?_; clear hF; intro a hF
  refine op_val (v := .bool ((((p103 && p104) && (leB (w64 (x1 + x3)) 99)) && (leB (w64 (x0 - x2)) x4)) && (leB (w64 (x2 - x0)) x4))) rfl rfl hF rfl (run_assign rfl (hF.ev rfl)) ?_; clear hF; intro a hF
  refine wpList_nil ?_
  refine wp_ret ?_
  repeat with_reducible (first | refine then_ret ?_ | refine in_ret ?_ | refine in_nrm ?_)
  refine ret1_gw (.inl rfl) hF rfl (res_tmp (hF.ev rfl)) ?_
  obtain rfl := Option.some.inj hM
  exact ⟨rfl, S.sel [] rfl rfl⟩

set_option maxHeartbeats 4000000 in
theorem c_laws_FnSyncMay {x0 : List Int} {A0 : Option Addr} {n0 c0 : Nat} {w : World} {r : Bool} (h0 : Rt w 1 eU A0 n0 c0 x0) (hM : m_laws_FnSyncMay x0 = some r) :
    Calls Tryd.prog 4 #[.slice A0 n0 c0] w (fun e w' => e = .returned (.bool r) ∧ St w w' []) := by
  obtain rfl := h0.len
  unfold m_laws_FnSyncMay at hM
  refine calls_gw Tryd.func4 Tryd.ntmps4 rfl [(0, .slice A0 x0.length c0)] ⟨rfl, trivial⟩ rfl ?_
  intro a hF
  have S := St.nil w
  refine wp_seq ?_
  refine wp_region_lit ?_
  refine op_val (v := .bool false) rfl rfl hF rfl (run_assign rfl rfl) ?_; clear hF; intro a hF
  refine wpList_nil ?_
  refine wp_seq ?_
  refine wp_seq ?_
  refine wp_region_lit ?_
  refine op_val (v := .slice A0 x0.length c0) rfl rfl hF rfl (run_move rfl (hF.ev rfl)) ?_; clear hF; intro a hF
  refine op_val (v := .int .i64 (x0.length : Int)) rfl rfl hF rfl (run_lenL rfl rfl Tryd.underlying22 (hF.ev rfl)) ?_; clear hF; intro a hF
  refine op_val (v := .bool (ltB 1048576 (x0.length : Int))) rfl rfl hF rfl (run_gtr (hF.ev rfl) rfl rfl) ?_; clear hF; intro a hF
  refine wpList_nil ?_
  cases hc101 : (ltB 1048576 (x0.length : Int))
  · replace hM := bif_f hc101 hM
    refine cond_f hF rfl hc101 ?_
    refine wp_skip ?_
    refine wp_seq ?_
    refine wp_region_lit ?_
    refine op_val (v := .slice A0 x0.length c0) rfl rfl hF rfl (run_move rfl (hF.ev rfl)) ?_; clear hF; intro a hF
    obtain ⟨p102, h102, hM⟩ := bind_ex hM
    refine op_call rfl rfl hF rfl (run_call (vs := [.slice A0 x0.length c0]) rfl rfl co12 ⟨(hF.ev rfl), trivial⟩) (c_spec_DrawSyncMay (x0 := x0) ⟨(S.rc0 h0.rc), rfl⟩ h102) ?_
    rintro e u ⟨rfl, T⟩
    refine ⟨_, rfl, ?_⟩
    clear hF; intro a hF
    replace S := S.call0 T; clear T
    refine op_val (v := .tuple #[.agg #[.int .i64 p102.1, .int .i64 p102.2.1], .agg #[.int .i64 p102.2.2.1, .int .i64 p102.2.2.2.1], .int .i64 p102.2.2.2.2]) rfl rfl hF rfl (run_move rfl (hF.ev rfl)) ?_; clear hF; intro a hF
    refine op_val (v := .agg #[.int .i64 p102.1, .int .i64 p102.2.1]) rfl rfl hF rfl (run_extract rfl (hF.ev rfl) rfl) ?_; clear hF; intro a hF
    refine op_val (v := .agg #[.int .i64 p102.2.2.1, .int .i64 p102.2.2.2.1]) rfl rfl hF rfl (run_extract rfl (hF.ev rfl) rfl) ?_; clear hF; intro a hF
    refine op_val (v := .int .i64 p102.2.2.2.2) rfl rfl hF rfl (run_extract rfl (hF.ev rfl) rfl) ?_; clear hF; intro a hF
    refine op_new (cs := #[.int .i64 0, .int .i64 0]) rfl rfl hF rfl S (run_allocZ rfl zr24) ?_; clear hF S; intro a g103 u hF S
    refine op_new (cs := #[.int .i64 0, .int .i64 0]) rfl rfl hF rfl S (run_allocZ rfl zr24) ?_; clear hF S; intro a g104 u hF S
    refine op_do rfl rfl (run_store (cs' := #[.int .i64 p102.1, .int .i64 p102.2.1]) rfl sz24 (hF.ev rfl) (hF.ev rfl) rfl rfl rfl (S.free 1 rfl) rfl rfl) ?_; replace S := S.put 1 rfl (#[.int .i64 p102.1, .int .i64 p102.2.1])
    generalize World.setRow _ _ _ = u at S ⊢
    refine op_do rfl rfl (run_store (cs' := #[.int .i64 p102.2.2.1, .int .i64 p102.2.2.2.1]) rfl sz24 (hF.ev rfl) (hF.ev rfl) rfl rfl rfl (S.free 0 rfl) rfl rfl) ?_; replace S := S.put 0 rfl (#[.int .i64 p102.2.2.1, .int .i64 p102.2.2.2.1])
    generalize World.setRow _ _ _ = u at S ⊢
    refine op_val (v := .int .i64 p102.2.2.2.2) rfl rfl hF rfl (run_assign rfl (hF.ev rfl)) ?_; clear hF; intro a hF
    refine wpList_nil ?_
    refine wp_seq ?_
    refine wp_region_lit ?_
    refine op_val (v := .agg #[.int .i64 p102.1, .int .i64 p102.2.1]) rfl rfl hF rfl (run_loadN rfl ag24 (hF.ev rfl) rfl ((S.free 1 rfl).cells 0 #[.int .i64 p102.1, .int .i64 p102.2.1] rfl)) ?_; clear hF; intro a hF
    refine op_val (v := .agg #[.int .i64 p102.2.2.1, .int .i64 p102.2.2.2.1]) rfl rfl hF rfl (run_loadN rfl ag24 (hF.ev rfl) rfl ((S.free 0 rfl).cells 0 #[.int .i64 p102.2.2.1, .int .i64 p102.2.2.2.1] rfl)) ?_; clear hF; intro a hF
    refine op_val (v := .int .i64 p102.2.2.2.2) rfl rfl hF rfl (run_move rfl (hF.ev rfl)) ?_; clear hF; intro a hF
    obtain ⟨p105, h105, hM⟩ := bind_ex hM
    refine op_call rfl rfl hF rfl (run_call (vs := [.agg #[.int .i64 p102.1, .int .i64 p102.2.1], .agg #[.int .i64 p102.2.2.1, .int .i64 p102.2.2.2.1], .int .i64 p102.2.2.2.2]) rfl rfl co13 ⟨(hF.ev rfl), (hF.ev rfl), (hF.ev rfl), trivial⟩) (c_impl_SyncMay (x0 := p102.1) (x1 := p102.2.1) (x2 := p102.2.2.1) (x3 := p102.2.2.2.1) (x4 := p102.2.2.2.2)  h105) ?_
    rintro e u ⟨rfl, T⟩
    refine ⟨_, rfl, ?_⟩
    clear hF; intro a hF
    replace S := S.call0 T; clear T
    refine op_val (v := .bool p105) rfl rfl hF rfl (run_assign rfl (hF.ev rfl)) ?_; clear hF; intro a hF
    refine wpList_nil ?_
    refine wp_seq ?_
    refine wp_seq ?_
    refine wp_region_lit ?_
    refine op_val (v := .bool p105) rfl rfl hF rfl (run_move rfl (hF.ev rfl)) ?_; clear hF; intro a hF
    refine op_val (v := .agg #[.int .i64 p102.1, .int .i64 p102.2.1]) rfl rfl hF rfl (run_loadN rfl ag24 (hF.ev rfl) rfl ((S.free 1 rfl).cells 0 #[.int .i64 p102.1, .int .i64 p102.2.1] rfl)) ?_; clear hF; intro a hF
    refine op_val (v := .agg #[.int .i64 p102.2.2.1, .int .i64 p102.2.2.2.1]) rfl rfl hF rfl (run_loadN rfl ag24 (hF.ev rfl) rfl ((S.free 0 rfl).cells 0 #[.int .i64 p102.2.2.1, .int .i64 p102.2.2.2.1] rfl)) ?_; clear hF; intro a hF
    refine op_val (v := .int .i64 p102.2.2.2.2) rfl rfl hF rfl (run_move rfl (hF.ev rfl)) ?_; clear hF; intro a hF
    obtain ⟨p106, h106, hM⟩ := bind_ex hM
    refine op_call rfl rfl hF rfl (run_call (vs := [.agg #[.int .i64 p102.1, .int .i64 p102.2.1], .agg #[.int .i64 p102.2.2.1, .int .i64 p102.2.2.2.1], .int .i64 p102.2.2.2.2]) rfl rfl co14 ⟨(hF.ev rfl), (hF.ev rfl), (hF.ev rfl), trivial⟩) (c_spec_SyncMay (x0 := p102.1) (x1 := p102.2.1) (x2 := p102.2.2.1) (x3 := p102.2.2.2.1) (x4 := p102.2.2.2.2)  h106) ?_
    rintro e u ⟨rfl, T⟩
    refine ⟨_, rfl, ?_⟩
    clear hF; intro a hF
    replace S := S.call0 T; clear T
    refine op_val (v := .bool (p105 != p106)) rfl rfl hF rfl (run_neqB (hF.ev rfl) (hF.ev rfl) Tryd.underlying4 rfl) ?_; clear hF; intro a hF
    refine wpList_nil ?_
    cases hc107 : (p105 != p106)
    · replace hM := bif_f hc107 hM
      refine cond_f hF rfl hc107 ?_
      refine wp_skip ?_
      refine wp_seq ?_
      refine wp_region_lit ?_
      refine op_val (v := .agg #[.int .i64 p102.2.2.1, .int .i64 p102.2.2.2.1]) rfl rfl hF rfl (run_loadN rfl ag24 (hF.ev rfl) rfl ((S.free 0 rfl).cells 0 #[.int .i64 p102.2.2.1, .int .i64 p102.2.2.2.1] rfl)) ?_; clear hF; intro a hF
      refine op_val (v := .agg #[.int .i64 p102.1, .int .i64 p102.2.1]) rfl rfl hF rfl (run_loadN rfl ag24 (hF.ev rfl) rfl ((S.free 1 rfl).cells 0 #[.int .i64 p102.1, .int .i64 p102.2.1] rfl)) ?_; clear hF; intro a hF
      refine op_val (v := .int .i64 p102.2.2.2.2) rfl rfl hF rfl (run_move rfl (hF.ev rfl)) ?_; clear hF; intro a hF
      obtain ⟨p108, h108, hM⟩ := bind_ex hM
      refine op_call rfl rfl hF rfl (run_call (vs := [.agg #[.int .i64 p102.2.2.1, .int .i64 p102.2.2.2.1], .agg #[.int .i64 p102.1, .int .i64 p102.2.1], .int .i64 p102.2.2.2.2]) rfl rfl co13 ⟨(hF.ev rfl), (hF.ev rfl), (hF.ev rfl), trivial⟩) (c_impl_SyncMay (x0 := p102.2.2.1) (x1 := p102.2.2.2.1) (x2 := p102.1) (x3 := p102.2.1) (x4 := p102.2.2.2.2)  h108) ?_
      rintro e u ⟨rfl, T⟩
      refine ⟨_, rfl, ?_⟩
      clear hF; intro a hF
      replace S := S.call0 T; clear T
      refine op_val (v := .bool p105) rfl rfl hF rfl (run_move rfl (hF.ev rfl)) ?_; clear hF; intro a hF
      refine op_val (v := .bool (p108 == p105)) rfl rfl hF rfl (run_eqlB (hF.ev rfl) (hF.ev rfl) Tryd.underlying4 rfl) ?_; clear hF; intro a hF
      refine op_val (v := .bool (p108 == p105)) rfl rfl hF rfl (run_move rfl (hF.ev rfl)) ?_; clear hF; intro a hF
      refine op_gv (v := .bool p105) rfl rfl hF rfl (yt (gw_yield hF rfl rfl rfl)) (fun hg => (run_move rfl (hF.ev rfl))) ?_; clear hF; intro a hF
      refine op_gv (v := .bool (!p105)) rfl rfl hF rfl (yt (gw_yield hF rfl rfl rfl)) (fun hg => (run_not rfl ((hF.ev rfl).trans (gv_t hg)))) ?_; clear hF; intro a hF
      refine op_gv (v := .bool (!p105)) rfl rfl hF rfl (yt (gw_yield hF rfl rfl rfl)) (fun hg => (run_move rfl ((hF.ev rfl).trans (gv_t hg)))) ?_; clear hF; intro a hF
      refine op_gv (v := .agg #[.int .i64 p102.1, .int .i64 p102.2.1]) rfl rfl hF rfl (yfG (gw_yieldG hF rfl rfl rfl)) (fun hg => (run_loadN rfl ag24 (hF.ev rfl) rfl ((S.free 1 rfl).cells 0 #[.int .i64 p102.1, .int .i64 p102.2.1] rfl))) ?_; clear hF; intro a hF
      refine op_gv (v := .agg #[.int .i64 p102.2.2.1, .int .i64 p102.2.2.2.1]) rfl rfl hF rfl (yfG (gw_yieldG hF rfl rfl rfl)) (fun hg => (run_loadN rfl ag24 (hF.ev rfl) rfl ((S.free 0 rfl).cells 0 #[.int .i64 p102.2.2.1, .int .i64 p102.2.2.2.1] rfl))) ?_; clear hF; intro a hF
      refine op_gv (v := .int .i64 p102.2.2.2.2) rfl rfl hF rfl (yfG (gw_yieldG hF rfl rfl rfl)) (fun hg => (run_move rfl (hF.ev rfl))) ?_; clear hF; intro a hF
      refine op_gv (v := .int .i64 (w64 (p102.2.2.2.2 + 1))) rfl rfl hF rfl (yfG (gw_yieldG hF rfl rfl rfl)) (fun hg => (run_add (z := w64 (p102.2.2.2.2 + 1)) ((hF.ev rfl).trans (gv_t hg)) rfl rfl rfl)) ?_; clear hF; intro a hF
      obtain ⟨p109, h109, hM⟩ := bind_ex hM
      refine op_gcall (v := .bool p109) rfl rfl hF rfl S (yfG (gw_yieldG hF rfl rfl rfl)) (fun hg => (run_call (vs := [.agg #[.int .i64 p102.1, .int .i64 p102.2.1], .agg #[.int .i64 p102.2.2.1, .int .i64 p102.2.2.2.1], .int .i64 (w64 (p102.2.2.2.2 + 1))]) rfl rfl co13 ⟨((hF.ev rfl).trans (gv_t hg)), ((hF.ev rfl).trans (gv_t hg)), ((hF.ev rfl).trans (gv_t hg)), trivial⟩)) (fun hg => c_impl_SyncMay (x0 := p102.1) (x1 := p102.2.1) (x2 := p102.2.2.1) (x3 := p102.2.2.2.1) (x4 := w64 (p102.2.2.2.2 + 1))  (gb_t h109 hg)) ?_; clear hF S; intro a u hF S
      refine op_gv (v := .bool ((!p105) || p109)) rfl rfl hF rfl (yt (gw_yield hF rfl rfl rfl)) (fun hg => (run_pick_or rfl ((hF.ev rfl).trans (gv_t hg)) rfl (fun hp => ((hF.ev rfl).trans (gv_t (and_i hg (not_t hp))))))) ?_; clear hF; intro a hF
      refine op_val (v := .bool ((p108 == p105) && ((!p105) || p109))) rfl rfl hF rfl (run_pick_and rfl (hF.ev rfl) (fun hp => ((hF.ev rfl).trans (gv_t hp))) rfl) ?_; clear hF; intro a hF
      refine op_val (v := .bool ((p108 == p105) && ((!p105) || p109))) rfl rfl hF rfl (run_move rfl (hF.ev rfl)) ?_; clear hF; intro a hF
      obtain ⟨p110, h110, hM⟩ := bind_ex hM
      refine op_gcall (v := .bool p110) rfl rfl hF rfl S (yt (gw_yield hF rfl rfl rfl)) (fun hg => (run_call (vs := []) rfl rfl co11 trivial)) (fun hg => c_laws_alive   (gb_t h110 hg)) ?_; clear hF S; intro a u hF S
      refine op_val (v := .bool (((p108 == p105) && ((!p105) || p109)) && p110)) rfl rfl hF rfl (run_pick_and rfl (hF.ev rfl) (fun hp => ((hF.ev rfl).trans (gv_t hp))) rfl) ?_; clear hF; intro a hF
      refine op_val (v := .bool (((p108 == p105) && ((!p105) || p109)) && p110)) rfl rfl hF rfl (run_assign rfl (hF.ev rfl)) ?_; clear hF; intro a hF
      refine wpList_nil ?_
      refine wp_ret ?_
      repeat with_reducible (first | refine then_ret ?_ | refine in_ret ?_ | refine in_nrm ?_)
      refine ret1_gw (.inl rfl) hF rfl (res_tmp (hF.ev rfl)) ?_
      obtain rfl := Option.some.inj hM
      exact ⟨rfl, S.sel [] rfl rfl⟩
    · replace hM := bif_t hc107 hM
      refine cond_t hF rfl hc107 ?_
      refine wp_seq ?_
      refine wp_region_lit ?_
      refine op_val (v := .bool false) rfl rfl hF rfl (run_assign rfl rfl) ?_; clear hF; intro a hF
      refine wpList_nil ?_
      refine wp_ret ?_
      repeat with_reducible (first | refine then_ret ?_ | refine in_ret ?_ | refine in_nrm ?_)
      refine ret1_gw (.inl rfl) hF rfl (res_tmp (hF.ev rfl)) ?_
      obtain rfl := Option.some.inj hM
      exact ⟨rfl, S.sel [] rfl rfl⟩
  · replace hM := bif_t hc101 hM
    refine cond_t hF rfl hc101 ?_
    refine wp_seq ?_
    refine wp_region_lit ?_
    refine op_val (v := .bool true) rfl rfl hF rfl (run_assign rfl rfl) ?_; clear hF; intro a hF
    refine wpList_nil ?_
    refine wp_ret ?_
    repeat with_reducible (first | refine then_ret ?_ | refine in_ret ?_ | refine in_nrm ?_)
    refine ret1_gw (.inl rfl) hF rfl (res_tmp (hF.ev rfl)) ?_
    obtain rfl := Option.some.inj hM
    exact ⟨rfl, S.sel [] rfl rfl⟩

set_option maxHeartbeats 4000000 in
theorem c_spec_DrawSyncTune {x0 : List Int} {A0 : Option Addr} {n0 c0 : Nat} {w : World} {r : Int × Int × Int × Int} (h0 : Rt w 1 eU A0 n0 c0 x0) (hM : m_spec_DrawSyncTune x0 = some r) :
    Calls Tryd.prog 15 #[.slice A0 n0 c0] w (fun e w' => e = .returned (.tuple #[.agg #[.int .i64 r.1, .int .i64 r.2.1], .int .i64 r.2.2.1, .int .i64 r.2.2.2]) ∧ St w w' []) := by
  obtain rfl := h0.len
  unfold m_spec_DrawSyncTune at hM
  refine calls_gw Tryd.func15 Tryd.ntmps15 rfl [(0, .slice A0 x0.length c0)] ⟨rfl, trivial⟩ rfl ?_
  intro a hF
  have S := St.nil w
  refine wp_seq ?_
  refine wp_region_lit ?_
  refine op_new (cs := #[.int .i64 0, .int .i64 0]) rfl rfl hF rfl S (run_allocZ rfl zr24) ?_; clear hF S; intro a g101 u hF S
  refine op_val (v := .int .i64 0) rfl rfl hF rfl (run_assign rfl rfl) ?_; clear hF; intro a hF
  refine op_val (v := .int .i64 0) rfl rfl hF rfl (run_assign rfl rfl) ?_; clear hF; intro a hF
  refine wpList_nil ?_
  refine wp_seq ?_
  refine wp_region_lit ?_
  refine op_val (v := .slice A0 x0.length c0) rfl rfl hF rfl (run_move rfl (hF.ev rfl)) ?_; clear hF; intro a hF
  refine op_call rfl rfl hF rfl (run_call (vs := [.slice A0 x0.length c0]) rfl rfl co25 ⟨(hF.ev rfl), trivial⟩) (c_spec_l20Open ⟨(S.rc0 h0.rc), rfl⟩) ?_
  rintro e u ⟨g102, rfl, T⟩
  refine ⟨_, rfl, ?_⟩
  clear hF; intro a hF
  replace S := S.call1 T; clear T
  refine op_val (v := .pointer (some ⟨g102, 0, none⟩)) rfl rfl hF rfl (run_assign rfl (hF.ev rfl)) ?_; clear hF; intro a hF
  refine wpList_nil ?_
  refine wp_seq ?_
  refine wp_region_lit ?_
  refine op_val (v := .pointer (some ⟨g102, 0, none⟩)) rfl rfl hF rfl (run_move rfl (hF.ev rfl)) ?_; clear hF; intro a hF
  obtain ⟨p103, h103, hM⟩ := bind_ex hM
  refine op_call rfl rfl hF rfl (run_call (vs := [.pointer (some ⟨g102, 0, none⟩), .int .i64 9]) rfl rfl co24 ⟨(hF.ev rfl), rfl, trivial⟩) (c_spec_l20Turning (x0 := x0.take 2000) (x1 := 0) (x2 := 9) ⟨(op_rc h0.rc rfl), rfl⟩ (show St w _ [.box g102 57 #[.slice (opA c0 x0.length A0) ((x0.take 2000).length) c0, .int .i64 0], .box g101 24 #[.int .i64 0, .int .i64 0]] from S.sel [0, 1] rfl rfl) h103) ?_
  rintro e u ⟨rfl, T⟩
  refine ⟨_, rfl, ?_⟩
  clear hF; intro a hF
  clear S; have S := T; clear T
  refine op_new (cs := #[.int .i64 0, .int .i64 0]) rfl rfl hF rfl S (run_allocZ rfl zr24) ?_; clear hF S; intro a g104 u hF S
  refine op_do rfl rfl (run_store (cs' := #[.int .i64 p103.1, .int .i64 p103.2.1]) rfl sz24 (hF.ev rfl) (hF.ev rfl) rfl rfl rfl (S.free 0 rfl) rfl rfl) ?_; replace S := S.put 0 rfl (#[.int .i64 p103.1, .int .i64 p103.2.1])
  generalize World.setRow _ _ _ = u at S ⊢
  refine wpList_nil ?_
  refine wp_seq ?_
  obtain ⟨p105, h105, hM⟩ := bind_ex hM
  obtain ⟨p106, h106, hM⟩ := bind_ex hM
  obtain ⟨p107, h107, hM⟩ := bind_ex hM
  refine region_gw (D := [11, 12, 13, 14, 15, 16, 17, 18, 19, 20, 21, 3, 4]) (Lr := [.box g104 24 #[.int .i64 p103.1, .int .i64 p103.2.1]]) (deps := (fun | 0 => [11] | 1 => [12] | 2 => [13] | 3 => [14] | 4 => [15] | 5 => [16] | 6 => [17] | 7 => [18] | 8 => [19] | 9 => [20] | 10 => [21] | 11 => [2] | 12 => [3] | 13 => [4] | _ => [])) (rd := (fun _ => [])) (zr := (fun _ => []))
    (φ := fun i vs => match i, vs with | 0, [v11] => v11 = .agg #[.int .i64 p103.1, .int .i64 p103.2.1] | 1, [v12] => v12 = .pointer (some ⟨g102, 0, none⟩) | 2, [v13] => v13 = .int .i64 p105.1 | 3, [v14] => v14 = .int .i64 (w64 (380 + p105.1)) | 4, [v15] => v15 = .pointer (some ⟨g102, 0, none⟩) | 5, [v16] => v16 = .int .i64 p106.1 | 6, [v17] => v17 = .int .i64 (w64 (Int.tdiv p106.1 19)) | 7, [v18] => v18 = .int .i64 (w64 ((w64 (Int.tdiv p106.1 19)) * 999)) | 8, [v19] => v19 = .int .i64 (w64 ((w64 (380 + p105.1)) - (w64 ((w64 (Int.tdiv p106.1 19)) * 999)))) | 9, [v20] => v20 = .pointer (some ⟨g102, 0, none⟩) | 10, [v21] => v21 = .int .i64 p107.1 | 12, [v3] => v3 = .int .i64 (w64 ((w64 (380 + p105.1)) - (w64 ((w64 (Int.tdiv p106.1 19)) * 999)))) | 13, [v4] => v4 = .int .i64 p107.1 | _, _ => True)
    (C := fun i vs => match i, vs with | 2, [v13] => [.box g102 57 #[.slice (opA c0 x0.length A0) ((x0.take 2000).length) c0, .int .i64 p105.2]] | 5, [v16] => [.box g102 57 #[.slice (opA c0 x0.length A0) ((x0.take 2000).length) c0, .int .i64 p106.2]] | 10, [v21] => [.box g102 57 #[.slice (opA c0 x0.length A0) ((x0.take 2000).length) c0, .int .i64 p107.2]] | 11, [v2] => [.box g101 24 #[.int .i64 p103.1, .int .i64 p103.2.1]] | _, _ => [])
    (κ := (fun | 2 => some 5 | 5 => some 10 | _ => none)) (Z := (fun | 2 => [.box g102 57 #[.slice (opA c0 x0.length A0) ((x0.take 2000).length) c0, .int .i64 p103.2.2]] | 11 => [.box g101 24 #[.int .i64 0, .int .i64 0]] | _ => [])) mixed hF (by kernel_rfl) (show St w _ [.box g102 57 #[.slice (opA c0 x0.length A0) ((x0.take 2000).length) c0, .int .i64 p103.2.2], .box g101 24 #[.int .i64 0, .int .i64 0], .box g104 24 #[.int .i64 p103.1, .int .i64 p103.2.1]] from S.sel [1, 2, 0] rfl rfl) ?_ ?_
  · refine ⟨?_, ?_, ?_, ?_, ?_, ?_, ?_, ?_, ?_, ?_, ?_, ?_, ?_, ?_, trivial⟩
    · intro a u X hB hu hp hr hz hl S
      replace S : St w u ([] ++ X) := S
      exact .inl ⟨rfl, .agg #[.int .i64 p103.1, .int .i64 p103.2.1], u, (run_loadN rfl ag24 (hF.evB hB rfl rfl) rfl ((gr_box S hl 0 rfl).cells 0 #[.int .i64 p103.1, .int .i64 p103.2.1] rfl)), rfl, S⟩
    · intro a u X hB hu hp hr hz hl S
      replace S : St w u ([] ++ X) := S
      exact .inl ⟨rfl, .pointer (some ⟨g102, 0, none⟩), u, (run_move rfl (hF.evB hB rfl rfl)), rfl, S⟩
    · intro a u X hB hu hp hr hz hl S
      replace S : St w u ([.box g102 57 #[.slice (opA c0 x0.length A0) ((x0.take 2000).length) c0, .int .i64 p103.2.2]] ++ X) := S
      have e12 : sl a 12 = .pointer (some ⟨g102, 0, none⟩) := hp 1 rfl
      refine .inr (.inr (.inl ⟨rfl, _, _, (run_call (vs := [.pointer (some ⟨g102, 0, none⟩), .int .i64 240]) rfl rfl co32 ⟨(ev_sl e12), (ev_const _ _), trivial⟩), ?_⟩))
      refine Calls.mono (c_spec_l20Rd_pick (x0 := x0.take 2000) (x1 := p103.2.2) (x2 := 240) ⟨(op_rc h0.rc rfl), rfl⟩ S h105) ?_
      rintro e w1 ⟨rfl, T⟩
      exact ⟨_, rfl, rfl, T⟩
    · intro a u X hB hu hp hr hz hl S
      replace S : St w u ([] ++ X) := S
      have e13 : sl a 13 = .int .i64 p105.1 := hp 2 rfl
      exact .inl ⟨rfl, .int .i64 (w64 (380 + p105.1)), u, (run_add (z := w64 (380 + p105.1)) (ev_const _ _) (ev_sl e13) rfl rfl), rfl, S⟩
    · intro a u X hB hu hp hr hz hl S
      replace S : St w u ([] ++ X) := S
      exact .inl ⟨rfl, .pointer (some ⟨g102, 0, none⟩), u, (run_move rfl (hF.evB hB rfl rfl)), rfl, S⟩
    · intro a u X hB hu hp hr hz hl S
      replace S : St w u ([.box g102 57 #[.slice (opA c0 x0.length A0) ((x0.take 2000).length) c0, .int .i64 p105.2]] ++ X) := S
      have e15 : sl a 15 = .pointer (some ⟨g102, 0, none⟩) := hp 4 rfl
      refine .inr (.inr (.inl ⟨rfl, _, _, (run_call (vs := [.pointer (some ⟨g102, 0, none⟩), .int .i64 20]) rfl rfl co32 ⟨(ev_sl e15), (ev_const _ _), trivial⟩), ?_⟩))
      refine Calls.mono (c_spec_l20Rd_pick (x0 := x0.take 2000) (x1 := p105.2) (x2 := 20) ⟨(op_rc h0.rc rfl), rfl⟩ S h106) ?_
      rintro e w1 ⟨rfl, T⟩
      exact ⟨_, rfl, rfl, T⟩
    · intro a u X hB hu hp hr hz hl S
      replace S : St w u ([] ++ X) := S
      have e16 : sl a 16 = .int .i64 p106.1 := hp 5 rfl
      exact .inl ⟨rfl, .int .i64 (w64 (Int.tdiv p106.1 19)), u, (run_quo (z := w64 (Int.tdiv p106.1 19)) (ev_sl e16) (ev_const _ _) rfl (by decide) rfl), rfl, S⟩
    · intro a u X hB hu hp hr hz hl S
      replace S : St w u ([] ++ X) := S
      have e17 : sl a 17 = .int .i64 (w64 (Int.tdiv p106.1 19)) := hp 6 rfl
      exact .inl ⟨rfl, .int .i64 (w64 ((w64 (Int.tdiv p106.1 19)) * 999)), u, (run_mul (z := w64 ((w64 (Int.tdiv p106.1 19)) * 999)) (ev_sl e17) (ev_const _ _) rfl rfl), rfl, S⟩
    · intro a u X hB hu hp hr hz hl S
      replace S : St w u ([] ++ X) := S
      have e14 : sl a 14 = .int .i64 (w64 (380 + p105.1)) := hp 3 rfl
      have e18 : sl a 18 = .int .i64 (w64 ((w64 (Int.tdiv p106.1 19)) * 999)) := hp 7 rfl
      exact .inl ⟨rfl, .int .i64 (w64 ((w64 (380 + p105.1)) - (w64 ((w64 (Int.tdiv p106.1 19)) * 999)))), u, (run_sub (z := w64 ((w64 (380 + p105.1)) - (w64 ((w64 (Int.tdiv p106.1 19)) * 999)))) (ev_sl e14) (ev_sl e18) rfl rfl), rfl, S⟩
    · intro a u X hB hu hp hr hz hl S
      replace S : St w u ([] ++ X) := S
      exact .inl ⟨rfl, .pointer (some ⟨g102, 0, none⟩), u, (run_move rfl (hF.evB hB rfl rfl)), rfl, S⟩
    · intro a u X hB hu hp hr hz hl S
      replace S : St w u ([.box g102 57 #[.slice (opA c0 x0.length A0) ((x0.take 2000).length) c0, .int .i64 p106.2]] ++ X) := S
      have e20 : sl a 20 = .pointer (some ⟨g102, 0, none⟩) := hp 9 rfl
      refine .inr (.inr (.inl ⟨rfl, _, _, (run_call (vs := [.pointer (some ⟨g102, 0, none⟩), .int .i64 30]) rfl rfl co32 ⟨(ev_sl e20), (ev_const _ _), trivial⟩), ?_⟩))
      refine Calls.mono (c_spec_l20Rd_pick (x0 := x0.take 2000) (x1 := p106.2) (x2 := 30) ⟨(op_rc h0.rc rfl), rfl⟩ S h107) ?_
      rintro e w1 ⟨rfl, T⟩
      exact ⟨_, rfl, rfl, T⟩
    · intro a u X hB hu hp hr hz hl S
      replace S : St w u ([.box g101 24 #[.int .i64 0, .int .i64 0]] ++ X) := S
      have e11 : sl a 11 = .agg #[.int .i64 p103.1, .int .i64 p103.2.1] := hp 0 rfl
      exact .inr (.inl ⟨rfl, _, run_store (cs' := #[.int .i64 p103.1, .int .i64 p103.2.1]) rfl sz24 (hF.evB hB rfl rfl) (ev_sl e11) rfl rfl rfl (S.free 0 rfl) rfl rfl, trivial, S.put 0 rfl (#[.int .i64 p103.1, .int .i64 p103.2.1])⟩)
    · intro a u X hB hu hp hr hz hl S
      replace S : St w u ([] ++ X) := S
      have e19 : sl a 19 = .int .i64 (w64 ((w64 (380 + p105.1)) - (w64 ((w64 (Int.tdiv p106.1 19)) * 999)))) := hp 8 rfl
      exact .inl ⟨rfl, .int .i64 (w64 ((w64 (380 + p105.1)) - (w64 ((w64 (Int.tdiv p106.1 19)) * 999)))), u, (run_assign rfl (ev_sl e19)), rfl, S⟩
    · intro a u X hB hu hp hr hz hl S
      replace S : St w u ([] ++ X) := S
      have e21 : sl a 21 = .int .i64 p107.1 := hp 10 rfl
      exact .inl ⟨rfl, .int .i64 p107.1, u, (run_assign rfl (ev_sl e21)), rfl, S⟩
  · intro a u hB hp S
    obtain ⟨q0, q1, q2, q3, q4, q5, q6, q7, q8, q9, q10, q11, q12, q13, _⟩ := hp
    have e11 : sl a 11 = .agg #[.int .i64 p103.1, .int .i64 p103.2.1] := q0
    have e12 : sl a 12 = .pointer (some ⟨g102, 0, none⟩) := q1
    have e13 : sl a 13 = .int .i64 p105.1 := q2
    have e14 : sl a 14 = .int .i64 (w64 (380 + p105.1)) := q3
    have e15 : sl a 15 = .pointer (some ⟨g102, 0, none⟩) := q4
    have e16 : sl a 16 = .int .i64 p106.1 := q5
    have e17 : sl a 17 = .int .i64 (w64 (Int.tdiv p106.1 19)) := q6
    have e18 : sl a 18 = .int .i64 (w64 ((w64 (Int.tdiv p106.1 19)) * 999)) := q7
    have e19 : sl a 19 = .int .i64 (w64 ((w64 (380 + p105.1)) - (w64 ((w64 (Int.tdiv p106.1 19)) * 999)))) := q8
    have e20 : sl a 20 = .pointer (some ⟨g102, 0, none⟩) := q9
    have e21 : sl a 21 = .int .i64 p107.1 := q10
    have e3 : sl a 3 = .int .i64 (w64 ((w64 (380 + p105.1)) - (w64 ((w64 (Int.tdiv p106.1 19)) * 999)))) := q12
    have e4 : sl a 4 = .int .i64 p107.1 := q13
    replace S : St w u [.box g102 57 #[.slice (opA c0 x0.length A0) ((x0.take 2000).length) c0, .int .i64 p107.2], .box g101 24 #[.int .i64 p103.1, .int .i64 p103.2.1], .box g104 24 #[.int .i64 p103.1, .int .i64 p103.2.1]] := S
    clear q0 q1 q2 q3 q4 q5 q6 q7 q8 q9 q10 q11 q12 q13
    have hF := hF.region hB [(11, .agg #[.int .i64 p103.1, .int .i64 p103.2.1]), (12, .pointer (some ⟨g102, 0, none⟩)), (13, .int .i64 p105.1), (14, .int .i64 (w64 (380 + p105.1))), (15, .pointer (some ⟨g102, 0, none⟩)), (16, .int .i64 p106.1), (17, .int .i64 (w64 (Int.tdiv p106.1 19))), (18, .int .i64 (w64 ((w64 (Int.tdiv p106.1 19)) * 999))), (19, .int .i64 (w64 ((w64 (380 + p105.1)) - (w64 ((w64 (Int.tdiv p106.1 19)) * 999))))), (20, .pointer (some ⟨g102, 0, none⟩)), (21, .int .i64 p107.1), (3, .int .i64 (w64 ((w64 (380 + p105.1)) - (w64 ((w64 (Int.tdiv p106.1 19)) * 999))))), (4, .int .i64 p107.1)] (allSl_mem ⟨e11, e12, e13, e14, e15, e16, e17, e18, e19, e20, e21, e3, e4, trivial⟩) rfl
    clear hB e11 e12 e13 e14 e15 e16 e17 e18 e19 e20 e21 e3 e4
    refine wp_ret ?_
    repeat with_reducible (first | refine then_ret ?_ | refine in_ret ?_ | refine in_nrm ?_)
    refine ret3_gw (.inl rfl) hF rfl (res_cell (hF.ev rfl) (res_loadN ag24 rfl (S.cells 1 rfl 0 #[.int .i64 p103.1, .int .i64 p103.2.1] rfl))) (res_tmp (hF.ev rfl)) (res_tmp (hF.ev rfl)) ?_
    obtain rfl := Option.some.inj hM
    exact ⟨rfl, S.sel [] rfl rfl⟩

set_option maxHeartbeats 4000000 in
theorem c_impl_SyncTune {x0 : Int} {x1 : Int} {x2 : Int} {x3 : Int} {w : World} {r : Int × Int}  (hM : m_impl_SyncTune x0 x1 x2 x3 = some r) :
    Calls Tryd.prog 16 #[.agg #[.int .i64 x0, .int .i64 x1], .int .i64 x2, .int .i64 x3] w (fun e w' => e = .returned (.agg #[.int .i64 r.1, .int .i64 r.2]) ∧ St w w' []) := by
  unfold m_impl_SyncTune at hM
  refine calls_gw Tryd.func16 Tryd.ntmps16 rfl [(0, .agg #[.int .i64 x0, .int .i64 x1]), (1, .int .i64 x2), (2, .int .i64 x3)] ⟨rfl, rfl, rfl, trivial⟩ rfl ?_
  intro a hF
  have S := St.nil w
  refine wp_seq ?_
  refine wp_region_lit ?_
  refine op_new (cs := #[.int .i64 x0, .int .i64 x1]) rfl rfl hF rfl S (run_box rfl (hF.ev rfl) rfl) ?_; clear hF S; intro a g101 u hF S
  refine op_new (cs := #[.int .i64 0, .int .i64 0]) rfl rfl hF rfl S (run_allocZ rfl zr24) ?_; clear hF S; intro a g102 u hF S
  refine wpList_nil ?_
  refine wp_seq ?_
  refine wp_seq ?_
  refine wp_region_lit ?_
  refine op_val (v := .agg #[.int .i64 x0, .int .i64 x1]) rfl rfl hF rfl (run_loadN rfl ag24 (hF.ev rfl) rfl ((S.free 1 rfl).cells 0 #[.int .i64 x0, .int .i64 x1] rfl)) ?_; clear hF; intro a hF
  obtain ⟨p103, h103, hM⟩ := bind_ex hM
  refine op_call rfl rfl hF rfl (run_call (vs := [.agg #[.int .i64 x0, .int .i64 x1]]) rfl rfl co9 ⟨(hF.ev rfl), trivial⟩) (c_impl_TurningValid (x0 := x0) (x1 := x1)  h103) ?_
  rintro e u ⟨rfl, T⟩
  refine ⟨_, rfl, ?_⟩
  clear hF; intro a hF
  replace S := S.call0 T; clear T
  refine op_val (v := .bool (!p103)) rfl rfl hF rfl (run_not rfl (hF.ev rfl)) ?_; clear hF; intro a hF
  refine op_val (v := .bool (!p103)) rfl rfl hF rfl (run_move rfl (hF.ev rfl)) ?_; clear hF; intro a hF
  refine op_gv (v := .int .i64 x2) rfl rfl hF rfl (yf (gw_yield hF rfl rfl rfl)) (fun hg => (run_move rfl (hF.ev rfl))) ?_; clear hF; intro a hF
  obtain ⟨p104, h104, hM⟩ := bind_ex hM
  refine op_gcall (v := .bool p104) rfl rfl hF rfl S (yf (gw_yield hF rfl rfl rfl)) (fun hg => (run_call (vs := [.int .i64 x2]) rfl rfl co26 ⟨((hF.ev rfl).trans (gv_t hg)), trivial⟩)) (fun hg => c_impl_powerValid (x0 := x2)  (gb_t h104 hg)) ?_; clear hF S; intro a u hF S
  refine op_gv (v := .bool (!p104)) rfl rfl hF rfl (yf (gw_yield hF rfl rfl rfl)) (fun hg => (run_not rfl ((hF.ev rfl).trans (gv_t hg)))) ?_; clear hF; intro a hF
  refine op_val (v := .bool ((!p103) || (!p104))) rfl rfl hF rfl (run_pick_or rfl (hF.ev rfl) rfl (fun hp => ((hF.ev rfl).trans (gv_t (not_t hp))))) ?_; clear hF; intro a hF
  refine op_val (v := .bool ((!p103) || (!p104))) rfl rfl hF rfl (run_move rfl (hF.ev rfl)) ?_; clear hF; intro a hF
  refine op_gv (v := .int .i64 x3) rfl rfl hF rfl (yf (gw_yield hF rfl rfl rfl)) (fun hg => (run_move rfl (hF.ev rfl))) ?_; clear hF; intro a hF
  refine op_gv (v := .bool (ltB x3 1)) rfl rfl hF rfl (yf (gw_yield hF rfl rfl rfl)) (fun hg => (run_lss ((hF.ev rfl).trans (gv_t hg)) rfl rfl)) ?_; clear hF; intro a hF
  refine op_val (v := .bool (((!p103) || (!p104)) || (ltB x3 1))) rfl rfl hF rfl (run_pick_or rfl (hF.ev rfl) rfl (fun hp => ((hF.ev rfl).trans (gv_t (not_t hp))))) ?_; clear hF; intro a hF
  refine op_val (v := .bool (((!p103) || (!p104)) || (ltB x3 1))) rfl rfl hF rfl (run_move rfl (hF.ev rfl)) ?_; clear hF; intro a hF
  refine op_gv (v := .int .i64 x3) rfl rfl hF rfl (yf (gw_yield hF rfl rfl rfl)) (fun hg => (run_move rfl (hF.ev rfl))) ?_; clear hF; intro a hF
  refine op_gv (v := .bool (ltB 999 x3)) rfl rfl hF rfl (yf (gw_yield hF rfl rfl rfl)) (fun hg => (run_gtr ((hF.ev rfl).trans (gv_t hg)) rfl rfl)) ?_; clear hF; intro a hF
  refine op_val (v := .bool ((((!p103) || (!p104)) || (ltB x3 1)) || (ltB 999 x3))) rfl rfl hF rfl (run_pick_or rfl (hF.ev rfl) rfl (fun hp => ((hF.ev rfl).trans (gv_t (not_t hp))))) ?_; clear hF; intro a hF
  refine wpList_nil ?_
  cases hc105 : ((((!p103) || (!p104)) || (ltB x3 1)) || (ltB 999 x3))
  · replace hM := bif_f hc105 hM
    refine cond_f hF rfl hc105 ?_
    refine wp_skip ?_
    refine wp_seq ?_
    refine wp_block ?_
    refine wp_seq ?_
    refine wp_region_lit ?_
    refine op_val (v := .pointer (some ⟨g101, 0, none⟩)) rfl rfl hF rfl (run_fieldAddr rfl fl24_0 (hF.ev rfl) rfl) ?_; clear hF; intro a hF
    refine op_val (v := .int .i64 x0) rfl rfl hF rfl (run_load1 rfl one3 (hF.ev rfl) ((S.free 1 rfl).cell rfl)) ?_; clear hF; intro a hF
    refine op_val (v := .int .i64 x2) rfl rfl hF rfl (run_move rfl (hF.ev rfl)) ?_; clear hF; intro a hF
    obtain ⟨p106, h106, hM⟩ := bind_ex hM
    refine op_call rfl rfl hF rfl (run_call (vs := [.int .i64 x0, .int .i64 x2]) rfl rfl co31 ⟨(hF.ev rfl), (hF.ev rfl), trivial⟩) (c_impl_distance (x0 := x0) (x1 := x2)  h106) ?_
    rintro e u ⟨rfl, T⟩
    refine ⟨_, rfl, ?_⟩
    clear hF; intro a hF
    replace S := S.call0 T; clear T
    refine op_val (v := .int .i64 x3) rfl rfl hF rfl (run_move rfl (hF.ev rfl)) ?_; clear hF; intro a hF
    refine op_val (v := .bool (leB p106 x3)) rfl rfl hF rfl (run_leq (hF.ev rfl) (hF.ev rfl) rfl) ?_; clear hF; intro a hF
    refine op_val (v := .bool (leB p106 x3)) rfl rfl hF rfl (run_assign rfl (hF.ev rfl)) ?_; clear hF; intro a hF
    refine wpList_nil ?_
    obtain ⟨o108, hM109, hM⟩ := bind_ex hM
    refine wp_cut (fun a u => ∃ (p107 : Int), p107 = o108 ∧ Fr a 49 [(3, .pointer (some ⟨g101, 0, none⟩)), (6, .pointer (some ⟨g102, 0, none⟩))] ∧ St w u [.box g102 24 #[.int .i64 0, .int .i64 0], .box g101 24 #[.int .i64 p107, .int .i64 x1]]) ?_ ?_
    · have _ := trivial
      cases hc110 : (leB p106 x3)
      · replace hM109 := bif_f hc110 hM109
        refine cond_f hF rfl hc110 ?_
        refine wp_seq ?_
        refine wp_region_lit ?_
        refine op_val (v := .pointer (some ⟨g101, 0, none⟩)) rfl rfl hF rfl (run_fieldAddr rfl fl24_0 (hF.ev rfl) rfl) ?_; clear hF; intro a hF
        refine op_val (v := .int .i64 x0) rfl rfl hF rfl (run_load1 rfl one3 (hF.ev rfl) ((S.free 1 rfl).cell rfl)) ?_; clear hF; intro a hF
        refine op_val (v := .int .i64 x2) rfl rfl hF rfl (run_move rfl (hF.ev rfl)) ?_; clear hF; intro a hF
        refine op_val (v := .bool (ltB x0 x2)) rfl rfl hF rfl (run_lss (hF.ev rfl) (hF.ev rfl) rfl) ?_; clear hF; intro a hF
        refine op_val (v := .bool (ltB x0 x2)) rfl rfl hF rfl (run_assign rfl (hF.ev rfl)) ?_; clear hF; intro a hF
        refine wpList_nil ?_
        obtain ⟨o112, hM113, hM109⟩ := bind_ex hM109
        refine wp_cut (fun a u => ∃ (p111 : Int), p111 = o112 ∧ Fr a 49 [(3, .pointer (some ⟨g101, 0, none⟩)), (6, .pointer (some ⟨g102, 0, none⟩))] ∧ St w u [.box g102 24 #[.int .i64 0, .int .i64 0], .box g101 24 #[.int .i64 p111, .int .i64 x1]]) ?_ ?_
        · have _ := trivial
          cases hc114 : (ltB x0 x2)
          · replace hM113 := bif_f hc114 hM113
            refine cond_f hF rfl hc114 ?_
            refine wp_region_lit ?_
            refine op_val (v := .pointer (some ⟨g101, 0, none⟩)) rfl rfl hF rfl (run_fieldAddr rfl fl24_0 (hF.ev rfl) rfl) ?_; clear hF; intro a hF
            refine op_val (v := .int .i64 x0) rfl rfl hF rfl (run_load1 rfl one3 (hF.ev rfl) ((S.free 1 rfl).cell rfl)) ?_; clear hF; intro a hF
            refine op_val (v := .int .i64 x3) rfl rfl hF rfl (run_move rfl (hF.ev rfl)) ?_; clear hF; intro a hF
            refine op_val (v := .int .i64 (w64 (x0 - x3))) rfl rfl hF rfl (run_sub (z := w64 (x0 - x3)) (hF.ev rfl) (hF.ev rfl) rfl rfl) ?_; clear hF; intro a hF
            refine op_val (v := .pointer (some ⟨g101, 0, none⟩)) rfl rfl hF rfl (run_fieldAddr rfl fl24_0 (hF.ev rfl) rfl) ?_; clear hF; intro a hF
            refine op_do rfl rfl (run_store (cs' := #[.int .i64 (w64 (x0 - x3)), .int .i64 x1]) rfl sz3 (hF.ev rfl) (hF.ev rfl) rfl rfl rfl (S.free 1 rfl) rfl rfl) ?_; replace S := S.put 1 rfl (#[.int .i64 (w64 (x0 - x3)), .int .i64 x1])
            generalize World.setRow _ _ _ = u at S ⊢
            refine wpList_nil ?_
            obtain rfl := Option.some.inj hM113
            exact ⟨w64 (x0 - x3), rfl, hF.keep _ ⟨rfl, rfl, trivial⟩, S.sel [0, 1] rfl rfl⟩
          · replace hM113 := bif_t hc114 hM113
            refine cond_t hF rfl hc114 ?_
            refine wp_region_lit ?_
            refine op_val (v := .pointer (some ⟨g101, 0, none⟩)) rfl rfl hF rfl (run_fieldAddr rfl fl24_0 (hF.ev rfl) rfl) ?_; clear hF; intro a hF
            refine op_val (v := .int .i64 x0) rfl rfl hF rfl (run_load1 rfl one3 (hF.ev rfl) ((S.free 1 rfl).cell rfl)) ?_; clear hF; intro a hF
            refine op_val (v := .int .i64 x3) rfl rfl hF rfl (run_move rfl (hF.ev rfl)) ?_; clear hF; intro a hF
            refine op_val (v := .int .i64 (w64 (x0 + x3))) rfl rfl hF rfl (run_add (z := w64 (x0 + x3)) (hF.ev rfl) (hF.ev rfl) rfl rfl) ?_; clear hF; intro a hF
            refine op_val (v := .pointer (some ⟨g101, 0, none⟩)) rfl rfl hF rfl (run_fieldAddr rfl fl24_0 (hF.ev rfl) rfl) ?_; clear hF; intro a hF
            refine op_do rfl rfl (run_store (cs' := #[.int .i64 (w64 (x0 + x3)), .int .i64 x1]) rfl sz3 (hF.ev rfl) (hF.ev rfl) rfl rfl rfl (S.free 1 rfl) rfl rfl) ?_; replace S := S.put 1 rfl (#[.int .i64 (w64 (x0 + x3)), .int .i64 x1])
            generalize World.setRow _ _ _ = u at S ⊢
            refine wpList_nil ?_
            obtain rfl := Option.some.inj hM113
            exact ⟨w64 (x0 + x3), rfl, hF.keep _ ⟨rfl, rfl, trivial⟩, S.sel [0, 1] rfl rfl⟩
        · rintro a u ⟨p111, rfl, hF, S⟩
          obtain rfl := Option.some.inj hM109
          exact ⟨p111, rfl, hF.keep _ ⟨rfl, rfl, trivial⟩, S.sel [0, 1] rfl rfl⟩
      · replace hM109 := bif_t hc110 hM109
        refine cond_t hF rfl hc110 ?_
        refine wp_region_lit ?_
        refine op_val (v := .int .i64 x2) rfl rfl hF rfl (run_move rfl (hF.ev rfl)) ?_; clear hF; intro a hF
        refine op_val (v := .pointer (some ⟨g101, 0, none⟩)) rfl rfl hF rfl (run_fieldAddr rfl fl24_0 (hF.ev rfl) rfl) ?_; clear hF; intro a hF
        refine op_do rfl rfl (run_store (cs' := #[.int .i64 x2, .int .i64 x1]) rfl sz3 (hF.ev rfl) (hF.ev rfl) rfl rfl rfl (S.free 1 rfl) rfl rfl) ?_; replace S := S.put 1 rfl (#[.int .i64 x2, .int .i64 x1])
        generalize World.setRow _ _ _ = u at S ⊢
        refine wpList_nil ?_
        obtain rfl := Option.some.inj hM109
        exact ⟨x2, rfl, hF.keep _ ⟨rfl, rfl, trivial⟩, S.sel [0, 1] rfl rfl⟩
    · rintro a u ⟨p107, rfl, hF, S⟩
      refine wp_seq ?_
      refine wp_region_lit ?_
      refine op_val (v := .agg #[.int .i64 p107, .int .i64 x1]) rfl rfl hF rfl (run_loadN rfl ag24 (hF.ev rfl) rfl ((S.free 1 rfl).cells 0 #[.int .i64 p107, .int .i64 x1] rfl)) ?_; clear hF; intro a hF
      refine op_do rfl rfl (run_store (cs' := #[.int .i64 p107, .int .i64 x1]) rfl sz24 (hF.ev rfl) (hF.ev rfl) rfl rfl rfl (S.free 0 rfl) rfl rfl) ?_; replace S := S.put 0 rfl (#[.int .i64 p107, .int .i64 x1])
      generalize World.setRow _ _ _ = u at S ⊢
      refine wpList_nil ?_
      refine wp_ret ?_
      repeat with_reducible (first | refine then_ret ?_ | refine in_ret ?_ | refine in_nrm ?_)
      refine ret1_gw (.inl rfl) hF rfl (res_cell (hF.ev rfl) (res_loadN ag24 rfl (S.cells 0 rfl 0 #[.int .i64 p107, .int .i64 x1] rfl))) ?_
      obtain rfl := Option.some.inj hM
      exact ⟨rfl, S.sel [] rfl rfl⟩
  · replace hM := bif_t hc105 hM
    refine cond_t hF rfl hc105 ?_
    refine wp_seq ?_
    refine wp_region_lit ?_
    refine op_val (v := .agg #[.int .i64 0, .int .i64 0]) rfl rfl hF rfl (run_build (vs := []) rfl trivial (bd24 )) ?_; clear hF; intro a hF
    refine op_do rfl rfl (run_store (cs' := #[.int .i64 0, .int .i64 0]) rfl sz24 (hF.ev rfl) (hF.ev rfl) rfl rfl rfl (S.free 0 rfl) rfl rfl) ?_; replace S := S.put 0 rfl (#[.int .i64 0, .int .i64 0])
    generalize World.setRow _ _ _ = u at S ⊢
    refine wpList_nil ?_
    refine wp_ret ?_
    repeat with_reducible (first | refine then_ret ?_ | refine in_ret ?_ | refine in_nrm ?_)
    refine ret1_gw (.inl rfl) hF rfl (res_cell (hF.ev rfl) (res_loadN ag24 rfl (S.cells 0 rfl 0 #[.int .i64 0, .int .i64 0] rfl))) ?_
    obtain rfl := Option.some.inj hM
    exact ⟨rfl, S.sel [] rfl rfl⟩

set_option maxHeartbeats 4000000 in
theorem c_spec_SyncTune {x0 : Int} {x1 : Int} {x2 : Int} {x3 : Int} {w : World} {r : Int × Int}  (hM : m_spec_SyncTune x0 x1 x2 x3 = some r) :
    Calls Tryd.prog 17 #[.agg #[.int .i64 x0, .int .i64 x1], .int .i64 x2, .int .i64 x3] w (fun e w' => e = .returned (.agg #[.int .i64 r.1, .int .i64 r.2]) ∧ St w w' []) := by
  unfold m_spec_SyncTune at hM
  refine calls_gw Tryd.func17 Tryd.ntmps17 rfl [(0, .agg #[.int .i64 x0, .int .i64 x1]), (1, .int .i64 x2), (2, .int .i64 x3)] ⟨rfl, rfl, rfl, trivial⟩ rfl ?_
  intro a hF
  have S := St.nil w
  refine wp_seq ?_
  refine wp_region_lit ?_
  refine op_new (cs := #[.int .i64 x0, .int .i64 x1]) rfl rfl hF rfl S (run_box rfl (hF.ev rfl) rfl) ?_; clear hF S; intro a g101 u hF S
  refine op_new (cs := #[.int .i64 0, .int .i64 0]) rfl rfl hF rfl S (run_allocZ rfl zr24) ?_; clear hF S; intro a g102 u hF S
  refine wpList_nil ?_
  refine wp_seq ?_
  refine wp_seq ?_
  refine wp_region_lit ?_
  refine op_val (v := .agg #[.int .i64 x0, .int .i64 x1]) rfl rfl hF rfl (run_loadN rfl ag24 (hF.ev rfl) rfl ((S.free 1 rfl).cells 0 #[.int .i64 x0, .int .i64 x1] rfl)) ?_; clear hF; intro a hF
  obtain ⟨p103, h103, hM⟩ := bind_ex hM
  refine op_call rfl rfl hF rfl (run_call (vs := [.agg #[.int .i64 x0, .int .i64 x1]]) rfl rfl co10 ⟨(hF.ev rfl), trivial⟩) (c_spec_TurningValid (x0 := x0) (x1 := x1)  h103) ?_
  rintro e u ⟨rfl, T⟩
  refine ⟨_, rfl, ?_⟩
  clear hF; intro a hF
  replace S := S.call0 T; clear T
  refine op_val (v := .bool (!p103)) rfl rfl hF rfl (run_not rfl (hF.ev rfl)) ?_; clear hF; intro a hF
  refine op_val (v := .bool (!p103)) rfl rfl hF rfl (run_move rfl (hF.ev rfl)) ?_; clear hF; intro a hF
  refine op_gv (v := .int .i64 x2) rfl rfl hF rfl (yf (gw_yield hF rfl rfl rfl)) (fun hg => (run_move rfl (hF.ev rfl))) ?_; clear hF; intro a hF
  obtain ⟨p104, h104, hM⟩ := bind_ex hM
  refine op_gcall (v := .bool p104) rfl rfl hF rfl S (yf (gw_yield hF rfl rfl rfl)) (fun hg => (run_call (vs := [.int .i64 x2, .int .i64 0, .int .i64 999]) rfl rfl co27 ⟨((hF.ev rfl).trans (gv_t hg)), rfl, rfl, trivial⟩)) (fun hg => c_spec_l1In (x0 := x2) (x1 := 0) (x2 := 999)  (gb_t h104 hg)) ?_; clear hF S; intro a u hF S
  refine op_gv (v := .bool (!p104)) rfl rfl hF rfl (yf (gw_yield hF rfl rfl rfl)) (fun hg => (run_not rfl ((hF.ev rfl).trans (gv_t hg)))) ?_; clear hF; intro a hF
  refine op_val (v := .bool ((!p103) || (!p104))) rfl rfl hF rfl (run_pick_or rfl (hF.ev rfl) rfl (fun hp => ((hF.ev rfl).trans (gv_t (not_t hp))))) ?_; clear hF; intro a hF
  refine op_val (v := .bool ((!p103) || (!p104))) rfl rfl hF rfl (run_move rfl (hF.ev rfl)) ?_; clear hF; intro a hF
  refine op_gv (v := .int .i64 x3) rfl rfl hF rfl (yf (gw_yield hF rfl rfl rfl)) (fun hg => (run_move rfl (hF.ev rfl))) ?_; clear hF; intro a hF
  obtain ⟨p105, h105, hM⟩ := bind_ex hM
  refine op_gcall (v := .bool p105) rfl rfl hF rfl S (yf (gw_yield hF rfl rfl rfl)) (fun hg => (run_call (vs := [.int .i64 x3, .int .i64 1, .int .i64 999]) rfl rfl co27 ⟨((hF.ev rfl).trans (gv_t hg)), rfl, rfl, trivial⟩)) (fun hg => c_spec_l1In (x0 := x3) (x1 := 1) (x2 := 999)  (gb_t h105 hg)) ?_; clear hF S; intro a u hF S
  refine op_gv (v := .bool (!p105)) rfl rfl hF rfl (yf (gw_yield hF rfl rfl rfl)) (fun hg => (run_not rfl ((hF.ev rfl).trans (gv_t hg)))) ?_; clear hF; intro a hF
  refine op_val (v := .bool (((!p103) || (!p104)) || (!p105))) rfl rfl hF rfl (run_pick_or rfl (hF.ev rfl) rfl (fun hp => ((hF.ev rfl).trans (gv_t (not_t hp))))) ?_; clear hF; intro a hF
  refine wpList_nil ?_
  cases hc106 : (((!p103) || (!p104)) || (!p105))
  · replace hM := bif_f hc106 hM
    refine cond_f hF rfl hc106 ?_
    refine wp_skip ?_
    refine wp_seq ?_
    refine wp_seq ?_
    refine wp_region_lit ?_
    refine op_val (v := .pointer (some ⟨g101, 0, none⟩)) rfl rfl hF rfl (run_fieldAddr rfl fl24_0 (hF.ev rfl) rfl) ?_; clear hF; intro a hF
    refine op_val (v := .int .i64 x0) rfl rfl hF rfl (run_load1 rfl one3 (hF.ev rfl) ((S.free 1 rfl).cell rfl)) ?_; clear hF; intro a hF
    refine op_val (v := .int .i64 x2) rfl rfl hF rfl (run_move rfl (hF.ev rfl)) ?_; clear hF; intro a hF
    refine op_val (v := .bool (ltB x0 x2)) rfl rfl hF rfl (run_lss (hF.ev rfl) (hF.ev rfl) rfl) ?_; clear hF; intro a hF
    refine wpList_nil ?_
    cases hc107 : (ltB x0 x2)
    · replace hM := bif_f hc107 hM
      refine cond_f hF rfl hc107 ?_
      refine wp_skip ?_
      refine wp_seq ?_
      refine wp_region_lit ?_
      refine op_val (v := .pointer (some ⟨g101, 0, none⟩)) rfl rfl hF rfl (run_fieldAddr rfl fl24_0 (hF.ev rfl) rfl) ?_; clear hF; intro a hF
      refine op_val (v := .int .i64 x0) rfl rfl hF rfl (run_load1 rfl one3 (hF.ev rfl) ((S.free 1 rfl).cell rfl)) ?_; clear hF; intro a hF
      refine op_val (v := .int .i64 x3) rfl rfl hF rfl (run_move rfl (hF.ev rfl)) ?_; clear hF; intro a hF
      refine op_val (v := .int .i64 (w64 (x0 - x3))) rfl rfl hF rfl (run_sub (z := w64 (x0 - x3)) (hF.ev rfl) (hF.ev rfl) rfl rfl) ?_; clear hF; intro a hF
      refine op_val (v := .int .i64 x2) rfl rfl hF rfl (run_move rfl (hF.ev rfl)) ?_; clear hF; intro a hF
      refine op_val (v := .int .i64 (max (w64 (x0 - x3)) x2)) rfl rfl hF rfl (run_max rfl (hF.ev rfl) (hF.ev rfl)) ?_; clear hF; intro a hF
      refine op_val (v := .pointer (some ⟨g101, 1, none⟩)) rfl rfl hF rfl (run_fieldAddr rfl fl24_1 (hF.ev rfl) rfl) ?_; clear hF; intro a hF
      refine op_val (v := .int .i64 x1) rfl rfl hF rfl (run_load1 rfl one3 (hF.ev rfl) ((S.free 1 rfl).cell rfl)) ?_; clear hF; intro a hF
      refine op_val (v := .agg #[.int .i64 (max (w64 (x0 - x3)) x2), .int .i64 x1]) rfl rfl hF rfl (run_build (vs := [(0, .int .i64 (max (w64 (x0 - x3)) x2)), (1, .int .i64 x1)]) rfl ⟨⟨rfl, (hF.ev rfl)⟩, ⟨rfl, (hF.ev rfl)⟩, trivial⟩ (bd24_0_1 rfl rfl)) ?_; clear hF; intro a hF
      refine op_do rfl rfl (run_store (cs' := #[.int .i64 (max (w64 (x0 - x3)) x2), .int .i64 x1]) rfl sz24 (hF.ev rfl) (hF.ev rfl) rfl rfl rfl (S.free 0 rfl) rfl rfl) ?_; replace S := S.put 0 rfl (#[.int .i64 (max (w64 (x0 - x3)) x2), .int .i64 x1])
      generalize World.setRow _ _ _ = u at S ⊢
      refine wpList_nil ?_
      refine wp_ret ?_
      repeat with_reducible (first | refine then_ret ?_ | refine in_ret ?_ | refine in_nrm ?_)
      refine ret1_gw (.inl rfl) hF rfl (res_cell (hF.ev rfl) (res_loadN ag24 rfl (S.cells 0 rfl 0 #[.int .i64 (max (w64 (x0 - x3)) x2), .int .i64 x1] rfl))) ?_
      obtain rfl := Option.some.inj hM
      exact ⟨rfl, S.sel [] rfl rfl⟩
    · replace hM := bif_t hc107 hM
      refine cond_t hF rfl hc107 ?_
      refine wp_seq ?_
      refine wp_region_lit ?_
      refine op_val (v := .pointer (some ⟨g101, 0, none⟩)) rfl rfl hF rfl (run_fieldAddr rfl fl24_0 (hF.ev rfl) rfl) ?_; clear hF; intro a hF
      refine op_val (v := .int .i64 x0) rfl rfl hF rfl (run_load1 rfl one3 (hF.ev rfl) ((S.free 1 rfl).cell rfl)) ?_; clear hF; intro a hF
      refine op_val (v := .int .i64 x3) rfl rfl hF rfl (run_move rfl (hF.ev rfl)) ?_; clear hF; intro a hF
      refine op_val (v := .int .i64 (w64 (x0 + x3))) rfl rfl hF rfl (run_add (z := w64 (x0 + x3)) (hF.ev rfl) (hF.ev rfl) rfl rfl) ?_; clear hF; intro a hF
      refine op_val (v := .int .i64 x2) rfl rfl hF rfl (run_move rfl (hF.ev rfl)) ?_; clear hF; intro a hF
      refine op_val (v := .int .i64 (min (w64 (x0 + x3)) x2)) rfl rfl hF rfl (run_min rfl (hF.ev rfl) (hF.ev rfl)) ?_; clear hF; intro a hF
      refine op_val (v := .pointer (some ⟨g101, 1, none⟩)) rfl rfl hF rfl (run_fieldAddr rfl fl24_1 (hF.ev rfl) rfl) ?_; clear hF; intro a hF
      refine op_val (v := .int .i64 x1) rfl rfl hF rfl (run_load1 rfl one3 (hF.ev rfl) ((S.free 1 rfl).cell rfl)) ?_; clear hF; intro a hF
      refine op_val (v := .agg #[.int .i64 (min (w64 (x0 + x3)) x2), .int .i64 x1]) rfl rfl hF rfl (run_build (vs := [(0, .int .i64 (min (w64 (x0 + x3)) x2)), (1, .int .i64 x1)]) rfl ⟨⟨rfl, (hF.ev rfl)⟩, ⟨rfl, (hF.ev rfl)⟩, trivial⟩ (bd24_0_1 rfl rfl)) ?_; clear hF; intro a hF
      refine op_do rfl rfl (run_store (cs' := #[.int .i64 (min (w64 (x0 + x3)) x2), .int .i64 x1]) rfl sz24 (hF.ev rfl) (hF.ev rfl) rfl rfl rfl (S.free 0 rfl) rfl rfl) ?_; replace S := S.put 0 rfl (#[.int .i64 (min (w64 (x0 + x3)) x2), .int .i64 x1])
      generalize World.setRow _ _ _ = u at S ⊢
      refine wpList_nil ?_
      refine wp_ret ?_
      repeat with_reducible (first | refine then_ret ?_ | refine in_ret ?_ | refine in_nrm ?_)
      refine ret1_gw (.inl rfl) hF rfl (res_cell (hF.ev rfl) (res_loadN ag24 rfl (S.cells 0 rfl 0 #[.int .i64 (min (w64 (x0 + x3)) x2), .int .i64 x1] rfl))) ?_
      obtain rfl := Option.some.inj hM
      exact ⟨rfl, S.sel [] rfl rfl⟩
  · replace hM := bif_t hc106 hM
    refine cond_t hF rfl hc106 ?_
    refine wp_seq ?_
    refine wp_region_lit ?_
    refine op_val (v := .agg #[.int .i64 0, .int .i64 0]) rfl rfl hF rfl (run_build (vs := []) rfl trivial (bd24 )) ?_; clear hF; intro a hF
    refine op_do rfl rfl (run_store (cs' := #[.int .i64 0, .int .i64 0]) rfl sz24 (hF.ev rfl) (hF.ev rfl) rfl rfl rfl (S.free 0 rfl) rfl rfl) ?_; replace S := S.put 0 rfl (#[.int .i64 0, .int .i64 0])
    generalize World.setRow _ _ _ = u at S ⊢
    refine wpList_nil ?_
    refine wp_ret ?_
    repeat with_reducible (first | refine then_ret ?_ | refine in_ret ?_ | refine in_nrm ?_)
    refine ret1_gw (.inl rfl) hF rfl (res_cell (hF.ev rfl) (res_loadN ag24 rfl (S.cells 0 rfl 0 #[.int .i64 0, .int .i64 0] rfl))) ?_
    obtain rfl := Option.some.inj hM
    exact ⟨rfl, S.sel [] rfl rfl⟩

end Go.Proofs.YtjdjcfdpndhgmaaDoor
