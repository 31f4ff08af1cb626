/- Calls return what the models say. -/
import Derived.Test.YthpmmfbnclfbmaaDoorDaT
namespace Go.Proofs.YthpmmfbnclfbmaaDoor
open Go.ChangeShapes Go.WideShapes Go.ChangeAt Go.RowKit
set_option linter.unusedVariables false
set_option linter.unusedSimpArgs false

theorem c_spec_l20Open {x0 : List Int} {A0 : Option Addr} {n0 c0 : Nat} {w : World} (h0 : Rt w 1 eU A0 n0 c0 x0) :
    Calls Tryd.prog 20 #[.slice A0 n0 c0] w (fun e w' => ∃ G0, e = .returned (.pointer (some ⟨G0, 0, none⟩)) ∧ St w w' [.box G0 67 #[.slice (opA c0 n0 A0) (x0.take 2000).length c0, .int .i64 0]]) := by
  obtain rfl := h0.len
  refine calls_gw Tryd.func20 Tryd.ntmps20 rfl [(0, .slice A0 x0.length c0)] ⟨rfl, trivial⟩ rfl ?_
  intro a hF
  have S := St.nil w
  refine wp_seq ?_
  refine wp_region_lit ?_
  refine op_val (v := .pointer none) rfl rfl hF rfl (run_assign rfl rfl) ?_; clear hF; intro a hF
  refine wpList_nil ?_
  refine wp_seq ?_
  refine wp_seq ?_
  refine wp_region_lit ?_
  refine op_val (v := .slice A0 x0.length c0) rfl rfl hF rfl (run_move rfl (hF.ev rfl)) ?_; clear hF; intro a hF
  refine op_val (v := .int .i64 (x0.length : Int)) rfl rfl hF rfl (run_lenL rfl rfl Tryd.underlying22 (hF.ev rfl)) ?_; clear hF; intro a hF
  refine op_val (v := .bool (ltB 2000 (x0.length : Int))) rfl rfl hF rfl (run_gtr (hF.ev rfl) rfl rfl) ?_; clear hF; intro a hF
  refine wpList_nil ?_
  cases hc101 : (ltB 2000 (x0.length : Int))
  · have hc101_ := hc101
    refine cond_f hF rfl hc101 ?_
    refine wp_skip ?_
    refine wp_seq ?_
    refine wp_region_lit ?_
    refine op_val (v := .slice A0 x0.length c0) rfl rfl hF rfl (run_move rfl (hF.ev rfl)) ?_; clear hF; intro a hF
    refine op_val (v := .agg #[.slice A0 x0.length c0, .int .i64 0]) rfl rfl hF rfl (run_build (vs := [(0, .slice A0 x0.length c0)]) rfl ⟨⟨rfl, (hF.ev rfl)⟩, trivial⟩ (bd67_0 rfl)) ?_; clear hF; intro a hF
    refine op_new (cs := #[.slice A0 x0.length c0, .int .i64 0]) rfl rfl hF rfl S (run_box rfl (hF.ev rfl) rfl) ?_; clear hF S; intro a g102 u hF S
    refine op_val (v := .pointer (some ⟨g102, 0, none⟩)) rfl rfl hF rfl (run_assign rfl (hF.ev rfl)) ?_; clear hF; intro a hF
    refine wpList_nil ?_
    refine wp_ret ?_
    repeat with_reducible (first | refine then_ret ?_ | refine in_ret ?_ | refine in_nrm ?_)
    refine ret1_gw (.inl rfl) hF rfl (res_tmp (hF.ev rfl)) ?_
    have q1 := ltB_f hc101
    rw [opA, if_neg (by omega), List.take_of_length_le (by omega)]
    exact ⟨g102, rfl, S.sel [0] rfl rfl⟩
  · have hc101_ := hc101
    refine cond_t hF rfl hc101 ?_
    refine wp_region_lit ?_
    refine op_val (v := .slice A0 x0.length c0) rfl rfl hF rfl (run_move rfl (hF.ev rfl)) ?_; clear hF; intro a hF
    have hk103 := slB_t (show slB 0 2000 x0.length = true by have := ltB_t hc101; simp [slB]; omega)
    refine op_val (v := .slice (subA c0 ((0 : Int).toNat) 1 A0) ((subL x0 0 2000).length) (c0 - (0 : Int).toNat)) rfl rfl hF rfl (run_sliceH (l := x0) rfl Tryd.underlying22 sz5 (hF.ev rfl) rfl hk103 rfl (S.rc0 h0.rc).cap) ?_; clear hF; intro a hF
    refine op_val (v := .slice (subA c0 ((0 : Int).toNat) 1 A0) ((subL x0 0 2000).length) (c0 - (0 : Int).toNat)) rfl rfl hF rfl (run_assign rfl (hF.ev rfl)) ?_; clear hF; intro a hF
    refine wpList_nil ?_
    refine wp_seq ?_
    refine wp_region_lit ?_
    refine op_val (v := .slice (subA c0 ((0 : Int).toNat) 1 A0) ((subL x0 0 2000).length) (c0 - (0 : Int).toNat)) rfl rfl hF rfl (run_move rfl (hF.ev rfl)) ?_; clear hF; intro a hF
    refine op_val (v := .agg #[.slice (subA c0 ((0 : Int).toNat) 1 A0) ((subL x0 0 2000).length) (c0 - (0 : Int).toNat), .int .i64 0]) rfl rfl hF rfl (run_build (vs := [(0, .slice (subA c0 ((0 : Int).toNat) 1 A0) ((subL x0 0 2000).length) (c0 - (0 : Int).toNat))]) rfl ⟨⟨rfl, (hF.ev rfl)⟩, trivial⟩ (bd67_0 rfl)) ?_; clear hF; intro a hF
    refine op_new (cs := #[.slice (subA c0 ((0 : Int).toNat) 1 A0) ((subL x0 0 2000).length) (c0 - (0 : Int).toNat), .int .i64 0]) rfl rfl hF rfl S (run_box rfl (hF.ev rfl) rfl) ?_; clear hF S; intro a g104 u hF S
    refine op_val (v := .pointer (some ⟨g104, 0, none⟩)) rfl rfl hF rfl (run_assign rfl (hF.ev rfl)) ?_; clear hF; intro a hF
    refine wpList_nil ?_
    refine wp_ret ?_
    repeat with_reducible (first | refine then_ret ?_ | refine in_ret ?_ | refine in_nrm ?_)
    refine ret1_gw (.inl rfl) hF rfl (res_tmp (hF.ev rfl)) ?_
    have q1 := ltB_t hc101
    rw [opA, if_pos (by omega), take_sub]
    exact ⟨g104, rfl, S.sel [0] rfl rfl⟩

set_option maxHeartbeats 4000000 in
theorem c_impl_Net_hasBus {x0 : Int} {x1 : List (Int × Int × Int)} {x2 : Int} {A1 : Option Addr} {n1 c1 : Nat} {w : World} {r : Bool} (h1 : Rt w 3 eLine A1 n1 c1 x1) (hM : m_impl_Net_hasBus x0 x1 x2 = some r) :
    Calls Tryd.prog 43 #[.agg #[.int .i64 x0, .slice A1 n1 c1], .int .i64 x2] w (fun e w' => e = .returned (.bool r) ∧ St w w' []) := by
  obtain rfl := h1.len
  unfold m_impl_Net_hasBus at hM
  refine calls_gw Tryd.func43 Tryd.ntmps43 rfl [(0, .agg #[.int .i64 x0, .slice A1 x1.length c1]), (1, .int .i64 x2)] ⟨rfl, rfl, trivial⟩ rfl ?_
  intro a hF
  have S := St.nil w
  refine wp_seq ?_
  refine wp_region_lit ?_
  refine op_new (cs := #[.int .i64 x0, .slice A1 x1.length c1]) rfl rfl hF rfl S (run_box rfl (hF.ev rfl) rfl) ?_; clear hF S; intro a g101 u hF S
  refine op_val (v := .bool false) rfl rfl hF rfl (run_assign rfl rfl) ?_; clear hF; intro a hF
  refine wpList_nil ?_
  refine wp_seq ?_
  refine wp_region_lit ?_
  refine op_val (v := .int .i64 x2) rfl rfl hF rfl (run_move rfl (hF.ev rfl)) ?_; clear hF; intro a hF
  refine op_val (v := .bool (leB 0 x2)) rfl rfl hF rfl (run_geq (hF.ev rfl) rfl rfl) ?_; clear hF; intro a hF
  refine op_val (v := .bool (leB 0 x2)) rfl rfl hF rfl (run_move rfl (hF.ev rfl)) ?_; clear hF; intro a hF
  refine op_gv (v := .int .i64 x2) rfl rfl hF rfl (yt (gw_yield hF rfl rfl rfl)) (fun hg => (run_move rfl (hF.ev rfl))) ?_; clear hF; intro a hF
  refine op_gv (v := .pointer (some ⟨g101, 0, none⟩)) rfl rfl hF rfl (yt (gw_yield hF rfl rfl rfl)) (fun hg => (run_fieldAddr rfl fl62_0 (hF.ev rfl) rfl)) ?_; clear hF; intro a hF
  refine op_gv (v := .int .i64 x0) rfl rfl hF rfl (yt (gw_yield hF rfl rfl rfl)) (fun hg => (run_load1 rfl one3 ((hF.ev rfl).trans (gv_t hg)) ((S.free 0 rfl).cell rfl))) ?_; clear hF; intro a hF
  refine op_gv (v := .bool (ltB x2 x0)) rfl rfl hF rfl (yt (gw_yield hF rfl rfl rfl)) (fun hg => (run_lss ((hF.ev rfl).trans (gv_t hg)) ((hF.ev rfl).trans (gv_t hg)) rfl)) ?_; clear hF; intro a hF
  refine op_val (v := .bool ((leB 0 x2) && (ltB x2 x0))) rfl rfl hF rfl (run_pick_and rfl (hF.ev rfl) (fun hp => ((hF.ev rfl).trans (gv_t hp))) rfl) ?_; clear hF; intro a hF
  refine op_val (v := .bool ((leB 0 x2) && (ltB x2 x0))) rfl rfl hF rfl (run_assign rfl (hF.ev rfl)) ?_; clear hF; intro a hF
  refine wpList_nil ?_
  refine wp_ret ?_
  repeat with_reducible (first | refine then_ret ?_ | refine in_ret ?_ | refine in_nrm ?_)
  refine ret1_gw (.inl rfl) hF rfl (res_tmp (hF.ev rfl)) ?_
  obtain rfl := Option.some.inj hM
  exact ⟨rfl, S.sel [] rfl rfl⟩

set_option maxHeartbeats 4000000 in
theorem c_impl_NetValid {x0 : Int} {x1 : List (Int × Int × Int)} {A1 : Option Addr} {n1 c1 : Nat} {w : World} {r : Bool} (h1 : Rt w 3 eLine A1 n1 c1 x1) (hM : m_impl_NetValid x0 x1 = some r) :
    Calls Tryd.prog 37 #[.agg #[.int .i64 x0, .slice A1 n1 c1]] w (fun e w' => e = .returned (.bool r) ∧ St w w' []) := by
  obtain rfl := h1.len
  unfold m_impl_NetValid at hM
  refine calls_gw Tryd.func37 Tryd.ntmps37 rfl [(0, .agg #[.int .i64 x0, .slice A1 x1.length c1])] ⟨rfl, trivial⟩ rfl ?_
  intro a hF
  have S := St.nil w
  refine wp_seq ?_
  refine wp_region_lit ?_
  refine op_new (cs := #[.int .i64 x0, .slice A1 x1.length c1]) rfl rfl hF rfl S (run_box rfl (hF.ev rfl) rfl) ?_; clear hF S; intro a g101 u hF S
  refine op_val (v := .bool false) rfl rfl hF rfl (run_assign rfl rfl) ?_; clear hF; intro a hF
  refine wpList_nil ?_
  refine wp_seq ?_
  refine wp_seq ?_
  refine wp_region_lit ?_
  refine op_val (v := .pointer (some ⟨g101, 0, none⟩)) rfl rfl hF rfl (run_fieldAddr rfl fl62_0 (hF.ev rfl) rfl) ?_; clear hF; intro a hF
  refine op_val (v := .int .i64 x0) rfl rfl hF rfl (run_load1 rfl one3 (hF.ev rfl) ((S.free 0 rfl).cell rfl)) ?_; clear hF; intro a hF
  refine op_val (v := .bool (ltB x0 1)) rfl rfl hF rfl (run_lss (hF.ev rfl) rfl rfl) ?_; clear hF; intro a hF
  refine op_val (v := .bool (ltB x0 1)) rfl rfl hF rfl (run_move rfl (hF.ev rfl)) ?_; clear hF; intro a hF
  refine op_gv (v := .pointer (some ⟨g101, 0, none⟩)) rfl rfl hF rfl (yf (gw_yield hF rfl rfl rfl)) (fun hg => (run_fieldAddr rfl fl62_0 (hF.ev rfl) rfl)) ?_; clear hF; intro a hF
  refine op_gv (v := .int .i64 x0) rfl rfl hF rfl (yf (gw_yield hF rfl rfl rfl)) (fun hg => (run_load1 rfl one3 ((hF.ev rfl).trans (gv_t hg)) ((S.free 0 rfl).cell rfl))) ?_; clear hF; intro a hF
  refine op_gv (v := .bool (ltB 8 x0)) rfl rfl hF rfl (yf (gw_yield hF rfl rfl rfl)) (fun hg => (run_gtr ((hF.ev rfl).trans (gv_t hg)) rfl rfl)) ?_; clear hF; intro a hF
  refine op_val (v := .bool ((ltB x0 1) || (ltB 8 x0))) rfl rfl hF rfl (run_pick_or rfl (hF.ev rfl) rfl (fun hp => ((hF.ev rfl).trans (gv_t (not_t hp))))) ?_; clear hF; intro a hF
  refine op_val (v := .bool ((ltB x0 1) || (ltB 8 x0))) rfl rfl hF rfl (run_move rfl (hF.ev rfl)) ?_; clear hF; intro a hF
  refine op_gv (v := .pointer (some ⟨g101, 1, none⟩)) rfl rfl hF rfl (yf (gw_yield hF rfl rfl rfl)) (fun hg => (run_fieldAddr rfl fl62_1 (hF.ev rfl) rfl)) ?_; clear hF; intro a hF
  refine op_gv (v := .slice A1 x1.length c1) rfl rfl hF rfl (yf (gw_yield hF rfl rfl rfl)) (fun hg => (run_load1 rfl one60 ((hF.ev rfl).trans (gv_t hg)) ((S.free 0 rfl).cell rfl))) ?_; clear hF; intro a hF
  refine op_gv (v := .int .i64 (x1.length : Int)) rfl rfl hF rfl (yf (gw_yield hF rfl rfl rfl)) (fun hg => (run_lenL rfl rfl Tryd.underlying60 ((hF.ev rfl).trans (gv_t hg)))) ?_; clear hF; intro a hF
  refine op_gv (v := .bool (ltB 10 (x1.length : Int))) rfl rfl hF rfl (yf (gw_yield hF rfl rfl rfl)) (fun hg => (run_gtr ((hF.ev rfl).trans (gv_t hg)) rfl rfl)) ?_; clear hF; intro a hF
  refine op_val (v := .bool (((ltB x0 1) || (ltB 8 x0)) || (ltB 10 (x1.length : Int)))) rfl rfl hF rfl (run_pick_or rfl (hF.ev rfl) rfl (fun hp => ((hF.ev rfl).trans (gv_t (not_t hp))))) ?_; clear hF; intro a hF
  refine wpList_nil ?_
  cases hc102 : (((ltB x0 1) || (ltB 8 x0)) || (ltB 10 (x1.length : Int)))
  · replace hM := bif_f hc102 hM
    refine cond_f hF rfl hc102 ?_
    refine wp_skip ?_
    refine wp_seq ?_
    refine wp_seq ?_
    refine wp_region_lit ?_
    refine op_val (v := .pointer (some ⟨g101, 1, none⟩)) rfl rfl hF rfl (run_fieldAddr rfl fl62_1 (hF.ev rfl) rfl) ?_; clear hF; intro a hF
    refine op_val (v := .slice A1 x1.length c1) rfl rfl hF rfl (run_load1 rfl one60 (hF.ev rfl) ((S.free 0 rfl).cell rfl)) ?_; clear hF; intro a hF
    refine op_val (v := .int .i64 (x1.length : Int)) rfl rfl hF rfl (run_lenL rfl rfl Tryd.underlying60 (hF.ev rfl)) ?_; clear hF; intro a hF
    refine op_val (v := .int .i64 0) rfl rfl hF rfl (run_move rfl rfl) ?_; clear hF; intro a hF
    refine wpList_nil ?_
    obtain ⟨o104, hM105, hM⟩ := bind_ex hM
    refine wp_cut (fun a u => ∃ (p103 : Unit), (Sum.inl p103) = o104 ∧ Fr a 56 [(2, .bool false)] ∧ St w u [.box g101 62 #[.int .i64 x0, .slice A1 x1.length c1]]) ?_ ?_
    · have _ := trivial
      refine wp_block ?_
      refine loop_gw (fun m a u => ∃ (p106 : Int), m_impl_NetValid_l1 x0 x1 m p106 = some _ ∧ Fr a 56 [(1, .pointer (some ⟨g101, 0, none⟩)), (2, .bool false), (20, .slice A1 x1.length c1), (21, .int .i64 (x1.length : Int)), (22, .int .i64 p106)] ∧ St w u [.box g101 62 #[.int .i64 x0, .slice A1 x1.length c1]]) FUEL ⟨0, hM105, hF.keep _ ⟨rfl, rfl, rfl, rfl, rfl, trivial⟩, S.sel [0] rfl rfl⟩ ?_
      clear hF S hM105; rintro m a u ⟨p106, hM105, hF, S⟩
      rcases m with _ | f1
      · exact none_some hM105
      rw [m_impl_NetValid_l1.eq_2] at hM105
      refine wp_seq ?_
      refine wp_region_lit ?_
      refine op_val (v := .bool (ltB p106 (x1.length : Int))) rfl rfl hF rfl (run_lss (hF.ev rfl) (hF.ev rfl) rfl) ?_; clear hF; intro a hF
      refine wpList_nil ?_
      refine wp_seq ?_
      cases hc107 : (ltB p106 (x1.length : Int))
      · replace hM105 := bif_f hc107 hM105
        refine cond_f hF rfl hc107 ?_
        refine wp_exit ?_
        repeat with_reducible (first | refine then_exit ?_ | refine in_hit ?_ | refine in_miss rfl ?_)
        obtain rfl := Option.some.inj hM105
        exact ⟨(), rfl, hF.keep _ ⟨rfl, trivial⟩, S.sel [0] rfl rfl⟩
      · replace hM105 := bif_t hc107 hM105
        refine cond_t hF rfl hc107 ?_
        refine wp_skip ?_
        refine wp_seq ?_
        refine wp_block ?_
        refine wp_seq ?_
        refine wp_region_lit ?_
        obtain ⟨hk108, hM105⟩ := chk_ex hM105
        replace hk108 := ixB_t hk108
        refine op_val (v := .pointer (some ⟨adB A1, adO A1 + p106.toNat * 3, none⟩)) rfl rfl hF rfl (run_indexAddr (b := adB A1) (off := adO A1) rfl Tryd.underlying60 sz59 ((hF.ev rfl).trans (congrArg (fun A => Value.slice A x1.length c1) ((S.rc0 h1.rc).rd.ad (ix_pos hk108)))) (hF.ev rfl) hk108.1 hk108.2 (k' := adO A1 + p106.toNat * 3) rfl) ?_; clear hF; intro a hF
        refine op_val (v := .agg #[.int .i64 ((x1.getD p106.toNat ((0, 0, 0) : Int × Int × Int)).1), .int .i64 ((x1.getD p106.toNat ((0, 0, 0) : Int × Int × Int)).2.1), .int .i64 ((x1.getD p106.toNat ((0, 0, 0) : Int × Int × Int)).2.2)]) rfl rfl hF rfl (run_loadN (cs := #[.int .i64 ((x1.getD p106.toNat ((0, 0, 0) : Int × Int × Int)).1), .int .i64 ((x1.getD p106.toNat ((0, 0, 0) : Int × Int × Int)).2.1), .int .i64 ((x1.getD p106.toNat ((0, 0, 0) : Int × Int × Int)).2.2)]) rfl ag59 (hF.ev rfl) rfl (rd_elN (l := x1) (S.rc0 h1.rc).rd rfl eLine_len ((0, 0, 0) : Int × Int × Int) (ix_ltn hk108 rfl) rfl)) ?_; clear hF; intro a hF
        refine op_new (cs := #[.int .i64 0, .int .i64 0, .int .i64 0]) rfl rfl hF rfl S (run_allocZ rfl zr59) ?_; clear hF S; intro a g109 u hF S
        refine op_do rfl rfl (run_store (cs' := #[.int .i64 ((x1.getD p106.toNat ((0, 0, 0) : Int × Int × Int)).1), .int .i64 ((x1.getD p106.toNat ((0, 0, 0) : Int × Int × Int)).2.1), .int .i64 ((x1.getD p106.toNat ((0, 0, 0) : Int × Int × Int)).2.2)]) rfl sz59 (hF.ev rfl) (hF.ev rfl) rfl rfl rfl (S.free 0 rfl) rfl rfl) ?_; replace S := S.put 0 rfl (#[.int .i64 ((x1.getD p106.toNat ((0, 0, 0) : Int × Int × Int)).1), .int .i64 ((x1.getD p106.toNat ((0, 0, 0) : Int × Int × Int)).2.1), .int .i64 ((x1.getD p106.toNat ((0, 0, 0) : Int × Int × Int)).2.2)])
        generalize World.setRow _ _ _ = u at S ⊢
        refine wpList_nil ?_
        refine wp_seq ?_
        refine wp_region_lit ?_
        refine op_val (v := .agg #[.int .i64 x0, .slice A1 x1.length c1]) rfl rfl hF rfl (run_loadN rfl ag62 (hF.ev rfl) rfl ((S.free 1 rfl).cells 0 #[.int .i64 x0, .slice A1 x1.length c1] rfl)) ?_; clear hF; intro a hF
        refine op_val (v := .pointer (some ⟨g109, 0, none⟩)) rfl rfl hF rfl (run_fieldAddr rfl fl59_0 (hF.ev rfl) rfl) ?_; clear hF; intro a hF
        refine op_val (v := .int .i64 ((x1.getD p106.toNat ((0, 0, 0) : Int × Int × Int)).1)) rfl rfl hF rfl (run_load1 rfl one3 (hF.ev rfl) ((S.free 0 rfl).cell rfl)) ?_; clear hF; intro a hF
        obtain ⟨p110, h110, hM105⟩ := bind_ex hM105
        refine op_call rfl rfl hF rfl (run_call (vs := [.agg #[.int .i64 x0, .slice A1 x1.length c1], .int .i64 ((x1.getD p106.toNat ((0, 0, 0) : Int × Int × Int)).1)]) rfl rfl co43 ⟨(hF.ev rfl), (hF.ev rfl), trivial⟩) (c_impl_Net_hasBus (x0 := x0) (x1 := x1) (x2 := (x1.getD p106.toNat ((0, 0, 0) : Int × Int × Int)).1) ⟨(S.rc0 h1.rc), rfl⟩ h110) ?_
        rintro e u ⟨rfl, T⟩
        refine ⟨_, rfl, ?_⟩
        clear hF; intro a hF
        replace S := S.call0 T; clear T
        refine op_val (v := .bool (!p110)) rfl rfl hF rfl (run_not rfl (hF.ev rfl)) ?_; clear hF; intro a hF
        refine op_val (v := .bool (!p110)) rfl rfl hF rfl (run_move rfl (hF.ev rfl)) ?_; clear hF; intro a hF
        refine op_gv (v := .agg #[.int .i64 x0, .slice A1 x1.length c1]) rfl rfl hF rfl (yf (gw_yield hF rfl rfl rfl)) (fun hg => (run_loadN rfl ag62 (hF.ev rfl) rfl ((S.free 1 rfl).cells 0 #[.int .i64 x0, .slice A1 x1.length c1] rfl))) ?_; clear hF; intro a hF
        refine op_gv (v := .pointer (some ⟨g109, 1, none⟩)) rfl rfl hF rfl (yf (gw_yield hF rfl rfl rfl)) (fun hg => (run_fieldAddr rfl fl59_1 (hF.ev rfl) rfl)) ?_; clear hF; intro a hF
        refine op_gv (v := .int .i64 ((x1.getD p106.toNat ((0, 0, 0) : Int × Int × Int)).2.1)) rfl rfl hF rfl (yf (gw_yield hF rfl rfl rfl)) (fun hg => (run_load1 rfl one3 ((hF.ev rfl).trans (gv_t hg)) ((S.free 0 rfl).cell rfl))) ?_; clear hF; intro a hF
        obtain ⟨p111, h111, hM105⟩ := bind_ex hM105
        refine op_gcall (v := .bool p111) rfl rfl hF rfl S (yf (gw_yield hF rfl rfl rfl)) (fun hg => (run_call (vs := [.agg #[.int .i64 x0, .slice A1 x1.length c1], .int .i64 ((x1.getD p106.toNat ((0, 0, 0) : Int × Int × Int)).2.1)]) rfl rfl co43 ⟨((hF.ev rfl).trans (gv_t hg)), ((hF.ev rfl).trans (gv_t hg)), trivial⟩)) (fun hg => c_impl_Net_hasBus (x0 := x0) (x1 := x1) (x2 := (x1.getD p106.toNat ((0, 0, 0) : Int × Int × Int)).2.1) ⟨(S.rc0 h1.rc), rfl⟩ (gb_t h111 hg)) ?_; clear hF S; intro a u hF S
        refine op_gv (v := .bool (!p111)) rfl rfl hF rfl (yf (gw_yield hF rfl rfl rfl)) (fun hg => (run_not rfl ((hF.ev rfl).trans (gv_t hg)))) ?_; clear hF; intro a hF
        refine op_val (v := .bool ((!p110) || (!p111))) rfl rfl hF rfl (run_pick_or rfl (hF.ev rfl) rfl (fun hp => ((hF.ev rfl).trans (gv_t (not_t hp))))) ?_; clear hF; intro a hF
        refine op_val (v := .bool ((!p110) || (!p111))) rfl rfl hF rfl (run_move rfl (hF.ev rfl)) ?_; clear hF; intro a hF
        refine op_gv (v := .pointer (some ⟨g109, 0, none⟩)) rfl rfl hF rfl (yf (gw_yield hF rfl rfl rfl)) (fun hg => (run_fieldAddr rfl fl59_0 (hF.ev rfl) rfl)) ?_; clear hF; intro a hF
        refine op_gv (v := .int .i64 ((x1.getD p106.toNat ((0, 0, 0) : Int × Int × Int)).1)) rfl rfl hF rfl (yf (gw_yield hF rfl rfl rfl)) (fun hg => (run_load1 rfl one3 ((hF.ev rfl).trans (gv_t hg)) ((S.free 0 rfl).cell rfl))) ?_; clear hF; intro a hF
        refine op_gv (v := .pointer (some ⟨g109, 1, none⟩)) rfl rfl hF rfl (yf (gw_yield hF rfl rfl rfl)) (fun hg => (run_fieldAddr rfl fl59_1 (hF.ev rfl) rfl)) ?_; clear hF; intro a hF
        refine op_gv (v := .int .i64 ((x1.getD p106.toNat ((0, 0, 0) : Int × Int × Int)).2.1)) rfl rfl hF rfl (yf (gw_yield hF rfl rfl rfl)) (fun hg => (run_load1 rfl one3 ((hF.ev rfl).trans (gv_t hg)) ((S.free 0 rfl).cell rfl))) ?_; clear hF; intro a hF
        refine op_gv (v := .bool (((x1.getD p106.toNat ((0, 0, 0) : Int × Int × Int)).1) == ((x1.getD p106.toNat ((0, 0, 0) : Int × Int × Int)).2.1))) rfl rfl hF rfl (yf (gw_yield hF rfl rfl rfl)) (fun hg => (run_eql ((hF.ev rfl).trans (gv_t hg)) ((hF.ev rfl).trans (gv_t hg)) rfl)) ?_; clear hF; intro a hF
        refine op_val (v := .bool (((!p110) || (!p111)) || (((x1.getD p106.toNat ((0, 0, 0) : Int × Int × Int)).1) == ((x1.getD p106.toNat ((0, 0, 0) : Int × Int × Int)).2.1)))) rfl rfl hF rfl (run_pick_or rfl (hF.ev rfl) rfl (fun hp => ((hF.ev rfl).trans (gv_t (not_t hp))))) ?_; clear hF; intro a hF
        refine op_val (v := .bool (((!p110) || (!p111)) || (((x1.getD p106.toNat ((0, 0, 0) : Int × Int × Int)).1) == ((x1.getD p106.toNat ((0, 0, 0) : Int × Int × Int)).2.1)))) rfl rfl hF rfl (run_move rfl (hF.ev rfl)) ?_; clear hF; intro a hF
        refine op_gv (v := .pointer (some ⟨g109, 2, none⟩)) rfl rfl hF rfl (yf (gw_yield hF rfl rfl rfl)) (fun hg => (run_fieldAddr rfl fl59_2 (hF.ev rfl) rfl)) ?_; clear hF; intro a hF
        refine op_gv (v := .int .i64 ((x1.getD p106.toNat ((0, 0, 0) : Int × Int × Int)).2.2)) rfl rfl hF rfl (yf (gw_yield hF rfl rfl rfl)) (fun hg => (run_load1 rfl one3 ((hF.ev rfl).trans (gv_t hg)) ((S.free 0 rfl).cell rfl))) ?_; clear hF; intro a hF
        refine op_gv (v := .bool (ltB ((x1.getD p106.toNat ((0, 0, 0) : Int × Int × Int)).2.2) 1)) rfl rfl hF rfl (yf (gw_yield hF rfl rfl rfl)) (fun hg => (run_lss ((hF.ev rfl).trans (gv_t hg)) rfl rfl)) ?_; clear hF; intro a hF
        refine op_val (v := .bool ((((!p110) || (!p111)) || (((x1.getD p106.toNat ((0, 0, 0) : Int × Int × Int)).1) == ((x1.getD p106.toNat ((0, 0, 0) : Int × Int × Int)).2.1))) || (ltB ((x1.getD p106.toNat ((0, 0, 0) : Int × Int × Int)).2.2) 1))) rfl rfl hF rfl (run_pick_or rfl (hF.ev rfl) rfl (fun hp => ((hF.ev rfl).trans (gv_t (not_t hp))))) ?_; clear hF; intro a hF
        refine op_val (v := .bool ((((!p110) || (!p111)) || (((x1.getD p106.toNat ((0, 0, 0) : Int × Int × Int)).1) == ((x1.getD p106.toNat ((0, 0, 0) : Int × Int × Int)).2.1))) || (ltB ((x1.getD p106.toNat ((0, 0, 0) : Int × Int × Int)).2.2) 1))) rfl rfl hF rfl (run_move rfl (hF.ev rfl)) ?_; clear hF; intro a hF
        refine op_gv (v := .pointer (some ⟨g109, 2, none⟩)) rfl rfl hF rfl (yf (gw_yield hF rfl rfl rfl)) (fun hg => (run_fieldAddr rfl fl59_2 (hF.ev rfl) rfl)) ?_; clear hF; intro a hF
        refine op_gv (v := .int .i64 ((x1.getD p106.toNat ((0, 0, 0) : Int × Int × Int)).2.2)) rfl rfl hF rfl (yf (gw_yield hF rfl rfl rfl)) (fun hg => (run_load1 rfl one3 ((hF.ev rfl).trans (gv_t hg)) ((S.free 0 rfl).cell rfl))) ?_; clear hF; intro a hF
        refine op_gv (v := .bool (ltB 999 ((x1.getD p106.toNat ((0, 0, 0) : Int × Int × Int)).2.2))) rfl rfl hF rfl (yf (gw_yield hF rfl rfl rfl)) (fun hg => (run_gtr ((hF.ev rfl).trans (gv_t hg)) rfl rfl)) ?_; clear hF; intro a hF
        refine op_val (v := .bool (((((!p110) || (!p111)) || (((x1.getD p106.toNat ((0, 0, 0) : Int × Int × Int)).1) == ((x1.getD p106.toNat ((0, 0, 0) : Int × Int × Int)).2.1))) || (ltB ((x1.getD p106.toNat ((0, 0, 0) : Int × Int × Int)).2.2) 1)) || (ltB 999 ((x1.getD p106.toNat ((0, 0, 0) : Int × Int × Int)).2.2)))) rfl rfl hF rfl (run_pick_or rfl (hF.ev rfl) rfl (fun hp => ((hF.ev rfl).trans (gv_t (not_t hp))))) ?_; clear hF; intro a hF
        refine wpList_nil ?_
        cases hc112 : (((((!p110) || (!p111)) || (((x1.getD p106.toNat ((0, 0, 0) : Int × Int × Int)).1) == ((x1.getD p106.toNat ((0, 0, 0) : Int × Int × Int)).2.1))) || (ltB ((x1.getD p106.toNat ((0, 0, 0) : Int × Int × Int)).2.2) 1)) || (ltB 999 ((x1.getD p106.toNat ((0, 0, 0) : Int × Int × Int)).2.2)))
        · replace hM105 := bif_f hc112 hM105
          refine cond_f hF rfl hc112 ?_
          refine wp_skip ?_
          refine wp_region_lit ?_
          refine op_val (v := .int .i64 (w64 (p106 + 1))) rfl rfl hF rfl (run_add (z := w64 (p106 + 1)) (hF.ev rfl) rfl rfl rfl) ?_; clear hF; intro a hF
          refine op_val (v := .int .i64 (w64 (p106 + 1))) rfl rfl hF rfl (run_move rfl (hF.ev rfl)) ?_; clear hF; intro a hF
          refine wpList_nil ?_
          exact ⟨f1, Nat.lt_succ_self _, w64 (p106 + 1), hM105, hF.keep _ ⟨rfl, rfl, rfl, rfl, rfl, trivial⟩, S.sel [1] rfl rfl⟩
        · replace hM105 := bif_t hc112 hM105
          refine cond_t hF rfl hc112 ?_
          refine wp_seq ?_
          refine wp_region_lit ?_
          refine op_val (v := .bool false) rfl rfl hF rfl (run_assign rfl rfl) ?_; clear hF; intro a hF
          refine wpList_nil ?_
          refine wp_ret ?_
          repeat with_reducible (first | refine then_ret ?_ | refine in_ret ?_ | refine in_nrm ?_)
          refine ret1_gw (.inl rfl) hF rfl (res_tmp (hF.ev rfl)) ?_
          obtain rfl := Option.some.inj hM105
          obtain rfl := Option.some.inj hM
          exact ⟨rfl, S.sel [] rfl rfl⟩
    · rintro a u ⟨p103, rfl, hF, S⟩
      replace hM := elim_l hM
      refine wp_seq ?_
      refine wp_region_lit ?_
      refine op_val (v := .bool true) rfl rfl hF rfl (run_assign rfl rfl) ?_; clear hF; intro a hF
      refine wpList_nil ?_
      refine wp_ret ?_
      repeat with_reducible (first | refine then_ret ?_ | refine in_ret ?_ | refine in_nrm ?_)
      refine ret1_gw (.inl rfl) hF rfl (res_tmp (hF.ev rfl)) ?_
      obtain rfl := Option.some.inj hM
      exact ⟨rfl, S.sel [] rfl rfl⟩
  · replace hM := bif_t hc102 hM
    refine cond_t hF rfl hc102 ?_
    refine wp_seq ?_
    refine wp_region_lit ?_
    refine op_val (v := .bool false) rfl rfl hF rfl (run_assign rfl rfl) ?_; clear hF; intro a hF
    refine wpList_nil ?_
    refine wp_ret ?_
    repeat with_reducible (first | refine then_ret ?_ | refine in_ret ?_ | refine in_nrm ?_)
    refine ret1_gw (.inl rfl) hF rfl (res_tmp (hF.ev rfl)) ?_
    obtain rfl := Option.some.inj hM
    exact ⟨rfl, S.sel [] rfl rfl⟩

theorem c_impl_NetText_bad {x0 : Int} {x1 : List (Int × Int × Int)} {A1 : Option Addr} {n1 c1 : Nat} {w : World} (h1 : Rt w 3 eLine A1 n1 c1 x1) (hv : m_impl_NetValid x0 x1 = some false) :
    Calls Tryd.prog 33 #[.agg #[.int .i64 x0, .slice A1 n1 c1]] w (fun e w' => e = .returned (.string ({ data := #[] } : ByteArray)) ∧ St w w' []) := by
  obtain rfl := h1.len
  refine calls_gw Tryd.func33 Tryd.ntmps33 rfl [(0, .agg #[.int .i64 x0, .slice A1 x1.length c1])] ⟨rfl, trivial⟩ rfl ?_
  intro a hF
  have S := St.nil w
  refine wp_seq ?_
  refine wp_region_lit ?_
  refine op_new (cs := #[.int .i64 x0, .slice A1 x1.length c1]) rfl rfl hF rfl S (run_box rfl (hF.ev rfl) rfl) ?_; clear hF S; intro a g101 u hF S
  refine op_val (v := .string ({ data := #[] } : ByteArray)) rfl rfl hF rfl (run_assign rfl rfl) ?_; clear hF; intro a hF
  refine wpList_nil ?_
  refine wp_seq ?_
  refine wp_seq ?_
  refine wp_region_lit ?_
  refine op_val (v := .agg #[.int .i64 x0, .slice A1 x1.length c1]) rfl rfl hF rfl (run_loadN rfl ag62 (hF.ev rfl) rfl ((S.free 0 rfl).cells 0 #[.int .i64 x0, .slice A1 x1.length c1] rfl)) ?_; clear hF; intro a hF
  refine op_call rfl rfl hF rfl (run_call (vs := [.agg #[.int .i64 x0, .slice A1 x1.length c1]]) rfl rfl co37 ⟨(hF.ev rfl), trivial⟩) (c_impl_NetValid ⟨(S.rc0 h1.rc), rfl⟩ hv) ?_
  rintro e u ⟨rfl, T⟩
  refine ⟨_, rfl, ?_⟩
  clear hF; intro a hF
  replace S := S.call0 T; clear T
  refine op_val (v := .bool (!false)) rfl rfl hF rfl (run_not rfl (hF.ev rfl)) ?_; clear hF; intro a hF
  refine wpList_nil ?_
  refine cond_t hF rfl (not_t rfl) ?_
  refine wp_seq ?_
  refine wp_region_lit ?_
  refine op_val (v := .string ({ data := #[] } : ByteArray)) rfl rfl hF rfl (run_assign rfl rfl) ?_; clear hF; intro a hF
  refine wpList_nil ?_
  refine wp_ret ?_
  repeat with_reducible (first | refine then_ret ?_ | refine in_ret ?_ | refine in_nrm ?_)
  refine ret1_gw (.inl rfl) hF rfl (res_tmp (hF.ev rfl)) ?_
  exact ⟨rfl, S.sel [] rfl rfl⟩

set_option maxHeartbeats 4000000 in
theorem c_spec_l20Rd_pick {x0 : List Int} {x1 : Int} {x2 : Int} {A0 : Option Addr} {n0 c0 : Nat} {g0 : Nat} {w : World} {r : Int × Int} {w0 : World} {X : List Asn} (h0 : Rt w0 1 eU A0 n0 c0 x0) (S : St w0 w (Asn.box g0 67 #[.slice A0 n0 c0, .int .i64 x1] :: X)) (hM : m_spec_l20Rd_pick x0 x1 x2 = some r) :
    Calls Tryd.prog 34 #[.pointer (some ⟨g0, 0, none⟩), .int .i64 x2] w (fun e w' => e = .returned (.int .i64 r.1) ∧ St w0 w' (Asn.box g0 67 #[.slice A0 n0 c0, .int .i64 r.2] :: X)) := by
  obtain rfl := h0.len
  unfold m_spec_l20Rd_pick at hM
  refine calls_gw Tryd.func34 Tryd.ntmps34 rfl [(0, .pointer (some ⟨g0, 0, none⟩)), (1, .int .i64 x2)] ⟨rfl, rfl, trivial⟩ rfl ?_
  intro a hF
  refine wp_seq ?_
  refine wp_region_lit ?_
  refine op_val (v := .int .i64 0) rfl rfl hF rfl (run_assign rfl rfl) ?_; clear hF; intro a hF
  refine wpList_nil ?_
  refine wp_seq ?_
  refine wp_region_lit ?_
  refine op_val (v := .pointer (some ⟨g0, 0, none⟩)) rfl rfl hF rfl (run_move rfl (hF.ev rfl)) ?_; clear hF; intro a hF
  refine op_val (v := .pointer (some ⟨g0, 0, none⟩)) rfl rfl hF rfl (run_move rfl (hF.ev rfl)) ?_; clear hF; intro a hF
  refine op_val (v := .pointer (some ⟨g0, 0, none⟩)) rfl rfl hF rfl (run_nilCheck rfl (hF.ev rfl)) ?_; clear hF; intro a hF
  refine op_val (v := .pointer (some ⟨g0, 1, none⟩)) rfl rfl hF rfl (run_fieldAddr rfl fl67_1 (hF.ev rfl) rfl) ?_; clear hF; intro a hF
  refine op_val (v := .int .i64 x1) rfl rfl hF rfl (run_load1 rfl one3 (hF.ev rfl) ((S.free 0 rfl).cell rfl)) ?_; clear hF; intro a hF
  refine op_val (v := .int .i64 (w64 (x1 + 1))) rfl rfl hF rfl (run_add (z := w64 (x1 + 1)) (hF.ev rfl) rfl rfl rfl) ?_; clear hF; intro a hF
  refine op_val (v := .pointer (some ⟨g0, 0, none⟩)) rfl rfl hF rfl (run_nilCheck rfl (hF.ev rfl)) ?_; clear hF; intro a hF
  refine op_val (v := .pointer (some ⟨g0, 1, none⟩)) rfl rfl hF rfl (run_fieldAddr rfl fl67_1 (hF.ev rfl) rfl) ?_; clear hF; intro a hF
  refine op_do rfl rfl (run_store (cs' := #[.slice A0 x0.length c0, .int .i64 (w64 (x1 + 1))]) rfl sz3 (hF.ev rfl) (hF.ev rfl) rfl rfl rfl (S.free 0 rfl) rfl rfl) ?_; replace S := S.put 0 rfl (#[.slice A0 x0.length c0, .int .i64 (w64 (x1 + 1))])
  generalize World.setRow _ _ _ = u at S ⊢
  refine wpList_nil ?_
  refine wp_seq ?_
  refine wp_seq ?_
  refine wp_region_lit ?_
  refine op_val (v := .int .i64 x2) rfl rfl hF rfl (run_move rfl (hF.ev rfl)) ?_; clear hF; intro a hF
  refine op_val (v := .bool (ltB x2 1)) rfl rfl hF rfl (run_lss (hF.ev rfl) rfl rfl) ?_; clear hF; intro a hF
  refine op_val (v := .bool (ltB x2 1)) rfl rfl hF rfl (run_move rfl (hF.ev rfl)) ?_; clear hF; intro a hF
  refine op_gv (v := .pointer (some ⟨g0, 0, none⟩)) rfl rfl hF rfl (yf (gw_yield hF rfl rfl rfl)) (fun hg => (run_move rfl (hF.ev rfl))) ?_; clear hF; intro a hF
  refine op_gv (v := .pointer (some ⟨g0, 0, none⟩)) rfl rfl hF rfl (yf (gw_yield hF rfl rfl rfl)) (fun hg => (run_nilCheck rfl ((hF.ev rfl).trans (gv_t hg)))) ?_; clear hF; intro a hF
  refine op_gv (v := .pointer (some ⟨g0, 0, none⟩)) rfl rfl hF rfl (yf (gw_yield hF rfl rfl rfl)) (fun hg => (run_fieldAddr rfl fl67_0 ((hF.ev rfl).trans (gv_t hg)) rfl)) ?_; clear hF; intro a hF
  refine op_gv (v := .slice A0 x0.length c0) rfl rfl hF rfl (yf (gw_yield hF rfl rfl rfl)) (fun hg => (run_load1 rfl one22 ((hF.ev rfl).trans (gv_t hg)) ((S.free 0 rfl).cell rfl))) ?_; clear hF; intro a hF
  refine op_gv (v := .int .i64 (x0.length : Int)) rfl rfl hF rfl (yf (gw_yield hF rfl rfl rfl)) (fun hg => (run_lenL rfl rfl Tryd.underlying22 ((hF.ev rfl).trans (gv_t hg)))) ?_; clear hF; intro a hF
  refine op_gv (v := .bool ((x0.length : Int) == 0)) rfl rfl hF rfl (yf (gw_yield hF rfl rfl rfl)) (fun hg => (run_eql ((hF.ev rfl).trans (gv_t hg)) rfl rfl)) ?_; clear hF; intro a hF
  refine op_val (v := .bool ((ltB x2 1) || ((x0.length : Int) == 0))) rfl rfl hF rfl (run_pick_or rfl (hF.ev rfl) rfl (fun hp => ((hF.ev rfl).trans (gv_t (not_t hp))))) ?_; clear hF; intro a hF
  refine wpList_nil ?_
  cases hc101 : ((ltB x2 1) || ((x0.length : Int) == 0))
  · replace hM := bif_f hc101 hM
    refine cond_f hF rfl hc101 ?_
    refine wp_skip ?_
    refine wp_seq ?_
    refine wp_region_lit ?_
    refine op_val (v := .pointer (some ⟨g0, 0, none⟩)) rfl rfl hF rfl (run_move rfl (hF.ev rfl)) ?_; clear hF; intro a hF
    refine op_val (v := .pointer (some ⟨g0, 0, none⟩)) rfl rfl hF rfl (run_nilCheck rfl (hF.ev rfl)) ?_; clear hF; intro a hF
    refine op_val (v := .pointer (some ⟨g0, 1, none⟩)) rfl rfl hF rfl (run_fieldAddr rfl fl67_1 (hF.ev rfl) rfl) ?_; clear hF; intro a hF
    refine op_val (v := .int .i64 (w64 (x1 + 1))) rfl rfl hF rfl (run_load1 rfl one3 (hF.ev rfl) ((S.free 0 rfl).cell rfl)) ?_; clear hF; intro a hF
    refine op_val (v := .int .i64 (w64 ((w64 (x1 + 1)) - 1))) rfl rfl hF rfl (run_sub (z := w64 ((w64 (x1 + 1)) - 1)) (hF.ev rfl) rfl rfl rfl) ?_; clear hF; intro a hF
    refine op_val (v := .int .i64 (w64 ((w64 (x1 + 1)) - 1))) rfl rfl hF rfl (run_assign rfl (hF.ev rfl)) ?_; clear hF; intro a hF
    refine wpList_nil ?_
    refine wp_seq ?_
    refine wp_seq ?_
    refine wp_region_lit ?_
    refine op_val (v := .int .i64 (w64 ((w64 (x1 + 1)) - 1))) rfl rfl hF rfl (run_move rfl (hF.ev rfl)) ?_; clear hF; intro a hF
    refine op_val (v := .pointer (some ⟨g0, 0, none⟩)) rfl rfl hF rfl (run_move rfl (hF.ev rfl)) ?_; clear hF; intro a hF
    refine op_val (v := .pointer (some ⟨g0, 0, none⟩)) rfl rfl hF rfl (run_nilCheck rfl (hF.ev rfl)) ?_; clear hF; intro a hF
    refine op_val (v := .pointer (some ⟨g0, 0, none⟩)) rfl rfl hF rfl (run_fieldAddr rfl fl67_0 (hF.ev rfl) rfl) ?_; clear hF; intro a hF
    refine op_val (v := .slice A0 x0.length c0) rfl rfl hF rfl (run_load1 rfl one22 (hF.ev rfl) ((S.free 0 rfl).cell rfl)) ?_; clear hF; intro a hF
    refine op_val (v := .int .i64 (x0.length : Int)) rfl rfl hF rfl (run_lenL rfl rfl Tryd.underlying22 (hF.ev rfl)) ?_; clear hF; intro a hF
    refine op_val (v := .bool (ltB (w64 ((w64 (x1 + 1)) - 1)) (x0.length : Int))) rfl rfl hF rfl (run_lss (hF.ev rfl) (hF.ev rfl) rfl) ?_; clear hF; intro a hF
    refine wpList_nil ?_
    cases hc102 : (ltB (w64 ((w64 (x1 + 1)) - 1)) (x0.length : Int))
    · replace hM := bif_f hc102 hM
      refine cond_f hF rfl hc102 ?_
      refine wp_skip ?_
      refine wp_seq ?_
      obtain ⟨hk103, hM⟩ := chk_ex hM
      replace hk103 := nzB_t hk103
      obtain ⟨hk104, hM⟩ := chk_ex hM
      replace hk104 := ixB_t hk104
      obtain ⟨hk105, hM⟩ := chk_ex hM
      replace hk105 := nzB_t hk105
      obtain ⟨hk106, hM⟩ := chk_ex hM
      replace hk106 := ixB_t hk106
      obtain ⟨hk107, hM⟩ := chk_ex hM
      replace hk107 := nzB_t hk107
      refine region_gw (D := [47, 48, 49, 50, 51, 52, 53, 54, 55, 56, 57, 58, 59, 60, 61, 62, 63, 64, 65, 66, 67, 68, 69, 70, 71, 72, 73, 74, 75, 76, 77, 78, 79, 80, 81, 82, 83, 84, 85, 86, 87, 88, 89, 90, 91, 6]) (Lr := (Asn.box g0 67 #[.slice A0 x0.length c0, .int .i64 (w64 (x1 + 1))] :: X)) (deps := (fun | 0 => [47] | 1 => [48] | 2 => [49] | 3 => [50] | 4 => [51] | 5 => [52] | 6 => [53] | 7 => [54] | 8 => [55] | 9 => [56] | 10 => [57] | 11 => [58] | 12 => [59] | 13 => [60] | 14 => [61] | 15 => [62] | 16 => [63] | 17 => [64] | 18 => [65] | 19 => [66] | 20 => [67] | 21 => [68] | 22 => [69] | 23 => [70] | 24 => [71] | 25 => [72] | 26 => [73] | 27 => [74] | 28 => [75] | 29 => [76] | 30 => [77] | 31 => [78] | 32 => [79] | 33 => [80] | 34 => [81] | 35 => [82] | 36 => [83] | 37 => [84] | 38 => [85] | 39 => [86] | 40 => [87] | 41 => [88] | 42 => [89] | 43 => [90] | 44 => [91] | 45 => [6] | _ => [])) (rd := (fun _ => [])) (zr := (fun _ => []))
        (φ := fun i vs => match i, vs with | 0, [v47] => v47 = .pointer (some ⟨g0, 0, none⟩) | 1, [v48] => v48 = .pointer (some ⟨g0, 0, none⟩) | 2, [v49] => v49 = .pointer (some ⟨g0, 0, none⟩) | 3, [v50] => v50 = .slice A0 x0.length c0 | 4, [v51] => v51 = .int .i64 (w64 ((w64 (x1 + 1)) - 1)) | 5, [v52] => v52 = .pointer (some ⟨g0, 0, none⟩) | 6, [v53] => v53 = .pointer (some ⟨g0, 0, none⟩) | 7, [v54] => v54 = .pointer (some ⟨g0, 0, none⟩) | 8, [v55] => v55 = .slice A0 x0.length c0 | 9, [v56] => v56 = .int .i64 (x0.length : Int) | 10, [v57] => v57 = .int .i64 (Int.tmod (w64 ((w64 (x1 + 1)) - 1)) (x0.length : Int)) | 11, [v58] => v58 = .pointer (some ⟨adB A0, adO A0 + ((Int.tmod (w64 ((w64 (x1 + 1)) - 1)) (x0.length : Int)).toNat) * 1, none⟩) | 12, [v59] => v59 = .int .u8 (x0.getD ((Int.tmod (w64 ((w64 (x1 + 1)) - 1)) (x0.length : Int)).toNat) (0 : Int)) | 13, [v60] => v60 = .int .i64 (w64 ((x0.getD ((Int.tmod (w64 ((w64 (x1 + 1)) - 1)) (x0.length : Int)).toNat) (0 : Int)))) | 14, [v61] => v61 = .int .i64 (w64 ((w64 ((x0.getD ((Int.tmod (w64 ((w64 (x1 + 1)) - 1)) (x0.length : Int)).toNat) (0 : Int)))) * 131)) | 15, [v62] => v62 = .pointer (some ⟨g0, 0, none⟩) | 16, [v63] => v63 = .pointer (some ⟨g0, 0, none⟩) | 17, [v64] => v64 = .pointer (some ⟨g0, 0, none⟩) | 18, [v65] => v65 = .slice A0 x0.length c0 | 19, [v66] => v66 = .int .i64 (w64 ((w64 (x1 + 1)) - 1)) | 20, [v67] => v67 = .int .i64 (w64 ((w64 ((w64 (x1 + 1)) - 1)) * 7)) | 21, [v68] => v68 = .int .i64 (w64 ((w64 ((w64 ((w64 (x1 + 1)) - 1)) * 7)) + 3)) | 22, [v69] => v69 = .pointer (some ⟨g0, 0, none⟩) | 23, [v70] => v70 = .pointer (some ⟨g0, 0, none⟩) | 24, [v71] => v71 = .pointer (some ⟨g0, 0, none⟩) | 25, [v72] => v72 = .slice A0 x0.length c0 | 26, [v73] => v73 = .int .i64 (x0.length : Int) | 27, [v74] => v74 = .int .i64 (Int.tmod (w64 ((w64 ((w64 ((w64 (x1 + 1)) - 1)) * 7)) + 3)) (x0.length : Int)) | 28, [v75] => v75 = .pointer (some ⟨adB A0, adO A0 + ((Int.tmod (w64 ((w64 ((w64 ((w64 (x1 + 1)) - 1)) * 7)) + 3)) (x0.length : Int)).toNat) * 1, none⟩) | 29, [v76] => v76 = .int .u8 (x0.getD ((Int.tmod (w64 ((w64 ((w64 ((w64 (x1 + 1)) - 1)) * 7)) + 3)) (x0.length : Int)).toNat) (0 : Int)) | 30, [v77] => v77 = .int .i64 (w64 ((x0.getD ((Int.tmod (w64 ((w64 ((w64 ((w64 (x1 + 1)) - 1)) * 7)) + 3)) (x0.length : Int)).toNat) (0 : Int)))) | 31, [v78] => v78 = .int .i64 (w64 ((w64 ((x0.getD ((Int.tmod (w64 ((w64 ((w64 ((w64 (x1 + 1)) - 1)) * 7)) + 3)) (x0.length : Int)).toNat) (0 : Int)))) * 1117)) | 32, [v79] => v79 = .int .i64 (w64 ((w64 ((w64 ((x0.getD ((Int.tmod (w64 ((w64 (x1 + 1)) - 1)) (x0.length : Int)).toNat) (0 : Int)))) * 131)) + (w64 ((w64 ((x0.getD ((Int.tmod (w64 ((w64 ((w64 ((w64 (x1 + 1)) - 1)) * 7)) + 3)) (x0.length : Int)).toNat) (0 : Int)))) * 1117)))) | 33, [v80] => v80 = .int .i64 (w64 ((w64 (x1 + 1)) - 1)) | 34, [v81] => v81 = .int .i64 (w64 ((w64 ((w64 (x1 + 1)) - 1)) * 29)) | 35, [v82] => v82 = .int .i64 (w64 ((w64 ((w64 ((w64 ((x0.getD ((Int.tmod (w64 ((w64 (x1 + 1)) - 1)) (x0.length : Int)).toNat) (0 : Int)))) * 131)) + (w64 ((w64 ((x0.getD ((Int.tmod (w64 ((w64 ((w64 ((w64 (x1 + 1)) - 1)) * 7)) + 3)) (x0.length : Int)).toNat) (0 : Int)))) * 1117)))) + (w64 ((w64 ((w64 (x1 + 1)) - 1)) * 29)))) | 36, [v83] => v83 = .int .i64 (w64 ((w64 (x1 + 1)) - 1)) | 37, [v84] => v84 = .pointer (some ⟨g0, 0, none⟩) | 38, [v85] => v85 = .pointer (some ⟨g0, 0, none⟩) | 39, [v86] => v86 = .pointer (some ⟨g0, 0, none⟩) | 40, [v87] => v87 = .slice A0 x0.length c0 | 41, [v88] => v88 = .int .i64 (x0.length : Int) | 42, [v89] => v89 = .int .i64 (w64 (Int.tdiv (w64 ((w64 (x1 + 1)) - 1)) (x0.length : Int))) | 43, [v90] => v90 = .int .i64 (w64 ((w64 (Int.tdiv (w64 ((w64 (x1 + 1)) - 1)) (x0.length : Int))) * 53)) | 44, [v91] => v91 = .int .i64 (w64 ((w64 ((w64 ((w64 ((w64 ((x0.getD ((Int.tmod (w64 ((w64 (x1 + 1)) - 1)) (x0.length : Int)).toNat) (0 : Int)))) * 131)) + (w64 ((w64 ((x0.getD ((Int.tmod (w64 ((w64 ((w64 ((w64 (x1 + 1)) - 1)) * 7)) + 3)) (x0.length : Int)).toNat) (0 : Int)))) * 1117)))) + (w64 ((w64 ((w64 (x1 + 1)) - 1)) * 29)))) + (w64 ((w64 (Int.tdiv (w64 ((w64 (x1 + 1)) - 1)) (x0.length : Int))) * 53)))) | 45, [v6] => v6 = .int .i64 (w64 ((w64 ((w64 ((w64 ((w64 ((x0.getD ((Int.tmod (w64 ((w64 (x1 + 1)) - 1)) (x0.length : Int)).toNat) (0 : Int)))) * 131)) + (w64 ((w64 ((x0.getD ((Int.tmod (w64 ((w64 ((w64 ((w64 (x1 + 1)) - 1)) * 7)) + 3)) (x0.length : Int)).toNat) (0 : Int)))) * 1117)))) + (w64 ((w64 ((w64 (x1 + 1)) - 1)) * 29)))) + (w64 ((w64 (Int.tdiv (w64 ((w64 (x1 + 1)) - 1)) (x0.length : Int))) * 53)))) | _, _ => True)
        (C := fun _ _ => [])
        (κ := (fun _ => none)) (Z := (fun _ => [])) mixed hF (by kernel_rfl) S ?_ ?_
      · refine ⟨?_, ?_, ?_, ?_, ?_, ?_, ?_, ?_, ?_, ?_, ?_, ?_, ?_, ?_, ?_, ?_, ?_, ?_, ?_, ?_, ?_, ?_, ?_, ?_, ?_, ?_, ?_, ?_, ?_, ?_, ?_, ?_, ?_, ?_, ?_, ?_, ?_, ?_, ?_, ?_, ?_, ?_, ?_, ?_, ?_, ?_, trivial⟩
        · intro a u X' hB hu hp hr hz hl S
          replace S : St w0 u ([] ++ X') := S
          exact .inl ⟨rfl, .pointer (some ⟨g0, 0, none⟩), u, (run_move rfl (hF.evB hB rfl rfl)), rfl, S⟩
        · intro a u X' hB hu hp hr hz hl S
          replace S : St w0 u ([] ++ X') := S
          have e47 : sl a 47 = .pointer (some ⟨g0, 0, none⟩) := hp 0 rfl
          exact .inl ⟨rfl, .pointer (some ⟨g0, 0, none⟩), u, (run_nilCheck rfl (ev_sl e47)), rfl, S⟩
        · intro a u X' hB hu hp hr hz hl S
          replace S : St w0 u ([] ++ X') := S
          have e48 : sl a 48 = .pointer (some ⟨g0, 0, none⟩) := hp 1 rfl
          exact .inl ⟨rfl, .pointer (some ⟨g0, 0, none⟩), u, (run_fieldAddr rfl fl67_0 (ev_sl e48) rfl), rfl, S⟩
        · intro a u X' hB hu hp hr hz hl S
          replace S : St w0 u ([] ++ X') := S
          have e49 : sl a 49 = .pointer (some ⟨g0, 0, none⟩) := hp 2 rfl
          exact .inl ⟨rfl, .slice A0 x0.length c0, u, (run_load1 rfl one22 (ev_sl e49) ((gr_box S hl 0 rfl).cell rfl)), rfl, S⟩
        · intro a u X' hB hu hp hr hz hl S
          replace S : St w0 u ([] ++ X') := S
          exact .inl ⟨rfl, .int .i64 (w64 ((w64 (x1 + 1)) - 1)), u, (run_move rfl (hF.evB hB rfl rfl)), rfl, S⟩
        · intro a u X' hB hu hp hr hz hl S
          replace S : St w0 u ([] ++ X') := S
          exact .inl ⟨rfl, .pointer (some ⟨g0, 0, none⟩), u, (run_move rfl (hF.evB hB rfl rfl)), rfl, S⟩
        · intro a u X' hB hu hp hr hz hl S
          replace S : St w0 u ([] ++ X') := S
          have e52 : sl a 52 = .pointer (some ⟨g0, 0, none⟩) := hp 5 rfl
          exact .inl ⟨rfl, .pointer (some ⟨g0, 0, none⟩), u, (run_nilCheck rfl (ev_sl e52)), rfl, S⟩
        · intro a u X' hB hu hp hr hz hl S
          replace S : St w0 u ([] ++ X') := S
          have e53 : sl a 53 = .pointer (some ⟨g0, 0, none⟩) := hp 6 rfl
          exact .inl ⟨rfl, .pointer (some ⟨g0, 0, none⟩), u, (run_fieldAddr rfl fl67_0 (ev_sl e53) rfl), rfl, S⟩
        · intro a u X' hB hu hp hr hz hl S
          replace S : St w0 u ([] ++ X') := S
          have e54 : sl a 54 = .pointer (some ⟨g0, 0, none⟩) := hp 7 rfl
          exact .inl ⟨rfl, .slice A0 x0.length c0, u, (run_load1 rfl one22 (ev_sl e54) ((gr_box S hl 0 rfl).cell rfl)), rfl, S⟩
        · intro a u X' hB hu hp hr hz hl S
          replace S : St w0 u ([] ++ X') := S
          have e55 : sl a 55 = .slice A0 x0.length c0 := hp 8 rfl
          exact .inl ⟨rfl, .int .i64 (x0.length : Int), u, (run_lenL rfl rfl Tryd.underlying22 (ev_sl e55)), rfl, S⟩
        · intro a u X' hB hu hp hr hz hl S
          replace S : St w0 u ([] ++ X') := S
          have e51 : sl a 51 = .int .i64 (w64 ((w64 (x1 + 1)) - 1)) := hp 4 rfl
          have e56 : sl a 56 = .int .i64 (x0.length : Int) := hp 9 rfl
          exact .inl ⟨rfl, .int .i64 (Int.tmod (w64 ((w64 (x1 + 1)) - 1)) (x0.length : Int)), u, (run_rem (z := Int.tmod (w64 ((w64 (x1 + 1)) - 1)) (x0.length : Int)) (ev_sl e51) (ev_sl e56) rfl hk103 rfl), rfl, S⟩
        · intro a u X' hB hu hp hr hz hl S
          replace S : St w0 u ([] ++ X') := S
          have e50 : sl a 50 = .slice A0 x0.length c0 := hp 3 rfl
          have e57 : sl a 57 = .int .i64 (Int.tmod (w64 ((w64 (x1 + 1)) - 1)) (x0.length : Int)) := hp 10 rfl
          exact .inl ⟨rfl, .pointer (some ⟨adB A0, adO A0 + ((Int.tmod (w64 ((w64 (x1 + 1)) - 1)) (x0.length : Int)).toNat) * 1, none⟩), u, (run_indexAddr (b := adB A0) (off := adO A0) rfl Tryd.underlying22 sz5 ((ev_sl e50).trans (congrArg (fun A => Value.slice A x0.length c0) ((S.rc0 h0.rc).rd.ad (ix_pos hk104)))) (ev_sl e57) hk104.1 hk104.2 (k' := adO A0 + ((Int.tmod (w64 ((w64 (x1 + 1)) - 1)) (x0.length : Int)).toNat) * 1) rfl), rfl, S⟩
        · intro a u X' hB hu hp hr hz hl S
          replace S : St w0 u ([] ++ X') := S
          have e58 : sl a 58 = .pointer (some ⟨adB A0, adO A0 + ((Int.tmod (w64 ((w64 (x1 + 1)) - 1)) (x0.length : Int)).toNat) * 1, none⟩) := hp 11 rfl
          exact .inl ⟨rfl, .int .u8 (x0.getD ((Int.tmod (w64 ((w64 (x1 + 1)) - 1)) (x0.length : Int)).toNat) (0 : Int)), u, (run_load1 rfl one5 (ev_sl e58) (rd_el0 (l := x0) (S.rc0 h0.rc).rd rfl eU_len (0 : Int) (ix_ltn hk104 rfl) rfl)), rfl, S⟩
        · intro a u X' hB hu hp hr hz hl S
          replace S : St w0 u ([] ++ X') := S
          have e59 : sl a 59 = .int .u8 (x0.getD ((Int.tmod (w64 ((w64 (x1 + 1)) - 1)) (x0.length : Int)).toNat) (0 : Int)) := hp 12 rfl
          exact .inl ⟨rfl, .int .i64 (w64 ((x0.getD ((Int.tmod (w64 ((w64 (x1 + 1)) - 1)) (x0.length : Int)).toNat) (0 : Int)))), u, (run_convI rfl Tryd.underlying5 Tryd.underlying3 (ev_sl e59)), rfl, S⟩
        · intro a u X' hB hu hp hr hz hl S
          replace S : St w0 u ([] ++ X') := S
          have e60 : sl a 60 = .int .i64 (w64 ((x0.getD ((Int.tmod (w64 ((w64 (x1 + 1)) - 1)) (x0.length : Int)).toNat) (0 : Int)))) := hp 13 rfl
          exact .inl ⟨rfl, .int .i64 (w64 ((w64 ((x0.getD ((Int.tmod (w64 ((w64 (x1 + 1)) - 1)) (x0.length : Int)).toNat) (0 : Int)))) * 131)), u, (run_mul (z := w64 ((w64 ((x0.getD ((Int.tmod (w64 ((w64 (x1 + 1)) - 1)) (x0.length : Int)).toNat) (0 : Int)))) * 131)) (ev_sl e60) (ev_const _ _) rfl rfl), rfl, S⟩
        · intro a u X' hB hu hp hr hz hl S
          replace S : St w0 u ([] ++ X') := S
          exact .inl ⟨rfl, .pointer (some ⟨g0, 0, none⟩), u, (run_move rfl (hF.evB hB rfl rfl)), rfl, S⟩
        · intro a u X' hB hu hp hr hz hl S
          replace S : St w0 u ([] ++ X') := S
          have e62 : sl a 62 = .pointer (some ⟨g0, 0, none⟩) := hp 15 rfl
          exact .inl ⟨rfl, .pointer (some ⟨g0, 0, none⟩), u, (run_nilCheck rfl (ev_sl e62)), rfl, S⟩
        · intro a u X' hB hu hp hr hz hl S
          replace S : St w0 u ([] ++ X') := S
          have e63 : sl a 63 = .pointer (some ⟨g0, 0, none⟩) := hp 16 rfl
          exact .inl ⟨rfl, .pointer (some ⟨g0, 0, none⟩), u, (run_fieldAddr rfl fl67_0 (ev_sl e63) rfl), rfl, S⟩
        · intro a u X' hB hu hp hr hz hl S
          replace S : St w0 u ([] ++ X') := S
          have e64 : sl a 64 = .pointer (some ⟨g0, 0, none⟩) := hp 17 rfl
          exact .inl ⟨rfl, .slice A0 x0.length c0, u, (run_load1 rfl one22 (ev_sl e64) ((gr_box S hl 0 rfl).cell rfl)), rfl, S⟩
        · intro a u X' hB hu hp hr hz hl S
          replace S : St w0 u ([] ++ X') := S
          exact .inl ⟨rfl, .int .i64 (w64 ((w64 (x1 + 1)) - 1)), u, (run_move rfl (hF.evB hB rfl rfl)), rfl, S⟩
        · intro a u X' hB hu hp hr hz hl S
          replace S : St w0 u ([] ++ X') := S
          have e66 : sl a 66 = .int .i64 (w64 ((w64 (x1 + 1)) - 1)) := hp 19 rfl
          exact .inl ⟨rfl, .int .i64 (w64 ((w64 ((w64 (x1 + 1)) - 1)) * 7)), u, (run_mul (z := w64 ((w64 ((w64 (x1 + 1)) - 1)) * 7)) (ev_sl e66) (ev_const _ _) rfl rfl), rfl, S⟩
        · intro a u X' hB hu hp hr hz hl S
          replace S : St w0 u ([] ++ X') := S
          have e67 : sl a 67 = .int .i64 (w64 ((w64 ((w64 (x1 + 1)) - 1)) * 7)) := hp 20 rfl
          exact .inl ⟨rfl, .int .i64 (w64 ((w64 ((w64 ((w64 (x1 + 1)) - 1)) * 7)) + 3)), u, (run_add (z := w64 ((w64 ((w64 ((w64 (x1 + 1)) - 1)) * 7)) + 3)) (ev_sl e67) (ev_const _ _) rfl rfl), rfl, S⟩
        · intro a u X' hB hu hp hr hz hl S
          replace S : St w0 u ([] ++ X') := S
          exact .inl ⟨rfl, .pointer (some ⟨g0, 0, none⟩), u, (run_move rfl (hF.evB hB rfl rfl)), rfl, S⟩
        · intro a u X' hB hu hp hr hz hl S
          replace S : St w0 u ([] ++ X') := S
          have e69 : sl a 69 = .pointer (some ⟨g0, 0, none⟩) := hp 22 rfl
          exact .inl ⟨rfl, .pointer (some ⟨g0, 0, none⟩), u, (run_nilCheck rfl (ev_sl e69)), rfl, S⟩
        · intro a u X' hB hu hp hr hz hl S
          replace S : St w0 u ([] ++ X') := S
          have e70 : sl a 70 = .pointer (some ⟨g0, 0, none⟩) := hp 23 rfl
          exact .inl ⟨rfl, .pointer (some ⟨g0, 0, none⟩), u, (run_fieldAddr rfl fl67_0 (ev_sl e70) rfl), rfl, S⟩
        · intro a u X' hB hu hp hr hz hl S
          replace S : St w0 u ([] ++ X') := S
          have e71 : sl a 71 = .pointer (some ⟨g0, 0, none⟩) := hp 24 rfl
          exact .inl ⟨rfl, .slice A0 x0.length c0, u, (run_load1 rfl one22 (ev_sl e71) ((gr_box S hl 0 rfl).cell rfl)), rfl, S⟩
        · intro a u X' hB hu hp hr hz hl S
          replace S : St w0 u ([] ++ X') := S
          have e72 : sl a 72 = .slice A0 x0.length c0 := hp 25 rfl
          exact .inl ⟨rfl, .int .i64 (x0.length : Int), u, (run_lenL rfl rfl Tryd.underlying22 (ev_sl e72)), rfl, S⟩
        · intro a u X' hB hu hp hr hz hl S
          replace S : St w0 u ([] ++ X') := S
          have e68 : sl a 68 = .int .i64 (w64 ((w64 ((w64 ((w64 (x1 + 1)) - 1)) * 7)) + 3)) := hp 21 rfl
          have e73 : sl a 73 = .int .i64 (x0.length : Int) := hp 26 rfl
          exact .inl ⟨rfl, .int .i64 (Int.tmod (w64 ((w64 ((w64 ((w64 (x1 + 1)) - 1)) * 7)) + 3)) (x0.length : Int)), u, (run_rem (z := Int.tmod (w64 ((w64 ((w64 ((w64 (x1 + 1)) - 1)) * 7)) + 3)) (x0.length : Int)) (ev_sl e68) (ev_sl e73) rfl hk105 rfl), rfl, S⟩
        · intro a u X' hB hu hp hr hz hl S
          replace S : St w0 u ([] ++ X') := S
          have e65 : sl a 65 = .slice A0 x0.length c0 := hp 18 rfl
          have e74 : sl a 74 = .int .i64 (Int.tmod (w64 ((w64 ((w64 ((w64 (x1 + 1)) - 1)) * 7)) + 3)) (x0.length : Int)) := hp 27 rfl
          exact .inl ⟨rfl, .pointer (some ⟨adB A0, adO A0 + ((Int.tmod (w64 ((w64 ((w64 ((w64 (x1 + 1)) - 1)) * 7)) + 3)) (x0.length : Int)).toNat) * 1, none⟩), u, (run_indexAddr (b := adB A0) (off := adO A0) rfl Tryd.underlying22 sz5 ((ev_sl e65).trans (congrArg (fun A => Value.slice A x0.length c0) ((S.rc0 h0.rc).rd.ad (ix_pos hk106)))) (ev_sl e74) hk106.1 hk106.2 (k' := adO A0 + ((Int.tmod (w64 ((w64 ((w64 ((w64 (x1 + 1)) - 1)) * 7)) + 3)) (x0.length : Int)).toNat) * 1) rfl), rfl, S⟩
        · intro a u X' hB hu hp hr hz hl S
          replace S : St w0 u ([] ++ X') := S
          have e75 : sl a 75 = .pointer (some ⟨adB A0, adO A0 + ((Int.tmod (w64 ((w64 ((w64 ((w64 (x1 + 1)) - 1)) * 7)) + 3)) (x0.length : Int)).toNat) * 1, none⟩) := hp 28 rfl
          exact .inl ⟨rfl, .int .u8 (x0.getD ((Int.tmod (w64 ((w64 ((w64 ((w64 (x1 + 1)) - 1)) * 7)) + 3)) (x0.length : Int)).toNat) (0 : Int)), u, (run_load1 rfl one5 (ev_sl e75) (rd_el0 (l := x0) (S.rc0 h0.rc).rd rfl eU_len (0 : Int) (ix_ltn hk106 rfl) rfl)), rfl, S⟩
        · intro a u X' hB hu hp hr hz hl S
          replace S : St w0 u ([] ++ X') := S
          have e76 : sl a 76 = .int .u8 (x0.getD ((Int.tmod (w64 ((w64 ((w64 ((w64 (x1 + 1)) - 1)) * 7)) + 3)) (x0.length : Int)).toNat) (0 : Int)) := hp 29 rfl
          exact .inl ⟨rfl, .int .i64 (w64 ((x0.getD ((Int.tmod (w64 ((w64 ((w64 ((w64 (x1 + 1)) - 1)) * 7)) + 3)) (x0.length : Int)).toNat) (0 : Int)))), u, (run_convI rfl Tryd.underlying5 Tryd.underlying3 (ev_sl e76)), rfl, S⟩
        · intro a u X' hB hu hp hr hz hl S
          replace S : St w0 u ([] ++ X') := S
          have e77 : sl a 77 = .int .i64 (w64 ((x0.getD ((Int.tmod (w64 ((w64 ((w64 ((w64 (x1 + 1)) - 1)) * 7)) + 3)) (x0.length : Int)).toNat) (0 : Int)))) := hp 30 rfl
          exact .inl ⟨rfl, .int .i64 (w64 ((w64 ((x0.getD ((Int.tmod (w64 ((w64 ((w64 ((w64 (x1 + 1)) - 1)) * 7)) + 3)) (x0.length : Int)).toNat) (0 : Int)))) * 1117)), u, (run_mul (z := w64 ((w64 ((x0.getD ((Int.tmod (w64 ((w64 ((w64 ((w64 (x1 + 1)) - 1)) * 7)) + 3)) (x0.length : Int)).toNat) (0 : Int)))) * 1117)) (ev_sl e77) (ev_const _ _) rfl rfl), rfl, S⟩
        · intro a u X' hB hu hp hr hz hl S
          replace S : St w0 u ([] ++ X') := S
          have e61 : sl a 61 = .int .i64 (w64 ((w64 ((x0.getD ((Int.tmod (w64 ((w64 (x1 + 1)) - 1)) (x0.length : Int)).toNat) (0 : Int)))) * 131)) := hp 14 rfl
          have e78 : sl a 78 = .int .i64 (w64 ((w64 ((x0.getD ((Int.tmod (w64 ((w64 ((w64 ((w64 (x1 + 1)) - 1)) * 7)) + 3)) (x0.length : Int)).toNat) (0 : Int)))) * 1117)) := hp 31 rfl
          exact .inl ⟨rfl, .int .i64 (w64 ((w64 ((w64 ((x0.getD ((Int.tmod (w64 ((w64 (x1 + 1)) - 1)) (x0.length : Int)).toNat) (0 : Int)))) * 131)) + (w64 ((w64 ((x0.getD ((Int.tmod (w64 ((w64 ((w64 ((w64 (x1 + 1)) - 1)) * 7)) + 3)) (x0.length : Int)).toNat) (0 : Int)))) * 1117)))), u, (run_add (z := w64 ((w64 ((w64 ((x0.getD ((Int.tmod (w64 ((w64 (x1 + 1)) - 1)) (x0.length : Int)).toNat) (0 : Int)))) * 131)) + (w64 ((w64 ((x0.getD ((Int.tmod (w64 ((w64 ((w64 ((w64 (x1 + 1)) - 1)) * 7)) + 3)) (x0.length : Int)).toNat) (0 : Int)))) * 1117)))) (ev_sl e61) (ev_sl e78) rfl rfl), rfl, S⟩
        · intro a u X' hB hu hp hr hz hl S
          replace S : St w0 u ([] ++ X') := S
          exact .inl ⟨rfl, .int .i64 (w64 ((w64 (x1 + 1)) - 1)), u, (run_move rfl (hF.evB hB rfl rfl)), rfl, S⟩
        · intro a u X' hB hu hp hr hz hl S
          replace S : St w0 u ([] ++ X') := S
          have e80 : sl a 80 = .int .i64 (w64 ((w64 (x1 + 1)) - 1)) := hp 33 rfl
          exact .inl ⟨rfl, .int .i64 (w64 ((w64 ((w64 (x1 + 1)) - 1)) * 29)), u, (run_mul (z := w64 ((w64 ((w64 (x1 + 1)) - 1)) * 29)) (ev_sl e80) (ev_const _ _) rfl rfl), rfl, S⟩
        · intro a u X' hB hu hp hr hz hl S
          replace S : St w0 u ([] ++ X') := S
          have e79 : sl a 79 = .int .i64 (w64 ((w64 ((w64 ((x0.getD ((Int.tmod (w64 ((w64 (x1 + 1)) - 1)) (x0.length : Int)).toNat) (0 : Int)))) * 131)) + (w64 ((w64 ((x0.getD ((Int.tmod (w64 ((w64 ((w64 ((w64 (x1 + 1)) - 1)) * 7)) + 3)) (x0.length : Int)).toNat) (0 : Int)))) * 1117)))) := hp 32 rfl
          have e81 : sl a 81 = .int .i64 (w64 ((w64 ((w64 (x1 + 1)) - 1)) * 29)) := hp 34 rfl
          exact .inl ⟨rfl, .int .i64 (w64 ((w64 ((w64 ((w64 ((x0.getD ((Int.tmod (w64 ((w64 (x1 + 1)) - 1)) (x0.length : Int)).toNat) (0 : Int)))) * 131)) + (w64 ((w64 ((x0.getD ((Int.tmod (w64 ((w64 ((w64 ((w64 (x1 + 1)) - 1)) * 7)) + 3)) (x0.length : Int)).toNat) (0 : Int)))) * 1117)))) + (w64 ((w64 ((w64 (x1 + 1)) - 1)) * 29)))), u, (run_add (z := w64 ((w64 ((w64 ((w64 ((x0.getD ((Int.tmod (w64 ((w64 (x1 + 1)) - 1)) (x0.length : Int)).toNat) (0 : Int)))) * 131)) + (w64 ((w64 ((x0.getD ((Int.tmod (w64 ((w64 ((w64 ((w64 (x1 + 1)) - 1)) * 7)) + 3)) (x0.length : Int)).toNat) (0 : Int)))) * 1117)))) + (w64 ((w64 ((w64 (x1 + 1)) - 1)) * 29)))) (ev_sl e79) (ev_sl e81) rfl rfl), rfl, S⟩
        · intro a u X' hB hu hp hr hz hl S
          replace S : St w0 u ([] ++ X') := S
          exact .inl ⟨rfl, .int .i64 (w64 ((w64 (x1 + 1)) - 1)), u, (run_move rfl (hF.evB hB rfl rfl)), rfl, S⟩
        · intro a u X' hB hu hp hr hz hl S
          replace S : St w0 u ([] ++ X') := S
          exact .inl ⟨rfl, .pointer (some ⟨g0, 0, none⟩), u, (run_move rfl (hF.evB hB rfl rfl)), rfl, S⟩
        · intro a u X' hB hu hp hr hz hl S
          replace S : St w0 u ([] ++ X') := S
          have e84 : sl a 84 = .pointer (some ⟨g0, 0, none⟩) := hp 37 rfl
          exact .inl ⟨rfl, .pointer (some ⟨g0, 0, none⟩), u, (run_nilCheck rfl (ev_sl e84)), rfl, S⟩
        · intro a u X' hB hu hp hr hz hl S
          replace S : St w0 u ([] ++ X') := S
          have e85 : sl a 85 = .pointer (some ⟨g0, 0, none⟩) := hp 38 rfl
          exact .inl ⟨rfl, .pointer (some ⟨g0, 0, none⟩), u, (run_fieldAddr rfl fl67_0 (ev_sl e85) rfl), rfl, S⟩
        · intro a u X' hB hu hp hr hz hl S
          replace S : St w0 u ([] ++ X') := S
          have e86 : sl a 86 = .pointer (some ⟨g0, 0, none⟩) := hp 39 rfl
          exact .inl ⟨rfl, .slice A0 x0.length c0, u, (run_load1 rfl one22 (ev_sl e86) ((gr_box S hl 0 rfl).cell rfl)), rfl, S⟩
        · intro a u X' hB hu hp hr hz hl S
          replace S : St w0 u ([] ++ X') := S
          have e87 : sl a 87 = .slice A0 x0.length c0 := hp 40 rfl
          exact .inl ⟨rfl, .int .i64 (x0.length : Int), u, (run_lenL rfl rfl Tryd.underlying22 (ev_sl e87)), rfl, S⟩
        · intro a u X' hB hu hp hr hz hl S
          replace S : St w0 u ([] ++ X') := S
          have e83 : sl a 83 = .int .i64 (w64 ((w64 (x1 + 1)) - 1)) := hp 36 rfl
          have e88 : sl a 88 = .int .i64 (x0.length : Int) := hp 41 rfl
          exact .inl ⟨rfl, .int .i64 (w64 (Int.tdiv (w64 ((w64 (x1 + 1)) - 1)) (x0.length : Int))), u, (run_quo (z := w64 (Int.tdiv (w64 ((w64 (x1 + 1)) - 1)) (x0.length : Int))) (ev_sl e83) (ev_sl e88) rfl hk107 rfl), rfl, S⟩
        · intro a u X' hB hu hp hr hz hl S
          replace S : St w0 u ([] ++ X') := S
          have e89 : sl a 89 = .int .i64 (w64 (Int.tdiv (w64 ((w64 (x1 + 1)) - 1)) (x0.length : Int))) := hp 42 rfl
          exact .inl ⟨rfl, .int .i64 (w64 ((w64 (Int.tdiv (w64 ((w64 (x1 + 1)) - 1)) (x0.length : Int))) * 53)), u, (run_mul (z := w64 ((w64 (Int.tdiv (w64 ((w64 (x1 + 1)) - 1)) (x0.length : Int))) * 53)) (ev_sl e89) (ev_const _ _) rfl rfl), rfl, S⟩
        · intro a u X' hB hu hp hr hz hl S
          replace S : St w0 u ([] ++ X') := S
          have e82 : sl a 82 = .int .i64 (w64 ((w64 ((w64 ((w64 ((x0.getD ((Int.tmod (w64 ((w64 (x1 + 1)) - 1)) (x0.length : Int)).toNat) (0 : Int)))) * 131)) + (w64 ((w64 ((x0.getD ((Int.tmod (w64 ((w64 ((w64 ((w64 (x1 + 1)) - 1)) * 7)) + 3)) (x0.length : Int)).toNat) (0 : Int)))) * 1117)))) + (w64 ((w64 ((w64 (x1 + 1)) - 1)) * 29)))) := hp 35 rfl
          have e90 : sl a 90 = .int .i64 (w64 ((w64 (Int.tdiv (w64 ((w64 (x1 + 1)) - 1)) (x0.length : Int))) * 53)) := hp 43 rfl
          exact .inl ⟨rfl, .int .i64 (w64 ((w64 ((w64 ((w64 ((w64 ((x0.getD ((Int.tmod (w64 ((w64 (x1 + 1)) - 1)) (x0.length : Int)).toNat) (0 : Int)))) * 131)) + (w64 ((w64 ((x0.getD ((Int.tmod (w64 ((w64 ((w64 ((w64 (x1 + 1)) - 1)) * 7)) + 3)) (x0.length : Int)).toNat) (0 : Int)))) * 1117)))) + (w64 ((w64 ((w64 (x1 + 1)) - 1)) * 29)))) + (w64 ((w64 (Int.tdiv (w64 ((w64 (x1 + 1)) - 1)) (x0.length : Int))) * 53)))), u, (run_add (z := w64 ((w64 ((w64 ((w64 ((w64 ((x0.getD ((Int.tmod (w64 ((w64 (x1 + 1)) - 1)) (x0.length : Int)).toNat) (0 : Int)))) * 131)) + (w64 ((w64 ((x0.getD ((Int.tmod (w64 ((w64 ((w64 ((w64 (x1 + 1)) - 1)) * 7)) + 3)) (x0.length : Int)).toNat) (0 : Int)))) * 1117)))) + (w64 ((w64 ((w64 (x1 + 1)) - 1)) * 29)))) + (w64 ((w64 (Int.tdiv (w64 ((w64 (x1 + 1)) - 1)) (x0.length : Int))) * 53)))) (ev_sl e82) (ev_sl e90) rfl rfl), rfl, S⟩
        · intro a u X' hB hu hp hr hz hl S
          replace S : St w0 u ([] ++ X') := S
          have e91 : sl a 91 = .int .i64 (w64 ((w64 ((w64 ((w64 ((w64 ((x0.getD ((Int.tmod (w64 ((w64 (x1 + 1)) - 1)) (x0.length : Int)).toNat) (0 : Int)))) * 131)) + (w64 ((w64 ((x0.getD ((Int.tmod (w64 ((w64 ((w64 ((w64 (x1 + 1)) - 1)) * 7)) + 3)) (x0.length : Int)).toNat) (0 : Int)))) * 1117)))) + (w64 ((w64 ((w64 (x1 + 1)) - 1)) * 29)))) + (w64 ((w64 (Int.tdiv (w64 ((w64 (x1 + 1)) - 1)) (x0.length : Int))) * 53)))) := hp 44 rfl
          exact .inl ⟨rfl, .int .i64 (w64 ((w64 ((w64 ((w64 ((w64 ((x0.getD ((Int.tmod (w64 ((w64 (x1 + 1)) - 1)) (x0.length : Int)).toNat) (0 : Int)))) * 131)) + (w64 ((w64 ((x0.getD ((Int.tmod (w64 ((w64 ((w64 ((w64 (x1 + 1)) - 1)) * 7)) + 3)) (x0.length : Int)).toNat) (0 : Int)))) * 1117)))) + (w64 ((w64 ((w64 (x1 + 1)) - 1)) * 29)))) + (w64 ((w64 (Int.tdiv (w64 ((w64 (x1 + 1)) - 1)) (x0.length : Int))) * 53)))), u, (run_assign rfl (ev_sl e91)), rfl, S⟩
      · intro a u hB hp S
        obtain ⟨q0, q1, q2, q3, q4, q5, q6, q7, q8, q9, q10, q11, q12, q13, q14, q15, q16, q17, q18, q19, q20, q21, q22, q23, q24, q25, q26, q27, q28, q29, q30, q31, q32, q33, q34, q35, q36, q37, q38, q39, q40, q41, q42, q43, q44, q45, _⟩ := hp
        have e47 : sl a 47 = .pointer (some ⟨g0, 0, none⟩) := q0
        have e48 : sl a 48 = .pointer (some ⟨g0, 0, none⟩) := q1
        have e49 : sl a 49 = .pointer (some ⟨g0, 0, none⟩) := q2
        have e50 : sl a 50 = .slice A0 x0.length c0 := q3
        have e51 : sl a 51 = .int .i64 (w64 ((w64 (x1 + 1)) - 1)) := q4
        have e52 : sl a 52 = .pointer (some ⟨g0, 0, none⟩) := q5
        have e53 : sl a 53 = .pointer (some ⟨g0, 0, none⟩) := q6
        have e54 : sl a 54 = .pointer (some ⟨g0, 0, none⟩) := q7
        have e55 : sl a 55 = .slice A0 x0.length c0 := q8
        have e56 : sl a 56 = .int .i64 (x0.length : Int) := q9
        have e57 : sl a 57 = .int .i64 (Int.tmod (w64 ((w64 (x1 + 1)) - 1)) (x0.length : Int)) := q10
        have e58 : sl a 58 = .pointer (some ⟨adB A0, adO A0 + ((Int.tmod (w64 ((w64 (x1 + 1)) - 1)) (x0.length : Int)).toNat) * 1, none⟩) := q11
        have e59 : sl a 59 = .int .u8 (x0.getD ((Int.tmod (w64 ((w64 (x1 + 1)) - 1)) (x0.length : Int)).toNat) (0 : Int)) := q12
        have e60 : sl a 60 = .int .i64 (w64 ((x0.getD ((Int.tmod (w64 ((w64 (x1 + 1)) - 1)) (x0.length : Int)).toNat) (0 : Int)))) := q13
        have e61 : sl a 61 = .int .i64 (w64 ((w64 ((x0.getD ((Int.tmod (w64 ((w64 (x1 + 1)) - 1)) (x0.length : Int)).toNat) (0 : Int)))) * 131)) := q14
        have e62 : sl a 62 = .pointer (some ⟨g0, 0, none⟩) := q15
        have e63 : sl a 63 = .pointer (some ⟨g0, 0, none⟩) := q16
        have e64 : sl a 64 = .pointer (some ⟨g0, 0, none⟩) := q17
        have e65 : sl a 65 = .slice A0 x0.length c0 := q18
        have e66 : sl a 66 = .int .i64 (w64 ((w64 (x1 + 1)) - 1)) := q19
        have e67 : sl a 67 = .int .i64 (w64 ((w64 ((w64 (x1 + 1)) - 1)) * 7)) := q20
        have e68 : sl a 68 = .int .i64 (w64 ((w64 ((w64 ((w64 (x1 + 1)) - 1)) * 7)) + 3)) := q21
        have e69 : sl a 69 = .pointer (some ⟨g0, 0, none⟩) := q22
        have e70 : sl a 70 = .pointer (some ⟨g0, 0, none⟩) := q23
        have e71 : sl a 71 = .pointer (some ⟨g0, 0, none⟩) := q24
        have e72 : sl a 72 = .slice A0 x0.length c0 := q25
        have e73 : sl a 73 = .int .i64 (x0.length : Int) := q26
        have e74 : sl a 74 = .int .i64 (Int.tmod (w64 ((w64 ((w64 ((w64 (x1 + 1)) - 1)) * 7)) + 3)) (x0.length : Int)) := q27
        have e75 : sl a 75 = .pointer (some ⟨adB A0, adO A0 + ((Int.tmod (w64 ((w64 ((w64 ((w64 (x1 + 1)) - 1)) * 7)) + 3)) (x0.length : Int)).toNat) * 1, none⟩) := q28
        have e76 : sl a 76 = .int .u8 (x0.getD ((Int.tmod (w64 ((w64 ((w64 ((w64 (x1 + 1)) - 1)) * 7)) + 3)) (x0.length : Int)).toNat) (0 : Int)) := q29
        have e77 : sl a 77 = .int .i64 (w64 ((x0.getD ((Int.tmod (w64 ((w64 ((w64 ((w64 (x1 + 1)) - 1)) * 7)) + 3)) (x0.length : Int)).toNat) (0 : Int)))) := q30
        have e78 : sl a 78 = .int .i64 (w64 ((w64 ((x0.getD ((Int.tmod (w64 ((w64 ((w64 ((w64 (x1 + 1)) - 1)) * 7)) + 3)) (x0.length : Int)).toNat) (0 : Int)))) * 1117)) := q31
        have e79 : sl a 79 = .int .i64 (w64 ((w64 ((w64 ((x0.getD ((Int.tmod (w64 ((w64 (x1 + 1)) - 1)) (x0.length : Int)).toNat) (0 : Int)))) * 131)) + (w64 ((w64 ((x0.getD ((Int.tmod (w64 ((w64 ((w64 ((w64 (x1 + 1)) - 1)) * 7)) + 3)) (x0.length : Int)).toNat) (0 : Int)))) * 1117)))) := q32
        have e80 : sl a 80 = .int .i64 (w64 ((w64 (x1 + 1)) - 1)) := q33
        have e81 : sl a 81 = .int .i64 (w64 ((w64 ((w64 (x1 + 1)) - 1)) * 29)) := q34
        have e82 : sl a 82 = .int .i64 (w64 ((w64 ((w64 ((w64 ((x0.getD ((Int.tmod (w64 ((w64 (x1 + 1)) - 1)) (x0.length : Int)).toNat) (0 : Int)))) * 131)) + (w64 ((w64 ((x0.getD ((Int.tmod (w64 ((w64 ((w64 ((w64 (x1 + 1)) - 1)) * 7)) + 3)) (x0.length : Int)).toNat) (0 : Int)))) * 1117)))) + (w64 ((w64 ((w64 (x1 + 1)) - 1)) * 29)))) := q35
        have e83 : sl a 83 = .int .i64 (w64 ((w64 (x1 + 1)) - 1)) := q36
        have e84 : sl a 84 = .pointer (some ⟨g0, 0, none⟩) := q37
        have e85 : sl a 85 = .pointer (some ⟨g0, 0, none⟩) := q38
        have e86 : sl a 86 = .pointer (some ⟨g0, 0, none⟩) := q39
        have e87 : sl a 87 = .slice A0 x0.length c0 := q40
        have e88 : sl a 88 = .int .i64 (x0.length : Int) := q41
        have e89 : sl a 89 = .int .i64 (w64 (Int.tdiv (w64 ((w64 (x1 + 1)) - 1)) (x0.length : Int))) := q42
        have e90 : sl a 90 = .int .i64 (w64 ((w64 (Int.tdiv (w64 ((w64 (x1 + 1)) - 1)) (x0.length : Int))) * 53)) := q43
        have e91 : sl a 91 = .int .i64 (w64 ((w64 ((w64 ((w64 ((w64 ((x0.getD ((Int.tmod (w64 ((w64 (x1 + 1)) - 1)) (x0.length : Int)).toNat) (0 : Int)))) * 131)) + (w64 ((w64 ((x0.getD ((Int.tmod (w64 ((w64 ((w64 ((w64 (x1 + 1)) - 1)) * 7)) + 3)) (x0.length : Int)).toNat) (0 : Int)))) * 1117)))) + (w64 ((w64 ((w64 (x1 + 1)) - 1)) * 29)))) + (w64 ((w64 (Int.tdiv (w64 ((w64 (x1 + 1)) - 1)) (x0.length : Int))) * 53)))) := q44
        have e6 : sl a 6 = .int .i64 (w64 ((w64 ((w64 ((w64 ((w64 ((x0.getD ((Int.tmod (w64 ((w64 (x1 + 1)) - 1)) (x0.length : Int)).toNat) (0 : Int)))) * 131)) + (w64 ((w64 ((x0.getD ((Int.tmod (w64 ((w64 ((w64 ((w64 (x1 + 1)) - 1)) * 7)) + 3)) (x0.length : Int)).toNat) (0 : Int)))) * 1117)))) + (w64 ((w64 ((w64 (x1 + 1)) - 1)) * 29)))) + (w64 ((w64 (Int.tdiv (w64 ((w64 (x1 + 1)) - 1)) (x0.length : Int))) * 53)))) := q45
        replace S : St w0 u (Asn.box g0 67 #[.slice A0 x0.length c0, .int .i64 (w64 (x1 + 1))] :: X) := S
        clear q0 q1 q2 q3 q4 q5 q6 q7 q8 q9 q10 q11 q12 q13 q14 q15 q16 q17 q18 q19 q20 q21 q22 q23 q24 q25 q26 q27 q28 q29 q30 q31 q32 q33 q34 q35 q36 q37 q38 q39 q40 q41 q42 q43 q44 q45
        have hF := hF.region hB [(47, .pointer (some ⟨g0, 0, none⟩)), (48, .pointer (some ⟨g0, 0, none⟩)), (49, .pointer (some ⟨g0, 0, none⟩)), (50, .slice A0 x0.length c0), (51, .int .i64 (w64 ((w64 (x1 + 1)) - 1))), (52, .pointer (some ⟨g0, 0, none⟩)), (53, .pointer (some ⟨g0, 0, none⟩)), (54, .pointer (some ⟨g0, 0, none⟩)), (55, .slice A0 x0.length c0), (56, .int .i64 (x0.length : Int)), (57, .int .i64 (Int.tmod (w64 ((w64 (x1 + 1)) - 1)) (x0.length : Int))), (58, .pointer (some ⟨adB A0, adO A0 + ((Int.tmod (w64 ((w64 (x1 + 1)) - 1)) (x0.length : Int)).toNat) * 1, none⟩)), (59, .int .u8 (x0.getD ((Int.tmod (w64 ((w64 (x1 + 1)) - 1)) (x0.length : Int)).toNat) (0 : Int))), (60, .int .i64 (w64 ((x0.getD ((Int.tmod (w64 ((w64 (x1 + 1)) - 1)) (x0.length : Int)).toNat) (0 : Int))))), (61, .int .i64 (w64 ((w64 ((x0.getD ((Int.tmod (w64 ((w64 (x1 + 1)) - 1)) (x0.length : Int)).toNat) (0 : Int)))) * 131))), (62, .pointer (some ⟨g0, 0, none⟩)), (63, .pointer (some ⟨g0, 0, none⟩)), (64, .pointer (some ⟨g0, 0, none⟩)), (65, .slice A0 x0.length c0), (66, .int .i64 (w64 ((w64 (x1 + 1)) - 1))), (67, .int .i64 (w64 ((w64 ((w64 (x1 + 1)) - 1)) * 7))), (68, .int .i64 (w64 ((w64 ((w64 ((w64 (x1 + 1)) - 1)) * 7)) + 3))), (69, .pointer (some ⟨g0, 0, none⟩)), (70, .pointer (some ⟨g0, 0, none⟩)), (71, .pointer (some ⟨g0, 0, none⟩)), (72, .slice A0 x0.length c0), (73, .int .i64 (x0.length : Int)), (74, .int .i64 (Int.tmod (w64 ((w64 ((w64 ((w64 (x1 + 1)) - 1)) * 7)) + 3)) (x0.length : Int))), (75, .pointer (some ⟨adB A0, adO A0 + ((Int.tmod (w64 ((w64 ((w64 ((w64 (x1 + 1)) - 1)) * 7)) + 3)) (x0.length : Int)).toNat) * 1, none⟩)), (76, .int .u8 (x0.getD ((Int.tmod (w64 ((w64 ((w64 ((w64 (x1 + 1)) - 1)) * 7)) + 3)) (x0.length : Int)).toNat) (0 : Int))), (77, .int .i64 (w64 ((x0.getD ((Int.tmod (w64 ((w64 ((w64 ((w64 (x1 + 1)) - 1)) * 7)) + 3)) (x0.length : Int)).toNat) (0 : Int))))), (78, .int .i64 (w64 ((w64 ((x0.getD ((Int.tmod (w64 ((w64 ((w64 ((w64 (x1 + 1)) - 1)) * 7)) + 3)) (x0.length : Int)).toNat) (0 : Int)))) * 1117))), (79, .int .i64 (w64 ((w64 ((w64 ((x0.getD ((Int.tmod (w64 ((w64 (x1 + 1)) - 1)) (x0.length : Int)).toNat) (0 : Int)))) * 131)) + (w64 ((w64 ((x0.getD ((Int.tmod (w64 ((w64 ((w64 ((w64 (x1 + 1)) - 1)) * 7)) + 3)) (x0.length : Int)).toNat) (0 : Int)))) * 1117))))), (80, .int .i64 (w64 ((w64 (x1 + 1)) - 1))), (81, .int .i64 (w64 ((w64 ((w64 (x1 + 1)) - 1)) * 29))), (82, .int .i64 (w64 ((w64 ((w64 ((w64 ((x0.getD ((Int.tmod (w64 ((w64 (x1 + 1)) - 1)) (x0.length : Int)).toNat) (0 : Int)))) * 131)) + (w64 ((w64 ((x0.getD ((Int.tmod (w64 ((w64 ((w64 ((w64 (x1 + 1)) - 1)) * 7)) + 3)) (x0.length : Int)).toNat) (0 : Int)))) * 1117)))) + (w64 ((w64 ((w64 (x1 + 1)) - 1)) * 29))))), (83, .int .i64 (w64 ((w64 (x1 + 1)) - 1))), (84, .pointer (some ⟨g0, 0, none⟩)), (85, .pointer (some ⟨g0, 0, none⟩)), (86, .pointer (some ⟨g0, 0, none⟩)), (87, .slice A0 x0.length c0), (88, .int .i64 (x0.length : Int)), (89, .int .i64 (w64 (Int.tdiv (w64 ((w64 (x1 + 1)) - 1)) (x0.length : Int)))), (90, .int .i64 (w64 ((w64 (Int.tdiv (w64 ((w64 (x1 + 1)) - 1)) (x0.length : Int))) * 53))), (91, .int .i64 (w64 ((w64 ((w64 ((w64 ((w64 ((x0.getD ((Int.tmod (w64 ((w64 (x1 + 1)) - 1)) (x0.length : Int)).toNat) (0 : Int)))) * 131)) + (w64 ((w64 ((x0.getD ((Int.tmod (w64 ((w64 ((w64 ((w64 (x1 + 1)) - 1)) * 7)) + 3)) (x0.length : Int)).toNat) (0 : Int)))) * 1117)))) + (w64 ((w64 ((w64 (x1 + 1)) - 1)) * 29)))) + (w64 ((w64 (Int.tdiv (w64 ((w64 (x1 + 1)) - 1)) (x0.length : Int))) * 53))))), (6, .int .i64 (w64 ((w64 ((w64 ((w64 ((w64 ((x0.getD ((Int.tmod (w64 ((w64 (x1 + 1)) - 1)) (x0.length : Int)).toNat) (0 : Int)))) * 131)) + (w64 ((w64 ((x0.getD ((Int.tmod (w64 ((w64 ((w64 ((w64 (x1 + 1)) - 1)) * 7)) + 3)) (x0.length : Int)).toNat) (0 : Int)))) * 1117)))) + (w64 ((w64 ((w64 (x1 + 1)) - 1)) * 29)))) + (w64 ((w64 (Int.tdiv (w64 ((w64 (x1 + 1)) - 1)) (x0.length : Int))) * 53)))))] (allSl_mem ⟨e47, e48, e49, e50, e51, e52, e53, e54, e55, e56, e57, e58, e59, e60, e61, e62, e63, e64, e65, e66, e67, e68, e69, e70, e71, e72, e73, e74, e75, e76, e77, e78, e79, e80, e81, e82, e83, e84, e85, e86, e87, e88, e89, e90, e91, e6, trivial⟩) rfl
        clear hB e47 e48 e49 e50 e51 e52 e53 e54 e55 e56 e57 e58 e59 e60 e61 e62 e63 e64 e65 e66 e67 e68 e69 e70 e71 e72 e73 e74 e75 e76 e77 e78 e79 e80 e81 e82 e83 e84 e85 e86 e87 e88 e89 e90 e91 e6
        refine wp_seq ?_
        refine wp_region_lit ?_
        refine op_val (v := .int .i64 (w64 ((w64 ((w64 ((w64 ((w64 ((x0.getD ((Int.tmod (w64 ((w64 (x1 + 1)) - 1)) (x0.length : Int)).toNat) (0 : Int)))) * 131)) + (w64 ((w64 ((x0.getD ((Int.tmod (w64 ((w64 ((w64 ((w64 (x1 + 1)) - 1)) * 7)) + 3)) (x0.length : Int)).toNat) (0 : Int)))) * 1117)))) + (w64 ((w64 ((w64 (x1 + 1)) - 1)) * 29)))) + (w64 ((w64 (Int.tdiv (w64 ((w64 (x1 + 1)) - 1)) (x0.length : Int))) * 53))))) rfl rfl hF rfl (run_move rfl (hF.ev rfl)) ?_; clear hF; intro a hF
        refine op_val (v := .int .i64 (w64 ((w64 ((w64 ((w64 ((w64 ((x0.getD ((Int.tmod (w64 ((w64 (x1 + 1)) - 1)) (x0.length : Int)).toNat) (0 : Int)))) * 131)) + (w64 ((w64 ((x0.getD ((Int.tmod (w64 ((w64 ((w64 ((w64 (x1 + 1)) - 1)) * 7)) + 3)) (x0.length : Int)).toNat) (0 : Int)))) * 1117)))) + (w64 ((w64 ((w64 (x1 + 1)) - 1)) * 29)))) + (w64 ((w64 (Int.tdiv (w64 ((w64 (x1 + 1)) - 1)) (x0.length : Int))) * 53))))) rfl rfl hF rfl (run_move rfl (hF.ev rfl)) ?_; clear hF; intro a hF
        refine op_val (v := .int .i64 (w64 (Int.tdiv (w64 ((w64 ((w64 ((w64 ((w64 ((x0.getD ((Int.tmod (w64 ((w64 (x1 + 1)) - 1)) (x0.length : Int)).toNat) (0 : Int)))) * 131)) + (w64 ((w64 ((x0.getD ((Int.tmod (w64 ((w64 ((w64 ((w64 (x1 + 1)) - 1)) * 7)) + 3)) (x0.length : Int)).toNat) (0 : Int)))) * 1117)))) + (w64 ((w64 ((w64 (x1 + 1)) - 1)) * 29)))) + (w64 ((w64 (Int.tdiv (w64 ((w64 (x1 + 1)) - 1)) (x0.length : Int))) * 53)))) 64))) rfl rfl hF rfl (run_quo (z := w64 (Int.tdiv (w64 ((w64 ((w64 ((w64 ((w64 ((x0.getD ((Int.tmod (w64 ((w64 (x1 + 1)) - 1)) (x0.length : Int)).toNat) (0 : Int)))) * 131)) + (w64 ((w64 ((x0.getD ((Int.tmod (w64 ((w64 ((w64 ((w64 (x1 + 1)) - 1)) * 7)) + 3)) (x0.length : Int)).toNat) (0 : Int)))) * 1117)))) + (w64 ((w64 ((w64 (x1 + 1)) - 1)) * 29)))) + (w64 ((w64 (Int.tdiv (w64 ((w64 (x1 + 1)) - 1)) (x0.length : Int))) * 53)))) 64)) (hF.ev rfl) rfl rfl (by decide) rfl) ?_; clear hF; intro a hF
        refine op_val (v := .int .i64 (bitsXor .i64 (w64 ((w64 ((w64 ((w64 ((w64 ((x0.getD ((Int.tmod (w64 ((w64 (x1 + 1)) - 1)) (x0.length : Int)).toNat) (0 : Int)))) * 131)) + (w64 ((w64 ((x0.getD ((Int.tmod (w64 ((w64 ((w64 ((w64 (x1 + 1)) - 1)) * 7)) + 3)) (x0.length : Int)).toNat) (0 : Int)))) * 1117)))) + (w64 ((w64 ((w64 (x1 + 1)) - 1)) * 29)))) + (w64 ((w64 (Int.tdiv (w64 ((w64 (x1 + 1)) - 1)) (x0.length : Int))) * 53)))) (w64 (Int.tdiv (w64 ((w64 ((w64 ((w64 ((w64 ((x0.getD ((Int.tmod (w64 ((w64 (x1 + 1)) - 1)) (x0.length : Int)).toNat) (0 : Int)))) * 131)) + (w64 ((w64 ((x0.getD ((Int.tmod (w64 ((w64 ((w64 ((w64 (x1 + 1)) - 1)) * 7)) + 3)) (x0.length : Int)).toNat) (0 : Int)))) * 1117)))) + (w64 ((w64 ((w64 (x1 + 1)) - 1)) * 29)))) + (w64 ((w64 (Int.tdiv (w64 ((w64 (x1 + 1)) - 1)) (x0.length : Int))) * 53)))) 64)))) rfl rfl hF rfl (run_bxor (hF.ev rfl) (hF.ev rfl) rfl) ?_; clear hF; intro a hF
        refine op_val (v := .int .i64 (bitsXor .i64 (w64 ((w64 ((w64 ((w64 ((w64 ((x0.getD ((Int.tmod (w64 ((w64 (x1 + 1)) - 1)) (x0.length : Int)).toNat) (0 : Int)))) * 131)) + (w64 ((w64 ((x0.getD ((Int.tmod (w64 ((w64 ((w64 ((w64 (x1 + 1)) - 1)) * 7)) + 3)) (x0.length : Int)).toNat) (0 : Int)))) * 1117)))) + (w64 ((w64 ((w64 (x1 + 1)) - 1)) * 29)))) + (w64 ((w64 (Int.tdiv (w64 ((w64 (x1 + 1)) - 1)) (x0.length : Int))) * 53)))) (w64 (Int.tdiv (w64 ((w64 ((w64 ((w64 ((w64 ((x0.getD ((Int.tmod (w64 ((w64 (x1 + 1)) - 1)) (x0.length : Int)).toNat) (0 : Int)))) * 131)) + (w64 ((w64 ((x0.getD ((Int.tmod (w64 ((w64 ((w64 ((w64 (x1 + 1)) - 1)) * 7)) + 3)) (x0.length : Int)).toNat) (0 : Int)))) * 1117)))) + (w64 ((w64 ((w64 (x1 + 1)) - 1)) * 29)))) + (w64 ((w64 (Int.tdiv (w64 ((w64 (x1 + 1)) - 1)) (x0.length : Int))) * 53)))) 64)))) rfl rfl hF rfl (run_assign rfl (hF.ev rfl)) ?_; clear hF; intro a hF
        refine wpList_nil ?_
        refine wp_seq ?_
        refine wp_region_lit ?_
        refine op_val (v := .int .i64 (bitsXor .i64 (w64 ((w64 ((w64 ((w64 ((w64 ((x0.getD ((Int.tmod (w64 ((w64 (x1 + 1)) - 1)) (x0.length : Int)).toNat) (0 : Int)))) * 131)) + (w64 ((w64 ((x0.getD ((Int.tmod (w64 ((w64 ((w64 ((w64 (x1 + 1)) - 1)) * 7)) + 3)) (x0.length : Int)).toNat) (0 : Int)))) * 1117)))) + (w64 ((w64 ((w64 (x1 + 1)) - 1)) * 29)))) + (w64 ((w64 (Int.tdiv (w64 ((w64 (x1 + 1)) - 1)) (x0.length : Int))) * 53)))) (w64 (Int.tdiv (w64 ((w64 ((w64 ((w64 ((w64 ((x0.getD ((Int.tmod (w64 ((w64 (x1 + 1)) - 1)) (x0.length : Int)).toNat) (0 : Int)))) * 131)) + (w64 ((w64 ((x0.getD ((Int.tmod (w64 ((w64 ((w64 ((w64 (x1 + 1)) - 1)) * 7)) + 3)) (x0.length : Int)).toNat) (0 : Int)))) * 1117)))) + (w64 ((w64 ((w64 (x1 + 1)) - 1)) * 29)))) + (w64 ((w64 (Int.tdiv (w64 ((w64 (x1 + 1)) - 1)) (x0.length : Int))) * 53)))) 64)))) rfl rfl hF rfl (run_move rfl (hF.ev rfl)) ?_; clear hF; intro a hF
        refine op_val (v := .int .i64 x2) rfl rfl hF rfl (run_move rfl (hF.ev rfl)) ?_; clear hF; intro a hF
        obtain ⟨hk108, hM⟩ := chk_ex hM
        replace hk108 := nzB_t hk108
        refine op_val (v := .int .i64 (Int.tmod (bitsXor .i64 (w64 ((w64 ((w64 ((w64 ((w64 ((x0.getD ((Int.tmod (w64 ((w64 (x1 + 1)) - 1)) (x0.length : Int)).toNat) (0 : Int)))) * 131)) + (w64 ((w64 ((x0.getD ((Int.tmod (w64 ((w64 ((w64 ((w64 (x1 + 1)) - 1)) * 7)) + 3)) (x0.length : Int)).toNat) (0 : Int)))) * 1117)))) + (w64 ((w64 ((w64 (x1 + 1)) - 1)) * 29)))) + (w64 ((w64 (Int.tdiv (w64 ((w64 (x1 + 1)) - 1)) (x0.length : Int))) * 53)))) (w64 (Int.tdiv (w64 ((w64 ((w64 ((w64 ((w64 ((x0.getD ((Int.tmod (w64 ((w64 (x1 + 1)) - 1)) (x0.length : Int)).toNat) (0 : Int)))) * 131)) + (w64 ((w64 ((x0.getD ((Int.tmod (w64 ((w64 ((w64 ((w64 (x1 + 1)) - 1)) * 7)) + 3)) (x0.length : Int)).toNat) (0 : Int)))) * 1117)))) + (w64 ((w64 ((w64 (x1 + 1)) - 1)) * 29)))) + (w64 ((w64 (Int.tdiv (w64 ((w64 (x1 + 1)) - 1)) (x0.length : Int))) * 53)))) 64))) x2)) rfl rfl hF rfl (run_rem (z := Int.tmod (bitsXor .i64 (w64 ((w64 ((w64 ((w64 ((w64 ((x0.getD ((Int.tmod (w64 ((w64 (x1 + 1)) - 1)) (x0.length : Int)).toNat) (0 : Int)))) * 131)) + (w64 ((w64 ((x0.getD ((Int.tmod (w64 ((w64 ((w64 ((w64 (x1 + 1)) - 1)) * 7)) + 3)) (x0.length : Int)).toNat) (0 : Int)))) * 1117)))) + (w64 ((w64 ((w64 (x1 + 1)) - 1)) * 29)))) + (w64 ((w64 (Int.tdiv (w64 ((w64 (x1 + 1)) - 1)) (x0.length : Int))) * 53)))) (w64 (Int.tdiv (w64 ((w64 ((w64 ((w64 ((w64 ((x0.getD ((Int.tmod (w64 ((w64 (x1 + 1)) - 1)) (x0.length : Int)).toNat) (0 : Int)))) * 131)) + (w64 ((w64 ((x0.getD ((Int.tmod (w64 ((w64 ((w64 ((w64 (x1 + 1)) - 1)) * 7)) + 3)) (x0.length : Int)).toNat) (0 : Int)))) * 1117)))) + (w64 ((w64 ((w64 (x1 + 1)) - 1)) * 29)))) + (w64 ((w64 (Int.tdiv (w64 ((w64 (x1 + 1)) - 1)) (x0.length : Int))) * 53)))) 64))) x2) (hF.ev rfl) (hF.ev rfl) rfl hk108 rfl) ?_; clear hF; intro a hF
        refine op_val (v := .int .i64 (Int.tmod (bitsXor .i64 (w64 ((w64 ((w64 ((w64 ((w64 ((x0.getD ((Int.tmod (w64 ((w64 (x1 + 1)) - 1)) (x0.length : Int)).toNat) (0 : Int)))) * 131)) + (w64 ((w64 ((x0.getD ((Int.tmod (w64 ((w64 ((w64 ((w64 (x1 + 1)) - 1)) * 7)) + 3)) (x0.length : Int)).toNat) (0 : Int)))) * 1117)))) + (w64 ((w64 ((w64 (x1 + 1)) - 1)) * 29)))) + (w64 ((w64 (Int.tdiv (w64 ((w64 (x1 + 1)) - 1)) (x0.length : Int))) * 53)))) (w64 (Int.tdiv (w64 ((w64 ((w64 ((w64 ((w64 ((x0.getD ((Int.tmod (w64 ((w64 (x1 + 1)) - 1)) (x0.length : Int)).toNat) (0 : Int)))) * 131)) + (w64 ((w64 ((x0.getD ((Int.tmod (w64 ((w64 ((w64 ((w64 (x1 + 1)) - 1)) * 7)) + 3)) (x0.length : Int)).toNat) (0 : Int)))) * 1117)))) + (w64 ((w64 ((w64 (x1 + 1)) - 1)) * 29)))) + (w64 ((w64 (Int.tdiv (w64 ((w64 (x1 + 1)) - 1)) (x0.length : Int))) * 53)))) 64))) x2)) rfl rfl hF rfl (run_assign rfl (hF.ev rfl)) ?_; clear hF; intro a hF
        refine wpList_nil ?_
        refine wp_ret ?_
        repeat with_reducible (first | refine then_ret ?_ | refine in_ret ?_ | refine in_nrm ?_)
        refine ret1_gw (.inl rfl) hF rfl (res_tmp (hF.ev rfl)) ?_
        obtain rfl := Option.some.inj hM
        exact ⟨rfl, S.selT (M := [.box g0 67 #[.slice A0 x0.length c0, .int .i64 (w64 (x1 + 1))]]) 1 [0] rfl rfl rfl⟩
    · replace hM := bif_t hc102 hM
      refine cond_t hF rfl hc102 ?_
      refine wp_seq ?_
      refine wp_region_lit ?_
      refine op_val (v := .pointer (some ⟨g0, 0, none⟩)) rfl rfl hF rfl (run_move rfl (hF.ev rfl)) ?_; clear hF; intro a hF
      refine op_val (v := .pointer (some ⟨g0, 0, none⟩)) rfl rfl hF rfl (run_nilCheck rfl (hF.ev rfl)) ?_; clear hF; intro a hF
      refine op_val (v := .pointer (some ⟨g0, 0, none⟩)) rfl rfl hF rfl (run_fieldAddr rfl fl67_0 (hF.ev rfl) rfl) ?_; clear hF; intro a hF
      refine op_val (v := .slice A0 x0.length c0) rfl rfl hF rfl (run_load1 rfl one22 (hF.ev rfl) ((S.free 0 rfl).cell rfl)) ?_; clear hF; intro a hF
      refine op_val (v := .int .i64 (w64 ((w64 (x1 + 1)) - 1))) rfl rfl hF rfl (run_move rfl (hF.ev rfl)) ?_; clear hF; intro a hF
      obtain ⟨hk109, hM⟩ := chk_ex hM
      replace hk109 := ixB_t hk109
      refine op_val (v := .pointer (some ⟨adB A0, adO A0 + ((w64 ((w64 (x1 + 1)) - 1)).toNat) * 1, none⟩)) rfl rfl hF rfl (run_indexAddr (b := adB A0) (off := adO A0) rfl Tryd.underlying22 sz5 ((hF.ev rfl).trans (congrArg (fun A => Value.slice A x0.length c0) ((S.rc0 h0.rc).rd.ad (ix_pos hk109)))) (hF.ev rfl) hk109.1 hk109.2 (k' := adO A0 + ((w64 ((w64 (x1 + 1)) - 1)).toNat) * 1) rfl) ?_; clear hF; intro a hF
      refine op_val (v := .int .u8 (x0.getD ((w64 ((w64 (x1 + 1)) - 1)).toNat) (0 : Int))) rfl rfl hF rfl (run_load1 rfl one5 (hF.ev rfl) (rd_el0 (l := x0) (S.rc0 h0.rc).rd rfl eU_len (0 : Int) (ix_ltn hk109 rfl) rfl)) ?_; clear hF; intro a hF
      refine op_val (v := .int .i64 (w64 ((x0.getD ((w64 ((w64 (x1 + 1)) - 1)).toNat) (0 : Int))))) rfl rfl hF rfl (run_convI rfl Tryd.underlying5 Tryd.underlying3 (hF.ev rfl)) ?_; clear hF; intro a hF
      refine op_val (v := .int .i64 x2) rfl rfl hF rfl (run_move rfl (hF.ev rfl)) ?_; clear hF; intro a hF
      obtain ⟨hk110, hM⟩ := chk_ex hM
      replace hk110 := nzB_t hk110
      refine op_val (v := .int .i64 (Int.tmod (w64 ((x0.getD ((w64 ((w64 (x1 + 1)) - 1)).toNat) (0 : Int)))) x2)) rfl rfl hF rfl (run_rem (z := Int.tmod (w64 ((x0.getD ((w64 ((w64 (x1 + 1)) - 1)).toNat) (0 : Int)))) x2) (hF.ev rfl) (hF.ev rfl) rfl hk110 rfl) ?_; clear hF; intro a hF
      refine op_val (v := .int .i64 (Int.tmod (w64 ((x0.getD ((w64 ((w64 (x1 + 1)) - 1)).toNat) (0 : Int)))) x2)) rfl rfl hF rfl (run_assign rfl (hF.ev rfl)) ?_; clear hF; intro a hF
      refine wpList_nil ?_
      refine wp_ret ?_
      repeat with_reducible (first | refine then_ret ?_ | refine in_ret ?_ | refine in_nrm ?_)
      refine ret1_gw (.inl rfl) hF rfl (res_tmp (hF.ev rfl)) ?_
      obtain rfl := Option.some.inj hM
      exact ⟨rfl, S.selT (M := [.box g0 67 #[.slice A0 x0.length c0, .int .i64 (w64 (x1 + 1))]]) 1 [0] rfl rfl rfl⟩
  · replace hM := bif_t hc101 hM
    refine cond_t hF rfl hc101 ?_
    refine wp_seq ?_
    refine wp_region_lit ?_
    refine op_val (v := .int .i64 0) rfl rfl hF rfl (run_assign rfl rfl) ?_; clear hF; intro a hF
    refine wpList_nil ?_
    refine wp_ret ?_
    repeat with_reducible (first | refine then_ret ?_ | refine in_ret ?_ | refine in_nrm ?_)
    refine ret1_gw (.inl rfl) hF rfl (res_tmp (hF.ev rfl)) ?_
    obtain rfl := Option.some.inj hM
    exact ⟨rfl, S.selT (M := [.box g0 67 #[.slice A0 x0.length c0, .int .i64 (w64 (x1 + 1))]]) 1 [0] rfl rfl rfl⟩

set_option maxHeartbeats 4000000 in
theorem c_spec_l20RoomDeed {x0 : List Int} {x1 : Int} {x2 : Int} {x3 : Int} {x4 : List Int} {A0 : Option Addr} {n0 c0 : Nat} {g0 : Nat} {A4 : Option Addr} {n4 c4 : Nat} {w : World} {r : Int × Int × Int × Int} {w0 : World} {X : List Asn} (h0 : Rt w0 1 eU A0 n0 c0 x0) (h4 : n4 = x4.length) (S : St w0 w (Asn.box g0 67 #[.slice A0 n0 c0, .int .i64 x1] :: Asn.row 3 1 (.slice A4 n4 c4) n4 (x4.flatMap eI) :: X)) (hM : m_spec_l20RoomDeed x0 x1 x2 x3 x4 = some r) :
    Calls Tryd.prog 22 #[.pointer (some ⟨g0, 0, none⟩), .agg #[.int .i64 x2, .int .i64 x3, .slice A4 n4 c4]] w (fun e w' => e = .returned (.agg #[.int .i64 r.1, .int .i64 r.2.1, .int .i64 r.2.2.1]) ∧ St w0 w' (Asn.box g0 67 #[.slice A0 n0 c0, .int .i64 r.2.2.2] :: Asn.row 3 1 (.slice A4 n4 c4) n4 (x4.flatMap eI) :: X)) := by
  obtain rfl := h0.len
  obtain rfl := h4
  unfold m_spec_l20RoomDeed at hM
  refine calls_gw Tryd.func22 Tryd.ntmps22 rfl [(0, .pointer (some ⟨g0, 0, none⟩)), (1, .agg #[.int .i64 x2, .int .i64 x3, .slice A4 x4.length c4])] ⟨rfl, rfl, trivial⟩ rfl ?_
  intro a hF
  refine wp_seq ?_
  refine wp_region_lit ?_
  refine op_new (cs := #[.int .i64 x2, .int .i64 x3, .slice A4 x4.length c4]) rfl rfl hF rfl S (run_box rfl (hF.ev rfl) rfl) ?_; clear hF S; intro a g101 u hF S
  refine op_new (cs := #[.int .i64 0, .int .i64 0, .int .i64 0]) rfl rfl hF rfl S (run_allocZ rfl zr27) ?_; clear hF S; intro a g102 u hF S
  refine wpList_nil ?_
  refine wp_seq ?_
  obtain ⟨p103, h103, hM⟩ := bind_ex hM
  obtain ⟨hk104, hM⟩ := chk_ex hM
  replace hk104 := ixB_t hk104
  obtain ⟨p105, h105, hM⟩ := bind_ex hM
  obtain ⟨p106, h106, hM⟩ := bind_ex hM
  obtain ⟨p107, h107, hM⟩ := bind_ex hM
  obtain ⟨p108, h108, hM⟩ := bind_ex hM
  obtain ⟨p109, h109, hM⟩ := bind_ex hM
  refine region_gw (D := [5, 6, 7, 8, 9, 10, 11, 12, 13, 14, 15, 16, 17, 18, 19, 20, 21, 22, 23, 24, 25, 26, 27, 28, 29, 30, 31, 32]) (Lr := (Asn.box g101 25 #[.int .i64 x2, .int .i64 x3, .slice A4 x4.length c4] :: Asn.row 3 1 (.slice A4 x4.length c4) x4.length (x4.flatMap eI) :: X)) (deps := (fun | 0 => [5] | 1 => [6] | 2 => [7] | 3 => [8, 5] | 4 => [9] | 5 => [10] | 6 => [11] | 7 => [12] | 8 => [13] | 9 => [14] | 10 => [15] | 11 => [16] | 12 => [17] | 13 => [18] | 14 => [19] | 15 => [20] | 16 => [21] | 17 => [22] | 18 => [23] | 19 => [24] | 20 => [25] | 21 => [26] | 22 => [27] | 23 => [28] | 24 => [29] | 25 => [30] | 26 => [31] | 27 => [32] | 28 => [4] | _ => [])) (rd := (fun | 3 => [0] | 4 => [0] | _ => [])) (zr := (fun _ => []))
    (φ := fun i vs => match i, vs with | 0, [v5] => v5 = .slice (slA v5) (([0, 1, 2, 2, 2] : List Int).length) (([0, 1, 2, 2, 2] : List Int).length) | 1, [v6] => v6 = .pointer (some ⟨g0, 0, none⟩) | 2, [v7] => v7 = .int .i64 p103.1 | 3, [v8, v5] => v8 = .pointer (some ⟨adB (slA v5), adO (slA v5) + p103.1.toNat * 1, none⟩) | 4, [v9] => v9 = .int .i64 (([0, 1, 2, 2, 2]).getD p103.1.toNat (0 : Int)) | 5, [v10] => v10 = .pointer (some ⟨g0, 0, none⟩) | 6, [v11] => v11 = .int .i64 p105.1 | 7, [v12] => v12 = .int .i64 (w64 (Int.tdiv p105.1 39)) | 8, [v13] => v13 = .int .i64 (w64 ((w64 (Int.tdiv p105.1 39)) * 3)) | 9, [v14] => v14 = .int .i64 (w64 ((([0, 1, 2, 2, 2]).getD p103.1.toNat (0 : Int)) + (w64 ((w64 (Int.tdiv p105.1 39)) * 3)))) | 10, [v15] => v15 = .pointer (some ⟨g0, 0, none⟩) | 11, [v16] => v16 = .int .i64 p106.1 | 12, [v17] => v17 = .pointer (some ⟨g0, 0, none⟩) | 13, [v18] => v18 = .int .i64 p107.1 | 14, [v19] => v19 = .int .i64 (w64 (Int.tdiv p107.1 39)) | 15, [v20] => v20 = .int .i64 (w64 ((w64 (Int.tdiv p107.1 39)) * 2)) | 16, [v21] => v21 = .int .i64 (w64 (p106.1 + (w64 ((w64 (Int.tdiv p107.1 39)) * 2)))) | 17, [v22] => v22 = .pointer (some ⟨g0, 0, none⟩) | 18, [v23] => v23 = .pointer (some ⟨g101, 2, none⟩) | 19, [v24] => v24 = .slice A4 x4.length c4 | 20, [v25] => v25 = .int .i64 (x4.length : Int) | 21, [v26] => v26 = .int .i64 p108.1 | 22, [v27] => v27 = .pointer (some ⟨g0, 0, none⟩) | 23, [v28] => v28 = .int .i64 p109.1 | 24, [v29] => v29 = .int .i64 (w64 (Int.tdiv p109.1 29)) | 25, [v30] => v30 = .int .i64 (w64 ((w64 (Int.tdiv p109.1 29)) * 5)) | 26, [v31] => v31 = .int .i64 (w64 (p108.1 + (w64 ((w64 (Int.tdiv p109.1 29)) * 5)))) | 27, [v32] => v32 = .agg #[.int .i64 (w64 ((([0, 1, 2, 2, 2]).getD p103.1.toNat (0 : Int)) + (w64 ((w64 (Int.tdiv p105.1 39)) * 3)))), .int .i64 (w64 (p106.1 + (w64 ((w64 (Int.tdiv p107.1 39)) * 2)))), .int .i64 (w64 (p108.1 + (w64 ((w64 (Int.tdiv p109.1 29)) * 5))))] | _, _ => True)
    (C := fun i vs => match i, vs with | 0, [v5] => [.row 3 1 (.slice (slA v5) (([0, 1, 2, 2, 2] : List Int).length) (([0, 1, 2, 2, 2] : List Int).length)) (([0, 1, 2, 2, 2] : List Int).length) (([0, 1, 2, 2, 2]).flatMap eI)] | 2, [v7] => [.box g0 67 #[.slice A0 x0.length c0, .int .i64 p103.2]] | 6, [v11] => [.box g0 67 #[.slice A0 x0.length c0, .int .i64 p105.2]] | 11, [v16] => [.box g0 67 #[.slice A0 x0.length c0, .int .i64 p106.2]] | 13, [v18] => [.box g0 67 #[.slice A0 x0.length c0, .int .i64 p107.2]] | 21, [v26] => [.box g0 67 #[.slice A0 x0.length c0, .int .i64 p108.2]] | 23, [v28] => [.box g0 67 #[.slice A0 x0.length c0, .int .i64 p109.2]] | 28, [v4] => [.box g102 27 #[.int .i64 (w64 ((([0, 1, 2, 2, 2]).getD p103.1.toNat (0 : Int)) + (w64 ((w64 (Int.tdiv p105.1 39)) * 3)))), .int .i64 (w64 (p106.1 + (w64 ((w64 (Int.tdiv p107.1 39)) * 2)))), .int .i64 (w64 (p108.1 + (w64 ((w64 (Int.tdiv p109.1 29)) * 5))))]] | _, _ => [])
    (κ := (fun | 2 => some 6 | 6 => some 11 | 11 => some 13 | 13 => some 21 | 21 => some 23 | _ => none)) (Z := (fun | 2 => [.box g0 67 #[.slice A0 x0.length c0, .int .i64 x1]] | 28 => [.box g102 27 #[.int .i64 0, .int .i64 0, .int .i64 0]] | _ => [])) mixed hF (by kernel_rfl) (show St w0 _ (Asn.box g0 67 #[.slice A0 x0.length c0, .int .i64 x1] :: Asn.box g102 27 #[.int .i64 0, .int .i64 0, .int .i64 0] :: Asn.box g101 25 #[.int .i64 x2, .int .i64 x3, .slice A4 x4.length c4] :: Asn.row 3 1 (.slice A4 x4.length c4) x4.length (x4.flatMap eI) :: X) from S.selT (M := [.box g0 67 #[.slice A0 x0.length c0, .int .i64 x1], .box g102 27 #[.int .i64 0, .int .i64 0, .int .i64 0], .box g101 25 #[.int .i64 x2, .int .i64 x3, .slice A4 x4.length c4], .row 3 1 (.slice A4 x4.length c4) x4.length (x4.flatMap eI)]) 4 [2, 0, 1, 3] rfl rfl rfl) ?_ ?_
  · refine ⟨?_, ?_, ?_, ?_, ?_, ?_, ?_, ?_, ?_, ?_, ?_, ?_, ?_, ?_, ?_, ?_, ?_, ?_, ?_, ?_, ?_, ?_, ?_, ?_, ?_, ?_, ?_, ?_, ?_, trivial⟩
    · intro a u X' hB hu hp hr hz hl S
      replace S : St w0 u ([] ++ X') := S
      exact .inl ⟨rfl, _, _, run_buildS (vs := [(0, .int .i64 0), (1, .int .i64 1), (2, .int .i64 2), (3, .int .i64 2), (4, .int .i64 2)]) rfl ⟨⟨rfl, (ev_const _ _)⟩, ⟨rfl, (ev_const _ _)⟩, ⟨rfl, (ev_const _ _)⟩, ⟨rfl, (ev_const _ _)⟩, ⟨rfl, (ev_const _ _)⟩, trivial⟩ (bs23_5_0_0_0_0_0 rfl rfl rfl rfl rfl), rfl, S.newrowL (e := eI) (ls := [0, 1, 2, 2, 2]) rfl eI_len (Nat.le_of_ble_eq_true rfl)⟩
    · intro a u X' hB hu hp hr hz hl S
      replace S : St w0 u ([] ++ X') := S
      exact .inl ⟨rfl, .pointer (some ⟨g0, 0, none⟩), u, (run_move rfl (hF.evB hB rfl rfl)), rfl, S⟩
    · intro a u X' hB hu hp hr hz hl S
      replace S : St w0 u ([.box g0 67 #[.slice A0 x0.length c0, .int .i64 x1]] ++ X') := S
      have e6 : sl a 6 = .pointer (some ⟨g0, 0, none⟩) := hp 1 rfl
      refine .inr (.inr (.inl ⟨rfl, _, _, (run_call (vs := [.pointer (some ⟨g0, 0, none⟩), .int .i64 5]) rfl rfl co34 ⟨(ev_sl e6), (ev_const _ _), trivial⟩), ?_⟩))
      refine Calls.mono (c_spec_l20Rd_pick (x0 := x0) (x1 := x1) (x2 := 5) ⟨h0.rc, rfl⟩ S h103) ?_
      rintro e w1 ⟨rfl, T⟩
      exact ⟨_, rfl, rfl, T⟩
    · intro a u X' hB hu hp hr hz hl S
      replace S : St w0 u ([] ++ X') := S
      have e5 : sl a 5 = .slice (slA (sl a 5)) (([0, 1, 2, 2, 2] : List Int).length) (([0, 1, 2, 2, 2] : List Int).length) := hp 0 rfl
      have e7 : sl a 7 = .int .i64 p103.1 := hp 2 rfl
      exact .inl ⟨rfl, .pointer (some ⟨adB (slA (sl a 5)), adO (slA (sl a 5)) + p103.1.toNat * 1, none⟩), u, (run_indexAddr (b := adB (slA (sl a 5))) (off := adO (slA (sl a 5))) rfl Tryd.underlying23 sz3 ((ev_sl e5).trans (congrArg (fun A => Value.slice A (([0, 1, 2, 2, 2] : List Int).length) (([0, 1, 2, 2, 2] : List Int).length)) ((own_rc (show World.ownsRow _ 0 _ _ _ _ _ from S.mem (List.mem_append_right _ (hr 0 (List.mem_of_getElem? (i := 0) rfl) _ (List.mem_of_getElem? (i := 0) rfl))))).rd.ad (ix_pos hk104)))) (ev_sl e7) hk104.1 hk104.2 (k' := adO (slA (sl a 5)) + p103.1.toNat * 1) rfl), rfl, S⟩
    · intro a u X' hB hu hp hr hz hl S
      replace S : St w0 u ([] ++ X') := S
      have e8 : sl a 8 = .pointer (some ⟨adB (slA (sl a 5)), adO (slA (sl a 5)) + p103.1.toNat * 1, none⟩) := hp 3 rfl
      exact .inl ⟨rfl, .int .i64 (([0, 1, 2, 2, 2]).getD p103.1.toNat (0 : Int)), u, (run_load1 rfl one3 (ev_sl e8) (rd_el0 (l := [0, 1, 2, 2, 2]) (own_rc (show World.ownsRow _ 0 _ _ _ _ _ from S.mem (List.mem_append_right _ (hr 0 (List.mem_of_getElem? (i := 0) rfl) _ (List.mem_of_getElem? (i := 0) rfl))))).rd rfl eI_len (0 : Int) (ix_ltn hk104 rfl) rfl)), rfl, S⟩
    · intro a u X' hB hu hp hr hz hl S
      replace S : St w0 u ([] ++ X') := S
      exact .inl ⟨rfl, .pointer (some ⟨g0, 0, none⟩), u, (run_move rfl (hF.evB hB rfl rfl)), rfl, S⟩
    · intro a u X' hB hu hp hr hz hl S
      replace S : St w0 u ([.box g0 67 #[.slice A0 x0.length c0, .int .i64 p103.2]] ++ X') := S
      have e10 : sl a 10 = .pointer (some ⟨g0, 0, none⟩) := hp 5 rfl
      refine .inr (.inr (.inl ⟨rfl, _, _, (run_call (vs := [.pointer (some ⟨g0, 0, none⟩), .int .i64 40]) rfl rfl co34 ⟨(ev_sl e10), (ev_const _ _), trivial⟩), ?_⟩))
      refine Calls.mono (c_spec_l20Rd_pick (x0 := x0) (x1 := p103.2) (x2 := 40) ⟨h0.rc, rfl⟩ S h105) ?_
      rintro e w1 ⟨rfl, T⟩
      exact ⟨_, rfl, rfl, T⟩
    · intro a u X' hB hu hp hr hz hl S
      replace S : St w0 u ([] ++ X') := S
      have e11 : sl a 11 = .int .i64 p105.1 := hp 6 rfl
      exact .inl ⟨rfl, .int .i64 (w64 (Int.tdiv p105.1 39)), u, (run_quo (z := w64 (Int.tdiv p105.1 39)) (ev_sl e11) (ev_const _ _) rfl (by decide) rfl), rfl, S⟩
    · intro a u X' hB hu hp hr hz hl S
      replace S : St w0 u ([] ++ X') := S
      have e12 : sl a 12 = .int .i64 (w64 (Int.tdiv p105.1 39)) := hp 7 rfl
      exact .inl ⟨rfl, .int .i64 (w64 ((w64 (Int.tdiv p105.1 39)) * 3)), u, (run_mul (z := w64 ((w64 (Int.tdiv p105.1 39)) * 3)) (ev_sl e12) (ev_const _ _) rfl rfl), rfl, S⟩
    · intro a u X' hB hu hp hr hz hl S
      replace S : St w0 u ([] ++ X') := S
      have e9 : sl a 9 = .int .i64 (([0, 1, 2, 2, 2]).getD p103.1.toNat (0 : Int)) := hp 4 rfl
      have e13 : sl a 13 = .int .i64 (w64 ((w64 (Int.tdiv p105.1 39)) * 3)) := hp 8 rfl
      exact .inl ⟨rfl, .int .i64 (w64 ((([0, 1, 2, 2, 2]).getD p103.1.toNat (0 : Int)) + (w64 ((w64 (Int.tdiv p105.1 39)) * 3)))), u, (run_add (z := w64 ((([0, 1, 2, 2, 2]).getD p103.1.toNat (0 : Int)) + (w64 ((w64 (Int.tdiv p105.1 39)) * 3)))) (ev_sl e9) (ev_sl e13) rfl rfl), rfl, S⟩
    · intro a u X' hB hu hp hr hz hl S
      replace S : St w0 u ([] ++ X') := S
      exact .inl ⟨rfl, .pointer (some ⟨g0, 0, none⟩), u, (run_move rfl (hF.evB hB rfl rfl)), rfl, S⟩
    · intro a u X' hB hu hp hr hz hl S
      replace S : St w0 u ([.box g0 67 #[.slice A0 x0.length c0, .int .i64 p105.2]] ++ X') := S
      have e15 : sl a 15 = .pointer (some ⟨g0, 0, none⟩) := hp 10 rfl
      refine .inr (.inr (.inl ⟨rfl, _, _, (run_call (vs := [.pointer (some ⟨g0, 0, none⟩), .int .i64 2]) rfl rfl co34 ⟨(ev_sl e15), (ev_const _ _), trivial⟩), ?_⟩))
      refine Calls.mono (c_spec_l20Rd_pick (x0 := x0) (x1 := p105.2) (x2 := 2) ⟨h0.rc, rfl⟩ S h106) ?_
      rintro e w1 ⟨rfl, T⟩
      exact ⟨_, rfl, rfl, T⟩
    · intro a u X' hB hu hp hr hz hl S
      replace S : St w0 u ([] ++ X') := S
      exact .inl ⟨rfl, .pointer (some ⟨g0, 0, none⟩), u, (run_move rfl (hF.evB hB rfl rfl)), rfl, S⟩
    · intro a u X' hB hu hp hr hz hl S
      replace S : St w0 u ([.box g0 67 #[.slice A0 x0.length c0, .int .i64 p106.2]] ++ X') := S
      have e17 : sl a 17 = .pointer (some ⟨g0, 0, none⟩) := hp 12 rfl
      refine .inr (.inr (.inl ⟨rfl, _, _, (run_call (vs := [.pointer (some ⟨g0, 0, none⟩), .int .i64 40]) rfl rfl co34 ⟨(ev_sl e17), (ev_const _ _), trivial⟩), ?_⟩))
      refine Calls.mono (c_spec_l20Rd_pick (x0 := x0) (x1 := p106.2) (x2 := 40) ⟨h0.rc, rfl⟩ S h107) ?_
      rintro e w1 ⟨rfl, T⟩
      exact ⟨_, rfl, rfl, T⟩
    · intro a u X' hB hu hp hr hz hl S
      replace S : St w0 u ([] ++ X') := S
      have e18 : sl a 18 = .int .i64 p107.1 := hp 13 rfl
      exact .inl ⟨rfl, .int .i64 (w64 (Int.tdiv p107.1 39)), u, (run_quo (z := w64 (Int.tdiv p107.1 39)) (ev_sl e18) (ev_const _ _) rfl (by decide) rfl), rfl, S⟩
    · intro a u X' hB hu hp hr hz hl S
      replace S : St w0 u ([] ++ X') := S
      have e19 : sl a 19 = .int .i64 (w64 (Int.tdiv p107.1 39)) := hp 14 rfl
      exact .inl ⟨rfl, .int .i64 (w64 ((w64 (Int.tdiv p107.1 39)) * 2)), u, (run_mul (z := w64 ((w64 (Int.tdiv p107.1 39)) * 2)) (ev_sl e19) (ev_const _ _) rfl rfl), rfl, S⟩
    · intro a u X' hB hu hp hr hz hl S
      replace S : St w0 u ([] ++ X') := S
      have e16 : sl a 16 = .int .i64 p106.1 := hp 11 rfl
      have e20 : sl a 20 = .int .i64 (w64 ((w64 (Int.tdiv p107.1 39)) * 2)) := hp 15 rfl
      exact .inl ⟨rfl, .int .i64 (w64 (p106.1 + (w64 ((w64 (Int.tdiv p107.1 39)) * 2)))), u, (run_add (z := w64 (p106.1 + (w64 ((w64 (Int.tdiv p107.1 39)) * 2)))) (ev_sl e16) (ev_sl e20) rfl rfl), rfl, S⟩
    · intro a u X' hB hu hp hr hz hl S
      replace S : St w0 u ([] ++ X') := S
      exact .inl ⟨rfl, .pointer (some ⟨g0, 0, none⟩), u, (run_move rfl (hF.evB hB rfl rfl)), rfl, S⟩
    · intro a u X' hB hu hp hr hz hl S
      replace S : St w0 u ([] ++ X') := S
      exact .inl ⟨rfl, .pointer (some ⟨g101, 2, none⟩), u, (run_fieldAddr rfl fl25_2 (hF.evB hB rfl rfl) rfl), rfl, S⟩
    · intro a u X' hB hu hp hr hz hl S
      replace S : St w0 u ([] ++ X') := S
      have e23 : sl a 23 = .pointer (some ⟨g101, 2, none⟩) := hp 18 rfl
      exact .inl ⟨rfl, .slice A4 x4.length c4, u, (run_load1 rfl one23 (ev_sl e23) ((gr_box S hl 0 rfl).cell rfl)), rfl, S⟩
    · intro a u X' hB hu hp hr hz hl S
      replace S : St w0 u ([] ++ X') := S
      have e24 : sl a 24 = .slice A4 x4.length c4 := hp 19 rfl
      exact .inl ⟨rfl, .int .i64 (x4.length : Int), u, (run_lenL rfl rfl Tryd.underlying23 (ev_sl e24)), rfl, S⟩
    · intro a u X' hB hu hp hr hz hl S
      replace S : St w0 u ([.box g0 67 #[.slice A0 x0.length c0, .int .i64 p107.2]] ++ X') := S
      have e22 : sl a 22 = .pointer (some ⟨g0, 0, none⟩) := hp 17 rfl
      have e25 : sl a 25 = .int .i64 (x4.length : Int) := hp 20 rfl
      refine .inr (.inr (.inl ⟨rfl, _, _, (run_call (vs := [.pointer (some ⟨g0, 0, none⟩), .int .i64 (x4.length : Int)]) rfl rfl co34 ⟨(ev_sl e22), (ev_sl e25), trivial⟩), ?_⟩))
      refine Calls.mono (c_spec_l20Rd_pick (x0 := x0) (x1 := p107.2) (x2 := (x4.length : Int)) ⟨h0.rc, rfl⟩ S h108) ?_
      rintro e w1 ⟨rfl, T⟩
      exact ⟨_, rfl, rfl, T⟩
    · intro a u X' hB hu hp hr hz hl S
      replace S : St w0 u ([] ++ X') := S
      exact .inl ⟨rfl, .pointer (some ⟨g0, 0, none⟩), u, (run_move rfl (hF.evB hB rfl rfl)), rfl, S⟩
    · intro a u X' hB hu hp hr hz hl S
      replace S : St w0 u ([.box g0 67 #[.slice A0 x0.length c0, .int .i64 p108.2]] ++ X') := S
      have e27 : sl a 27 = .pointer (some ⟨g0, 0, none⟩) := hp 22 rfl
      refine .inr (.inr (.inl ⟨rfl, _, _, (run_call (vs := [.pointer (some ⟨g0, 0, none⟩), .int .i64 30]) rfl rfl co34 ⟨(ev_sl e27), (ev_const _ _), trivial⟩), ?_⟩))
      refine Calls.mono (c_spec_l20Rd_pick (x0 := x0) (x1 := p108.2) (x2 := 30) ⟨h0.rc, rfl⟩ S h109) ?_
      rintro e w1 ⟨rfl, T⟩
      exact ⟨_, rfl, rfl, T⟩
    · intro a u X' hB hu hp hr hz hl S
      replace S : St w0 u ([] ++ X') := S
      have e28 : sl a 28 = .int .i64 p109.1 := hp 23 rfl
      exact .inl ⟨rfl, .int .i64 (w64 (Int.tdiv p109.1 29)), u, (run_quo (z := w64 (Int.tdiv p109.1 29)) (ev_sl e28) (ev_const _ _) rfl (by decide) rfl), rfl, S⟩
    · intro a u X' hB hu hp hr hz hl S
      replace S : St w0 u ([] ++ X') := S
      have e29 : sl a 29 = .int .i64 (w64 (Int.tdiv p109.1 29)) := hp 24 rfl
      exact .inl ⟨rfl, .int .i64 (w64 ((w64 (Int.tdiv p109.1 29)) * 5)), u, (run_mul (z := w64 ((w64 (Int.tdiv p109.1 29)) * 5)) (ev_sl e29) (ev_const _ _) rfl rfl), rfl, S⟩
    · intro a u X' hB hu hp hr hz hl S
      replace S : St w0 u ([] ++ X') := S
      have e26 : sl a 26 = .int .i64 p108.1 := hp 21 rfl
      have e30 : sl a 30 = .int .i64 (w64 ((w64 (Int.tdiv p109.1 29)) * 5)) := hp 25 rfl
      exact .inl ⟨rfl, .int .i64 (w64 (p108.1 + (w64 ((w64 (Int.tdiv p109.1 29)) * 5)))), u, (run_add (z := w64 (p108.1 + (w64 ((w64 (Int.tdiv p109.1 29)) * 5)))) (ev_sl e26) (ev_sl e30) rfl rfl), rfl, S⟩
    · intro a u X' hB hu hp hr hz hl S
      replace S : St w0 u ([] ++ X') := S
      have e14 : sl a 14 = .int .i64 (w64 ((([0, 1, 2, 2, 2]).getD p103.1.toNat (0 : Int)) + (w64 ((w64 (Int.tdiv p105.1 39)) * 3)))) := hp 9 rfl
      have e21 : sl a 21 = .int .i64 (w64 (p106.1 + (w64 ((w64 (Int.tdiv p107.1 39)) * 2)))) := hp 16 rfl
      have e31 : sl a 31 = .int .i64 (w64 (p108.1 + (w64 ((w64 (Int.tdiv p109.1 29)) * 5)))) := hp 26 rfl
      exact .inl ⟨rfl, .agg #[.int .i64 (w64 ((([0, 1, 2, 2, 2]).getD p103.1.toNat (0 : Int)) + (w64 ((w64 (Int.tdiv p105.1 39)) * 3)))), .int .i64 (w64 (p106.1 + (w64 ((w64 (Int.tdiv p107.1 39)) * 2)))), .int .i64 (w64 (p108.1 + (w64 ((w64 (Int.tdiv p109.1 29)) * 5))))], u, (run_build (vs := [(0, .int .i64 (w64 ((([0, 1, 2, 2, 2]).getD p103.1.toNat (0 : Int)) + (w64 ((w64 (Int.tdiv p105.1 39)) * 3))))), (1, .int .i64 (w64 (p106.1 + (w64 ((w64 (Int.tdiv p107.1 39)) * 2))))), (2, .int .i64 (w64 (p108.1 + (w64 ((w64 (Int.tdiv p109.1 29)) * 5)))))]) rfl ⟨⟨rfl, (ev_sl e14)⟩, ⟨rfl, (ev_sl e21)⟩, ⟨rfl, (ev_sl e31)⟩, trivial⟩ (bd27_0_1_2 rfl rfl rfl)), rfl, S⟩
    · intro a u X' hB hu hp hr hz hl S
      replace S : St w0 u ([.box g102 27 #[.int .i64 0, .int .i64 0, .int .i64 0]] ++ X') := S
      have e32 : sl a 32 = .agg #[.int .i64 (w64 ((([0, 1, 2, 2, 2]).getD p103.1.toNat (0 : Int)) + (w64 ((w64 (Int.tdiv p105.1 39)) * 3)))), .int .i64 (w64 (p106.1 + (w64 ((w64 (Int.tdiv p107.1 39)) * 2)))), .int .i64 (w64 (p108.1 + (w64 ((w64 (Int.tdiv p109.1 29)) * 5))))] := hp 27 rfl
      exact .inr (.inl ⟨rfl, _, run_store (cs' := #[.int .i64 (w64 ((([0, 1, 2, 2, 2]).getD p103.1.toNat (0 : Int)) + (w64 ((w64 (Int.tdiv p105.1 39)) * 3)))), .int .i64 (w64 (p106.1 + (w64 ((w64 (Int.tdiv p107.1 39)) * 2)))), .int .i64 (w64 (p108.1 + (w64 ((w64 (Int.tdiv p109.1 29)) * 5))))]) rfl sz27 (hF.evB hB rfl rfl) (ev_sl e32) rfl rfl rfl (S.free 0 rfl) rfl rfl, trivial, S.put 0 rfl (#[.int .i64 (w64 ((([0, 1, 2, 2, 2]).getD p103.1.toNat (0 : Int)) + (w64 ((w64 (Int.tdiv p105.1 39)) * 3)))), .int .i64 (w64 (p106.1 + (w64 ((w64 (Int.tdiv p107.1 39)) * 2)))), .int .i64 (w64 (p108.1 + (w64 ((w64 (Int.tdiv p109.1 29)) * 5))))])⟩)
  · intro a u hB hp S
    obtain ⟨q0, q1, q2, q3, q4, q5, q6, q7, q8, q9, q10, q11, q12, q13, q14, q15, q16, q17, q18, q19, q20, q21, q22, q23, q24, q25, q26, q27, q28, _⟩ := hp
    have e5 : sl a 5 = .slice (slA (sl a 5)) (([0, 1, 2, 2, 2] : List Int).length) (([0, 1, 2, 2, 2] : List Int).length) := q0
    have e6 : sl a 6 = .pointer (some ⟨g0, 0, none⟩) := q1
    have e7 : sl a 7 = .int .i64 p103.1 := q2
    have e8 : sl a 8 = .pointer (some ⟨adB (slA (sl a 5)), adO (slA (sl a 5)) + p103.1.toNat * 1, none⟩) := q3
    have e9 : sl a 9 = .int .i64 (([0, 1, 2, 2, 2]).getD p103.1.toNat (0 : Int)) := q4
    have e10 : sl a 10 = .pointer (some ⟨g0, 0, none⟩) := q5
    have e11 : sl a 11 = .int .i64 p105.1 := q6
    have e12 : sl a 12 = .int .i64 (w64 (Int.tdiv p105.1 39)) := q7
    have e13 : sl a 13 = .int .i64 (w64 ((w64 (Int.tdiv p105.1 39)) * 3)) := q8
    have e14 : sl a 14 = .int .i64 (w64 ((([0, 1, 2, 2, 2]).getD p103.1.toNat (0 : Int)) + (w64 ((w64 (Int.tdiv p105.1 39)) * 3)))) := q9
    have e15 : sl a 15 = .pointer (some ⟨g0, 0, none⟩) := q10
    have e16 : sl a 16 = .int .i64 p106.1 := q11
    have e17 : sl a 17 = .pointer (some ⟨g0, 0, none⟩) := q12
    have e18 : sl a 18 = .int .i64 p107.1 := q13
    have e19 : sl a 19 = .int .i64 (w64 (Int.tdiv p107.1 39)) := q14
    have e20 : sl a 20 = .int .i64 (w64 ((w64 (Int.tdiv p107.1 39)) * 2)) := q15
    have e21 : sl a 21 = .int .i64 (w64 (p106.1 + (w64 ((w64 (Int.tdiv p107.1 39)) * 2)))) := q16
    have e22 : sl a 22 = .pointer (some ⟨g0, 0, none⟩) := q17
    have e23 : sl a 23 = .pointer (some ⟨g101, 2, none⟩) := q18
    have e24 : sl a 24 = .slice A4 x4.length c4 := q19
    have e25 : sl a 25 = .int .i64 (x4.length : Int) := q20
    have e26 : sl a 26 = .int .i64 p108.1 := q21
    have e27 : sl a 27 = .pointer (some ⟨g0, 0, none⟩) := q22
    have e28 : sl a 28 = .int .i64 p109.1 := q23
    have e29 : sl a 29 = .int .i64 (w64 (Int.tdiv p109.1 29)) := q24
    have e30 : sl a 30 = .int .i64 (w64 ((w64 (Int.tdiv p109.1 29)) * 5)) := q25
    have e31 : sl a 31 = .int .i64 (w64 (p108.1 + (w64 ((w64 (Int.tdiv p109.1 29)) * 5)))) := q26
    have e32 : sl a 32 = .agg #[.int .i64 (w64 ((([0, 1, 2, 2, 2]).getD p103.1.toNat (0 : Int)) + (w64 ((w64 (Int.tdiv p105.1 39)) * 3)))), .int .i64 (w64 (p106.1 + (w64 ((w64 (Int.tdiv p107.1 39)) * 2)))), .int .i64 (w64 (p108.1 + (w64 ((w64 (Int.tdiv p109.1 29)) * 5))))] := q27
    replace S : St w0 u (Asn.row 3 1 (.slice (slA (sl a 5)) (([0, 1, 2, 2, 2] : List Int).length) (([0, 1, 2, 2, 2] : List Int).length)) (([0, 1, 2, 2, 2] : List Int).length) (([0, 1, 2, 2, 2]).flatMap eI) :: Asn.box g0 67 #[.slice A0 x0.length c0, .int .i64 p109.2] :: Asn.box g102 27 #[.int .i64 (w64 ((([0, 1, 2, 2, 2]).getD p103.1.toNat (0 : Int)) + (w64 ((w64 (Int.tdiv p105.1 39)) * 3)))), .int .i64 (w64 (p106.1 + (w64 ((w64 (Int.tdiv p107.1 39)) * 2)))), .int .i64 (w64 (p108.1 + (w64 ((w64 (Int.tdiv p109.1 29)) * 5))))] :: Asn.box g101 25 #[.int .i64 x2, .int .i64 x3, .slice A4 x4.length c4] :: Asn.row 3 1 (.slice A4 x4.length c4) x4.length (x4.flatMap eI) :: X) := S
    clear q0 q1 q2 q3 q4 q5 q6 q7 q8 q9 q10 q11 q12 q13 q14 q15 q16 q17 q18 q19 q20 q21 q22 q23 q24 q25 q26 q27 q28
    generalize slA (sl a 5) = B110 at *
    have hF := hF.region hB [(5, .slice B110 (([0, 1, 2, 2, 2] : List Int).length) (([0, 1, 2, 2, 2] : List Int).length)), (6, .pointer (some ⟨g0, 0, none⟩)), (7, .int .i64 p103.1), (8, .pointer (some ⟨adB B110, adO B110 + p103.1.toNat * 1, none⟩)), (9, .int .i64 (([0, 1, 2, 2, 2]).getD p103.1.toNat (0 : Int))), (10, .pointer (some ⟨g0, 0, none⟩)), (11, .int .i64 p105.1), (12, .int .i64 (w64 (Int.tdiv p105.1 39))), (13, .int .i64 (w64 ((w64 (Int.tdiv p105.1 39)) * 3))), (14, .int .i64 (w64 ((([0, 1, 2, 2, 2]).getD p103.1.toNat (0 : Int)) + (w64 ((w64 (Int.tdiv p105.1 39)) * 3))))), (15, .pointer (some ⟨g0, 0, none⟩)), (16, .int .i64 p106.1), (17, .pointer (some ⟨g0, 0, none⟩)), (18, .int .i64 p107.1), (19, .int .i64 (w64 (Int.tdiv p107.1 39))), (20, .int .i64 (w64 ((w64 (Int.tdiv p107.1 39)) * 2))), (21, .int .i64 (w64 (p106.1 + (w64 ((w64 (Int.tdiv p107.1 39)) * 2))))), (22, .pointer (some ⟨g0, 0, none⟩)), (23, .pointer (some ⟨g101, 2, none⟩)), (24, .slice A4 x4.length c4), (25, .int .i64 (x4.length : Int)), (26, .int .i64 p108.1), (27, .pointer (some ⟨g0, 0, none⟩)), (28, .int .i64 p109.1), (29, .int .i64 (w64 (Int.tdiv p109.1 29))), (30, .int .i64 (w64 ((w64 (Int.tdiv p109.1 29)) * 5))), (31, .int .i64 (w64 (p108.1 + (w64 ((w64 (Int.tdiv p109.1 29)) * 5))))), (32, .agg #[.int .i64 (w64 ((([0, 1, 2, 2, 2]).getD p103.1.toNat (0 : Int)) + (w64 ((w64 (Int.tdiv p105.1 39)) * 3)))), .int .i64 (w64 (p106.1 + (w64 ((w64 (Int.tdiv p107.1 39)) * 2)))), .int .i64 (w64 (p108.1 + (w64 ((w64 (Int.tdiv p109.1 29)) * 5))))])] (allSl_mem ⟨e5, e6, e7, e8, e9, e10, e11, e12, e13, e14, e15, e16, e17, e18, e19, e20, e21, e22, e23, e24, e25, e26, e27, e28, e29, e30, e31, e32, trivial⟩) rfl
    clear hB e5 e6 e7 e8 e9 e10 e11 e12 e13 e14 e15 e16 e17 e18 e19 e20 e21 e22 e23 e24 e25 e26 e27 e28 e29 e30 e31 e32
    refine wp_ret ?_
    repeat with_reducible (first | refine then_ret ?_ | refine in_ret ?_ | refine in_nrm ?_)
    refine ret1_gw (.inl rfl) hF rfl (res_cell (hF.ev rfl) (res_loadN ag27 rfl (S.cells 2 rfl 0 #[.int .i64 (w64 ((([0, 1, 2, 2, 2]).getD p103.1.toNat (0 : Int)) + (w64 ((w64 (Int.tdiv p105.1 39)) * 3)))), .int .i64 (w64 (p106.1 + (w64 ((w64 (Int.tdiv p107.1 39)) * 2)))), .int .i64 (w64 (p108.1 + (w64 ((w64 (Int.tdiv p109.1 29)) * 5))))] rfl))) ?_
    obtain rfl := Option.some.inj hM
    exact ⟨rfl, S.selT (M := [.box g0 67 #[.slice A0 x0.length c0, .int .i64 p109.2], .row 3 1 (.slice A4 x4.length c4) x4.length (x4.flatMap eI)]) 5 [1, 4] rfl rfl rfl⟩

set_option maxHeartbeats 4000000 in
theorem c_spec_l1In {x0 : Int} {x1 : Int} {x2 : Int} {w : World} {r : Bool}  (hM : m_spec_l1In x0 x1 x2 = some r) :
    Calls Tryd.prog 27 #[.int .i64 x0, .int .i64 x1, .int .i64 x2] w (fun e w' => e = .returned (.bool r) ∧ St w w' []) := by
  unfold m_spec_l1In at hM
  refine calls_gw Tryd.func27 Tryd.ntmps27 rfl [(0, .int .i64 x0), (1, .int .i64 x1), (2, .int .i64 x2)] ⟨rfl, rfl, rfl, trivial⟩ rfl ?_
  intro a hF
  have S := St.nil w
  refine wp_seq ?_
  refine wp_region_lit ?_
  refine op_val (v := .bool false) rfl rfl hF rfl (run_assign rfl rfl) ?_; clear hF; intro a hF
  refine wpList_nil ?_
  refine wp_seq ?_
  refine wp_region_lit ?_
  refine op_val (v := .int .i64 x0) rfl rfl hF rfl (run_move rfl (hF.ev rfl)) ?_; clear hF; intro a hF
  refine op_val (v := .int .i64 x1) rfl rfl hF rfl (run_move rfl (hF.ev rfl)) ?_; clear hF; intro a hF
  refine op_val (v := .bool (leB x1 x0)) rfl rfl hF rfl (run_geq (hF.ev rfl) (hF.ev rfl) rfl) ?_; clear hF; intro a hF
  refine op_val (v := .bool (leB x1 x0)) rfl rfl hF rfl (run_move rfl (hF.ev rfl)) ?_; clear hF; intro a hF
  refine op_gv (v := .int .i64 x0) rfl rfl hF rfl (yt (gw_yield hF rfl rfl rfl)) (fun hg => (run_move rfl (hF.ev rfl))) ?_; clear hF; intro a hF
  refine op_gv (v := .int .i64 x2) rfl rfl hF rfl (yt (gw_yield hF rfl rfl rfl)) (fun hg => (run_move rfl (hF.ev rfl))) ?_; clear hF; intro a hF
  refine op_gv (v := .bool (leB x0 x2)) rfl rfl hF rfl (yt (gw_yield hF rfl rfl rfl)) (fun hg => (run_leq ((hF.ev rfl).trans (gv_t hg)) ((hF.ev rfl).trans (gv_t hg)) rfl)) ?_; clear hF; intro a hF
  refine op_val (v := .bool ((leB x1 x0) && (leB x0 x2))) rfl rfl hF rfl (run_pick_and rfl (hF.ev rfl) (fun hp => ((hF.ev rfl).trans (gv_t hp))) rfl) ?_; clear hF; intro a hF
  refine op_val (v := .bool ((leB x1 x0) && (leB x0 x2))) rfl rfl hF rfl (run_assign rfl (hF.ev rfl)) ?_; clear hF; intro a hF
  refine wpList_nil ?_
  refine wp_ret ?_
  repeat with_reducible (first | refine then_ret ?_ | refine in_ret ?_ | refine in_nrm ?_)
  refine ret1_gw (.inl rfl) hF rfl (res_tmp (hF.ev rfl)) ?_
  obtain rfl := Option.some.inj hM
  exact ⟨rfl, S.sel [] rfl rfl⟩

set_option maxHeartbeats 4000000 in
theorem c_spec_RoomsValid {x0 : Int} {x1 : Int} {x2 : List Int} {A2 : Option Addr} {n2 c2 : Nat} {w : World} {r : Bool} (h2 : Rt w 1 eI A2 n2 c2 x2) (hM : m_spec_RoomsValid x0 x1 x2 = some r) :
    Calls Tryd.prog 15 #[.agg #[.int .i64 x0, .int .i64 x1, .slice A2 n2 c2]] w (fun e w' => e = .returned (.bool r) ∧ St w w' []) := by
  obtain rfl := h2.len
  unfold m_spec_RoomsValid at hM
  refine calls_gw Tryd.func15 Tryd.ntmps15 rfl [(0, .agg #[.int .i64 x0, .int .i64 x1, .slice A2 x2.length c2])] ⟨rfl, trivial⟩ rfl ?_
  intro a hF
  have S := St.nil w
  refine wp_seq ?_
  refine wp_region_lit ?_
  refine op_new (cs := #[.int .i64 x0, .int .i64 x1, .slice A2 x2.length c2]) rfl rfl hF rfl S (run_box rfl (hF.ev rfl) rfl) ?_; clear hF S; intro a g101 u hF S
  refine op_val (v := .bool false) rfl rfl hF rfl (run_assign rfl rfl) ?_; clear hF; intro a hF
  refine wpList_nil ?_
  refine wp_seq ?_
  refine wp_seq ?_
  refine wp_region_lit ?_
  refine op_val (v := .pointer (some ⟨g101, 0, none⟩)) rfl rfl hF rfl (run_fieldAddr rfl fl25_0 (hF.ev rfl) rfl) ?_; clear hF; intro a hF
  refine op_val (v := .int .i64 x0) rfl rfl hF rfl (run_load1 rfl one3 (hF.ev rfl) ((S.free 0 rfl).cell rfl)) ?_; clear hF; intro a hF
  obtain ⟨p102, h102, hM⟩ := bind_ex hM
  refine op_call rfl rfl hF rfl (run_call (vs := [.int .i64 x0, .int .i64 0, .int .i64 99]) rfl rfl co27 ⟨(hF.ev rfl), rfl, rfl, trivial⟩) (c_spec_l1In (x0 := x0) (x1 := 0) (x2 := 99)  h102) ?_
  rintro e u ⟨rfl, T⟩
  refine ⟨_, rfl, ?_⟩
  clear hF; intro a hF
  replace S := S.call0 T; clear T
  refine op_val (v := .bool (!p102)) rfl rfl hF rfl (run_not rfl (hF.ev rfl)) ?_; clear hF; intro a hF
  refine op_val (v := .bool (!p102)) rfl rfl hF rfl (run_move rfl (hF.ev rfl)) ?_; clear hF; intro a hF
  refine op_gv (v := .pointer (some ⟨g101, 1, none⟩)) rfl rfl hF rfl (yf (gw_yield hF rfl rfl rfl)) (fun hg => (run_fieldAddr rfl fl25_1 (hF.ev rfl) rfl)) ?_; clear hF; intro a hF
  refine op_gv (v := .int .i64 x1) rfl rfl hF rfl (yf (gw_yield hF rfl rfl rfl)) (fun hg => (run_load1 rfl one3 ((hF.ev rfl).trans (gv_t hg)) ((S.free 0 rfl).cell rfl))) ?_; clear hF; intro a hF
  obtain ⟨p103, h103, hM⟩ := bind_ex hM
  refine op_gcall (v := .bool p103) rfl rfl hF rfl S (yf (gw_yield hF rfl rfl rfl)) (fun hg => (run_call (vs := [.int .i64 x1, .int .i64 0, .int .i64 99]) rfl rfl co27 ⟨((hF.ev rfl).trans (gv_t hg)), rfl, rfl, trivial⟩)) (fun hg => c_spec_l1In (x0 := x1) (x1 := 0) (x2 := 99)  (gb_t h103 hg)) ?_; clear hF S; intro a u hF S
  refine op_gv (v := .bool (!p103)) rfl rfl hF rfl (yf (gw_yield hF rfl rfl rfl)) (fun hg => (run_not rfl ((hF.ev rfl).trans (gv_t hg)))) ?_; clear hF; intro a hF
  refine op_val (v := .bool ((!p102) || (!p103))) rfl rfl hF rfl (run_pick_or rfl (hF.ev rfl) rfl (fun hp => ((hF.ev rfl).trans (gv_t (not_t hp))))) ?_; clear hF; intro a hF
  refine op_val (v := .bool ((!p102) || (!p103))) rfl rfl hF rfl (run_move rfl (hF.ev rfl)) ?_; clear hF; intro a hF
  refine op_gv (v := .pointer (some ⟨g101, 0, none⟩)) rfl rfl hF rfl (yf (gw_yield hF rfl rfl rfl)) (fun hg => (run_fieldAddr rfl fl25_0 (hF.ev rfl) rfl)) ?_; clear hF; intro a hF
  refine op_gv (v := .int .i64 x0) rfl rfl hF rfl (yf (gw_yield hF rfl rfl rfl)) (fun hg => (run_load1 rfl one3 ((hF.ev rfl).trans (gv_t hg)) ((S.free 0 rfl).cell rfl))) ?_; clear hF; intro a hF
  refine op_gv (v := .int .i64 (Int.tmod x0 2)) rfl rfl hF rfl (yf (gw_yield hF rfl rfl rfl)) (fun hg => (run_rem (z := Int.tmod x0 2) ((hF.ev rfl).trans (gv_t hg)) rfl rfl (by decide) rfl)) ?_; clear hF; intro a hF
  refine op_gv (v := .bool ((Int.tmod x0 2) != 0)) rfl rfl hF rfl (yf (gw_yield hF rfl rfl rfl)) (fun hg => (run_neq ((hF.ev rfl).trans (gv_t hg)) rfl rfl)) ?_; clear hF; intro a hF
  refine op_val (v := .bool (((!p102) || (!p103)) || ((Int.tmod x0 2) != 0))) rfl rfl hF rfl (run_pick_or rfl (hF.ev rfl) rfl (fun hp => ((hF.ev rfl).trans (gv_t (not_t hp))))) ?_; clear hF; intro a hF
  refine op_val (v := .bool (((!p102) || (!p103)) || ((Int.tmod x0 2) != 0))) rfl rfl hF rfl (run_move rfl (hF.ev rfl)) ?_; clear hF; intro a hF
  refine op_gv (v := .pointer (some ⟨g101, 1, none⟩)) rfl rfl hF rfl (yf (gw_yield hF rfl rfl rfl)) (fun hg => (run_fieldAddr rfl fl25_1 (hF.ev rfl) rfl)) ?_; clear hF; intro a hF
  refine op_gv (v := .int .i64 x1) rfl rfl hF rfl (yf (gw_yield hF rfl rfl rfl)) (fun hg => (run_load1 rfl one3 ((hF.ev rfl).trans (gv_t hg)) ((S.free 0 rfl).cell rfl))) ?_; clear hF; intro a hF
  refine op_gv (v := .int .i64 (Int.tmod x1 2)) rfl rfl hF rfl (yf (gw_yield hF rfl rfl rfl)) (fun hg => (run_rem (z := Int.tmod x1 2) ((hF.ev rfl).trans (gv_t hg)) rfl rfl (by decide) rfl)) ?_; clear hF; intro a hF
  refine op_gv (v := .bool ((Int.tmod x1 2) != 1)) rfl rfl hF rfl (yf (gw_yield hF rfl rfl rfl)) (fun hg => (run_neq ((hF.ev rfl).trans (gv_t hg)) rfl rfl)) ?_; clear hF; intro a hF
  refine op_val (v := .bool ((((!p102) || (!p103)) || ((Int.tmod x0 2) != 0)) || ((Int.tmod x1 2) != 1))) rfl rfl hF rfl (run_pick_or rfl (hF.ev rfl) rfl (fun hp => ((hF.ev rfl).trans (gv_t (not_t hp))))) ?_; clear hF; intro a hF
  refine wpList_nil ?_
  cases hc104 : ((((!p102) || (!p103)) || ((Int.tmod x0 2) != 0)) || ((Int.tmod x1 2) != 1))
  · replace hM := bif_f hc104 hM
    refine cond_f hF rfl hc104 ?_
    refine wp_skip ?_
    refine wp_seq ?_
    refine wp_seq ?_
    refine wp_region_lit ?_
    refine op_val (v := .int .i64 0) rfl rfl hF rfl (run_assign rfl rfl) ?_; clear hF; intro a hF
    refine wpList_nil ?_
    obtain ⟨o106, hM107, hM⟩ := bind_ex hM
    refine wp_cut (fun a u => ∃ (p105 : Unit), (Sum.inl p105) = o106 ∧ Fr a 67 [(1, .pointer (some ⟨g101, 0, none⟩)), (2, .bool false)] ∧ St w u [.box g101 25 #[.int .i64 x0, .int .i64 x1, .slice A2 x2.length c2]]) ?_ ?_
    · have _ := trivial
      refine wp_block ?_
      refine loop_gw (fun m a u => ∃ (p108 : Int), m_spec_RoomsValid_l1 x0 x1 x2 m p108 = some _ ∧ Fr a 67 [(1, .pointer (some ⟨g101, 0, none⟩)), (2, .bool false), (3, .int .i64 p108)] ∧ St w u [.box g101 25 #[.int .i64 x0, .int .i64 x1, .slice A2 x2.length c2]]) FUEL ⟨0, hM107, hF.keep _ ⟨rfl, rfl, rfl, trivial⟩, S.sel [0] rfl rfl⟩ ?_
      clear hF S hM107; rintro m a u ⟨p108, hM107, hF, S⟩
      rcases m with _ | f1
      · exact none_some hM107
      rw [m_spec_RoomsValid_l1.eq_2] at hM107
      refine wp_seq ?_
      refine wp_seq ?_
      refine wp_region_lit ?_
      refine op_val (v := .int .i64 p108) rfl rfl hF rfl (run_move rfl (hF.ev rfl)) ?_; clear hF; intro a hF
      refine op_val (v := .pointer (some ⟨g101, 2, none⟩)) rfl rfl hF rfl (run_fieldAddr rfl fl25_2 (hF.ev rfl) rfl) ?_; clear hF; intro a hF
      refine op_val (v := .slice A2 x2.length c2) rfl rfl hF rfl (run_load1 rfl one23 (hF.ev rfl) ((S.free 0 rfl).cell rfl)) ?_; clear hF; intro a hF
      refine op_val (v := .int .i64 (x2.length : Int)) rfl rfl hF rfl (run_lenL rfl rfl Tryd.underlying23 (hF.ev rfl)) ?_; clear hF; intro a hF
      refine op_val (v := .bool (ltB p108 (x2.length : Int))) rfl rfl hF rfl (run_lss (hF.ev rfl) (hF.ev rfl) rfl) ?_; clear hF; intro a hF
      refine wpList_nil ?_
      cases hc109 : (ltB p108 (x2.length : Int))
      · replace hM107 := bif_f hc109 hM107
        refine cond_f hF rfl hc109 ?_
        refine wp_exit ?_
        repeat with_reducible (first | refine then_exit ?_ | refine in_hit ?_ | refine in_miss rfl ?_)
        obtain rfl := Option.some.inj hM107
        exact ⟨(), rfl, hF.keep _ ⟨rfl, rfl, trivial⟩, S.sel [0] rfl rfl⟩
      · replace hM107 := bif_t hc109 hM107
        refine cond_t hF rfl hc109 ?_
        refine wp_skip ?_
        refine wp_seq ?_
        refine wp_block ?_
        refine wp_seq ?_
        refine wp_region_lit ?_
        refine op_val (v := .pointer (some ⟨g101, 2, none⟩)) rfl rfl hF rfl (run_fieldAddr rfl fl25_2 (hF.ev rfl) rfl) ?_; clear hF; intro a hF
        refine op_val (v := .slice A2 x2.length c2) rfl rfl hF rfl (run_load1 rfl one23 (hF.ev rfl) ((S.free 0 rfl).cell rfl)) ?_; clear hF; intro a hF
        refine op_val (v := .int .i64 p108) rfl rfl hF rfl (run_move rfl (hF.ev rfl)) ?_; clear hF; intro a hF
        obtain ⟨hk110, hM107⟩ := chk_ex hM107
        replace hk110 := ixB_t hk110
        refine op_val (v := .pointer (some ⟨adB A2, adO A2 + p108.toNat * 1, none⟩)) rfl rfl hF rfl (run_indexAddr (b := adB A2) (off := adO A2) rfl Tryd.underlying23 sz3 ((hF.ev rfl).trans (congrArg (fun A => Value.slice A x2.length c2) ((S.rc0 h2.rc).rd.ad (ix_pos hk110)))) (hF.ev rfl) hk110.1 hk110.2 (k' := adO A2 + p108.toNat * 1) rfl) ?_; clear hF; intro a hF
        refine op_val (v := .int .i64 (x2.getD p108.toNat (0 : Int))) rfl rfl hF rfl (run_load1 rfl one3 (hF.ev rfl) (rd_el0 (l := x2) (S.rc0 h2.rc).rd rfl eI_len (0 : Int) (ix_ltn hk110 rfl) rfl)) ?_; clear hF; intro a hF
        refine op_val (v := .int .i64 (x2.getD p108.toNat (0 : Int))) rfl rfl hF rfl (run_assign rfl (hF.ev rfl)) ?_; clear hF; intro a hF
        refine wpList_nil ?_
        refine wp_seq ?_
        refine wp_region_lit ?_
        refine op_val (v := .int .i64 (x2.getD p108.toNat (0 : Int))) rfl rfl hF rfl (run_move rfl (hF.ev rfl)) ?_; clear hF; intro a hF
        refine op_val (v := .bool (ltB (x2.getD p108.toNat (0 : Int)) 0)) rfl rfl hF rfl (run_lss (hF.ev rfl) rfl rfl) ?_; clear hF; intro a hF
        refine op_val (v := .bool (ltB (x2.getD p108.toNat (0 : Int)) 0)) rfl rfl hF rfl (run_move rfl (hF.ev rfl)) ?_; clear hF; intro a hF
        refine op_gv (v := .int .i64 (x2.getD p108.toNat (0 : Int))) rfl rfl hF rfl (yf (gw_yield hF rfl rfl rfl)) (fun hg => (run_move rfl (hF.ev rfl))) ?_; clear hF; intro a hF
        refine op_gv (v := .int .i64 (Int.tmod (x2.getD p108.toNat (0 : Int)) 2)) rfl rfl hF rfl (yf (gw_yield hF rfl rfl rfl)) (fun hg => (run_rem (z := Int.tmod (x2.getD p108.toNat (0 : Int)) 2) ((hF.ev rfl).trans (gv_t hg)) rfl rfl (by decide) rfl)) ?_; clear hF; intro a hF
        refine op_gv (v := .bool ((Int.tmod (x2.getD p108.toNat (0 : Int)) 2) == 0)) rfl rfl hF rfl (yf (gw_yield hF rfl rfl rfl)) (fun hg => (run_eql ((hF.ev rfl).trans (gv_t hg)) rfl rfl)) ?_; clear hF; intro a hF
        refine op_gv (v := .bool ((Int.tmod (x2.getD p108.toNat (0 : Int)) 2) == 0)) rfl rfl hF rfl (yf (gw_yield hF rfl rfl rfl)) (fun hg => (run_move rfl ((hF.ev rfl).trans (gv_t hg)))) ?_; clear hF; intro a hF
        refine op_gv (v := .int .i64 (x2.getD p108.toNat (0 : Int))) rfl rfl hF rfl (ytG (gw_yieldG hF rfl rfl rfl)) (fun hg => (run_move rfl (hF.ev rfl))) ?_; clear hF; intro a hF
        refine op_gv (v := .pointer (some ⟨g101, 0, none⟩)) rfl rfl hF rfl (ytG (gw_yieldG hF rfl rfl rfl)) (fun hg => (run_fieldAddr rfl fl25_0 (hF.ev rfl) rfl)) ?_; clear hF; intro a hF
        refine op_gv (v := .int .i64 x0) rfl rfl hF rfl (ytG (gw_yieldG hF rfl rfl rfl)) (fun hg => (run_load1 rfl one3 ((hF.ev rfl).trans (gv_t hg)) ((S.free 0 rfl).cell rfl))) ?_; clear hF; intro a hF
        refine op_gv (v := .bool (ltB x0 (x2.getD p108.toNat (0 : Int)))) rfl rfl hF rfl (ytG (gw_yieldG hF rfl rfl rfl)) (fun hg => (run_gtr ((hF.ev rfl).trans (gv_t hg)) ((hF.ev rfl).trans (gv_t hg)) rfl)) ?_; clear hF; intro a hF
        refine op_gv (v := .bool (((Int.tmod (x2.getD p108.toNat (0 : Int)) 2) == 0) && (ltB x0 (x2.getD p108.toNat (0 : Int))))) rfl rfl hF rfl (yf (gw_yield hF rfl rfl rfl)) (fun hg => (run_pick_and rfl ((hF.ev rfl).trans (gv_t hg)) (fun hp => ((hF.ev rfl).trans (gv_t (and_i hg hp)))) rfl)) ?_; clear hF; intro a hF
        refine op_val (v := .bool ((ltB (x2.getD p108.toNat (0 : Int)) 0) || (((Int.tmod (x2.getD p108.toNat (0 : Int)) 2) == 0) && (ltB x0 (x2.getD p108.toNat (0 : Int)))))) rfl rfl hF rfl (run_pick_or rfl (hF.ev rfl) rfl (fun hp => ((hF.ev rfl).trans (gv_t (not_t hp))))) ?_; clear hF; intro a hF
        refine op_val (v := .bool ((ltB (x2.getD p108.toNat (0 : Int)) 0) || (((Int.tmod (x2.getD p108.toNat (0 : Int)) 2) == 0) && (ltB x0 (x2.getD p108.toNat (0 : Int)))))) rfl rfl hF rfl (run_move rfl (hF.ev rfl)) ?_; clear hF; intro a hF
        refine op_gv (v := .int .i64 (x2.getD p108.toNat (0 : Int))) rfl rfl hF rfl (yf (gw_yield hF rfl rfl rfl)) (fun hg => (run_move rfl (hF.ev rfl))) ?_; clear hF; intro a hF
        refine op_gv (v := .int .i64 (Int.tmod (x2.getD p108.toNat (0 : Int)) 2)) rfl rfl hF rfl (yf (gw_yield hF rfl rfl rfl)) (fun hg => (run_rem (z := Int.tmod (x2.getD p108.toNat (0 : Int)) 2) ((hF.ev rfl).trans (gv_t hg)) rfl rfl (by decide) rfl)) ?_; clear hF; intro a hF
        refine op_gv (v := .bool ((Int.tmod (x2.getD p108.toNat (0 : Int)) 2) == 1)) rfl rfl hF rfl (yf (gw_yield hF rfl rfl rfl)) (fun hg => (run_eql ((hF.ev rfl).trans (gv_t hg)) rfl rfl)) ?_; clear hF; intro a hF
        refine op_gv (v := .bool ((Int.tmod (x2.getD p108.toNat (0 : Int)) 2) == 1)) rfl rfl hF rfl (yf (gw_yield hF rfl rfl rfl)) (fun hg => (run_move rfl ((hF.ev rfl).trans (gv_t hg)))) ?_; clear hF; intro a hF
        refine op_gv (v := .int .i64 (x2.getD p108.toNat (0 : Int))) rfl rfl hF rfl (ytG (gw_yieldG hF rfl rfl rfl)) (fun hg => (run_move rfl (hF.ev rfl))) ?_; clear hF; intro a hF
        refine op_gv (v := .pointer (some ⟨g101, 1, none⟩)) rfl rfl hF rfl (ytG (gw_yieldG hF rfl rfl rfl)) (fun hg => (run_fieldAddr rfl fl25_1 (hF.ev rfl) rfl)) ?_; clear hF; intro a hF
        refine op_gv (v := .int .i64 x1) rfl rfl hF rfl (ytG (gw_yieldG hF rfl rfl rfl)) (fun hg => (run_load1 rfl one3 ((hF.ev rfl).trans (gv_t hg)) ((S.free 0 rfl).cell rfl))) ?_; clear hF; intro a hF
        refine op_gv (v := .bool (ltB x1 (x2.getD p108.toNat (0 : Int)))) rfl rfl hF rfl (ytG (gw_yieldG hF rfl rfl rfl)) (fun hg => (run_gtr ((hF.ev rfl).trans (gv_t hg)) ((hF.ev rfl).trans (gv_t hg)) rfl)) ?_; clear hF; intro a hF
        refine op_gv (v := .bool (((Int.tmod (x2.getD p108.toNat (0 : Int)) 2) == 1) && (ltB x1 (x2.getD p108.toNat (0 : Int))))) rfl rfl hF rfl (yf (gw_yield hF rfl rfl rfl)) (fun hg => (run_pick_and rfl ((hF.ev rfl).trans (gv_t hg)) (fun hp => ((hF.ev rfl).trans (gv_t (and_i hg hp)))) rfl)) ?_; clear hF; intro a hF
        refine op_val (v := .bool (((ltB (x2.getD p108.toNat (0 : Int)) 0) || (((Int.tmod (x2.getD p108.toNat (0 : Int)) 2) == 0) && (ltB x0 (x2.getD p108.toNat (0 : Int))))) || (((Int.tmod (x2.getD p108.toNat (0 : Int)) 2) == 1) && (ltB x1 (x2.getD p108.toNat (0 : Int)))))) rfl rfl hF rfl (run_pick_or rfl (hF.ev rfl) rfl (fun hp => ((hF.ev rfl).trans (gv_t (not_t hp))))) ?_; clear hF; intro a hF
        refine wpList_nil ?_
        cases hc111 : (((ltB (x2.getD p108.toNat (0 : Int)) 0) || (((Int.tmod (x2.getD p108.toNat (0 : Int)) 2) == 0) && (ltB x0 (x2.getD p108.toNat (0 : Int))))) || (((Int.tmod (x2.getD p108.toNat (0 : Int)) 2) == 1) && (ltB x1 (x2.getD p108.toNat (0 : Int)))))
        · replace hM107 := bif_f hc111 hM107
          refine cond_f hF rfl hc111 ?_
          refine wp_skip ?_
          refine wp_region_lit ?_
          refine op_val (v := .int .i64 p108) rfl rfl hF rfl (run_move rfl (hF.ev rfl)) ?_; clear hF; intro a hF
          refine op_val (v := .int .i64 (w64 (p108 + 1))) rfl rfl hF rfl (run_add (z := w64 (p108 + 1)) (hF.ev rfl) rfl rfl rfl) ?_; clear hF; intro a hF
          refine op_val (v := .int .i64 (w64 (p108 + 1))) rfl rfl hF rfl (run_assign rfl (hF.ev rfl)) ?_; clear hF; intro a hF
          refine wpList_nil ?_
          exact ⟨f1, Nat.lt_succ_self _, w64 (p108 + 1), hM107, hF.keep _ ⟨rfl, rfl, rfl, trivial⟩, S.sel [0] rfl rfl⟩
        · replace hM107 := bif_t hc111 hM107
          refine cond_t hF rfl hc111 ?_
          refine wp_seq ?_
          refine wp_region_lit ?_
          refine op_val (v := .bool false) rfl rfl hF rfl (run_assign rfl rfl) ?_; clear hF; intro a hF
          refine wpList_nil ?_
          refine wp_ret ?_
          repeat with_reducible (first | refine then_ret ?_ | refine in_ret ?_ | refine in_nrm ?_)
          refine ret1_gw (.inl rfl) hF rfl (res_tmp (hF.ev rfl)) ?_
          obtain rfl := Option.some.inj hM107
          obtain rfl := Option.some.inj hM
          exact ⟨rfl, S.sel [] rfl rfl⟩
    · rintro a u ⟨p105, rfl, hF, S⟩
      replace hM := elim_l hM
      refine wp_seq ?_
      refine wp_region_lit ?_
      refine op_val (v := .pointer (some ⟨g101, 2, none⟩)) rfl rfl hF rfl (run_fieldAddr rfl fl25_2 (hF.ev rfl) rfl) ?_; clear hF; intro a hF
      refine op_val (v := .slice A2 x2.length c2) rfl rfl hF rfl (run_load1 rfl one23 (hF.ev rfl) ((S.free 0 rfl).cell rfl)) ?_; clear hF; intro a hF
      refine op_val (v := .int .i64 (x2.length : Int)) rfl rfl hF rfl (run_lenL rfl rfl Tryd.underlying23 (hF.ev rfl)) ?_; clear hF; intro a hF
      obtain ⟨p112, h112, hM⟩ := bind_ex hM
      refine op_call rfl rfl hF rfl (run_call (vs := [.int .i64 (x2.length : Int), .int .i64 1, .int .i64 5]) rfl rfl co27 ⟨(hF.ev rfl), rfl, rfl, trivial⟩) (c_spec_l1In (x0 := (x2.length : Int)) (x1 := 1) (x2 := 5)  h112) ?_
      rintro e u ⟨rfl, T⟩
      refine ⟨_, rfl, ?_⟩
      clear hF; intro a hF
      replace S := S.call0 T; clear T
      refine op_val (v := .bool p112) rfl rfl hF rfl (run_assign rfl (hF.ev rfl)) ?_; clear hF; intro a hF
      refine wpList_nil ?_
      refine wp_ret ?_
      repeat with_reducible (first | refine then_ret ?_ | refine in_ret ?_ | refine in_nrm ?_)
      refine ret1_gw (.inl rfl) hF rfl (res_tmp (hF.ev rfl)) ?_
      obtain rfl := Option.some.inj hM
      exact ⟨rfl, S.sel [] rfl rfl⟩
  · replace hM := bif_t hc104 hM
    refine cond_t hF rfl hc104 ?_
    refine wp_seq ?_
    refine wp_region_lit ?_
    refine op_val (v := .bool false) rfl rfl hF rfl (run_assign rfl rfl) ?_; clear hF; intro a hF
    refine wpList_nil ?_
    refine wp_ret ?_
    repeat with_reducible (first | refine then_ret ?_ | refine in_ret ?_ | refine in_nrm ?_)
    refine ret1_gw (.inl rfl) hF rfl (res_tmp (hF.ev rfl)) ?_
    obtain rfl := Option.some.inj hM
    exact ⟨rfl, S.sel [] rfl rfl⟩

set_option maxHeartbeats 4000000 in
theorem c_spec_l32Set {x0 : Int} {x1 : Int} {x2 : List Int} {x3 : Int} {x4 : Int} {A2 : Option Addr} {n2 c2 : Nat} {w : World} {r : Int × Int × List Int} (h2 : Rt w 1 eI A2 n2 c2 x2) (hM : m_spec_l32Set x0 x1 x2 x3 x4 = some r) :
    Calls Tryd.prog 26 #[.agg #[.int .i64 x0, .int .i64 x1, .slice A2 n2 c2], .int .i64 x3, .int .i64 x4] w (fun e w' => ∃ (B0 : Option Addr) (N0 D0 : Nat), e = .returned (.agg #[.int .i64 r.1, .int .i64 r.2.1, .slice B0 N0 D0]) ∧ N0 = r.2.2.length ∧ St w w' [.row 3 1 (.slice B0 N0 D0) N0 (r.2.2.flatMap eI)]) := by
  obtain rfl := h2.len
  unfold m_spec_l32Set at hM
  refine calls_gw Tryd.func26 Tryd.ntmps26 rfl [(0, .agg #[.int .i64 x0, .int .i64 x1, .slice A2 x2.length c2]), (1, .int .i64 x3), (2, .int .i64 x4)] ⟨rfl, rfl, rfl, trivial⟩ rfl ?_
  intro a hF
  have S := St.nil w
  refine wp_seq ?_
  refine wp_region_lit ?_
  refine op_new (cs := #[.int .i64 x0, .int .i64 x1, .slice A2 x2.length c2]) rfl rfl hF rfl S (run_box rfl (hF.ev rfl) rfl) ?_; clear hF S; intro a g101 u hF S
  refine op_new (cs := #[.int .i64 0, .int .i64 0, .slice none 0 0]) rfl rfl hF rfl S (run_allocZ rfl zr25) ?_; clear hF S; intro a g102 u hF S
  refine wpList_nil ?_
  refine wp_seq ?_
  obtain ⟨hk103, hM⟩ := chk_ex hM
  replace hk103 := apB_t hk103
  refine region_gw (D := [8, 9, 10, 11, 12, 13, 14, 15, 16, 7]) (Lr := [.box g102 25 #[.int .i64 0, .int .i64 0, .slice none 0 0], .box g101 25 #[.int .i64 x0, .int .i64 x1, .slice A2 x2.length c2]]) (deps := (fun | 0 => [8] | 1 => [9] | 2 => [10] | 3 => [11] | 4 => [12] | 5 => [13] | 6 => [14] | 7 => [15] | 8 => [16, 15] | 9 => [7] | 10 => [7, 15] | _ => [])) (rd := (fun _ => [])) (zr := (fun _ => []))
    (φ := fun i vs => match i, vs with | 0, [v8] => v8 = .pointer (some ⟨g101, 0, none⟩) | 1, [v9] => v9 = .int .i64 x0 | 2, [v10] => v10 = .pointer (some ⟨g101, 1, none⟩) | 3, [v11] => v11 = .int .i64 x1 | 4, [v12] => v12 = .slice (slA v12) 0 0 | 5, [v13] => v13 = .pointer (some ⟨g101, 2, none⟩) | 6, [v14] => v14 = .slice A2 x2.length c2 | 7, [v15] => v15 = .slice (slA v15) (([] ++ x2).length) (slC v15) | 8, [v16, v15] => v16 = .agg #[.int .i64 x0, .int .i64 x1, .slice (slA v15) (([] ++ x2).length) (slC v15)] | 9, [v7] => v7 = .pointer (some ⟨ptB v7, 0, none⟩) | _, _ => True)
    (C := fun i vs => match i, vs with | 4, [v12] => [.row 3 1 (.slice (slA v12) 0 0) 0 (([] : List Int).flatMap eI)] | 7, [v15] => [.row 3 1 (.slice (slA v15) (([] ++ x2).length) (slC v15)) (([] ++ x2).length) (([] ++ x2).flatMap eI)] | 9, [v7] => [.box (ptB v7) 25 #[.int .i64 0, .int .i64 0, .slice none 0 0]] | 10, [v7, v15] => [.box (ptB v7) 25 #[.int .i64 x0, .int .i64 x1, .slice (slA v15) (([] ++ x2).length) (slC v15)]] | _, _ => [])
    (κ := (fun | 4 => some 7 | 9 => some 10 | _ => none)) (Z := (fun _ => [])) mixed hF (by kernel_rfl) S ?_ ?_
  · refine ⟨?_, ?_, ?_, ?_, ?_, ?_, ?_, ?_, ?_, ?_, ?_, trivial⟩
    · intro a u X hB hu hp hr hz hl S
      replace S : St w u ([] ++ X) := S
      exact .inl ⟨rfl, .pointer (some ⟨g101, 0, none⟩), u, (run_fieldAddr rfl fl25_0 (hF.evB hB rfl rfl) rfl), rfl, S⟩
    · intro a u X hB hu hp hr hz hl S
      replace S : St w u ([] ++ X) := S
      have e8 : sl a 8 = .pointer (some ⟨g101, 0, none⟩) := hp 0 rfl
      exact .inl ⟨rfl, .int .i64 x0, u, (run_load1 rfl one3 (ev_sl e8) ((gr_box S hl 1 rfl).cell rfl)), rfl, S⟩
    · intro a u X hB hu hp hr hz hl S
      replace S : St w u ([] ++ X) := S
      exact .inl ⟨rfl, .pointer (some ⟨g101, 1, none⟩), u, (run_fieldAddr rfl fl25_1 (hF.evB hB rfl rfl) rfl), rfl, S⟩
    · intro a u X hB hu hp hr hz hl S
      replace S : St w u ([] ++ X) := S
      have e10 : sl a 10 = .pointer (some ⟨g101, 1, none⟩) := hp 2 rfl
      exact .inl ⟨rfl, .int .i64 x1, u, (run_load1 rfl one3 (ev_sl e10) ((gr_box S hl 1 rfl).cell rfl)), rfl, S⟩
    · intro a u X hB hu hp hr hz hl S
      replace S : St w u ([] ++ X) := S
      exact .inl ⟨rfl, _, _, run_buildSlice0 rfl Tryd.underlying23 rfl, rfl, S.newrow 3 1 0 #[] rfl (Nat.zero_le _)⟩
    · intro a u X hB hu hp hr hz hl S
      replace S : St w u ([] ++ X) := S
      exact .inl ⟨rfl, .pointer (some ⟨g101, 2, none⟩), u, (run_fieldAddr rfl fl25_2 (hF.evB hB rfl rfl) rfl), rfl, S⟩
    · intro a u X hB hu hp hr hz hl S
      replace S : St w u ([] ++ X) := S
      have e13 : sl a 13 = .pointer (some ⟨g101, 2, none⟩) := hp 5 rfl
      exact .inl ⟨rfl, .slice A2 x2.length c2, u, (run_load1 rfl one23 (ev_sl e13) ((gr_box S hl 1 rfl).cell rfl)), rfl, S⟩
    · intro a u X hB hu hp hr hz hl S
      replace S : St w u ([.row 3 1 (.slice (slA (sl a 12)) 0 0) 0 (([] : List Int).flatMap eI)] ++ X) := S
      have e12 : sl a 12 = .slice (slA (sl a 12)) 0 0 := hp 4 rfl
      have e14 : sl a 14 = .slice A2 x2.length c2 := hp 6 rfl
      obtain ⟨B, d, w', hrun, S'⟩ := S.appendL (i := 0) (P := Tryd.prog) (ty := 23) (lx := []) (ly := x2) (c' := c2) rfl rfl Tryd.underlying23 inf3 rfl (by decide) (S.rc0 h2.rc).rd rfl eI_one hk103 (by decide)
      exact .inl ⟨rfl, _, w', run_append rfl (ev_sl e12) (ev_sl e14) hrun, rfl, S'⟩
    · intro a u X hB hu hp hr hz hl S
      replace S : St w u ([] ++ X) := S
      have e9 : sl a 9 = .int .i64 x0 := hp 1 rfl
      have e11 : sl a 11 = .int .i64 x1 := hp 3 rfl
      have e15 : sl a 15 = .slice (slA (sl a 15)) (([] ++ x2).length) (slC (sl a 15)) := hp 7 rfl
      exact .inl ⟨rfl, .agg #[.int .i64 x0, .int .i64 x1, .slice (slA (sl a 15)) (([] ++ x2).length) (slC (sl a 15))], u, (run_build (vs := [(0, .int .i64 x0), (1, .int .i64 x1), (2, .slice (slA (sl a 15)) (([] ++ x2).length) (slC (sl a 15)))]) rfl ⟨⟨rfl, (ev_sl e9)⟩, ⟨rfl, (ev_sl e11)⟩, ⟨rfl, (ev_sl e15)⟩, trivial⟩ (bd25_0_1_2 rfl rfl rfl)), rfl, S⟩
    · intro a u X hB hu hp hr hz hl S
      replace S : St w u ([] ++ X) := S
      exact .inl ⟨rfl, _, _, (run_allocZ rfl zr25), rfl, S.alloc _ _⟩
    · intro a u X hB hu hp hr hz hl S
      replace S : St w u ([.box (ptB (sl a 7)) 25 #[.int .i64 0, .int .i64 0, .slice none 0 0]] ++ X) := S
      have e7 : sl a 7 = .pointer (some ⟨ptB (sl a 7), 0, none⟩) := hp 9 rfl
      have e16 : sl a 16 = .agg #[.int .i64 x0, .int .i64 x1, .slice (slA (sl a 15)) (([] ++ x2).length) (slC (sl a 15))] := hp 8 rfl
      exact .inr (.inl ⟨rfl, _, run_store (cs' := #[.int .i64 x0, .int .i64 x1, .slice (slA (sl a 15)) (([] ++ x2).length) (slC (sl a 15))]) rfl sz25 (ev_sl e7) (ev_sl e16) rfl rfl rfl (S.free 0 rfl) rfl rfl, trivial, S.put 0 rfl (#[.int .i64 x0, .int .i64 x1, .slice (slA (sl a 15)) (([] ++ x2).length) (slC (sl a 15))])⟩)
  · intro a u hB hp S
    obtain ⟨q0, q1, q2, q3, q4, q5, q6, q7, q8, q9, q10, _⟩ := hp
    have e8 : sl a 8 = .pointer (some ⟨g101, 0, none⟩) := q0
    have e9 : sl a 9 = .int .i64 x0 := q1
    have e10 : sl a 10 = .pointer (some ⟨g101, 1, none⟩) := q2
    have e11 : sl a 11 = .int .i64 x1 := q3
    have e12 : sl a 12 = .slice (slA (sl a 12)) 0 0 := q4
    have e13 : sl a 13 = .pointer (some ⟨g101, 2, none⟩) := q5
    have e14 : sl a 14 = .slice A2 x2.length c2 := q6
    have e15 : sl a 15 = .slice (slA (sl a 15)) (([] ++ x2).length) (slC (sl a 15)) := q7
    have e16 : sl a 16 = .agg #[.int .i64 x0, .int .i64 x1, .slice (slA (sl a 15)) (([] ++ x2).length) (slC (sl a 15))] := q8
    have e7 : sl a 7 = .pointer (some ⟨ptB (sl a 7), 0, none⟩) := q9
    replace S : St w u [.row 3 1 (.slice (slA (sl a 15)) (([] ++ x2).length) (slC (sl a 15))) (([] ++ x2).length) (([] ++ x2).flatMap eI), .box (ptB (sl a 7)) 25 #[.int .i64 x0, .int .i64 x1, .slice (slA (sl a 15)) (([] ++ x2).length) (slC (sl a 15))], .box g102 25 #[.int .i64 0, .int .i64 0, .slice none 0 0], .box g101 25 #[.int .i64 x0, .int .i64 x1, .slice A2 x2.length c2]] := S
    clear q0 q1 q2 q3 q4 q5 q6 q7 q8 q9 q10
    generalize slA (sl a 12) = B104 at *
    generalize slA (sl a 15) = B105 at *
    generalize slC (sl a 15) = d106 at *
    generalize ptB (sl a 7) = g107 at *
    have hF := hF.region hB [(8, .pointer (some ⟨g101, 0, none⟩)), (9, .int .i64 x0), (10, .pointer (some ⟨g101, 1, none⟩)), (11, .int .i64 x1), (12, .slice B104 0 0), (13, .pointer (some ⟨g101, 2, none⟩)), (14, .slice A2 x2.length c2), (15, .slice B105 (([] ++ x2).length) d106), (16, .agg #[.int .i64 x0, .int .i64 x1, .slice B105 (([] ++ x2).length) d106]), (7, .pointer (some ⟨g107, 0, none⟩))] (allSl_mem ⟨e8, e9, e10, e11, e12, e13, e14, e15, e16, e7, trivial⟩) rfl
    clear hB e8 e9 e10 e11 e12 e13 e14 e15 e16 e7
    refine wp_seq ?_
    refine wp_seq ?_
    refine wp_region_lit ?_
    refine op_val (v := .int .i64 x3) rfl rfl hF rfl (run_move rfl (hF.ev rfl)) ?_; clear hF; intro a hF
    refine op_val (v := .bool (x3 == 0)) rfl rfl hF rfl (run_eql (hF.ev rfl) rfl rfl) ?_; clear hF; intro a hF
    refine wpList_nil ?_
    obtain ⟨o109, hM110, hM⟩ := bind_ex hM
    refine wp_cut (fun a u => ∃ (p108 : Int × Int), p108 = o109 ∧ Fr a 24 [(6, .pointer (some ⟨g102, 0, none⟩)), (7, .pointer (some ⟨g107, 0, none⟩))] ∧ St w u [.box g107 25 #[.int .i64 p108.1, .int .i64 p108.2, .slice B105 (([] ++ x2).length) d106], .box g102 25 #[.int .i64 0, .int .i64 0, .slice none 0 0], .box g101 25 #[.int .i64 x0, .int .i64 x1, .slice A2 x2.length c2], .row 3 1 (.slice B105 (([] ++ x2).length) d106) (([] ++ x2).length) (([] ++ x2).flatMap eI)]) ?_ ?_
    · have _ := trivial
      cases hc111 : (x3 == 0)
      · replace hM110 := bif_f hc111 hM110
        refine cond_f hF rfl hc111 ?_
        refine wp_region_lit ?_
        refine op_val (v := .int .i64 x4) rfl rfl hF rfl (run_move rfl (hF.ev rfl)) ?_; clear hF; intro a hF
        refine op_val (v := .pointer (some ⟨g107, 1, none⟩)) rfl rfl hF rfl (run_fieldAddr rfl fl25_1 (hF.ev rfl) rfl) ?_; clear hF; intro a hF
        refine op_do rfl rfl (run_store (cs' := #[.int .i64 x0, .int .i64 x4, .slice B105 (([] ++ x2).length) d106]) rfl sz3 (hF.ev rfl) (hF.ev rfl) rfl rfl rfl (S.free 1 rfl) rfl rfl) ?_; replace S := S.put 1 rfl (#[.int .i64 x0, .int .i64 x4, .slice B105 (([] ++ x2).length) d106])
        generalize World.setRow _ _ _ = u at S ⊢
        refine wpList_nil ?_
        obtain rfl := Option.some.inj hM110
        exact ⟨(x0, x4), rfl, hF.keep _ ⟨rfl, rfl, trivial⟩, S.sel [1, 2, 3, 0] rfl rfl⟩
      · replace hM110 := bif_t hc111 hM110
        refine cond_t hF rfl hc111 ?_
        refine wp_region_lit ?_
        refine op_val (v := .int .i64 x4) rfl rfl hF rfl (run_move rfl (hF.ev rfl)) ?_; clear hF; intro a hF
        refine op_val (v := .pointer (some ⟨g107, 0, none⟩)) rfl rfl hF rfl (run_fieldAddr rfl fl25_0 (hF.ev rfl) rfl) ?_; clear hF; intro a hF
        refine op_do rfl rfl (run_store (cs' := #[.int .i64 x4, .int .i64 x1, .slice B105 (([] ++ x2).length) d106]) rfl sz3 (hF.ev rfl) (hF.ev rfl) rfl rfl rfl (S.free 1 rfl) rfl rfl) ?_; replace S := S.put 1 rfl (#[.int .i64 x4, .int .i64 x1, .slice B105 (([] ++ x2).length) d106])
        generalize World.setRow _ _ _ = u at S ⊢
        refine wpList_nil ?_
        obtain rfl := Option.some.inj hM110
        exact ⟨(x4, x1), rfl, hF.keep _ ⟨rfl, rfl, trivial⟩, S.sel [1, 2, 3, 0] rfl rfl⟩
    · rintro a u ⟨p108, rfl, hF, S⟩
      refine wp_seq ?_
      refine wp_region_lit ?_
      refine op_val (v := .agg #[.int .i64 p108.1, .int .i64 p108.2, .slice B105 (([] ++ x2).length) d106]) rfl rfl hF rfl (run_loadN rfl ag25 (hF.ev rfl) rfl ((S.free 0 rfl).cells 0 #[.int .i64 p108.1, .int .i64 p108.2, .slice B105 (([] ++ x2).length) d106] rfl)) ?_; clear hF; intro a hF
      refine op_do rfl rfl (run_store (cs' := #[.int .i64 p108.1, .int .i64 p108.2, .slice B105 (([] ++ x2).length) d106]) rfl sz25 (hF.ev rfl) (hF.ev rfl) rfl rfl rfl (S.free 1 rfl) rfl rfl) ?_; replace S := S.put 1 rfl (#[.int .i64 p108.1, .int .i64 p108.2, .slice B105 (([] ++ x2).length) d106])
      generalize World.setRow _ _ _ = u at S ⊢
      refine wpList_nil ?_
      refine wp_ret ?_
      repeat with_reducible (first | refine then_ret ?_ | refine in_ret ?_ | refine in_nrm ?_)
      refine ret1_gw (.inl rfl) hF rfl (res_cell (hF.ev rfl) (res_loadN ag25 rfl (S.cells 1 rfl 0 #[.int .i64 p108.1, .int .i64 p108.2, .slice B105 (([] ++ x2).length) d106] rfl))) ?_
      obtain rfl := Option.some.inj hM
      exact ⟨B105, (([] ++ x2).length), d106, rfl, rfl, S.sel [3] rfl rfl⟩

set_option maxHeartbeats 4000000 in
theorem c_spec_l32Epoch {x0 : Int} {x1 : Int} {x2 : List Int} {x3 : Int} {A2 : Option Addr} {n2 c2 : Nat} {w : World} {r : Int} (h2 : Rt w 1 eI A2 n2 c2 x2) (hM : m_spec_l32Epoch x0 x1 x2 x3 = some r) :
    Calls Tryd.prog 28 #[.agg #[.int .i64 x0, .int .i64 x1, .slice A2 n2 c2], .int .i64 x3] w (fun e w' => e = .returned (.int .i64 r) ∧ St w w' []) := by
  obtain rfl := h2.len
  unfold m_spec_l32Epoch at hM
  refine calls_gw Tryd.func28 Tryd.ntmps28 rfl [(0, .agg #[.int .i64 x0, .int .i64 x1, .slice A2 x2.length c2]), (1, .int .i64 x3)] ⟨rfl, rfl, trivial⟩ rfl ?_
  intro a hF
  have S := St.nil w
  refine wp_seq ?_
  refine wp_region_lit ?_
  refine op_new (cs := #[.int .i64 x0, .int .i64 x1, .slice A2 x2.length c2]) rfl rfl hF rfl S (run_box rfl (hF.ev rfl) rfl) ?_; clear hF S; intro a g101 u hF S
  refine op_val (v := .int .i64 0) rfl rfl hF rfl (run_assign rfl rfl) ?_; clear hF; intro a hF
  refine wpList_nil ?_
  refine wp_seq ?_
  refine wp_seq ?_
  refine wp_region_lit ?_
  refine op_val (v := .int .i64 x3) rfl rfl hF rfl (run_move rfl (hF.ev rfl)) ?_; clear hF; intro a hF
  refine op_val (v := .bool (x3 == 0)) rfl rfl hF rfl (run_eql (hF.ev rfl) rfl rfl) ?_; clear hF; intro a hF
  refine wpList_nil ?_
  cases hc102 : (x3 == 0)
  · replace hM := bif_f hc102 hM
    refine cond_f hF rfl hc102 ?_
    refine wp_skip ?_
    refine wp_seq ?_
    refine wp_region_lit ?_
    refine op_val (v := .pointer (some ⟨g101, 1, none⟩)) rfl rfl hF rfl (run_fieldAddr rfl fl25_1 (hF.ev rfl) rfl) ?_; clear hF; intro a hF
    refine op_val (v := .int .i64 x1) rfl rfl hF rfl (run_load1 rfl one3 (hF.ev rfl) ((S.free 0 rfl).cell rfl)) ?_; clear hF; intro a hF
    refine op_val (v := .int .i64 x1) rfl rfl hF rfl (run_assign rfl (hF.ev rfl)) ?_; clear hF; intro a hF
    refine wpList_nil ?_
    refine wp_ret ?_
    repeat with_reducible (first | refine then_ret ?_ | refine in_ret ?_ | refine in_nrm ?_)
    refine ret1_gw (.inl rfl) hF rfl (res_tmp (hF.ev rfl)) ?_
    obtain rfl := Option.some.inj hM
    exact ⟨rfl, S.sel [] rfl rfl⟩
  · replace hM := bif_t hc102 hM
    refine cond_t hF rfl hc102 ?_
    refine wp_seq ?_
    refine wp_region_lit ?_
    refine op_val (v := .pointer (some ⟨g101, 0, none⟩)) rfl rfl hF rfl (run_fieldAddr rfl fl25_0 (hF.ev rfl) rfl) ?_; clear hF; intro a hF
    refine op_val (v := .int .i64 x0) rfl rfl hF rfl (run_load1 rfl one3 (hF.ev rfl) ((S.free 0 rfl).cell rfl)) ?_; clear hF; intro a hF
    refine op_val (v := .int .i64 x0) rfl rfl hF rfl (run_assign rfl (hF.ev rfl)) ?_; clear hF; intro a hF
    refine wpList_nil ?_
    refine wp_ret ?_
    repeat with_reducible (first | refine then_ret ?_ | refine in_ret ?_ | refine in_nrm ?_)
    refine ret1_gw (.inl rfl) hF rfl (res_tmp (hF.ev rfl)) ?_
    obtain rfl := Option.some.inj hM
    exact ⟨rfl, S.sel [] rfl rfl⟩

set_option maxHeartbeats 4000000 in
theorem c_spec_RoomsDo {x0 : Int} {x1 : Int} {x2 : List Int} {x3 : Int} {x4 : Int} {x5 : Int} {A2 : Option Addr} {n2 c2 : Nat} {w : World} {r : Int × Int × List Int × Bool} (h2 : Rt w 1 eI A2 n2 c2 x2) (hM : m_spec_RoomsDo x0 x1 x2 x3 x4 x5 = some r) :
    Calls Tryd.prog 8 #[.agg #[.int .i64 x0, .int .i64 x1, .slice A2 n2 c2], .agg #[.int .i64 x3, .int .i64 x4, .int .i64 x5]] w (fun e w' => ∃ (B0 : Option Addr) (N0 D0 : Nat), e = .returned (.tuple #[.agg #[.int .i64 r.1, .int .i64 r.2.1, .slice B0 N0 D0], .bool r.2.2.2]) ∧ N0 = r.2.2.1.length ∧ St w w' [.row 3 1 (.slice B0 N0 D0) N0 (r.2.2.1.flatMap eI)]) := by
  obtain rfl := h2.len
  unfold m_spec_RoomsDo at hM
  refine calls_gw Tryd.func8 Tryd.ntmps8 rfl [(0, .agg #[.int .i64 x0, .int .i64 x1, .slice A2 x2.length c2]), (1, .agg #[.int .i64 x3, .int .i64 x4, .int .i64 x5])] ⟨rfl, rfl, trivial⟩ rfl ?_
  intro a hF
  have S := St.nil w
  refine wp_seq ?_
  refine wp_region_lit ?_
  refine op_new (cs := #[.int .i64 x0, .int .i64 x1, .slice A2 x2.length c2]) rfl rfl hF rfl S (run_box rfl (hF.ev rfl) rfl) ?_; clear hF S; intro a g101 u hF S
  refine op_new (cs := #[.int .i64 x3, .int .i64 x4, .int .i64 x5]) rfl rfl hF rfl S (run_box rfl (hF.ev rfl) rfl) ?_; clear hF S; intro a g102 u hF S
  refine op_new (cs := #[.int .i64 0, .int .i64 0, .slice none 0 0]) rfl rfl hF rfl S (run_allocZ rfl zr25) ?_; clear hF S; intro a g103 u hF S
  refine op_val (v := .bool false) rfl rfl hF rfl (run_assign rfl rfl) ?_; clear hF; intro a hF
  refine wpList_nil ?_
  refine wp_seq ?_
  refine wp_seq ?_
  refine wp_region_lit ?_
  refine op_val (v := .agg #[.int .i64 x0, .int .i64 x1, .slice A2 x2.length c2]) rfl rfl hF rfl (run_loadN rfl ag25 (hF.ev rfl) rfl ((S.free 2 rfl).cells 0 #[.int .i64 x0, .int .i64 x1, .slice A2 x2.length c2] rfl)) ?_; clear hF; intro a hF
  obtain ⟨p104, h104, hM⟩ := bind_ex hM
  refine op_call rfl rfl hF rfl (run_call (vs := [.agg #[.int .i64 x0, .int .i64 x1, .slice A2 x2.length c2]]) rfl rfl co15 ⟨(hF.ev rfl), trivial⟩) (c_spec_RoomsValid (x0 := x0) (x1 := x1) (x2 := x2) ⟨(S.rc0 h2.rc), rfl⟩ h104) ?_
  rintro e u ⟨rfl, T⟩
  refine ⟨_, rfl, ?_⟩
  clear hF; intro a hF
  replace S := S.call0 T; clear T
  refine op_val (v := .bool (!p104)) rfl rfl hF rfl (run_not rfl (hF.ev rfl)) ?_; clear hF; intro a hF
  refine wpList_nil ?_
  cases hc105 : (p104)
  · replace hM := bif_f hc105 hM
    refine cond_t hF rfl (not_t hc105) ?_
    refine wp_seq ?_
    refine wp_region_lit ?_
    refine op_val (v := .agg #[.int .i64 0, .int .i64 0, .slice none 0 0]) rfl rfl hF rfl (run_build (vs := []) rfl trivial (bd25 )) ?_; clear hF; intro a hF
    refine op_do rfl rfl (run_store (cs' := #[.int .i64 0, .int .i64 0, .slice none 0 0]) rfl sz25 (hF.ev rfl) (hF.ev rfl) rfl rfl rfl (S.free 0 rfl) rfl rfl) ?_; replace S := S.put 0 rfl (#[.int .i64 0, .int .i64 0, .slice none 0 0])
    generalize World.setRow _ _ _ = u at S ⊢
    refine op_val (v := .bool false) rfl rfl hF rfl (run_assign rfl rfl) ?_; clear hF; intro a hF
    refine wpList_nil ?_
    refine wp_ret ?_
    repeat with_reducible (first | refine then_ret ?_ | refine in_ret ?_ | refine in_nrm ?_)
    refine ret2_gw (.inl rfl) hF rfl (res_cell (hF.ev rfl) (res_loadN ag25 rfl (S.cells 0 rfl 0 #[.int .i64 0, .int .i64 0, .slice none 0 0] rfl))) (res_tmp (hF.ev rfl)) ?_
    obtain rfl := Option.some.inj hM
    replace S := S.nilrow 3 1
    exact ⟨none, 0, 0, rfl, rfl, S.sel [0] rfl rfl⟩
  · replace hM := bif_t hc105 hM
    refine cond_f hF rfl (not_f hc105) ?_
    refine wp_skip ?_
    refine wp_seq ?_
    refine wp_region_lit ?_
    refine op_val (v := .agg #[.int .i64 x0, .int .i64 x1, .slice A2 x2.length c2]) rfl rfl hF rfl (run_loadN rfl ag25 (hF.ev rfl) rfl ((S.free 2 rfl).cells 0 #[.int .i64 x0, .int .i64 x1, .slice A2 x2.length c2] rfl)) ?_; clear hF; intro a hF
    refine op_val (v := .pointer (some ⟨g101, 0, none⟩)) rfl rfl hF rfl (run_fieldAddr rfl fl25_0 (hF.ev rfl) rfl) ?_; clear hF; intro a hF
    refine op_val (v := .int .i64 x0) rfl rfl hF rfl (run_load1 rfl one3 (hF.ev rfl) ((S.free 2 rfl).cell rfl)) ?_; clear hF; intro a hF
    obtain ⟨p106, h106, hM⟩ := bind_ex hM
    refine op_call rfl rfl hF rfl (run_call (vs := [.agg #[.int .i64 x0, .int .i64 x1, .slice A2 x2.length c2], .int .i64 0, .int .i64 x0]) rfl rfl co26 ⟨(hF.ev rfl), rfl, (hF.ev rfl), trivial⟩) (c_spec_l32Set (x0 := x0) (x1 := x1) (x2 := x2) (x3 := 0) (x4 := x0) ⟨(S.rc0 h2.rc), rfl⟩ h106) ?_
    rintro e u ⟨B107, n108, d109, rfl, rfl, T⟩
    refine ⟨_, rfl, ?_⟩
    clear hF; intro a hF
    replace S := S.call1 T; clear T
    refine op_new (cs := #[.int .i64 0, .int .i64 0, .slice none 0 0]) rfl rfl hF rfl S (run_allocZ rfl zr25) ?_; clear hF S; intro a g110 u hF S
    refine op_do rfl rfl (run_store (cs' := #[.int .i64 p106.1, .int .i64 p106.2.1, .slice B107 p106.2.2.length d109]) rfl sz25 (hF.ev rfl) (hF.ev rfl) rfl rfl rfl (S.free 0 rfl) rfl rfl) ?_; replace S := S.put 0 rfl (#[.int .i64 p106.1, .int .i64 p106.2.1, .slice B107 p106.2.2.length d109])
    generalize World.setRow _ _ _ = u at S ⊢
    refine wpList_nil ?_
    refine wp_seq ?_
    refine wp_seq ?_
    refine wp_region_lit ?_
    refine op_val (v := .pointer (some ⟨g102, 1, none⟩)) rfl rfl hF rfl (run_fieldAddr rfl fl27_1 (hF.ev rfl) rfl) ?_; clear hF; intro a hF
    refine op_val (v := .int .i64 x4) rfl rfl hF rfl (run_load1 rfl one3 (hF.ev rfl) ((S.free 3 rfl).cell rfl)) ?_; clear hF; intro a hF
    obtain ⟨p111, h111, hM⟩ := bind_ex hM
    refine op_call rfl rfl hF rfl (run_call (vs := [.int .i64 x4, .int .i64 0, .int .i64 1]) rfl rfl co27 ⟨(hF.ev rfl), rfl, rfl, trivial⟩) (c_spec_l1In (x0 := x4) (x1 := 0) (x2 := 1)  h111) ?_
    rintro e u ⟨rfl, T⟩
    refine ⟨_, rfl, ?_⟩
    clear hF; intro a hF
    replace S := S.call0 T; clear T
    refine op_val (v := .bool (!p111)) rfl rfl hF rfl (run_not rfl (hF.ev rfl)) ?_; clear hF; intro a hF
    refine op_val (v := .bool (!p111)) rfl rfl hF rfl (run_move rfl (hF.ev rfl)) ?_; clear hF; intro a hF
    refine op_gv (v := .pointer (some ⟨g102, 0, none⟩)) rfl rfl hF rfl (yf (gw_yield hF rfl rfl rfl)) (fun hg => (run_fieldAddr rfl fl27_0 (hF.ev rfl) rfl)) ?_; clear hF; intro a hF
    refine op_gv (v := .int .i64 x3) rfl rfl hF rfl (yf (gw_yield hF rfl rfl rfl)) (fun hg => (run_load1 rfl one3 ((hF.ev rfl).trans (gv_t hg)) ((S.free 3 rfl).cell rfl))) ?_; clear hF; intro a hF
    refine op_gv (v := .bool (x3 != 0)) rfl rfl hF rfl (yf (gw_yield hF rfl rfl rfl)) (fun hg => (run_neq ((hF.ev rfl).trans (gv_t hg)) rfl rfl)) ?_; clear hF; intro a hF
    refine op_gv (v := .bool (x3 != 0)) rfl rfl hF rfl (yf (gw_yield hF rfl rfl rfl)) (fun hg => (run_move rfl ((hF.ev rfl).trans (gv_t hg)))) ?_; clear hF; intro a hF
    refine op_gv (v := .pointer (some ⟨g102, 2, none⟩)) rfl rfl hF rfl (ytG (gw_yieldG hF rfl rfl rfl)) (fun hg => (run_fieldAddr rfl fl27_2 (hF.ev rfl) rfl)) ?_; clear hF; intro a hF
    refine op_gv (v := .int .i64 x5) rfl rfl hF rfl (ytG (gw_yieldG hF rfl rfl rfl)) (fun hg => (run_load1 rfl one3 ((hF.ev rfl).trans (gv_t hg)) ((S.free 3 rfl).cell rfl))) ?_; clear hF; intro a hF
    refine op_gv (v := .pointer (some ⟨g101, 2, none⟩)) rfl rfl hF rfl (ytG (gw_yieldG hF rfl rfl rfl)) (fun hg => (run_fieldAddr rfl fl25_2 (hF.ev rfl) rfl)) ?_; clear hF; intro a hF
    refine op_gv (v := .slice A2 x2.length c2) rfl rfl hF rfl (ytG (gw_yieldG hF rfl rfl rfl)) (fun hg => (run_load1 rfl one23 ((hF.ev rfl).trans (gv_t hg)) ((S.free 4 rfl).cell rfl))) ?_; clear hF; intro a hF
    refine op_gv (v := .int .i64 (x2.length : Int)) rfl rfl hF rfl (ytG (gw_yieldG hF rfl rfl rfl)) (fun hg => (run_lenL rfl rfl Tryd.underlying23 ((hF.ev rfl).trans (gv_t hg)))) ?_; clear hF; intro a hF
    refine op_gv (v := .int .i64 (w64 ((x2.length : Int) - 1))) rfl rfl hF rfl (ytG (gw_yieldG hF rfl rfl rfl)) (fun hg => (run_sub (z := w64 ((x2.length : Int) - 1)) ((hF.ev rfl).trans (gv_t hg)) rfl rfl rfl)) ?_; clear hF; intro a hF
    obtain ⟨p112, h112, hM⟩ := bind_ex hM
    refine op_gcall (v := .bool p112) rfl rfl hF rfl S (ytG (gw_yieldG hF rfl rfl rfl)) (fun hg => (run_call (vs := [.int .i64 x5, .int .i64 0, .int .i64 (w64 ((x2.length : Int) - 1))]) rfl rfl co27 ⟨((hF.ev rfl).trans (gv_t hg)), rfl, ((hF.ev rfl).trans (gv_t hg)), trivial⟩)) (fun hg => c_spec_l1In (x0 := x5) (x1 := 0) (x2 := w64 ((x2.length : Int) - 1))  (gb_t h112 hg)) ?_; clear hF S; intro a u hF S
    refine op_gv (v := .bool (!p112)) rfl rfl hF rfl (ytG (gw_yieldG hF rfl rfl rfl)) (fun hg => (run_not rfl ((hF.ev rfl).trans (gv_t hg)))) ?_; clear hF; intro a hF
    refine op_gv (v := .bool ((x3 != 0) && (!p112))) rfl rfl hF rfl (yf (gw_yield hF rfl rfl rfl)) (fun hg => (run_pick_and rfl ((hF.ev rfl).trans (gv_t hg)) (fun hp => ((hF.ev rfl).trans (gv_t (and_i hg hp)))) rfl)) ?_; clear hF; intro a hF
    refine op_val (v := .bool ((!p111) || ((x3 != 0) && (!p112)))) rfl rfl hF rfl (run_pick_or rfl (hF.ev rfl) rfl (fun hp => ((hF.ev rfl).trans (gv_t (not_t hp))))) ?_; clear hF; intro a hF
    refine wpList_nil ?_
    cases hc113 : ((!p111) || ((x3 != 0) && (!p112)))
    · replace hM := bif_f hc113 hM
      refine cond_f hF rfl hc113 ?_
      refine wp_skip ?_
      refine wp_seq ?_
      refine wp_region_lit ?_
      refine op_val (v := .agg #[.int .i64 x0, .int .i64 x1, .slice A2 x2.length c2]) rfl rfl hF rfl (run_loadN rfl ag25 (hF.ev rfl) rfl ((S.free 4 rfl).cells 0 #[.int .i64 x0, .int .i64 x1, .slice A2 x2.length c2] rfl)) ?_; clear hF; intro a hF
      refine op_val (v := .pointer (some ⟨g102, 1, none⟩)) rfl rfl hF rfl (run_fieldAddr rfl fl27_1 (hF.ev rfl) rfl) ?_; clear hF; intro a hF
      refine op_val (v := .int .i64 x4) rfl rfl hF rfl (run_load1 rfl one3 (hF.ev rfl) ((S.free 3 rfl).cell rfl)) ?_; clear hF; intro a hF
      obtain ⟨p114, h114, hM⟩ := bind_ex hM
      refine op_call rfl rfl hF rfl (run_call (vs := [.agg #[.int .i64 x0, .int .i64 x1, .slice A2 x2.length c2], .int .i64 x4]) rfl rfl co28 ⟨(hF.ev rfl), (hF.ev rfl), trivial⟩) (c_spec_l32Epoch (x0 := x0) (x1 := x1) (x2 := x2) (x3 := x4) ⟨(S.rc0 h2.rc), rfl⟩ h114) ?_
      rintro e u ⟨rfl, T⟩
      refine ⟨_, rfl, ?_⟩
      clear hF; intro a hF
      replace S := S.call0 T; clear T
      refine op_val (v := .int .i64 p114) rfl rfl hF rfl (run_assign rfl (hF.ev rfl)) ?_; clear hF; intro a hF
      refine wpList_nil ?_
      refine wp_seq ?_
      refine wp_seq ?_
      refine wp_region_lit ?_
      refine op_val (v := .pointer (some ⟨g102, 0, none⟩)) rfl rfl hF rfl (run_fieldAddr rfl fl27_0 (hF.ev rfl) rfl) ?_; clear hF; intro a hF
      refine op_val (v := .int .i64 x3) rfl rfl hF rfl (run_load1 rfl one3 (hF.ev rfl) ((S.free 3 rfl).cell rfl)) ?_; clear hF; intro a hF
      refine wpList_nil ?_
      refine wp_block ?_
      refine wp_seq ?_
      refine wp_region_lit ?_
      refine op_val (v := .bool (x3 == 0)) rfl rfl hF rfl (run_eql (hF.ev rfl) rfl rfl) ?_; clear hF; intro a hF
      refine op_val (v := .bool (x3 == 0)) rfl rfl hF rfl (run_assign rfl (hF.ev rfl)) ?_; clear hF; intro a hF
      refine wpList_nil ?_
      cases hc115 : (x3 == 0)
      · replace hM := bif_f hc115 hM
        refine cond_f hF rfl hc115 ?_
        refine wp_seq ?_
        refine wp_region_lit ?_
        refine op_val (v := .bool (x3 == 1)) rfl rfl hF rfl (run_eql (hF.ev rfl) rfl rfl) ?_; clear hF; intro a hF
        refine op_val (v := .bool (x3 == 1)) rfl rfl hF rfl (run_assign rfl (hF.ev rfl)) ?_; clear hF; intro a hF
        refine wpList_nil ?_
        cases hc116 : (x3 == 1)
        · replace hM := bif_f hc116 hM
          refine cond_f hF rfl hc116 ?_
          refine wp_seq ?_
          refine wp_region_lit ?_
          refine op_val (v := .bool (x3 == 2)) rfl rfl hF rfl (run_eql (hF.ev rfl) rfl rfl) ?_; clear hF; intro a hF
          refine op_val (v := .bool (x3 == 2)) rfl rfl hF rfl (run_assign rfl (hF.ev rfl)) ?_; clear hF; intro a hF
          refine wpList_nil ?_
          cases hc117 : (x3 == 2)
          · replace hM := bif_f hc117 hM
            refine cond_f hF rfl hc117 ?_
            refine wp_skip ?_
            refine wp_seq ?_
            refine wp_region_lit ?_
            refine op_val (v := .agg #[.int .i64 p106.1, .int .i64 p106.2.1, .slice B107 p106.2.2.length d109]) rfl rfl hF rfl (run_loadN rfl ag25 (hF.ev rfl) rfl ((S.free 0 rfl).cells 0 #[.int .i64 p106.1, .int .i64 p106.2.1, .slice B107 p106.2.2.length d109] rfl)) ?_; clear hF; intro a hF
            refine op_do rfl rfl (run_store (cs' := #[.int .i64 p106.1, .int .i64 p106.2.1, .slice B107 p106.2.2.length d109]) rfl sz25 (hF.ev rfl) (hF.ev rfl) rfl rfl rfl (S.free 2 rfl) rfl rfl) ?_; replace S := S.put 2 rfl (#[.int .i64 p106.1, .int .i64 p106.2.1, .slice B107 p106.2.2.length d109])
            generalize World.setRow _ _ _ = u at S ⊢
            refine op_val (v := .bool false) rfl rfl hF rfl (run_assign rfl rfl) ?_; clear hF; intro a hF
            refine wpList_nil ?_
            refine wp_ret ?_
            repeat with_reducible (first | refine then_ret ?_ | refine in_ret ?_ | refine in_nrm ?_)
            refine ret2_gw (.inl rfl) hF rfl (res_cell (hF.ev rfl) (res_loadN ag25 rfl (S.cells 2 rfl 0 #[.int .i64 p106.1, .int .i64 p106.2.1, .slice B107 p106.2.2.length d109] rfl))) (res_tmp (hF.ev rfl)) ?_
            obtain rfl := Option.some.inj hM
            exact ⟨B107, p106.2.2.length, d109, rfl, rfl, S.sel [1] rfl rfl⟩
          · replace hM := bif_t hc117 hM
            refine cond_t hF rfl hc117 ?_
            refine wp_seq ?_
            obtain ⟨hk118, hM⟩ := chk_ex hM
            replace hk118 := ixB_t hk118
            obtain ⟨hk119, hM⟩ := chk_ex hM
            replace hk119 := ixB_t hk119
            refine region_gw (D := [98, 99, 100, 101, 102, 103, 104, 105, 106, 107, 108, 109, 110]) (Lr := [.box g110 25 #[.int .i64 p106.1, .int .i64 p106.2.1, .slice B107 p106.2.2.length d109], .box g103 25 #[.int .i64 0, .int .i64 0, .slice none 0 0], .box g102 27 #[.int .i64 x3, .int .i64 x4, .int .i64 x5], .box g101 25 #[.int .i64 x0, .int .i64 x1, .slice A2 x2.length c2]]) (deps := (fun | 0 => [98] | 1 => [99] | 2 => [100] | 3 => [101] | 4 => [102] | 5 => [103] | 6 => [104] | 7 => [105] | 8 => [106] | 9 => [107] | 10 => [108] | 11 => [109] | 12 => [110] | 13 => [110] | _ => [])) (rd := (fun _ => [])) (zr := (fun | 12 => [13] | _ => []))
              (φ := fun i vs => match i, vs with | 0, [v98] => v98 = .pointer (some ⟨g110, 2, none⟩) | 1, [v99] => v99 = .slice B107 p106.2.2.length d109 | 2, [v100] => v100 = .pointer (some ⟨g102, 2, none⟩) | 3, [v101] => v101 = .int .i64 x5 | 4, [v102] => v102 = .pointer (some ⟨g101, 2, none⟩) | 5, [v103] => v103 = .slice A2 x2.length c2 | 6, [v104] => v104 = .pointer (some ⟨g102, 2, none⟩) | 7, [v105] => v105 = .int .i64 x5 | 8, [v106] => v106 = .pointer (some ⟨adB A2, adO A2 + x5.toNat * 1, none⟩) | 9, [v107] => v107 = .int .i64 (x2.getD x5.toNat (0 : Int)) | 10, [v108] => v108 = .int .i64 p114 | 11, [v109] => v109 = .int .i64 (max (x2.getD x5.toNat (0 : Int)) p114) | 12, [v110] => v110 = .pointer (some ⟨adB B107, adO B107 + x5.toNat * 1, none⟩) | _, _ => True)
              (C := fun i vs => match i, vs with | 13, [v110] => [.row 3 1 (.slice B107 p106.2.2.length d109) p106.2.2.length ((p106.2.2.set x5.toNat (max (x2.getD x5.toNat (0 : Int)) p114)).flatMap eI)] | _, _ => [])
              (κ := (fun _ => none)) (Z := (fun | 13 => [.row 3 1 (.slice B107 p106.2.2.length d109) p106.2.2.length (p106.2.2.flatMap eI)] | _ => [])) mixed hF (by kernel_rfl) (show St w _ [.row 3 1 (.slice B107 p106.2.2.length d109) p106.2.2.length (p106.2.2.flatMap eI), .box g110 25 #[.int .i64 p106.1, .int .i64 p106.2.1, .slice B107 p106.2.2.length d109], .box g103 25 #[.int .i64 0, .int .i64 0, .slice none 0 0], .box g102 27 #[.int .i64 x3, .int .i64 x4, .int .i64 x5], .box g101 25 #[.int .i64 x0, .int .i64 x1, .slice A2 x2.length c2]] from S.sel [1, 0, 2, 3, 4] rfl rfl) ?_ ?_
            · refine ⟨?_, ?_, ?_, ?_, ?_, ?_, ?_, ?_, ?_, ?_, ?_, ?_, ?_, ?_, trivial⟩
              · intro a u X hB hu hp hr hz hl S
                replace S : St w u ([] ++ X) := S
                exact .inl ⟨rfl, .pointer (some ⟨g110, 2, none⟩), u, (run_fieldAddr rfl fl25_2 (hF.evB hB rfl rfl) rfl), rfl, S⟩
              · intro a u X hB hu hp hr hz hl S
                replace S : St w u ([] ++ X) := S
                have e98 : sl a 98 = .pointer (some ⟨g110, 2, none⟩) := hp 0 rfl
                exact .inl ⟨rfl, .slice B107 p106.2.2.length d109, u, (run_load1 rfl one23 (ev_sl e98) ((gr_box S hl 0 rfl).cell rfl)), rfl, S⟩
              · intro a u X hB hu hp hr hz hl S
                replace S : St w u ([] ++ X) := S
                exact .inl ⟨rfl, .pointer (some ⟨g102, 2, none⟩), u, (run_fieldAddr rfl fl27_2 (hF.evB hB rfl rfl) rfl), rfl, S⟩
              · intro a u X hB hu hp hr hz hl S
                replace S : St w u ([] ++ X) := S
                have e100 : sl a 100 = .pointer (some ⟨g102, 2, none⟩) := hp 2 rfl
                exact .inl ⟨rfl, .int .i64 x5, u, (run_load1 rfl one3 (ev_sl e100) ((gr_box S hl 2 rfl).cell rfl)), rfl, S⟩
              · intro a u X hB hu hp hr hz hl S
                replace S : St w u ([] ++ X) := S
                exact .inl ⟨rfl, .pointer (some ⟨g101, 2, none⟩), u, (run_fieldAddr rfl fl25_2 (hF.evB hB rfl rfl) rfl), rfl, S⟩
              · intro a u X hB hu hp hr hz hl S
                replace S : St w u ([] ++ X) := S
                have e102 : sl a 102 = .pointer (some ⟨g101, 2, none⟩) := hp 4 rfl
                exact .inl ⟨rfl, .slice A2 x2.length c2, u, (run_load1 rfl one23 (ev_sl e102) ((gr_box S hl 3 rfl).cell rfl)), rfl, S⟩
              · intro a u X hB hu hp hr hz hl S
                replace S : St w u ([] ++ X) := S
                exact .inl ⟨rfl, .pointer (some ⟨g102, 2, none⟩), u, (run_fieldAddr rfl fl27_2 (hF.evB hB rfl rfl) rfl), rfl, S⟩
              · intro a u X hB hu hp hr hz hl S
                replace S : St w u ([] ++ X) := S
                have e104 : sl a 104 = .pointer (some ⟨g102, 2, none⟩) := hp 6 rfl
                exact .inl ⟨rfl, .int .i64 x5, u, (run_load1 rfl one3 (ev_sl e104) ((gr_box S hl 2 rfl).cell rfl)), rfl, S⟩
              · intro a u X hB hu hp hr hz hl S
                replace S : St w u ([] ++ X) := S
                have e103 : sl a 103 = .slice A2 x2.length c2 := hp 5 rfl
                have e105 : sl a 105 = .int .i64 x5 := hp 7 rfl
                exact .inl ⟨rfl, .pointer (some ⟨adB A2, adO A2 + x5.toNat * 1, none⟩), u, (run_indexAddr (b := adB A2) (off := adO A2) rfl Tryd.underlying23 sz3 ((ev_sl e103).trans (congrArg (fun A => Value.slice A x2.length c2) ((S.rc0 h2.rc).rd.ad (ix_pos hk118)))) (ev_sl e105) hk118.1 hk118.2 (k' := adO A2 + x5.toNat * 1) rfl), rfl, S⟩
              · intro a u X hB hu hp hr hz hl S
                replace S : St w u ([] ++ X) := S
                have e106 : sl a 106 = .pointer (some ⟨adB A2, adO A2 + x5.toNat * 1, none⟩) := hp 8 rfl
                exact .inl ⟨rfl, .int .i64 (x2.getD x5.toNat (0 : Int)), u, (run_load1 rfl one3 (ev_sl e106) (rd_el0 (l := x2) (S.rc0 h2.rc).rd rfl eI_len (0 : Int) (ix_ltn hk118 rfl) rfl)), rfl, S⟩
              · intro a u X hB hu hp hr hz hl S
                replace S : St w u ([] ++ X) := S
                exact .inl ⟨rfl, .int .i64 p114, u, (run_move rfl (hF.evB hB rfl rfl)), rfl, S⟩
              · intro a u X hB hu hp hr hz hl S
                replace S : St w u ([] ++ X) := S
                have e107 : sl a 107 = .int .i64 (x2.getD x5.toNat (0 : Int)) := hp 9 rfl
                have e108 : sl a 108 = .int .i64 p114 := hp 10 rfl
                exact .inl ⟨rfl, .int .i64 (max (x2.getD x5.toNat (0 : Int)) p114), u, (run_max rfl (ev_sl e107) (ev_sl e108)), rfl, S⟩
              · intro a u X hB hu hp hr hz hl S
                replace S : St w u ([] ++ X) := S
                have e99 : sl a 99 = .slice B107 p106.2.2.length d109 := hp 1 rfl
                have e101 : sl a 101 = .int .i64 x5 := hp 3 rfl
                exact .inl ⟨rfl, .pointer (some ⟨adB B107, adO B107 + x5.toNat * 1, none⟩), u, (run_indexAddr (b := adB B107) (off := adO B107) rfl Tryd.underlying23 sz3 ((ev_sl e99).trans (congrArg (fun A => Value.slice A p106.2.2.length d109) ((own_rc (show World.ownsRow _ 0 _ _ _ _ _ from S.mem (List.mem_append_right _ (hz 13 (List.mem_of_getElem? (i := 0) rfl) _ (List.mem_of_getElem? (i := 0) rfl))))).rd.ad (ix_pos hk119)))) (ev_sl e101) hk119.1 hk119.2 (k' := adO B107 + x5.toNat * 1) rfl), rfl, S⟩
              · intro a u X hB hu hp hr hz hl S
                replace S : St w u ([.row 3 1 (.slice B107 p106.2.2.length d109) p106.2.2.length (p106.2.2.flatMap eI)] ++ X) := S
                have e109 : sl a 109 = .int .i64 (max (x2.getD x5.toNat (0 : Int)) p114) := hp 11 rfl
                have e110 : sl a 110 = .pointer (some ⟨adB B107, adO B107 + x5.toNat * 1, none⟩) := hp 12 rfl
                obtain ⟨w', hrun, S'⟩ := run_storeElN (P := Tryd.prog) (ρ := a.eval) (y0 := max (x2.getD x5.toNat (0 : Int)) p114) (off := 0) S 3 (.tmp 110) (.tmp 109) (i := 0) sz3 (ev_sl e110) (ev_sl e109) rfl rfl rfl rfl rfl eI_len (0 : Int) (ix_ltn hk119 rfl) rfl rfl
                exact .inr (.inl ⟨rfl, w', hrun _ rfl, trivial, S'⟩)
            · intro a u hB hp S
              obtain ⟨q0, q1, q2, q3, q4, q5, q6, q7, q8, q9, q10, q11, q12, q13, _⟩ := hp
              have e98 : sl a 98 = .pointer (some ⟨g110, 2, none⟩) := q0
              have e99 : sl a 99 = .slice B107 p106.2.2.length d109 := q1
              have e100 : sl a 100 = .pointer (some ⟨g102, 2, none⟩) := q2
              have e101 : sl a 101 = .int .i64 x5 := q3
              have e102 : sl a 102 = .pointer (some ⟨g101, 2, none⟩) := q4
              have e103 : sl a 103 = .slice A2 x2.length c2 := q5
              have e104 : sl a 104 = .pointer (some ⟨g102, 2, none⟩) := q6
              have e105 : sl a 105 = .int .i64 x5 := q7
              have e106 : sl a 106 = .pointer (some ⟨adB A2, adO A2 + x5.toNat * 1, none⟩) := q8
              have e107 : sl a 107 = .int .i64 (x2.getD x5.toNat (0 : Int)) := q9
              have e108 : sl a 108 = .int .i64 p114 := q10
              have e109 : sl a 109 = .int .i64 (max (x2.getD x5.toNat (0 : Int)) p114) := q11
              have e110 : sl a 110 = .pointer (some ⟨adB B107, adO B107 + x5.toNat * 1, none⟩) := q12
              replace S : St w u [.row 3 1 (.slice B107 p106.2.2.length d109) p106.2.2.length ((p106.2.2.set x5.toNat (max (x2.getD x5.toNat (0 : Int)) p114)).flatMap eI), .box g110 25 #[.int .i64 p106.1, .int .i64 p106.2.1, .slice B107 p106.2.2.length d109], .box g103 25 #[.int .i64 0, .int .i64 0, .slice none 0 0], .box g102 27 #[.int .i64 x3, .int .i64 x4, .int .i64 x5], .box g101 25 #[.int .i64 x0, .int .i64 x1, .slice A2 x2.length c2]] := S
              clear q0 q1 q2 q3 q4 q5 q6 q7 q8 q9 q10 q11 q12 q13
              have hF := hF.region hB [(98, .pointer (some ⟨g110, 2, none⟩)), (99, .slice B107 p106.2.2.length d109), (100, .pointer (some ⟨g102, 2, none⟩)), (101, .int .i64 x5), (102, .pointer (some ⟨g101, 2, none⟩)), (103, .slice A2 x2.length c2), (104, .pointer (some ⟨g102, 2, none⟩)), (105, .int .i64 x5), (106, .pointer (some ⟨adB A2, adO A2 + x5.toNat * 1, none⟩)), (107, .int .i64 (x2.getD x5.toNat (0 : Int))), (108, .int .i64 p114), (109, .int .i64 (max (x2.getD x5.toNat (0 : Int)) p114)), (110, .pointer (some ⟨adB B107, adO B107 + x5.toNat * 1, none⟩))] (allSl_mem ⟨e98, e99, e100, e101, e102, e103, e104, e105, e106, e107, e108, e109, e110, trivial⟩) rfl
              clear hB e98 e99 e100 e101 e102 e103 e104 e105 e106 e107 e108 e109 e110
              refine wp_seq ?_
              refine wp_region_lit ?_
              refine op_val (v := .agg #[.int .i64 p106.1, .int .i64 p106.2.1, .slice B107 p106.2.2.length d109]) rfl rfl hF rfl (run_loadN rfl ag25 (hF.ev rfl) rfl ((S.free 1 rfl).cells 0 #[.int .i64 p106.1, .int .i64 p106.2.1, .slice B107 p106.2.2.length d109] rfl)) ?_; clear hF; intro a hF
              refine op_do rfl rfl (run_store (cs' := #[.int .i64 p106.1, .int .i64 p106.2.1, .slice B107 p106.2.2.length d109]) rfl sz25 (hF.ev rfl) (hF.ev rfl) rfl rfl rfl (S.free 2 rfl) rfl rfl) ?_; replace S := S.put 2 rfl (#[.int .i64 p106.1, .int .i64 p106.2.1, .slice B107 p106.2.2.length d109])
              generalize World.setRow _ _ _ = u at S ⊢
              refine op_val (v := .bool true) rfl rfl hF rfl (run_assign rfl rfl) ?_; clear hF; intro a hF
              refine wpList_nil ?_
              refine wp_ret ?_
              repeat with_reducible (first | refine then_ret ?_ | refine in_ret ?_ | refine in_nrm ?_)
              refine ret2_gw (.inl rfl) hF rfl (res_cell (hF.ev rfl) (res_loadN ag25 rfl (S.cells 2 rfl 0 #[.int .i64 p106.1, .int .i64 p106.2.1, .slice B107 p106.2.2.length d109] rfl))) (res_tmp (hF.ev rfl)) ?_
              obtain rfl := Option.some.inj hM
              exact ⟨B107, p106.2.2.length, d109, rfl, (len_set rfl), S.sel [0] rfl rfl⟩
        · replace hM := bif_t hc116 hM
          refine cond_t hF rfl hc116 ?_
          refine wp_seq ?_
          refine wp_seq ?_
          refine wp_region_lit ?_
          refine op_val (v := .pointer (some ⟨g101, 2, none⟩)) rfl rfl hF rfl (run_fieldAddr rfl fl25_2 (hF.ev rfl) rfl) ?_; clear hF; intro a hF
          refine op_val (v := .slice A2 x2.length c2) rfl rfl hF rfl (run_load1 rfl one23 (hF.ev rfl) ((S.free 4 rfl).cell rfl)) ?_; clear hF; intro a hF
          refine op_val (v := .pointer (some ⟨g102, 2, none⟩)) rfl rfl hF rfl (run_fieldAddr rfl fl27_2 (hF.ev rfl) rfl) ?_; clear hF; intro a hF
          refine op_val (v := .int .i64 x5) rfl rfl hF rfl (run_load1 rfl one3 (hF.ev rfl) ((S.free 3 rfl).cell rfl)) ?_; clear hF; intro a hF
          obtain ⟨hk120, hM⟩ := chk_ex hM
          replace hk120 := ixB_t hk120
          refine op_val (v := .pointer (some ⟨adB A2, adO A2 + x5.toNat * 1, none⟩)) rfl rfl hF rfl (run_indexAddr (b := adB A2) (off := adO A2) rfl Tryd.underlying23 sz3 ((hF.ev rfl).trans (congrArg (fun A => Value.slice A x2.length c2) ((S.rc0 h2.rc).rd.ad (ix_pos hk120)))) (hF.ev rfl) hk120.1 hk120.2 (k' := adO A2 + x5.toNat * 1) rfl) ?_; clear hF; intro a hF
          refine op_val (v := .int .i64 (x2.getD x5.toNat (0 : Int))) rfl rfl hF rfl (run_load1 rfl one3 (hF.ev rfl) (rd_el0 (l := x2) (S.rc0 h2.rc).rd rfl eI_len (0 : Int) (ix_ltn hk120 rfl) rfl)) ?_; clear hF; intro a hF
          refine op_val (v := .int .i64 p114) rfl rfl hF rfl (run_move rfl (hF.ev rfl)) ?_; clear hF; intro a hF
          refine op_val (v := .bool (ltB (x2.getD x5.toNat (0 : Int)) p114)) rfl rfl hF rfl (run_lss (hF.ev rfl) (hF.ev rfl) rfl) ?_; clear hF; intro a hF
          refine wpList_nil ?_
          cases hc121 : (ltB (x2.getD x5.toNat (0 : Int)) p114)
          · replace hM := bif_f hc121 hM
            refine cond_f hF rfl hc121 ?_
            refine wp_skip ?_
            refine wp_seq ?_
            refine wp_seq ?_
            obtain ⟨hk122, hM⟩ := chk_ex hM
            replace hk122 := ixB_t hk122
            refine region_gw (D := [65, 66, 67, 68, 69, 70, 71, 72, 73, 74]) (Lr := [.box g110 25 #[.int .i64 p106.1, .int .i64 p106.2.1, .slice B107 p106.2.2.length d109], .row 3 1 (.slice B107 p106.2.2.length d109) p106.2.2.length (p106.2.2.flatMap eI), .box g103 25 #[.int .i64 0, .int .i64 0, .slice none 0 0], .box g102 27 #[.int .i64 x3, .int .i64 x4, .int .i64 x5], .box g101 25 #[.int .i64 x0, .int .i64 x1, .slice A2 x2.length c2]]) (deps := (fun | 0 => [65] | 1 => [66] | 2 => [67] | 3 => [68] | 4 => [69] | 5 => [70] | 6 => [71] | 7 => [72] | 8 => [73] | 9 => [74] | _ => [])) (rd := (fun _ => [])) (zr := (fun _ => []))
              (φ := fun i vs => match i, vs with | 0, [v65] => v65 = .pointer (some ⟨g101, 2, none⟩) | 1, [v66] => v66 = .slice A2 x2.length c2 | 2, [v67] => v67 = .pointer (some ⟨g102, 2, none⟩) | 3, [v68] => v68 = .int .i64 x5 | 4, [v69] => v69 = .pointer (some ⟨adB A2, adO A2 + x5.toNat * 1, none⟩) | 5, [v70] => v70 = .int .i64 (x2.getD x5.toNat (0 : Int)) | 6, [v71] => v71 = .int .i64 (Int.tmod (x2.getD x5.toNat (0 : Int)) 2) | 7, [v72] => v72 = .pointer (some ⟨g102, 1, none⟩) | 8, [v73] => v73 = .int .i64 x4 | 9, [v74] => v74 = .bool ((Int.tmod (x2.getD x5.toNat (0 : Int)) 2) == x4) | _, _ => True)
              (C := fun _ _ => [])
              (κ := (fun _ => none)) (Z := (fun _ => [])) mixed hF (by kernel_rfl) S ?_ ?_
            · refine ⟨?_, ?_, ?_, ?_, ?_, ?_, ?_, ?_, ?_, ?_, trivial⟩
              · intro a u X hB hu hp hr hz hl S
                replace S : St w u ([] ++ X) := S
                exact .inl ⟨rfl, .pointer (some ⟨g101, 2, none⟩), u, (run_fieldAddr rfl fl25_2 (hF.evB hB rfl rfl) rfl), rfl, S⟩
              · intro a u X hB hu hp hr hz hl S
                replace S : St w u ([] ++ X) := S
                have e65 : sl a 65 = .pointer (some ⟨g101, 2, none⟩) := hp 0 rfl
                exact .inl ⟨rfl, .slice A2 x2.length c2, u, (run_load1 rfl one23 (ev_sl e65) ((gr_box S hl 4 rfl).cell rfl)), rfl, S⟩
              · intro a u X hB hu hp hr hz hl S
                replace S : St w u ([] ++ X) := S
                exact .inl ⟨rfl, .pointer (some ⟨g102, 2, none⟩), u, (run_fieldAddr rfl fl27_2 (hF.evB hB rfl rfl) rfl), rfl, S⟩
              · intro a u X hB hu hp hr hz hl S
                replace S : St w u ([] ++ X) := S
                have e67 : sl a 67 = .pointer (some ⟨g102, 2, none⟩) := hp 2 rfl
                exact .inl ⟨rfl, .int .i64 x5, u, (run_load1 rfl one3 (ev_sl e67) ((gr_box S hl 3 rfl).cell rfl)), rfl, S⟩
              · intro a u X hB hu hp hr hz hl S
                replace S : St w u ([] ++ X) := S
                have e66 : sl a 66 = .slice A2 x2.length c2 := hp 1 rfl
                have e68 : sl a 68 = .int .i64 x5 := hp 3 rfl
                exact .inl ⟨rfl, .pointer (some ⟨adB A2, adO A2 + x5.toNat * 1, none⟩), u, (run_indexAddr (b := adB A2) (off := adO A2) rfl Tryd.underlying23 sz3 ((ev_sl e66).trans (congrArg (fun A => Value.slice A x2.length c2) ((S.rc0 h2.rc).rd.ad (ix_pos hk122)))) (ev_sl e68) hk122.1 hk122.2 (k' := adO A2 + x5.toNat * 1) rfl), rfl, S⟩
              · intro a u X hB hu hp hr hz hl S
                replace S : St w u ([] ++ X) := S
                have e69 : sl a 69 = .pointer (some ⟨adB A2, adO A2 + x5.toNat * 1, none⟩) := hp 4 rfl
                exact .inl ⟨rfl, .int .i64 (x2.getD x5.toNat (0 : Int)), u, (run_load1 rfl one3 (ev_sl e69) (rd_el0 (l := x2) (S.rc0 h2.rc).rd rfl eI_len (0 : Int) (ix_ltn hk122 rfl) rfl)), rfl, S⟩
              · intro a u X hB hu hp hr hz hl S
                replace S : St w u ([] ++ X) := S
                have e70 : sl a 70 = .int .i64 (x2.getD x5.toNat (0 : Int)) := hp 5 rfl
                exact .inl ⟨rfl, .int .i64 (Int.tmod (x2.getD x5.toNat (0 : Int)) 2), u, (run_rem (z := Int.tmod (x2.getD x5.toNat (0 : Int)) 2) (ev_sl e70) (ev_const _ _) rfl (by decide) rfl), rfl, S⟩
              · intro a u X hB hu hp hr hz hl S
                replace S : St w u ([] ++ X) := S
                exact .inl ⟨rfl, .pointer (some ⟨g102, 1, none⟩), u, (run_fieldAddr rfl fl27_1 (hF.evB hB rfl rfl) rfl), rfl, S⟩
              · intro a u X hB hu hp hr hz hl S
                replace S : St w u ([] ++ X) := S
                have e72 : sl a 72 = .pointer (some ⟨g102, 1, none⟩) := hp 7 rfl
                exact .inl ⟨rfl, .int .i64 x4, u, (run_load1 rfl one3 (ev_sl e72) ((gr_box S hl 3 rfl).cell rfl)), rfl, S⟩
              · intro a u X hB hu hp hr hz hl S
                replace S : St w u ([] ++ X) := S
                have e71 : sl a 71 = .int .i64 (Int.tmod (x2.getD x5.toNat (0 : Int)) 2) := hp 6 rfl
                have e73 : sl a 73 = .int .i64 x4 := hp 8 rfl
                exact .inl ⟨rfl, .bool ((Int.tmod (x2.getD x5.toNat (0 : Int)) 2) == x4), u, (run_eql (ev_sl e71) (ev_sl e73) rfl), rfl, S⟩
            · intro a u hB hp S
              obtain ⟨q0, q1, q2, q3, q4, q5, q6, q7, q8, q9, _⟩ := hp
              have e65 : sl a 65 = .pointer (some ⟨g101, 2, none⟩) := q0
              have e66 : sl a 66 = .slice A2 x2.length c2 := q1
              have e67 : sl a 67 = .pointer (some ⟨g102, 2, none⟩) := q2
              have e68 : sl a 68 = .int .i64 x5 := q3
              have e69 : sl a 69 = .pointer (some ⟨adB A2, adO A2 + x5.toNat * 1, none⟩) := q4
              have e70 : sl a 70 = .int .i64 (x2.getD x5.toNat (0 : Int)) := q5
              have e71 : sl a 71 = .int .i64 (Int.tmod (x2.getD x5.toNat (0 : Int)) 2) := q6
              have e72 : sl a 72 = .pointer (some ⟨g102, 1, none⟩) := q7
              have e73 : sl a 73 = .int .i64 x4 := q8
              have e74 : sl a 74 = .bool ((Int.tmod (x2.getD x5.toNat (0 : Int)) 2) == x4) := q9
              replace S : St w u [.box g110 25 #[.int .i64 p106.1, .int .i64 p106.2.1, .slice B107 p106.2.2.length d109], .row 3 1 (.slice B107 p106.2.2.length d109) p106.2.2.length (p106.2.2.flatMap eI), .box g103 25 #[.int .i64 0, .int .i64 0, .slice none 0 0], .box g102 27 #[.int .i64 x3, .int .i64 x4, .int .i64 x5], .box g101 25 #[.int .i64 x0, .int .i64 x1, .slice A2 x2.length c2]] := S
              clear q0 q1 q2 q3 q4 q5 q6 q7 q8 q9
              have hF := hF.region hB [(65, .pointer (some ⟨g101, 2, none⟩)), (66, .slice A2 x2.length c2), (67, .pointer (some ⟨g102, 2, none⟩)), (68, .int .i64 x5), (69, .pointer (some ⟨adB A2, adO A2 + x5.toNat * 1, none⟩)), (70, .int .i64 (x2.getD x5.toNat (0 : Int))), (71, .int .i64 (Int.tmod (x2.getD x5.toNat (0 : Int)) 2)), (72, .pointer (some ⟨g102, 1, none⟩)), (73, .int .i64 x4), (74, .bool ((Int.tmod (x2.getD x5.toNat (0 : Int)) 2) == x4))] (allSl_mem ⟨e65, e66, e67, e68, e69, e70, e71, e72, e73, e74, trivial⟩) rfl
              clear hB e65 e66 e67 e68 e69 e70 e71 e72 e73 e74
              cases hc123 : ((Int.tmod (x2.getD x5.toNat (0 : Int)) 2) == x4)
              · replace hM := bif_f hc123 hM
                refine cond_f hF rfl hc123 ?_
                refine wp_skip ?_
                refine wp_seq ?_
                refine wp_seq ?_
                refine wp_region_lit ?_
                refine op_val (v := .pointer (some ⟨g101, 2, none⟩)) rfl rfl hF rfl (run_fieldAddr rfl fl25_2 (hF.ev rfl) rfl) ?_; clear hF; intro a hF
                refine op_val (v := .slice A2 x2.length c2) rfl rfl hF rfl (run_load1 rfl one23 (hF.ev rfl) ((S.free 4 rfl).cell rfl)) ?_; clear hF; intro a hF
                refine op_val (v := .pointer (some ⟨g102, 2, none⟩)) rfl rfl hF rfl (run_fieldAddr rfl fl27_2 (hF.ev rfl) rfl) ?_; clear hF; intro a hF
                refine op_val (v := .int .i64 x5) rfl rfl hF rfl (run_load1 rfl one3 (hF.ev rfl) ((S.free 3 rfl).cell rfl)) ?_; clear hF; intro a hF
                obtain ⟨hk124, hM⟩ := chk_ex hM
                replace hk124 := ixB_t hk124
                refine op_val (v := .pointer (some ⟨adB A2, adO A2 + x5.toNat * 1, none⟩)) rfl rfl hF rfl (run_indexAddr (b := adB A2) (off := adO A2) rfl Tryd.underlying23 sz3 ((hF.ev rfl).trans (congrArg (fun A => Value.slice A x2.length c2) ((S.rc0 h2.rc).rd.ad (ix_pos hk124)))) (hF.ev rfl) hk124.1 hk124.2 (k' := adO A2 + x5.toNat * 1) rfl) ?_; clear hF; intro a hF
                refine op_val (v := .int .i64 (x2.getD x5.toNat (0 : Int))) rfl rfl hF rfl (run_load1 rfl one3 (hF.ev rfl) (rd_el0 (l := x2) (S.rc0 h2.rc).rd rfl eI_len (0 : Int) (ix_ltn hk124 rfl) rfl)) ?_; clear hF; intro a hF
                refine op_val (v := .int .i64 (w64 ((x2.getD x5.toNat (0 : Int)) + 1))) rfl rfl hF rfl (run_add (z := w64 ((x2.getD x5.toNat (0 : Int)) + 1)) (hF.ev rfl) rfl rfl rfl) ?_; clear hF; intro a hF
                refine op_val (v := .bool (ltB 99 (w64 ((x2.getD x5.toNat (0 : Int)) + 1)))) rfl rfl hF rfl (run_gtr (hF.ev rfl) rfl rfl) ?_; clear hF; intro a hF
                refine wpList_nil ?_
                cases hc125 : (ltB 99 (w64 ((x2.getD x5.toNat (0 : Int)) + 1)))
                · replace hM := bif_f hc125 hM
                  refine cond_f hF rfl hc125 ?_
                  refine wp_skip ?_
                  refine wp_seq ?_
                  obtain ⟨hk126, hM⟩ := chk_ex hM
                  replace hk126 := ixB_t hk126
                  obtain ⟨p127, h127, hM⟩ := bind_ex hM
                  refine region_gw (D := [85, 86, 87, 88, 89, 90, 91, 92, 93, 94, 95, 5]) (Lr := [.box g110 25 #[.int .i64 p106.1, .int .i64 p106.2.1, .slice B107 p106.2.2.length d109], .row 3 1 (.slice B107 p106.2.2.length d109) p106.2.2.length (p106.2.2.flatMap eI), .box g102 27 #[.int .i64 x3, .int .i64 x4, .int .i64 x5], .box g101 25 #[.int .i64 x0, .int .i64 x1, .slice A2 x2.length c2]]) (deps := (fun | 0 => [85] | 1 => [86] | 2 => [87] | 3 => [88] | 4 => [89] | 5 => [90] | 6 => [91] | 7 => [92] | 8 => [93] | 9 => [94] | 10 => [95] | 11 => [4, 95] | 12 => [5] | _ => [])) (rd := (fun _ => [])) (zr := (fun _ => []))
                    (φ := fun i vs => match i, vs with | 0, [v85] => v85 = .agg #[.int .i64 x0, .int .i64 x1, .slice A2 x2.length c2] | 1, [v86] => v86 = .pointer (some ⟨g102, 1, none⟩) | 2, [v87] => v87 = .int .i64 x4 | 3, [v88] => v88 = .pointer (some ⟨g101, 2, none⟩) | 4, [v89] => v89 = .slice A2 x2.length c2 | 5, [v90] => v90 = .pointer (some ⟨g102, 2, none⟩) | 6, [v91] => v91 = .int .i64 x5 | 7, [v92] => v92 = .pointer (some ⟨adB A2, adO A2 + x5.toNat * 1, none⟩) | 8, [v93] => v93 = .int .i64 (x2.getD x5.toNat (0 : Int)) | 9, [v94] => v94 = .int .i64 (w64 ((x2.getD x5.toNat (0 : Int)) + 1)) | 10, [v95] => v95 = .agg #[.int .i64 p127.1, .int .i64 p127.2.1, .slice (slA (vtup v95 2)) p127.2.2.length (slC (vtup v95 2))] | 12, [v5] => v5 = .bool true | _, _ => True)
                    (C := fun i vs => match i, vs with | 10, [v95] => [.row 3 1 (.slice (slA (vtup v95 2)) p127.2.2.length (slC (vtup v95 2))) p127.2.2.length (p127.2.2.flatMap eI)] | 11, [v4, v95] => [.box g103 25 #[.int .i64 p127.1, .int .i64 p127.2.1, .slice (slA (vtup v95 2)) p127.2.2.length (slC (vtup v95 2))]] | _, _ => [])
                    (κ := (fun _ => none)) (Z := (fun | 11 => [.box g103 25 #[.int .i64 0, .int .i64 0, .slice none 0 0]] | _ => [])) mixed hF (by kernel_rfl) (show St w _ [.box g103 25 #[.int .i64 0, .int .i64 0, .slice none 0 0], .box g110 25 #[.int .i64 p106.1, .int .i64 p106.2.1, .slice B107 p106.2.2.length d109], .row 3 1 (.slice B107 p106.2.2.length d109) p106.2.2.length (p106.2.2.flatMap eI), .box g102 27 #[.int .i64 x3, .int .i64 x4, .int .i64 x5], .box g101 25 #[.int .i64 x0, .int .i64 x1, .slice A2 x2.length c2]] from S.sel [2, 0, 1, 3, 4] rfl rfl) ?_ ?_
                  · refine ⟨?_, ?_, ?_, ?_, ?_, ?_, ?_, ?_, ?_, ?_, ?_, ?_, ?_, trivial⟩
                    · intro a u X hB hu hp hr hz hl S
                      replace S : St w u ([] ++ X) := S
                      exact .inl ⟨rfl, .agg #[.int .i64 x0, .int .i64 x1, .slice A2 x2.length c2], u, (run_loadN rfl ag25 (hF.evB hB rfl rfl) rfl ((gr_box S hl 3 rfl).cells 0 #[.int .i64 x0, .int .i64 x1, .slice A2 x2.length c2] rfl)), rfl, S⟩
                    · intro a u X hB hu hp hr hz hl S
                      replace S : St w u ([] ++ X) := S
                      exact .inl ⟨rfl, .pointer (some ⟨g102, 1, none⟩), u, (run_fieldAddr rfl fl27_1 (hF.evB hB rfl rfl) rfl), rfl, S⟩
                    · intro a u X hB hu hp hr hz hl S
                      replace S : St w u ([] ++ X) := S
                      have e86 : sl a 86 = .pointer (some ⟨g102, 1, none⟩) := hp 1 rfl
                      exact .inl ⟨rfl, .int .i64 x4, u, (run_load1 rfl one3 (ev_sl e86) ((gr_box S hl 2 rfl).cell rfl)), rfl, S⟩
                    · intro a u X hB hu hp hr hz hl S
                      replace S : St w u ([] ++ X) := S
                      exact .inl ⟨rfl, .pointer (some ⟨g101, 2, none⟩), u, (run_fieldAddr rfl fl25_2 (hF.evB hB rfl rfl) rfl), rfl, S⟩
                    · intro a u X hB hu hp hr hz hl S
                      replace S : St w u ([] ++ X) := S
                      have e88 : sl a 88 = .pointer (some ⟨g101, 2, none⟩) := hp 3 rfl
                      exact .inl ⟨rfl, .slice A2 x2.length c2, u, (run_load1 rfl one23 (ev_sl e88) ((gr_box S hl 3 rfl).cell rfl)), rfl, S⟩
                    · intro a u X hB hu hp hr hz hl S
                      replace S : St w u ([] ++ X) := S
                      exact .inl ⟨rfl, .pointer (some ⟨g102, 2, none⟩), u, (run_fieldAddr rfl fl27_2 (hF.evB hB rfl rfl) rfl), rfl, S⟩
                    · intro a u X hB hu hp hr hz hl S
                      replace S : St w u ([] ++ X) := S
                      have e90 : sl a 90 = .pointer (some ⟨g102, 2, none⟩) := hp 5 rfl
                      exact .inl ⟨rfl, .int .i64 x5, u, (run_load1 rfl one3 (ev_sl e90) ((gr_box S hl 2 rfl).cell rfl)), rfl, S⟩
                    · intro a u X hB hu hp hr hz hl S
                      replace S : St w u ([] ++ X) := S
                      have e89 : sl a 89 = .slice A2 x2.length c2 := hp 4 rfl
                      have e91 : sl a 91 = .int .i64 x5 := hp 6 rfl
                      exact .inl ⟨rfl, .pointer (some ⟨adB A2, adO A2 + x5.toNat * 1, none⟩), u, (run_indexAddr (b := adB A2) (off := adO A2) rfl Tryd.underlying23 sz3 ((ev_sl e89).trans (congrArg (fun A => Value.slice A x2.length c2) ((S.rc0 h2.rc).rd.ad (ix_pos hk126)))) (ev_sl e91) hk126.1 hk126.2 (k' := adO A2 + x5.toNat * 1) rfl), rfl, S⟩
                    · intro a u X hB hu hp hr hz hl S
                      replace S : St w u ([] ++ X) := S
                      have e92 : sl a 92 = .pointer (some ⟨adB A2, adO A2 + x5.toNat * 1, none⟩) := hp 7 rfl
                      exact .inl ⟨rfl, .int .i64 (x2.getD x5.toNat (0 : Int)), u, (run_load1 rfl one3 (ev_sl e92) (rd_el0 (l := x2) (S.rc0 h2.rc).rd rfl eI_len (0 : Int) (ix_ltn hk126 rfl) rfl)), rfl, S⟩
                    · intro a u X hB hu hp hr hz hl S
                      replace S : St w u ([] ++ X) := S
                      have e93 : sl a 93 = .int .i64 (x2.getD x5.toNat (0 : Int)) := hp 8 rfl
                      exact .inl ⟨rfl, .int .i64 (w64 ((x2.getD x5.toNat (0 : Int)) + 1)), u, (run_add (z := w64 ((x2.getD x5.toNat (0 : Int)) + 1)) (ev_sl e93) (ev_const _ _) rfl rfl), rfl, S⟩
                    · intro a u X hB hu hp hr hz hl S
                      replace S : St w u ([] ++ X) := S
                      have e85 : sl a 85 = .agg #[.int .i64 x0, .int .i64 x1, .slice A2 x2.length c2] := hp 0 rfl
                      have e87 : sl a 87 = .int .i64 x4 := hp 2 rfl
                      have e94 : sl a 94 = .int .i64 (w64 ((x2.getD x5.toNat (0 : Int)) + 1)) := hp 9 rfl
                      refine .inr (.inr (.inl ⟨rfl, _, _, (run_call (vs := [.agg #[.int .i64 x0, .int .i64 x1, .slice A2 x2.length c2], .int .i64 x4, .int .i64 (w64 ((x2.getD x5.toNat (0 : Int)) + 1))]) rfl rfl co26 ⟨(ev_sl e85), (ev_sl e87), (ev_sl e94), trivial⟩), ?_⟩))
                      refine Calls.mono (c_spec_l32Set (x0 := x0) (x1 := x1) (x2 := x2) (x3 := x4) (x4 := w64 ((x2.getD x5.toNat (0 : Int)) + 1)) ⟨(S.rc0 h2.rc), rfl⟩ h127) ?_
                      rintro e w1 ⟨B131, n132, d133, rfl, rfl, T⟩
                      exact ⟨_, rfl, rfl, S.call1 T⟩
                    · intro a u X hB hu hp hr hz hl S
                      replace S : St w u ([.box g103 25 #[.int .i64 0, .int .i64 0, .slice none 0 0]] ++ X) := S
                      have e95 : sl a 95 = .agg #[.int .i64 p127.1, .int .i64 p127.2.1, .slice (slA (vtup (sl a 95) 2)) p127.2.2.length (slC (vtup (sl a 95) 2))] := hp 10 rfl
                      exact .inr (.inl ⟨rfl, _, run_store (cs' := #[.int .i64 p127.1, .int .i64 p127.2.1, .slice (slA (vtup (sl a 95) 2)) p127.2.2.length (slC (vtup (sl a 95) 2))]) rfl sz25 (hF.evB hB rfl rfl) (ev_sl e95) rfl rfl rfl (S.free 0 rfl) rfl rfl, trivial, S.put 0 rfl (#[.int .i64 p127.1, .int .i64 p127.2.1, .slice (slA (vtup (sl a 95) 2)) p127.2.2.length (slC (vtup (sl a 95) 2))])⟩)
                    · intro a u X hB hu hp hr hz hl S
                      replace S : St w u ([] ++ X) := S
                      exact .inl ⟨rfl, .bool true, u, (run_assign rfl (ev_const _ _)), rfl, S⟩
                  · intro a u hB hp S
                    obtain ⟨q0, q1, q2, q3, q4, q5, q6, q7, q8, q9, q10, q11, q12, _⟩ := hp
                    have e85 : sl a 85 = .agg #[.int .i64 x0, .int .i64 x1, .slice A2 x2.length c2] := q0
                    have e86 : sl a 86 = .pointer (some ⟨g102, 1, none⟩) := q1
                    have e87 : sl a 87 = .int .i64 x4 := q2
                    have e88 : sl a 88 = .pointer (some ⟨g101, 2, none⟩) := q3
                    have e89 : sl a 89 = .slice A2 x2.length c2 := q4
                    have e90 : sl a 90 = .pointer (some ⟨g102, 2, none⟩) := q5
                    have e91 : sl a 91 = .int .i64 x5 := q6
                    have e92 : sl a 92 = .pointer (some ⟨adB A2, adO A2 + x5.toNat * 1, none⟩) := q7
                    have e93 : sl a 93 = .int .i64 (x2.getD x5.toNat (0 : Int)) := q8
                    have e94 : sl a 94 = .int .i64 (w64 ((x2.getD x5.toNat (0 : Int)) + 1)) := q9
                    have e95 : sl a 95 = .agg #[.int .i64 p127.1, .int .i64 p127.2.1, .slice (slA (vtup (sl a 95) 2)) p127.2.2.length (slC (vtup (sl a 95) 2))] := q10
                    have e5 : sl a 5 = .bool true := q12
                    replace S : St w u [.row 3 1 (.slice (slA (vtup (sl a 95) 2)) p127.2.2.length (slC (vtup (sl a 95) 2))) p127.2.2.length (p127.2.2.flatMap eI), .box g103 25 #[.int .i64 p127.1, .int .i64 p127.2.1, .slice (slA (vtup (sl a 95) 2)) p127.2.2.length (slC (vtup (sl a 95) 2))], .box g110 25 #[.int .i64 p106.1, .int .i64 p106.2.1, .slice B107 p106.2.2.length d109], .row 3 1 (.slice B107 p106.2.2.length d109) p106.2.2.length (p106.2.2.flatMap eI), .box g102 27 #[.int .i64 x3, .int .i64 x4, .int .i64 x5], .box g101 25 #[.int .i64 x0, .int .i64 x1, .slice A2 x2.length c2]] := S
                    clear q0 q1 q2 q3 q4 q5 q6 q7 q8 q9 q10 q11 q12
                    generalize slA (vtup (sl a 95) 2) = B134 at *
                    generalize slC (vtup (sl a 95) 2) = d135 at *
                    have hF := hF.region hB [(85, .agg #[.int .i64 x0, .int .i64 x1, .slice A2 x2.length c2]), (86, .pointer (some ⟨g102, 1, none⟩)), (87, .int .i64 x4), (88, .pointer (some ⟨g101, 2, none⟩)), (89, .slice A2 x2.length c2), (90, .pointer (some ⟨g102, 2, none⟩)), (91, .int .i64 x5), (92, .pointer (some ⟨adB A2, adO A2 + x5.toNat * 1, none⟩)), (93, .int .i64 (x2.getD x5.toNat (0 : Int))), (94, .int .i64 (w64 ((x2.getD x5.toNat (0 : Int)) + 1))), (95, .agg #[.int .i64 p127.1, .int .i64 p127.2.1, .slice B134 p127.2.2.length d135]), (5, .bool true)] (allSl_mem ⟨e85, e86, e87, e88, e89, e90, e91, e92, e93, e94, e95, e5, trivial⟩) rfl
                    clear hB e85 e86 e87 e88 e89 e90 e91 e92 e93 e94 e95 e5
                    refine wp_ret ?_
                    repeat with_reducible (first | refine then_ret ?_ | refine in_ret ?_ | refine in_nrm ?_)
                    refine ret2_gw (.inl rfl) hF rfl (res_cell (hF.ev rfl) (res_loadN ag25 rfl (S.cells 1 rfl 0 #[.int .i64 p127.1, .int .i64 p127.2.1, .slice B134 p127.2.2.length d135] rfl))) (res_tmp (hF.ev rfl)) ?_
                    obtain rfl := Option.some.inj hM
                    exact ⟨B134, p127.2.2.length, d135, rfl, rfl, S.sel [0] rfl rfl⟩
                · replace hM := bif_t hc125 hM
                  refine cond_t hF rfl hc125 ?_
                  refine wp_seq ?_
                  refine wp_region_lit ?_
                  refine op_val (v := .agg #[.int .i64 p106.1, .int .i64 p106.2.1, .slice B107 p106.2.2.length d109]) rfl rfl hF rfl (run_loadN rfl ag25 (hF.ev rfl) rfl ((S.free 0 rfl).cells 0 #[.int .i64 p106.1, .int .i64 p106.2.1, .slice B107 p106.2.2.length d109] rfl)) ?_; clear hF; intro a hF
                  refine op_do rfl rfl (run_store (cs' := #[.int .i64 p106.1, .int .i64 p106.2.1, .slice B107 p106.2.2.length d109]) rfl sz25 (hF.ev rfl) (hF.ev rfl) rfl rfl rfl (S.free 2 rfl) rfl rfl) ?_; replace S := S.put 2 rfl (#[.int .i64 p106.1, .int .i64 p106.2.1, .slice B107 p106.2.2.length d109])
                  generalize World.setRow _ _ _ = u at S ⊢
                  refine op_val (v := .bool false) rfl rfl hF rfl (run_assign rfl rfl) ?_; clear hF; intro a hF
                  refine wpList_nil ?_
                  refine wp_ret ?_
                  repeat with_reducible (first | refine then_ret ?_ | refine in_ret ?_ | refine in_nrm ?_)
                  refine ret2_gw (.inl rfl) hF rfl (res_cell (hF.ev rfl) (res_loadN ag25 rfl (S.cells 2 rfl 0 #[.int .i64 p106.1, .int .i64 p106.2.1, .slice B107 p106.2.2.length d109] rfl))) (res_tmp (hF.ev rfl)) ?_
                  obtain rfl := Option.some.inj hM
                  exact ⟨B107, p106.2.2.length, d109, rfl, rfl, S.sel [1] rfl rfl⟩
              · replace hM := bif_t hc123 hM
                refine cond_t hF rfl hc123 ?_
                refine wp_seq ?_
                refine wp_region_lit ?_
                refine op_val (v := .agg #[.int .i64 p106.1, .int .i64 p106.2.1, .slice B107 p106.2.2.length d109]) rfl rfl hF rfl (run_loadN rfl ag25 (hF.ev rfl) rfl ((S.free 0 rfl).cells 0 #[.int .i64 p106.1, .int .i64 p106.2.1, .slice B107 p106.2.2.length d109] rfl)) ?_; clear hF; intro a hF
                refine op_do rfl rfl (run_store (cs' := #[.int .i64 p106.1, .int .i64 p106.2.1, .slice B107 p106.2.2.length d109]) rfl sz25 (hF.ev rfl) (hF.ev rfl) rfl rfl rfl (S.free 2 rfl) rfl rfl) ?_; replace S := S.put 2 rfl (#[.int .i64 p106.1, .int .i64 p106.2.1, .slice B107 p106.2.2.length d109])
                generalize World.setRow _ _ _ = u at S ⊢
                refine op_val (v := .bool true) rfl rfl hF rfl (run_assign rfl rfl) ?_; clear hF; intro a hF
                refine wpList_nil ?_
                refine wp_ret ?_
                repeat with_reducible (first | refine then_ret ?_ | refine in_ret ?_ | refine in_nrm ?_)
                refine ret2_gw (.inl rfl) hF rfl (res_cell (hF.ev rfl) (res_loadN ag25 rfl (S.cells 2 rfl 0 #[.int .i64 p106.1, .int .i64 p106.2.1, .slice B107 p106.2.2.length d109] rfl))) (res_tmp (hF.ev rfl)) ?_
                obtain rfl := Option.some.inj hM
                exact ⟨B107, p106.2.2.length, d109, rfl, rfl, S.sel [1] rfl rfl⟩
          · replace hM := bif_t hc121 hM
            refine cond_t hF rfl hc121 ?_
            refine wp_seq ?_
            refine wp_region_lit ?_
            refine op_val (v := .agg #[.int .i64 p106.1, .int .i64 p106.2.1, .slice B107 p106.2.2.length d109]) rfl rfl hF rfl (run_loadN rfl ag25 (hF.ev rfl) rfl ((S.free 0 rfl).cells 0 #[.int .i64 p106.1, .int .i64 p106.2.1, .slice B107 p106.2.2.length d109] rfl)) ?_; clear hF; intro a hF
            refine op_do rfl rfl (run_store (cs' := #[.int .i64 p106.1, .int .i64 p106.2.1, .slice B107 p106.2.2.length d109]) rfl sz25 (hF.ev rfl) (hF.ev rfl) rfl rfl rfl (S.free 2 rfl) rfl rfl) ?_; replace S := S.put 2 rfl (#[.int .i64 p106.1, .int .i64 p106.2.1, .slice B107 p106.2.2.length d109])
            generalize World.setRow _ _ _ = u at S ⊢
            refine op_val (v := .bool true) rfl rfl hF rfl (run_assign rfl rfl) ?_; clear hF; intro a hF
            refine wpList_nil ?_
            refine wp_ret ?_
            repeat with_reducible (first | refine then_ret ?_ | refine in_ret ?_ | refine in_nrm ?_)
            refine ret2_gw (.inl rfl) hF rfl (res_cell (hF.ev rfl) (res_loadN ag25 rfl (S.cells 2 rfl 0 #[.int .i64 p106.1, .int .i64 p106.2.1, .slice B107 p106.2.2.length d109] rfl))) (res_tmp (hF.ev rfl)) ?_
            obtain rfl := Option.some.inj hM
            exact ⟨B107, p106.2.2.length, d109, rfl, rfl, S.sel [1] rfl rfl⟩
      · replace hM := bif_t hc115 hM
        refine cond_t hF rfl hc115 ?_
        refine wp_seq ?_
        refine wp_seq ?_
        refine wp_region_lit ?_
        refine op_val (v := .int .i64 p114) rfl rfl hF rfl (run_move rfl (hF.ev rfl)) ?_; clear hF; intro a hF
        refine op_val (v := .int .i64 (w64 (p114 + 2))) rfl rfl hF rfl (run_add (z := w64 (p114 + 2)) (hF.ev rfl) rfl rfl rfl) ?_; clear hF; intro a hF
        refine op_val (v := .bool (ltB 99 (w64 (p114 + 2)))) rfl rfl hF rfl (run_gtr (hF.ev rfl) rfl rfl) ?_; clear hF; intro a hF
        refine wpList_nil ?_
        cases hc136 : (ltB 99 (w64 (p114 + 2)))
        · replace hM := bif_f hc136 hM
          refine cond_f hF rfl hc136 ?_
          refine wp_skip ?_
          refine wp_seq ?_
          refine wp_region_lit ?_
          refine op_val (v := .agg #[.int .i64 x0, .int .i64 x1, .slice A2 x2.length c2]) rfl rfl hF rfl (run_loadN rfl ag25 (hF.ev rfl) rfl ((S.free 4 rfl).cells 0 #[.int .i64 x0, .int .i64 x1, .slice A2 x2.length c2] rfl)) ?_; clear hF; intro a hF
          refine op_val (v := .pointer (some ⟨g102, 1, none⟩)) rfl rfl hF rfl (run_fieldAddr rfl fl27_1 (hF.ev rfl) rfl) ?_; clear hF; intro a hF
          refine op_val (v := .int .i64 x4) rfl rfl hF rfl (run_load1 rfl one3 (hF.ev rfl) ((S.free 3 rfl).cell rfl)) ?_; clear hF; intro a hF
          refine op_val (v := .int .i64 p114) rfl rfl hF rfl (run_move rfl (hF.ev rfl)) ?_; clear hF; intro a hF
          refine op_val (v := .int .i64 (w64 (p114 + 2))) rfl rfl hF rfl (run_add (z := w64 (p114 + 2)) (hF.ev rfl) rfl rfl rfl) ?_; clear hF; intro a hF
          obtain ⟨p137, h137, hM⟩ := bind_ex hM
          refine op_call rfl rfl hF rfl (run_call (vs := [.agg #[.int .i64 x0, .int .i64 x1, .slice A2 x2.length c2], .int .i64 x4, .int .i64 (w64 (p114 + 2))]) rfl rfl co26 ⟨(hF.ev rfl), (hF.ev rfl), (hF.ev rfl), trivial⟩) (c_spec_l32Set (x0 := x0) (x1 := x1) (x2 := x2) (x3 := x4) (x4 := w64 (p114 + 2)) ⟨(S.rc0 h2.rc), rfl⟩ h137) ?_
          rintro e u ⟨B138, n139, d140, rfl, rfl, T⟩
          refine ⟨_, rfl, ?_⟩
          clear hF; intro a hF
          replace S := S.call1 T; clear T
          refine op_do rfl rfl (run_store (cs' := #[.int .i64 p137.1, .int .i64 p137.2.1, .slice B138 p137.2.2.length d140]) rfl sz25 (hF.ev rfl) (hF.ev rfl) rfl rfl rfl (S.free 3 rfl) rfl rfl) ?_; replace S := S.put 3 rfl (#[.int .i64 p137.1, .int .i64 p137.2.1, .slice B138 p137.2.2.length d140])
          generalize World.setRow _ _ _ = u at S ⊢
          refine op_val (v := .bool true) rfl rfl hF rfl (run_assign rfl rfl) ?_; clear hF; intro a hF
          refine wpList_nil ?_
          refine wp_ret ?_
          repeat with_reducible (first | refine then_ret ?_ | refine in_ret ?_ | refine in_nrm ?_)
          refine ret2_gw (.inl rfl) hF rfl (res_cell (hF.ev rfl) (res_loadN ag25 rfl (S.cells 3 rfl 0 #[.int .i64 p137.1, .int .i64 p137.2.1, .slice B138 p137.2.2.length d140] rfl))) (res_tmp (hF.ev rfl)) ?_
          obtain rfl := Option.some.inj hM
          exact ⟨B138, p137.2.2.length, d140, rfl, rfl, S.sel [0] rfl rfl⟩
        · replace hM := bif_t hc136 hM
          refine cond_t hF rfl hc136 ?_
          refine wp_seq ?_
          refine wp_region_lit ?_
          refine op_val (v := .agg #[.int .i64 p106.1, .int .i64 p106.2.1, .slice B107 p106.2.2.length d109]) rfl rfl hF rfl (run_loadN rfl ag25 (hF.ev rfl) rfl ((S.free 0 rfl).cells 0 #[.int .i64 p106.1, .int .i64 p106.2.1, .slice B107 p106.2.2.length d109] rfl)) ?_; clear hF; intro a hF
          refine op_do rfl rfl (run_store (cs' := #[.int .i64 p106.1, .int .i64 p106.2.1, .slice B107 p106.2.2.length d109]) rfl sz25 (hF.ev rfl) (hF.ev rfl) rfl rfl rfl (S.free 2 rfl) rfl rfl) ?_; replace S := S.put 2 rfl (#[.int .i64 p106.1, .int .i64 p106.2.1, .slice B107 p106.2.2.length d109])
          generalize World.setRow _ _ _ = u at S ⊢
          refine op_val (v := .bool false) rfl rfl hF rfl (run_assign rfl rfl) ?_; clear hF; intro a hF
          refine wpList_nil ?_
          refine wp_ret ?_
          repeat with_reducible (first | refine then_ret ?_ | refine in_ret ?_ | refine in_nrm ?_)
          refine ret2_gw (.inl rfl) hF rfl (res_cell (hF.ev rfl) (res_loadN ag25 rfl (S.cells 2 rfl 0 #[.int .i64 p106.1, .int .i64 p106.2.1, .slice B107 p106.2.2.length d109] rfl))) (res_tmp (hF.ev rfl)) ?_
          obtain rfl := Option.some.inj hM
          exact ⟨B107, p106.2.2.length, d109, rfl, rfl, S.sel [1] rfl rfl⟩
    · replace hM := bif_t hc113 hM
      refine cond_t hF rfl hc113 ?_
      refine wp_seq ?_
      refine wp_region_lit ?_
      refine op_val (v := .agg #[.int .i64 p106.1, .int .i64 p106.2.1, .slice B107 p106.2.2.length d109]) rfl rfl hF rfl (run_loadN rfl ag25 (hF.ev rfl) rfl ((S.free 0 rfl).cells 0 #[.int .i64 p106.1, .int .i64 p106.2.1, .slice B107 p106.2.2.length d109] rfl)) ?_; clear hF; intro a hF
      refine op_do rfl rfl (run_store (cs' := #[.int .i64 p106.1, .int .i64 p106.2.1, .slice B107 p106.2.2.length d109]) rfl sz25 (hF.ev rfl) (hF.ev rfl) rfl rfl rfl (S.free 2 rfl) rfl rfl) ?_; replace S := S.put 2 rfl (#[.int .i64 p106.1, .int .i64 p106.2.1, .slice B107 p106.2.2.length d109])
      generalize World.setRow _ _ _ = u at S ⊢
      refine op_val (v := .bool false) rfl rfl hF rfl (run_assign rfl rfl) ?_; clear hF; intro a hF
      refine wpList_nil ?_
      refine wp_ret ?_
      repeat with_reducible (first | refine then_ret ?_ | refine in_ret ?_ | refine in_nrm ?_)
      refine ret2_gw (.inl rfl) hF rfl (res_cell (hF.ev rfl) (res_loadN ag25 rfl (S.cells 2 rfl 0 #[.int .i64 p106.1, .int .i64 p106.2.1, .slice B107 p106.2.2.length d109] rfl))) (res_tmp (hF.ev rfl)) ?_
      obtain rfl := Option.some.inj hM
      exact ⟨B107, p106.2.2.length, d109, rfl, rfl, S.sel [1] rfl rfl⟩

set_option maxHeartbeats 4000000 in
theorem c_spec_l20Rd_odd {x0 : List Int} {x1 : Int} {x2 : Int} {A0 : Option Addr} {n0 c0 : Nat} {g0 : Nat} {w : World} {r : Bool × Int} {w0 : World} {X : List Asn} (h0 : Rt w0 1 eU A0 n0 c0 x0) (S : St w0 w (Asn.box g0 67 #[.slice A0 n0 c0, .int .i64 x1] :: X)) (hM : m_spec_l20Rd_odd x0 x1 x2 = some r) :
    Calls Tryd.prog 35 #[.pointer (some ⟨g0, 0, none⟩), .int .i64 x2] w (fun e w' => e = .returned (.bool r.1) ∧ St w0 w' (Asn.box g0 67 #[.slice A0 n0 c0, .int .i64 r.2] :: X)) := by
  obtain rfl := h0.len
  unfold m_spec_l20Rd_odd at hM
  refine calls_gw Tryd.func35 Tryd.ntmps35 rfl [(0, .pointer (some ⟨g0, 0, none⟩)), (1, .int .i64 x2)] ⟨rfl, rfl, trivial⟩ rfl ?_
  intro a hF
  refine wp_seq ?_
  refine wp_region_lit ?_
  refine op_val (v := .bool false) rfl rfl hF rfl (run_assign rfl rfl) ?_; clear hF; intro a hF
  refine wpList_nil ?_
  refine wp_seq ?_
  obtain ⟨o102, hM103, hM⟩ := bind_ex hM
  refine wp_cut (fun a u => ∃ (p101 : Bool × Int), p101 = o102 ∧ Fr a 15 [(4, .bool p101.1)] ∧ St w0 u (Asn.box g0 67 #[.slice A0 x0.length c0, .int .i64 p101.2] :: X)) ?_ ?_
  · have _ := trivial
    refine wp_region_lit ?_
    refine op_val (v := .int .i64 x2) rfl rfl hF rfl (run_move rfl (hF.ev rfl)) ?_; clear hF; intro a hF
    refine op_val (v := .bool (ltB 0 x2)) rfl rfl hF rfl (run_gtr (hF.ev rfl) rfl rfl) ?_; clear hF; intro a hF
    refine op_val (v := .bool (ltB 0 x2)) rfl rfl hF rfl (run_move rfl (hF.ev rfl)) ?_; clear hF; intro a hF
    refine op_gv (v := .pointer (some ⟨g0, 0, none⟩)) rfl rfl hF rfl (yt (gw_yield hF rfl rfl rfl)) (fun hg => (run_move rfl (hF.ev rfl))) ?_; clear hF; intro a hF
    refine op_gv (v := .int .i64 x2) rfl rfl hF rfl (yt (gw_yield hF rfl rfl rfl)) (fun hg => (run_move rfl (hF.ev rfl))) ?_; clear hF; intro a hF
    cases hc104 : (ltB 0 x2)
    · replace hM103 := bif_f hc104 hM103
      refine op_skipped rfl ((gw_yield hF rfl rfl rfl).trans (congrArg some hc104)) rfl rfl hF rfl ?_; clear hF; intro a hF
      refine op_skipped rfl ((gw_yield hF rfl rfl rfl).trans (congrArg some hc104)) rfl rfl hF rfl ?_; clear hF; intro a hF
      refine op_skipped rfl ((gw_yield hF rfl rfl rfl).trans (congrArg some hc104)) rfl rfl hF rfl ?_; clear hF; intro a hF
      refine op_skipped rfl ((gw_yield hF rfl rfl rfl).trans (congrArg some hc104)) rfl rfl hF rfl ?_; clear hF; intro a hF
      refine op_val (v := .bool false) rfl rfl hF rfl (run_pick_f rfl (hF.ev rfl) hc104 rfl) ?_; clear hF; intro a hF
      refine op_val (v := .bool false) rfl rfl hF rfl (run_assign rfl (hF.ev rfl)) ?_; clear hF; intro a hF
      refine wpList_nil ?_
      obtain rfl := Option.some.inj hM103
      exact ⟨(false, x1), rfl, hF.keep _ ⟨rfl, trivial⟩, S.selT (M := [.box g0 67 #[.slice A0 x0.length c0, .int .i64 x1]]) 1 [0] rfl rfl rfl⟩
    · replace hM103 := bif_t hc104 hM103
      refine op_guarded rfl ((gw_yield hF rfl rfl rfl).trans (congrArg some hc104)) ?_
      obtain ⟨p105, h105, hM103⟩ := bind_ex hM103
      refine op_call rfl rfl hF rfl (run_call (vs := [.pointer (some ⟨g0, 0, none⟩), .int .i64 x2]) rfl rfl co34 ⟨((hF.ev rfl).trans (gv_t hc104)), ((hF.ev rfl).trans (gv_t hc104)), trivial⟩) (c_spec_l20Rd_pick (x0 := x0) (x1 := x1) (x2 := x2) ⟨h0.rc, rfl⟩ (show St w0 _ (Asn.box g0 67 #[.slice A0 x0.length c0, .int .i64 x1] :: X) from S.selT (M := [.box g0 67 #[.slice A0 x0.length c0, .int .i64 x1]]) 1 [0] rfl rfl rfl) h105) ?_
      rintro e u ⟨rfl, T⟩
      refine ⟨_, rfl, ?_⟩
      clear hF; intro a hF
      clear S; have S := T; clear T
      refine op_guarded rfl ((gw_yield hF rfl rfl rfl).trans (congrArg some hc104)) ?_
      refine op_val (v := .int .i64 x2) rfl rfl hF rfl (run_move rfl (hF.ev rfl)) ?_; clear hF; intro a hF
      refine op_guarded rfl ((gw_yield hF rfl rfl rfl).trans (congrArg some hc104)) ?_
      refine op_val (v := .int .i64 (w64 (x2 - 1))) rfl rfl hF rfl (run_sub (z := w64 (x2 - 1)) (hF.ev rfl) rfl rfl rfl) ?_; clear hF; intro a hF
      refine op_guarded rfl ((gw_yield hF rfl rfl rfl).trans (congrArg some hc104)) ?_
      refine op_val (v := .bool (p105.1 == (w64 (x2 - 1)))) rfl rfl hF rfl (run_eql (hF.ev rfl) (hF.ev rfl) rfl) ?_; clear hF; intro a hF
      refine op_val (v := .bool (p105.1 == (w64 (x2 - 1)))) rfl rfl hF rfl (run_pick_t rfl (hF.ev rfl) hc104 (hF.ev rfl)) ?_; clear hF; intro a hF
      refine op_val (v := .bool (p105.1 == (w64 (x2 - 1)))) rfl rfl hF rfl (run_assign rfl (hF.ev rfl)) ?_; clear hF; intro a hF
      refine wpList_nil ?_
      obtain rfl := Option.some.inj hM103
      exact ⟨(p105.1 == (w64 (x2 - 1)), p105.2), rfl, hF.keep _ ⟨rfl, trivial⟩, S.selT (M := [.box g0 67 #[.slice A0 x0.length c0, .int .i64 p105.2]]) 1 [0] rfl rfl rfl⟩
  · rintro a u ⟨p101, rfl, hF, S⟩
    refine wp_ret ?_
    repeat with_reducible (first | refine then_ret ?_ | refine in_ret ?_ | refine in_nrm ?_)
    refine ret1_gw (.inl rfl) hF rfl (res_tmp (hF.ev rfl)) ?_
    obtain rfl := Option.some.inj hM
    exact ⟨rfl, S.selT (M := [.box g0 67 #[.slice A0 x0.length c0, .int .i64 p101.2]]) 1 [0] rfl rfl rfl⟩

end Go.Proofs.YthpmmfbnclfbmaaDoor
