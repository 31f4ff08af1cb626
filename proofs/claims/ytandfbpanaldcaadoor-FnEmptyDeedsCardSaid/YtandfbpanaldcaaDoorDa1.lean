/- Calls return what the models say. -/
import Derived.Test.YtandfbpanaldcaaDoorDaT
namespace Go.Proofs.YtandfbpanaldcaaDoor
open Go.ChangeShapes Go.WideShapes Go.ChangeAt Go.RowKit
set_option linter.unusedVariables false
set_option linter.unusedSimpArgs false

theorem c_spec_l20Open {x0 : List Int} {A0 : Option Addr} {n0 c0 : Nat} {w : World} (h0 : Rt w 1 eU A0 n0 c0 x0) :
    Calls Tryd.prog 24 #[.slice A0 n0 c0] w (fun e w' => ∃ G0, e = .returned (.pointer (some ⟨G0, 0, none⟩)) ∧ St w w' [.box G0 58 #[.slice (opA c0 n0 A0) (x0.take 2000).length c0, .int .i64 0]]) := by
  obtain rfl := h0.len
  refine calls_gw Tryd.func24 Tryd.ntmps24 rfl [(0, .slice A0 x0.length c0)] ⟨rfl, trivial⟩ rfl ?_
  intro a hF
  have S := St.nil w
  refine wp_seq ?_
  refine wp_region_lit ?_
  refine op_val (v := .pointer none) rfl rfl hF rfl (run_assign rfl rfl) ?_; clear hF; intro a hF
  refine wpList_nil ?_
  refine wp_seq ?_
  refine wp_seq ?_
  refine wp_region_lit ?_
  refine op_val (v := .slice A0 x0.length c0) rfl rfl hF rfl (run_move rfl (hF.ev rfl)) ?_; clear hF; intro a hF
  refine op_val (v := .int .i64 (x0.length : Int)) rfl rfl hF rfl (run_lenL rfl rfl Tryd.underlying22 (hF.ev rfl)) ?_; clear hF; intro a hF
  refine op_val (v := .bool (ltB 2000 (x0.length : Int))) rfl rfl hF rfl (run_gtr (hF.ev rfl) rfl rfl) ?_; clear hF; intro a hF
  refine wpList_nil ?_
  cases hc101 : (ltB 2000 (x0.length : Int))
  · have hc101_ := hc101
    refine cond_f hF rfl hc101 ?_
    refine wp_skip ?_
    refine wp_seq ?_
    refine wp_region_lit ?_
    refine op_val (v := .slice A0 x0.length c0) rfl rfl hF rfl (run_move rfl (hF.ev rfl)) ?_; clear hF; intro a hF
    refine op_val (v := .agg #[.slice A0 x0.length c0, .int .i64 0]) rfl rfl hF rfl (run_build (vs := [(0, .slice A0 x0.length c0)]) rfl ⟨⟨rfl, (hF.ev rfl)⟩, trivial⟩ (bd58_0 rfl)) ?_; clear hF; intro a hF
    refine op_new (cs := #[.slice A0 x0.length c0, .int .i64 0]) rfl rfl hF rfl S (run_box rfl (hF.ev rfl) rfl) ?_; clear hF S; intro a g102 u hF S
    refine op_val (v := .pointer (some ⟨g102, 0, none⟩)) rfl rfl hF rfl (run_assign rfl (hF.ev rfl)) ?_; clear hF; intro a hF
    refine wpList_nil ?_
    refine wp_ret ?_
    repeat with_reducible (first | refine then_ret ?_ | refine in_ret ?_ | refine in_nrm ?_)
    refine ret1_gw (.inl rfl) hF rfl (res_tmp (hF.ev rfl)) ?_
    have q1 := ltB_f hc101
    rw [opA, if_neg (by omega), List.take_of_length_le (by omega)]
    exact ⟨g102, rfl, S.sel [0] rfl rfl⟩
  · have hc101_ := hc101
    refine cond_t hF rfl hc101 ?_
    refine wp_region_lit ?_
    refine op_val (v := .slice A0 x0.length c0) rfl rfl hF rfl (run_move rfl (hF.ev rfl)) ?_; clear hF; intro a hF
    have hk103 := slB_t (show slB 0 2000 x0.length = true by have := ltB_t hc101; simp [slB]; omega)
    refine op_val (v := .slice (subA c0 ((0 : Int).toNat) 1 A0) ((subL x0 0 2000).length) (c0 - (0 : Int).toNat)) rfl rfl hF rfl (run_sliceH (l := x0) rfl Tryd.underlying22 sz5 (hF.ev rfl) rfl hk103 rfl (S.rc0 h0.rc).cap) ?_; clear hF; intro a hF
    refine op_val (v := .slice (subA c0 ((0 : Int).toNat) 1 A0) ((subL x0 0 2000).length) (c0 - (0 : Int).toNat)) rfl rfl hF rfl (run_assign rfl (hF.ev rfl)) ?_; clear hF; intro a hF
    refine wpList_nil ?_
    refine wp_seq ?_
    refine wp_region_lit ?_
    refine op_val (v := .slice (subA c0 ((0 : Int).toNat) 1 A0) ((subL x0 0 2000).length) (c0 - (0 : Int).toNat)) rfl rfl hF rfl (run_move rfl (hF.ev rfl)) ?_; clear hF; intro a hF
    refine op_val (v := .agg #[.slice (subA c0 ((0 : Int).toNat) 1 A0) ((subL x0 0 2000).length) (c0 - (0 : Int).toNat), .int .i64 0]) rfl rfl hF rfl (run_build (vs := [(0, .slice (subA c0 ((0 : Int).toNat) 1 A0) ((subL x0 0 2000).length) (c0 - (0 : Int).toNat))]) rfl ⟨⟨rfl, (hF.ev rfl)⟩, trivial⟩ (bd58_0 rfl)) ?_; clear hF; intro a hF
    refine op_new (cs := #[.slice (subA c0 ((0 : Int).toNat) 1 A0) ((subL x0 0 2000).length) (c0 - (0 : Int).toNat), .int .i64 0]) rfl rfl hF rfl S (run_box rfl (hF.ev rfl) rfl) ?_; clear hF S; intro a g104 u hF S
    refine op_val (v := .pointer (some ⟨g104, 0, none⟩)) rfl rfl hF rfl (run_assign rfl (hF.ev rfl)) ?_; clear hF; intro a hF
    refine wpList_nil ?_
    refine wp_ret ?_
    repeat with_reducible (first | refine then_ret ?_ | refine in_ret ?_ | refine in_nrm ?_)
    refine ret1_gw (.inl rfl) hF rfl (res_tmp (hF.ev rfl)) ?_
    have q1 := ltB_t hc101
    rw [opA, if_pos (by omega), take_sub]
    exact ⟨g104, rfl, S.sel [0] rfl rfl⟩

set_option maxHeartbeats 4000000 in
theorem c_impl_Net_hasBus {x0 : Int} {x1 : List (Int × Int × Int)} {x2 : Int} {A1 : Option Addr} {n1 c1 : Nat} {w : World} {r : Bool} (h1 : Rt w 3 eLine A1 n1 c1 x1) (hM : m_impl_Net_hasBus x0 x1 x2 = some r) :
    Calls Tryd.prog 41 #[.agg #[.int .i64 x0, .slice A1 n1 c1], .int .i64 x2] w (fun e w' => e = .returned (.bool r) ∧ St w w' []) := by
  obtain rfl := h1.len
  unfold m_impl_Net_hasBus at hM
  refine calls_gw Tryd.func41 Tryd.ntmps41 rfl [(0, .agg #[.int .i64 x0, .slice A1 x1.length c1]), (1, .int .i64 x2)] ⟨rfl, rfl, trivial⟩ rfl ?_
  intro a hF
  have S := St.nil w
  refine wp_seq ?_
  refine wp_region_lit ?_
  refine op_new (cs := #[.int .i64 x0, .slice A1 x1.length c1]) rfl rfl hF rfl S (run_box rfl (hF.ev rfl) rfl) ?_; clear hF S; intro a g101 u hF S
  refine op_val (v := .bool false) rfl rfl hF rfl (run_assign rfl rfl) ?_; clear hF; intro a hF
  refine wpList_nil ?_
  refine wp_seq ?_
  refine wp_region_lit ?_
  refine op_val (v := .int .i64 x2) rfl rfl hF rfl (run_move rfl (hF.ev rfl)) ?_; clear hF; intro a hF
  refine op_val (v := .bool (leB 0 x2)) rfl rfl hF rfl (run_geq (hF.ev rfl) rfl rfl) ?_; clear hF; intro a hF
  refine op_val (v := .bool (leB 0 x2)) rfl rfl hF rfl (run_move rfl (hF.ev rfl)) ?_; clear hF; intro a hF
  refine op_gv (v := .int .i64 x2) rfl rfl hF rfl (yt (gw_yield hF rfl rfl rfl)) (fun hg => (run_move rfl (hF.ev rfl))) ?_; clear hF; intro a hF
  refine op_gv (v := .pointer (some ⟨g101, 0, none⟩)) rfl rfl hF rfl (yt (gw_yield hF rfl rfl rfl)) (fun hg => (run_fieldAddr rfl fl53_0 (hF.ev rfl) rfl)) ?_; clear hF; intro a hF
  refine op_gv (v := .int .i64 x0) rfl rfl hF rfl (yt (gw_yield hF rfl rfl rfl)) (fun hg => (run_load1 rfl one3 ((hF.ev rfl).trans (gv_t hg)) ((S.free 0 rfl).cell rfl))) ?_; clear hF; intro a hF
  refine op_gv (v := .bool (ltB x2 x0)) rfl rfl hF rfl (yt (gw_yield hF rfl rfl rfl)) (fun hg => (run_lss ((hF.ev rfl).trans (gv_t hg)) ((hF.ev rfl).trans (gv_t hg)) rfl)) ?_; clear hF; intro a hF
  refine op_val (v := .bool ((leB 0 x2) && (ltB x2 x0))) rfl rfl hF rfl (run_pick_and rfl (hF.ev rfl) (fun hp => ((hF.ev rfl).trans (gv_t hp))) rfl) ?_; clear hF; intro a hF
  refine op_val (v := .bool ((leB 0 x2) && (ltB x2 x0))) rfl rfl hF rfl (run_assign rfl (hF.ev rfl)) ?_; clear hF; intro a hF
  refine wpList_nil ?_
  refine wp_ret ?_
  repeat with_reducible (first | refine then_ret ?_ | refine in_ret ?_ | refine in_nrm ?_)
  refine ret1_gw (.inl rfl) hF rfl (res_tmp (hF.ev rfl)) ?_
  obtain rfl := Option.some.inj hM
  exact ⟨rfl, S.sel [] rfl rfl⟩

set_option maxHeartbeats 4000000 in
theorem c_impl_NetValid {x0 : Int} {x1 : List (Int × Int × Int)} {A1 : Option Addr} {n1 c1 : Nat} {w : World} {r : Bool} (h1 : Rt w 3 eLine A1 n1 c1 x1) (hM : m_impl_NetValid x0 x1 = some r) :
    Calls Tryd.prog 35 #[.agg #[.int .i64 x0, .slice A1 n1 c1]] w (fun e w' => e = .returned (.bool r) ∧ St w w' []) := by
  obtain rfl := h1.len
  unfold m_impl_NetValid at hM
  refine calls_gw Tryd.func35 Tryd.ntmps35 rfl [(0, .agg #[.int .i64 x0, .slice A1 x1.length c1])] ⟨rfl, trivial⟩ rfl ?_
  intro a hF
  have S := St.nil w
  refine wp_seq ?_
  refine wp_region_lit ?_
  refine op_new (cs := #[.int .i64 x0, .slice A1 x1.length c1]) rfl rfl hF rfl S (run_box rfl (hF.ev rfl) rfl) ?_; clear hF S; intro a g101 u hF S
  refine op_val (v := .bool false) rfl rfl hF rfl (run_assign rfl rfl) ?_; clear hF; intro a hF
  refine wpList_nil ?_
  refine wp_seq ?_
  refine wp_seq ?_
  refine wp_region_lit ?_
  refine op_val (v := .pointer (some ⟨g101, 0, none⟩)) rfl rfl hF rfl (run_fieldAddr rfl fl53_0 (hF.ev rfl) rfl) ?_; clear hF; intro a hF
  refine op_val (v := .int .i64 x0) rfl rfl hF rfl (run_load1 rfl one3 (hF.ev rfl) ((S.free 0 rfl).cell rfl)) ?_; clear hF; intro a hF
  refine op_val (v := .bool (ltB x0 1)) rfl rfl hF rfl (run_lss (hF.ev rfl) rfl rfl) ?_; clear hF; intro a hF
  refine op_val (v := .bool (ltB x0 1)) rfl rfl hF rfl (run_move rfl (hF.ev rfl)) ?_; clear hF; intro a hF
  refine op_gv (v := .pointer (some ⟨g101, 0, none⟩)) rfl rfl hF rfl (yf (gw_yield hF rfl rfl rfl)) (fun hg => (run_fieldAddr rfl fl53_0 (hF.ev rfl) rfl)) ?_; clear hF; intro a hF
  refine op_gv (v := .int .i64 x0) rfl rfl hF rfl (yf (gw_yield hF rfl rfl rfl)) (fun hg => (run_load1 rfl one3 ((hF.ev rfl).trans (gv_t hg)) ((S.free 0 rfl).cell rfl))) ?_; clear hF; intro a hF
  refine op_gv (v := .bool (ltB 8 x0)) rfl rfl hF rfl (yf (gw_yield hF rfl rfl rfl)) (fun hg => (run_gtr ((hF.ev rfl).trans (gv_t hg)) rfl rfl)) ?_; clear hF; intro a hF
  refine op_val (v := .bool ((ltB x0 1) || (ltB 8 x0))) rfl rfl hF rfl (run_pick_or rfl (hF.ev rfl) rfl (fun hp => ((hF.ev rfl).trans (gv_t (not_t hp))))) ?_; clear hF; intro a hF
  refine op_val (v := .bool ((ltB x0 1) || (ltB 8 x0))) rfl rfl hF rfl (run_move rfl (hF.ev rfl)) ?_; clear hF; intro a hF
  refine op_gv (v := .pointer (some ⟨g101, 1, none⟩)) rfl rfl hF rfl (yf (gw_yield hF rfl rfl rfl)) (fun hg => (run_fieldAddr rfl fl53_1 (hF.ev rfl) rfl)) ?_; clear hF; intro a hF
  refine op_gv (v := .slice A1 x1.length c1) rfl rfl hF rfl (yf (gw_yield hF rfl rfl rfl)) (fun hg => (run_load1 rfl one51 ((hF.ev rfl).trans (gv_t hg)) ((S.free 0 rfl).cell rfl))) ?_; clear hF; intro a hF
  refine op_gv (v := .int .i64 (x1.length : Int)) rfl rfl hF rfl (yf (gw_yield hF rfl rfl rfl)) (fun hg => (run_lenL rfl rfl Tryd.underlying51 ((hF.ev rfl).trans (gv_t hg)))) ?_; clear hF; intro a hF
  refine op_gv (v := .bool (ltB 10 (x1.length : Int))) rfl rfl hF rfl (yf (gw_yield hF rfl rfl rfl)) (fun hg => (run_gtr ((hF.ev rfl).trans (gv_t hg)) rfl rfl)) ?_; clear hF; intro a hF
  refine op_val (v := .bool (((ltB x0 1) || (ltB 8 x0)) || (ltB 10 (x1.length : Int)))) rfl rfl hF rfl (run_pick_or rfl (hF.ev rfl) rfl (fun hp => ((hF.ev rfl).trans (gv_t (not_t hp))))) ?_; clear hF; intro a hF
  refine wpList_nil ?_
  cases hc102 : (((ltB x0 1) || (ltB 8 x0)) || (ltB 10 (x1.length : Int)))
  · replace hM := bif_f hc102 hM
    refine cond_f hF rfl hc102 ?_
    refine wp_skip ?_
    refine wp_seq ?_
    refine wp_seq ?_
    refine wp_region_lit ?_
    refine op_val (v := .pointer (some ⟨g101, 1, none⟩)) rfl rfl hF rfl (run_fieldAddr rfl fl53_1 (hF.ev rfl) rfl) ?_; clear hF; intro a hF
    refine op_val (v := .slice A1 x1.length c1) rfl rfl hF rfl (run_load1 rfl one51 (hF.ev rfl) ((S.free 0 rfl).cell rfl)) ?_; clear hF; intro a hF
    refine op_val (v := .int .i64 (x1.length : Int)) rfl rfl hF rfl (run_lenL rfl rfl Tryd.underlying51 (hF.ev rfl)) ?_; clear hF; intro a hF
    refine op_val (v := .int .i64 0) rfl rfl hF rfl (run_move rfl rfl) ?_; clear hF; intro a hF
    refine wpList_nil ?_
    obtain ⟨o104, hM105, hM⟩ := bind_ex hM
    refine wp_cut (fun a u => ∃ (p103 : Unit), (Sum.inl p103) = o104 ∧ Fr a 56 [(2, .bool false)] ∧ St w u []) ?_ ?_
    · have _ := trivial
      refine wp_block ?_
      refine loop_gw (fun m a u => ∃ (p106 : Int), m_impl_NetValid_l1 x0 x1 m p106 = some _ ∧ Fr a 56 [(1, .pointer (some ⟨g101, 0, none⟩)), (2, .bool false), (20, .slice A1 x1.length c1), (21, .int .i64 (x1.length : Int)), (22, .int .i64 p106)] ∧ St w u [.box g101 53 #[.int .i64 x0, .slice A1 x1.length c1]]) FUEL ⟨0, hM105, hF.keep _ ⟨rfl, rfl, rfl, rfl, rfl, trivial⟩, S.sel [0] rfl rfl⟩ ?_
      clear hF S hM105; rintro m a u ⟨p106, hM105, hF, S⟩
      rcases m with _ | f1
      · exact none_some hM105
      rw [m_impl_NetValid_l1.eq_2] at hM105
      refine wp_seq ?_
      refine wp_region_lit ?_
      refine op_val (v := .bool (ltB p106 (x1.length : Int))) rfl rfl hF rfl (run_lss (hF.ev rfl) (hF.ev rfl) rfl) ?_; clear hF; intro a hF
      refine wpList_nil ?_
      refine wp_seq ?_
      cases hc107 : (ltB p106 (x1.length : Int))
      · replace hM105 := bif_f hc107 hM105
        refine cond_f hF rfl hc107 ?_
        refine wp_exit ?_
        repeat with_reducible (first | refine then_exit ?_ | refine in_hit ?_ | refine in_miss rfl ?_)
        obtain rfl := Option.some.inj hM105
        exact ⟨(), rfl, hF.keep _ ⟨rfl, trivial⟩, S.sel [] rfl rfl⟩
      · replace hM105 := bif_t hc107 hM105
        refine cond_t hF rfl hc107 ?_
        refine wp_skip ?_
        refine wp_seq ?_
        refine wp_block ?_
        refine wp_seq ?_
        refine wp_region_lit ?_
        obtain ⟨hk108, hM105⟩ := chk_ex hM105
        replace hk108 := ixB_t hk108
        refine op_val (v := .pointer (some ⟨adB A1, adO A1 + p106.toNat * 3, none⟩)) rfl rfl hF rfl (run_indexAddr (b := adB A1) (off := adO A1) rfl Tryd.underlying51 sz50 ((hF.ev rfl).trans (congrArg (fun A => Value.slice A x1.length c1) ((S.rc0 h1.rc).rd.ad (ix_pos hk108)))) (hF.ev rfl) hk108.1 hk108.2 (k' := adO A1 + p106.toNat * 3) rfl) ?_; clear hF; intro a hF
        refine op_val (v := .agg #[.int .i64 ((x1.getD p106.toNat ((0, 0, 0) : Int × Int × Int)).1), .int .i64 ((x1.getD p106.toNat ((0, 0, 0) : Int × Int × Int)).2.1), .int .i64 ((x1.getD p106.toNat ((0, 0, 0) : Int × Int × Int)).2.2)]) rfl rfl hF rfl (run_loadN (cs := #[.int .i64 ((x1.getD p106.toNat ((0, 0, 0) : Int × Int × Int)).1), .int .i64 ((x1.getD p106.toNat ((0, 0, 0) : Int × Int × Int)).2.1), .int .i64 ((x1.getD p106.toNat ((0, 0, 0) : Int × Int × Int)).2.2)]) rfl ag50 (hF.ev rfl) rfl (rd_elN (l := x1) (S.rc0 h1.rc).rd rfl eLine_len ((0, 0, 0) : Int × Int × Int) (ix_ltn hk108 rfl) rfl)) ?_; clear hF; intro a hF
        refine op_new (cs := #[.int .i64 0, .int .i64 0, .int .i64 0]) rfl rfl hF rfl S (run_allocZ rfl zr50) ?_; clear hF S; intro a g109 u hF S
        refine op_do rfl rfl (run_store (cs' := #[.int .i64 ((x1.getD p106.toNat ((0, 0, 0) : Int × Int × Int)).1), .int .i64 ((x1.getD p106.toNat ((0, 0, 0) : Int × Int × Int)).2.1), .int .i64 ((x1.getD p106.toNat ((0, 0, 0) : Int × Int × Int)).2.2)]) rfl sz50 (hF.ev rfl) (hF.ev rfl) rfl rfl rfl (S.free 0 rfl) rfl rfl) ?_; replace S := S.put 0 rfl (#[.int .i64 ((x1.getD p106.toNat ((0, 0, 0) : Int × Int × Int)).1), .int .i64 ((x1.getD p106.toNat ((0, 0, 0) : Int × Int × Int)).2.1), .int .i64 ((x1.getD p106.toNat ((0, 0, 0) : Int × Int × Int)).2.2)])
        generalize World.setRow _ _ _ = u at S ⊢
        refine wpList_nil ?_
        refine wp_seq ?_
        refine wp_region_lit ?_
        refine op_val (v := .agg #[.int .i64 x0, .slice A1 x1.length c1]) rfl rfl hF rfl (run_loadN rfl ag53 (hF.ev rfl) rfl ((S.free 1 rfl).cells 0 #[.int .i64 x0, .slice A1 x1.length c1] rfl)) ?_; clear hF; intro a hF
        refine op_val (v := .pointer (some ⟨g109, 0, none⟩)) rfl rfl hF rfl (run_fieldAddr rfl fl50_0 (hF.ev rfl) rfl) ?_; clear hF; intro a hF
        refine op_val (v := .int .i64 ((x1.getD p106.toNat ((0, 0, 0) : Int × Int × Int)).1)) rfl rfl hF rfl (run_load1 rfl one3 (hF.ev rfl) ((S.free 0 rfl).cell rfl)) ?_; clear hF; intro a hF
        obtain ⟨p110, h110, hM105⟩ := bind_ex hM105
        refine op_call rfl rfl hF rfl (run_call (vs := [.agg #[.int .i64 x0, .slice A1 x1.length c1], .int .i64 ((x1.getD p106.toNat ((0, 0, 0) : Int × Int × Int)).1)]) rfl rfl co41 ⟨(hF.ev rfl), (hF.ev rfl), trivial⟩) (c_impl_Net_hasBus (x0 := x0) (x1 := x1) (x2 := (x1.getD p106.toNat ((0, 0, 0) : Int × Int × Int)).1) ⟨(S.rc0 h1.rc), rfl⟩ h110) ?_
        rintro e u ⟨rfl, T⟩
        refine ⟨_, rfl, ?_⟩
        clear hF; intro a hF
        replace S := S.call0 T; clear T
        refine op_val (v := .bool (!p110)) rfl rfl hF rfl (run_not rfl (hF.ev rfl)) ?_; clear hF; intro a hF
        refine op_val (v := .bool (!p110)) rfl rfl hF rfl (run_move rfl (hF.ev rfl)) ?_; clear hF; intro a hF
        refine op_gv (v := .agg #[.int .i64 x0, .slice A1 x1.length c1]) rfl rfl hF rfl (yf (gw_yield hF rfl rfl rfl)) (fun hg => (run_loadN rfl ag53 (hF.ev rfl) rfl ((S.free 1 rfl).cells 0 #[.int .i64 x0, .slice A1 x1.length c1] rfl))) ?_; clear hF; intro a hF
        refine op_gv (v := .pointer (some ⟨g109, 1, none⟩)) rfl rfl hF rfl (yf (gw_yield hF rfl rfl rfl)) (fun hg => (run_fieldAddr rfl fl50_1 (hF.ev rfl) rfl)) ?_; clear hF; intro a hF
        refine op_gv (v := .int .i64 ((x1.getD p106.toNat ((0, 0, 0) : Int × Int × Int)).2.1)) rfl rfl hF rfl (yf (gw_yield hF rfl rfl rfl)) (fun hg => (run_load1 rfl one3 ((hF.ev rfl).trans (gv_t hg)) ((S.free 0 rfl).cell rfl))) ?_; clear hF; intro a hF
        obtain ⟨p111, h111, hM105⟩ := bind_ex hM105
        refine op_gcall (v := .bool p111) rfl rfl hF rfl S (yf (gw_yield hF rfl rfl rfl)) (fun hg => (run_call (vs := [.agg #[.int .i64 x0, .slice A1 x1.length c1], .int .i64 ((x1.getD p106.toNat ((0, 0, 0) : Int × Int × Int)).2.1)]) rfl rfl co41 ⟨((hF.ev rfl).trans (gv_t hg)), ((hF.ev rfl).trans (gv_t hg)), trivial⟩)) (fun hg => c_impl_Net_hasBus (x0 := x0) (x1 := x1) (x2 := (x1.getD p106.toNat ((0, 0, 0) : Int × Int × Int)).2.1) ⟨(S.rc0 h1.rc), rfl⟩ (gb_t h111 hg)) ?_; clear hF S; intro a u hF S
        refine op_gv (v := .bool (!p111)) rfl rfl hF rfl (yf (gw_yield hF rfl rfl rfl)) (fun hg => (run_not rfl ((hF.ev rfl).trans (gv_t hg)))) ?_; clear hF; intro a hF
        refine op_val (v := .bool ((!p110) || (!p111))) rfl rfl hF rfl (run_pick_or rfl (hF.ev rfl) rfl (fun hp => ((hF.ev rfl).trans (gv_t (not_t hp))))) ?_; clear hF; intro a hF
        refine op_val (v := .bool ((!p110) || (!p111))) rfl rfl hF rfl (run_move rfl (hF.ev rfl)) ?_; clear hF; intro a hF
        refine op_gv (v := .pointer (some ⟨g109, 0, none⟩)) rfl rfl hF rfl (yf (gw_yield hF rfl rfl rfl)) (fun hg => (run_fieldAddr rfl fl50_0 (hF.ev rfl) rfl)) ?_; clear hF; intro a hF
        refine op_gv (v := .int .i64 ((x1.getD p106.toNat ((0, 0, 0) : Int × Int × Int)).1)) rfl rfl hF rfl (yf (gw_yield hF rfl rfl rfl)) (fun hg => (run_load1 rfl one3 ((hF.ev rfl).trans (gv_t hg)) ((S.free 0 rfl).cell rfl))) ?_; clear hF; intro a hF
        refine op_gv (v := .pointer (some ⟨g109, 1, none⟩)) rfl rfl hF rfl (yf (gw_yield hF rfl rfl rfl)) (fun hg => (run_fieldAddr rfl fl50_1 (hF.ev rfl) rfl)) ?_; clear hF; intro a hF
        refine op_gv (v := .int .i64 ((x1.getD p106.toNat ((0, 0, 0) : Int × Int × Int)).2.1)) rfl rfl hF rfl (yf (gw_yield hF rfl rfl rfl)) (fun hg => (run_load1 rfl one3 ((hF.ev rfl).trans (gv_t hg)) ((S.free 0 rfl).cell rfl))) ?_; clear hF; intro a hF
        refine op_gv (v := .bool (((x1.getD p106.toNat ((0, 0, 0) : Int × Int × Int)).1) == ((x1.getD p106.toNat ((0, 0, 0) : Int × Int × Int)).2.1))) rfl rfl hF rfl (yf (gw_yield hF rfl rfl rfl)) (fun hg => (run_eql ((hF.ev rfl).trans (gv_t hg)) ((hF.ev rfl).trans (gv_t hg)) rfl)) ?_; clear hF; intro a hF
        refine op_val (v := .bool (((!p110) || (!p111)) || (((x1.getD p106.toNat ((0, 0, 0) : Int × Int × Int)).1) == ((x1.getD p106.toNat ((0, 0, 0) : Int × Int × Int)).2.1)))) rfl rfl hF rfl (run_pick_or rfl (hF.ev rfl) rfl (fun hp => ((hF.ev rfl).trans (gv_t (not_t hp))))) ?_; clear hF; intro a hF
        refine op_val (v := .bool (((!p110) || (!p111)) || (((x1.getD p106.toNat ((0, 0, 0) : Int × Int × Int)).1) == ((x1.getD p106.toNat ((0, 0, 0) : Int × Int × Int)).2.1)))) rfl rfl hF rfl (run_move rfl (hF.ev rfl)) ?_; clear hF; intro a hF
        refine op_gv (v := .pointer (some ⟨g109, 2, none⟩)) rfl rfl hF rfl (yf (gw_yield hF rfl rfl rfl)) (fun hg => (run_fieldAddr rfl fl50_2 (hF.ev rfl) rfl)) ?_; clear hF; intro a hF
        refine op_gv (v := .int .i64 ((x1.getD p106.toNat ((0, 0, 0) : Int × Int × Int)).2.2)) rfl rfl hF rfl (yf (gw_yield hF rfl rfl rfl)) (fun hg => (run_load1 rfl one3 ((hF.ev rfl).trans (gv_t hg)) ((S.free 0 rfl).cell rfl))) ?_; clear hF; intro a hF
        refine op_gv (v := .bool (ltB ((x1.getD p106.toNat ((0, 0, 0) : Int × Int × Int)).2.2) 1)) rfl rfl hF rfl (yf (gw_yield hF rfl rfl rfl)) (fun hg => (run_lss ((hF.ev rfl).trans (gv_t hg)) rfl rfl)) ?_; clear hF; intro a hF
        refine op_val (v := .bool ((((!p110) || (!p111)) || (((x1.getD p106.toNat ((0, 0, 0) : Int × Int × Int)).1) == ((x1.getD p106.toNat ((0, 0, 0) : Int × Int × Int)).2.1))) || (ltB ((x1.getD p106.toNat ((0, 0, 0) : Int × Int × Int)).2.2) 1))) rfl rfl hF rfl (run_pick_or rfl (hF.ev rfl) rfl (fun hp => ((hF.ev rfl).trans (gv_t (not_t hp))))) ?_; clear hF; intro a hF
        refine op_val (v := .bool ((((!p110) || (!p111)) || (((x1.getD p106.toNat ((0, 0, 0) : Int × Int × Int)).1) == ((x1.getD p106.toNat ((0, 0, 0) : Int × Int × Int)).2.1))) || (ltB ((x1.getD p106.toNat ((0, 0, 0) : Int × Int × Int)).2.2) 1))) rfl rfl hF rfl (run_move rfl (hF.ev rfl)) ?_; clear hF; intro a hF
        refine op_gv (v := .pointer (some ⟨g109, 2, none⟩)) rfl rfl hF rfl (yf (gw_yield hF rfl rfl rfl)) (fun hg => (run_fieldAddr rfl fl50_2 (hF.ev rfl) rfl)) ?_; clear hF; intro a hF
        refine op_gv (v := .int .i64 ((x1.getD p106.toNat ((0, 0, 0) : Int × Int × Int)).2.2)) rfl rfl hF rfl (yf (gw_yield hF rfl rfl rfl)) (fun hg => (run_load1 rfl one3 ((hF.ev rfl).trans (gv_t hg)) ((S.free 0 rfl).cell rfl))) ?_; clear hF; intro a hF
        refine op_gv (v := .bool (ltB 999 ((x1.getD p106.toNat ((0, 0, 0) : Int × Int × Int)).2.2))) rfl rfl hF rfl (yf (gw_yield hF rfl rfl rfl)) (fun hg => (run_gtr ((hF.ev rfl).trans (gv_t hg)) rfl rfl)) ?_; clear hF; intro a hF
        refine op_val (v := .bool (((((!p110) || (!p111)) || (((x1.getD p106.toNat ((0, 0, 0) : Int × Int × Int)).1) == ((x1.getD p106.toNat ((0, 0, 0) : Int × Int × Int)).2.1))) || (ltB ((x1.getD p106.toNat ((0, 0, 0) : Int × Int × Int)).2.2) 1)) || (ltB 999 ((x1.getD p106.toNat ((0, 0, 0) : Int × Int × Int)).2.2)))) rfl rfl hF rfl (run_pick_or rfl (hF.ev rfl) rfl (fun hp => ((hF.ev rfl).trans (gv_t (not_t hp))))) ?_; clear hF; intro a hF
        refine wpList_nil ?_
        cases hc112 : (((((!p110) || (!p111)) || (((x1.getD p106.toNat ((0, 0, 0) : Int × Int × Int)).1) == ((x1.getD p106.toNat ((0, 0, 0) : Int × Int × Int)).2.1))) || (ltB ((x1.getD p106.toNat ((0, 0, 0) : Int × Int × Int)).2.2) 1)) || (ltB 999 ((x1.getD p106.toNat ((0, 0, 0) : Int × Int × Int)).2.2)))
        · replace hM105 := bif_f hc112 hM105
          refine cond_f hF rfl hc112 ?_
          refine wp_skip ?_
          refine wp_region_lit ?_
          refine op_val (v := .int .i64 (w64 (p106 + 1))) rfl rfl hF rfl (run_add (z := w64 (p106 + 1)) (hF.ev rfl) rfl rfl rfl) ?_; clear hF; intro a hF
          refine op_val (v := .int .i64 (w64 (p106 + 1))) rfl rfl hF rfl (run_move rfl (hF.ev rfl)) ?_; clear hF; intro a hF
          refine wpList_nil ?_
          exact ⟨f1, Nat.lt_succ_self _, w64 (p106 + 1), hM105, hF.keep _ ⟨rfl, rfl, rfl, rfl, rfl, trivial⟩, S.sel [1] rfl rfl⟩
        · replace hM105 := bif_t hc112 hM105
          refine cond_t hF rfl hc112 ?_
          refine wp_seq ?_
          refine wp_region_lit ?_
          refine op_val (v := .bool false) rfl rfl hF rfl (run_assign rfl rfl) ?_; clear hF; intro a hF
          refine wpList_nil ?_
          refine wp_ret ?_
          repeat with_reducible (first | refine then_ret ?_ | refine in_ret ?_ | refine in_nrm ?_)
          refine ret1_gw (.inl rfl) hF rfl (res_tmp (hF.ev rfl)) ?_
          obtain rfl := Option.some.inj hM105
          obtain rfl := Option.some.inj hM
          exact ⟨rfl, S.sel [] rfl rfl⟩
    · rintro a u ⟨p103, rfl, hF, S⟩
      replace hM := elim_l hM
      refine wp_seq ?_
      refine wp_region_lit ?_
      refine op_val (v := .bool true) rfl rfl hF rfl (run_assign rfl rfl) ?_; clear hF; intro a hF
      refine wpList_nil ?_
      refine wp_ret ?_
      repeat with_reducible (first | refine then_ret ?_ | refine in_ret ?_ | refine in_nrm ?_)
      refine ret1_gw (.inl rfl) hF rfl (res_tmp (hF.ev rfl)) ?_
      obtain rfl := Option.some.inj hM
      exact ⟨rfl, S.sel [] rfl rfl⟩
  · replace hM := bif_t hc102 hM
    refine cond_t hF rfl hc102 ?_
    refine wp_seq ?_
    refine wp_region_lit ?_
    refine op_val (v := .bool false) rfl rfl hF rfl (run_assign rfl rfl) ?_; clear hF; intro a hF
    refine wpList_nil ?_
    refine wp_ret ?_
    repeat with_reducible (first | refine then_ret ?_ | refine in_ret ?_ | refine in_nrm ?_)
    refine ret1_gw (.inl rfl) hF rfl (res_tmp (hF.ev rfl)) ?_
    obtain rfl := Option.some.inj hM
    exact ⟨rfl, S.sel [] rfl rfl⟩

theorem c_impl_NetText_bad {x0 : Int} {x1 : List (Int × Int × Int)} {A1 : Option Addr} {n1 c1 : Nat} {w : World} (h1 : Rt w 3 eLine A1 n1 c1 x1) (hv : m_impl_NetValid x0 x1 = some false) :
    Calls Tryd.prog 30 #[.agg #[.int .i64 x0, .slice A1 n1 c1]] w (fun e w' => e = .returned (.string ({ data := #[] } : ByteArray)) ∧ St w w' []) := by
  obtain rfl := h1.len
  refine calls_gw Tryd.func30 Tryd.ntmps30 rfl [(0, .agg #[.int .i64 x0, .slice A1 x1.length c1])] ⟨rfl, trivial⟩ rfl ?_
  intro a hF
  have S := St.nil w
  refine wp_seq ?_
  refine wp_region_lit ?_
  refine op_new (cs := #[.int .i64 x0, .slice A1 x1.length c1]) rfl rfl hF rfl S (run_box rfl (hF.ev rfl) rfl) ?_; clear hF S; intro a g101 u hF S
  refine op_val (v := .string ({ data := #[] } : ByteArray)) rfl rfl hF rfl (run_assign rfl rfl) ?_; clear hF; intro a hF
  refine wpList_nil ?_
  refine wp_seq ?_
  refine wp_seq ?_
  refine wp_region_lit ?_
  refine op_val (v := .agg #[.int .i64 x0, .slice A1 x1.length c1]) rfl rfl hF rfl (run_loadN rfl ag53 (hF.ev rfl) rfl ((S.free 0 rfl).cells 0 #[.int .i64 x0, .slice A1 x1.length c1] rfl)) ?_; clear hF; intro a hF
  refine op_call rfl rfl hF rfl (run_call (vs := [.agg #[.int .i64 x0, .slice A1 x1.length c1]]) rfl rfl co35 ⟨(hF.ev rfl), trivial⟩) (c_impl_NetValid ⟨(S.rc0 h1.rc), rfl⟩ hv) ?_
  rintro e u ⟨rfl, T⟩
  refine ⟨_, rfl, ?_⟩
  clear hF; intro a hF
  replace S := S.call0 T; clear T
  refine op_val (v := .bool (!false)) rfl rfl hF rfl (run_not rfl (hF.ev rfl)) ?_; clear hF; intro a hF
  refine wpList_nil ?_
  refine cond_t hF rfl (not_t rfl) ?_
  refine wp_seq ?_
  refine wp_region_lit ?_
  refine op_val (v := .string ({ data := #[] } : ByteArray)) rfl rfl hF rfl (run_assign rfl rfl) ?_; clear hF; intro a hF
  refine wpList_nil ?_
  refine wp_ret ?_
  repeat with_reducible (first | refine then_ret ?_ | refine in_ret ?_ | refine in_nrm ?_)
  refine ret1_gw (.inl rfl) hF rfl (res_tmp (hF.ev rfl)) ?_
  exact ⟨rfl, S.sel [] rfl rfl⟩

set_option maxHeartbeats 4000000 in
theorem c_spec_l20Rd_pick {x0 : List Int} {x1 : Int} {x2 : Int} {A0 : Option Addr} {n0 c0 : Nat} {g0 : Nat} {w : World} {r : Int × Int} {w0 : World} {X : List Asn} (h0 : Rt w0 1 eU A0 n0 c0 x0) (S : St w0 w (Asn.box g0 58 #[.slice A0 n0 c0, .int .i64 x1] :: X)) (hM : m_spec_l20Rd_pick x0 x1 x2 = some r) :
    Calls Tryd.prog 26 #[.pointer (some ⟨g0, 0, none⟩), .int .i64 x2] w (fun e w' => e = .returned (.int .i64 r.1) ∧ St w0 w' (Asn.box g0 58 #[.slice A0 n0 c0, .int .i64 r.2] :: X)) := by
  obtain rfl := h0.len
  unfold m_spec_l20Rd_pick at hM
  refine calls_gw Tryd.func26 Tryd.ntmps26 rfl [(0, .pointer (some ⟨g0, 0, none⟩)), (1, .int .i64 x2)] ⟨rfl, rfl, trivial⟩ rfl ?_
  intro a hF
  refine wp_seq ?_
  refine wp_region_lit ?_
  refine op_val (v := .int .i64 0) rfl rfl hF rfl (run_assign rfl rfl) ?_; clear hF; intro a hF
  refine wpList_nil ?_
  refine wp_seq ?_
  refine wp_region_lit ?_
  refine op_val (v := .pointer (some ⟨g0, 0, none⟩)) rfl rfl hF rfl (run_move rfl (hF.ev rfl)) ?_; clear hF; intro a hF
  refine op_val (v := .pointer (some ⟨g0, 0, none⟩)) rfl rfl hF rfl (run_move rfl (hF.ev rfl)) ?_; clear hF; intro a hF
  refine op_val (v := .pointer (some ⟨g0, 0, none⟩)) rfl rfl hF rfl (run_nilCheck rfl (hF.ev rfl)) ?_; clear hF; intro a hF
  refine op_val (v := .pointer (some ⟨g0, 1, none⟩)) rfl rfl hF rfl (run_fieldAddr rfl fl58_1 (hF.ev rfl) rfl) ?_; clear hF; intro a hF
  refine op_val (v := .int .i64 x1) rfl rfl hF rfl (run_load1 rfl one3 (hF.ev rfl) ((S.free 0 rfl).cell rfl)) ?_; clear hF; intro a hF
  refine op_val (v := .int .i64 (w64 (x1 + 1))) rfl rfl hF rfl (run_add (z := w64 (x1 + 1)) (hF.ev rfl) rfl rfl rfl) ?_; clear hF; intro a hF
  refine op_val (v := .pointer (some ⟨g0, 0, none⟩)) rfl rfl hF rfl (run_nilCheck rfl (hF.ev rfl)) ?_; clear hF; intro a hF
  refine op_val (v := .pointer (some ⟨g0, 1, none⟩)) rfl rfl hF rfl (run_fieldAddr rfl fl58_1 (hF.ev rfl) rfl) ?_; clear hF; intro a hF
  refine op_do rfl rfl (run_store (cs' := #[.slice A0 x0.length c0, .int .i64 (w64 (x1 + 1))]) rfl sz3 (hF.ev rfl) (hF.ev rfl) rfl rfl rfl (S.free 0 rfl) rfl rfl) ?_; replace S := S.put 0 rfl (#[.slice A0 x0.length c0, .int .i64 (w64 (x1 + 1))])
  generalize World.setRow _ _ _ = u at S ⊢
  refine wpList_nil ?_
  refine wp_seq ?_
  refine wp_seq ?_
  refine wp_region_lit ?_
  refine op_val (v := .int .i64 x2) rfl rfl hF rfl (run_move rfl (hF.ev rfl)) ?_; clear hF; intro a hF
  refine op_val (v := .bool (ltB x2 1)) rfl rfl hF rfl (run_lss (hF.ev rfl) rfl rfl) ?_; clear hF; intro a hF
  refine op_val (v := .bool (ltB x2 1)) rfl rfl hF rfl (run_move rfl (hF.ev rfl)) ?_; clear hF; intro a hF
  refine op_gv (v := .pointer (some ⟨g0, 0, none⟩)) rfl rfl hF rfl (yf (gw_yield hF rfl rfl rfl)) (fun hg => (run_move rfl (hF.ev rfl))) ?_; clear hF; intro a hF
  refine op_gv (v := .pointer (some ⟨g0, 0, none⟩)) rfl rfl hF rfl (yf (gw_yield hF rfl rfl rfl)) (fun hg => (run_nilCheck rfl ((hF.ev rfl).trans (gv_t hg)))) ?_; clear hF; intro a hF
  refine op_gv (v := .pointer (some ⟨g0, 0, none⟩)) rfl rfl hF rfl (yf (gw_yield hF rfl rfl rfl)) (fun hg => (run_fieldAddr rfl fl58_0 ((hF.ev rfl).trans (gv_t hg)) rfl)) ?_; clear hF; intro a hF
  refine op_gv (v := .slice A0 x0.length c0) rfl rfl hF rfl (yf (gw_yield hF rfl rfl rfl)) (fun hg => (run_load1 rfl one22 ((hF.ev rfl).trans (gv_t hg)) ((S.free 0 rfl).cell rfl))) ?_; clear hF; intro a hF
  refine op_gv (v := .int .i64 (x0.length : Int)) rfl rfl hF rfl (yf (gw_yield hF rfl rfl rfl)) (fun hg => (run_lenL rfl rfl Tryd.underlying22 ((hF.ev rfl).trans (gv_t hg)))) ?_; clear hF; intro a hF
  refine op_gv (v := .bool ((x0.length : Int) == 0)) rfl rfl hF rfl (yf (gw_yield hF rfl rfl rfl)) (fun hg => (run_eql ((hF.ev rfl).trans (gv_t hg)) rfl rfl)) ?_; clear hF; intro a hF
  refine op_val (v := .bool ((ltB x2 1) || ((x0.length : Int) == 0))) rfl rfl hF rfl (run_pick_or rfl (hF.ev rfl) rfl (fun hp => ((hF.ev rfl).trans (gv_t (not_t hp))))) ?_; clear hF; intro a hF
  refine wpList_nil ?_
  cases hc101 : ((ltB x2 1) || ((x0.length : Int) == 0))
  · replace hM := bif_f hc101 hM
    refine cond_f hF rfl hc101 ?_
    refine wp_skip ?_
    refine wp_seq ?_
    refine wp_region_lit ?_
    refine op_val (v := .pointer (some ⟨g0, 0, none⟩)) rfl rfl hF rfl (run_move rfl (hF.ev rfl)) ?_; clear hF; intro a hF
    refine op_val (v := .pointer (some ⟨g0, 0, none⟩)) rfl rfl hF rfl (run_nilCheck rfl (hF.ev rfl)) ?_; clear hF; intro a hF
    refine op_val (v := .pointer (some ⟨g0, 1, none⟩)) rfl rfl hF rfl (run_fieldAddr rfl fl58_1 (hF.ev rfl) rfl) ?_; clear hF; intro a hF
    refine op_val (v := .int .i64 (w64 (x1 + 1))) rfl rfl hF rfl (run_load1 rfl one3 (hF.ev rfl) ((S.free 0 rfl).cell rfl)) ?_; clear hF; intro a hF
    refine op_val (v := .int .i64 (w64 ((w64 (x1 + 1)) - 1))) rfl rfl hF rfl (run_sub (z := w64 ((w64 (x1 + 1)) - 1)) (hF.ev rfl) rfl rfl rfl) ?_; clear hF; intro a hF
    refine op_val (v := .int .i64 (w64 ((w64 (x1 + 1)) - 1))) rfl rfl hF rfl (run_assign rfl (hF.ev rfl)) ?_; clear hF; intro a hF
    refine wpList_nil ?_
    refine wp_seq ?_
    refine wp_seq ?_
    refine wp_region_lit ?_
    refine op_val (v := .int .i64 (w64 ((w64 (x1 + 1)) - 1))) rfl rfl hF rfl (run_move rfl (hF.ev rfl)) ?_; clear hF; intro a hF
    refine op_val (v := .pointer (some ⟨g0, 0, none⟩)) rfl rfl hF rfl (run_move rfl (hF.ev rfl)) ?_; clear hF; intro a hF
    refine op_val (v := .pointer (some ⟨g0, 0, none⟩)) rfl rfl hF rfl (run_nilCheck rfl (hF.ev rfl)) ?_; clear hF; intro a hF
    refine op_val (v := .pointer (some ⟨g0, 0, none⟩)) rfl rfl hF rfl (run_fieldAddr rfl fl58_0 (hF.ev rfl) rfl) ?_; clear hF; intro a hF
    refine op_val (v := .slice A0 x0.length c0) rfl rfl hF rfl (run_load1 rfl one22 (hF.ev rfl) ((S.free 0 rfl).cell rfl)) ?_; clear hF; intro a hF
    refine op_val (v := .int .i64 (x0.length : Int)) rfl rfl hF rfl (run_lenL rfl rfl Tryd.underlying22 (hF.ev rfl)) ?_; clear hF; intro a hF
    refine op_val (v := .bool (ltB (w64 ((w64 (x1 + 1)) - 1)) (x0.length : Int))) rfl rfl hF rfl (run_lss (hF.ev rfl) (hF.ev rfl) rfl) ?_; clear hF; intro a hF
    refine wpList_nil ?_
    cases hc102 : (ltB (w64 ((w64 (x1 + 1)) - 1)) (x0.length : Int))
    · replace hM := bif_f hc102 hM
      refine cond_f hF rfl hc102 ?_
      refine wp_skip ?_
      refine wp_seq ?_
      obtain ⟨hk103, hM⟩ := chk_ex hM
      replace hk103 := nzB_t hk103
      obtain ⟨hk104, hM⟩ := chk_ex hM
      replace hk104 := ixB_t hk104
      obtain ⟨hk105, hM⟩ := chk_ex hM
      replace hk105 := nzB_t hk105
      obtain ⟨hk106, hM⟩ := chk_ex hM
      replace hk106 := ixB_t hk106
      obtain ⟨hk107, hM⟩ := chk_ex hM
      replace hk107 := nzB_t hk107
      refine region_gw (D := [47, 48, 49, 50, 51, 52, 53, 54, 55, 56, 57, 58, 59, 60, 61, 62, 63, 64, 65, 66, 67, 68, 69, 70, 71, 72, 73, 74, 75, 76, 77, 78, 79, 80, 81, 82, 83, 84, 85, 86, 87, 88, 89, 90, 91, 6]) (Lr := (Asn.box g0 58 #[.slice A0 x0.length c0, .int .i64 (w64 (x1 + 1))] :: X)) (deps := (fun | 0 => [47] | 1 => [48] | 2 => [49] | 3 => [50] | 4 => [51] | 5 => [52] | 6 => [53] | 7 => [54] | 8 => [55] | 9 => [56] | 10 => [57] | 11 => [58] | 12 => [59] | 13 => [60] | 14 => [61] | 15 => [62] | 16 => [63] | 17 => [64] | 18 => [65] | 19 => [66] | 20 => [67] | 21 => [68] | 22 => [69] | 23 => [70] | 24 => [71] | 25 => [72] | 26 => [73] | 27 => [74] | 28 => [75] | 29 => [76] | 30 => [77] | 31 => [78] | 32 => [79] | 33 => [80] | 34 => [81] | 35 => [82] | 36 => [83] | 37 => [84] | 38 => [85] | 39 => [86] | 40 => [87] | 41 => [88] | 42 => [89] | 43 => [90] | 44 => [91] | 45 => [6] | _ => [])) (rd := (fun _ => [])) (zr := (fun _ => []))
        (φ := fun i vs => match i, vs with | 0, [v47] => v47 = .pointer (some ⟨g0, 0, none⟩) | 1, [v48] => v48 = .pointer (some ⟨g0, 0, none⟩) | 2, [v49] => v49 = .pointer (some ⟨g0, 0, none⟩) | 3, [v50] => v50 = .slice A0 x0.length c0 | 4, [v51] => v51 = .int .i64 (w64 ((w64 (x1 + 1)) - 1)) | 5, [v52] => v52 = .pointer (some ⟨g0, 0, none⟩) | 6, [v53] => v53 = .pointer (some ⟨g0, 0, none⟩) | 7, [v54] => v54 = .pointer (some ⟨g0, 0, none⟩) | 8, [v55] => v55 = .slice A0 x0.length c0 | 9, [v56] => v56 = .int .i64 (x0.length : Int) | 10, [v57] => v57 = .int .i64 (Int.tmod (w64 ((w64 (x1 + 1)) - 1)) (x0.length : Int)) | 11, [v58] => v58 = .pointer (some ⟨adB A0, adO A0 + ((Int.tmod (w64 ((w64 (x1 + 1)) - 1)) (x0.length : Int)).toNat) * 1, none⟩) | 12, [v59] => v59 = .int .u8 (x0.getD ((Int.tmod (w64 ((w64 (x1 + 1)) - 1)) (x0.length : Int)).toNat) (0 : Int)) | 13, [v60] => v60 = .int .i64 (w64 ((x0.getD ((Int.tmod (w64 ((w64 (x1 + 1)) - 1)) (x0.length : Int)).toNat) (0 : Int)))) | 14, [v61] => v61 = .int .i64 (w64 ((w64 ((x0.getD ((Int.tmod (w64 ((w64 (x1 + 1)) - 1)) (x0.length : Int)).toNat) (0 : Int)))) * 131)) | 15, [v62] => v62 = .pointer (some ⟨g0, 0, none⟩) | 16, [v63] => v63 = .pointer (some ⟨g0, 0, none⟩) | 17, [v64] => v64 = .pointer (some ⟨g0, 0, none⟩) | 18, [v65] => v65 = .slice A0 x0.length c0 | 19, [v66] => v66 = .int .i64 (w64 ((w64 (x1 + 1)) - 1)) | 20, [v67] => v67 = .int .i64 (w64 ((w64 ((w64 (x1 + 1)) - 1)) * 7)) | 21, [v68] => v68 = .int .i64 (w64 ((w64 ((w64 ((w64 (x1 + 1)) - 1)) * 7)) + 3)) | 22, [v69] => v69 = .pointer (some ⟨g0, 0, none⟩) | 23, [v70] => v70 = .pointer (some ⟨g0, 0, none⟩) | 24, [v71] => v71 = .pointer (some ⟨g0, 0, none⟩) | 25, [v72] => v72 = .slice A0 x0.length c0 | 26, [v73] => v73 = .int .i64 (x0.length : Int) | 27, [v74] => v74 = .int .i64 (Int.tmod (w64 ((w64 ((w64 ((w64 (x1 + 1)) - 1)) * 7)) + 3)) (x0.length : Int)) | 28, [v75] => v75 = .pointer (some ⟨adB A0, adO A0 + ((Int.tmod (w64 ((w64 ((w64 ((w64 (x1 + 1)) - 1)) * 7)) + 3)) (x0.length : Int)).toNat) * 1, none⟩) | 29, [v76] => v76 = .int .u8 (x0.getD ((Int.tmod (w64 ((w64 ((w64 ((w64 (x1 + 1)) - 1)) * 7)) + 3)) (x0.length : Int)).toNat) (0 : Int)) | 30, [v77] => v77 = .int .i64 (w64 ((x0.getD ((Int.tmod (w64 ((w64 ((w64 ((w64 (x1 + 1)) - 1)) * 7)) + 3)) (x0.length : Int)).toNat) (0 : Int)))) | 31, [v78] => v78 = .int .i64 (w64 ((w64 ((x0.getD ((Int.tmod (w64 ((w64 ((w64 ((w64 (x1 + 1)) - 1)) * 7)) + 3)) (x0.length : Int)).toNat) (0 : Int)))) * 1117)) | 32, [v79] => v79 = .int .i64 (w64 ((w64 ((w64 ((x0.getD ((Int.tmod (w64 ((w64 (x1 + 1)) - 1)) (x0.length : Int)).toNat) (0 : Int)))) * 131)) + (w64 ((w64 ((x0.getD ((Int.tmod (w64 ((w64 ((w64 ((w64 (x1 + 1)) - 1)) * 7)) + 3)) (x0.length : Int)).toNat) (0 : Int)))) * 1117)))) | 33, [v80] => v80 = .int .i64 (w64 ((w64 (x1 + 1)) - 1)) | 34, [v81] => v81 = .int .i64 (w64 ((w64 ((w64 (x1 + 1)) - 1)) * 29)) | 35, [v82] => v82 = .int .i64 (w64 ((w64 ((w64 ((w64 ((x0.getD ((Int.tmod (w64 ((w64 (x1 + 1)) - 1)) (x0.length : Int)).toNat) (0 : Int)))) * 131)) + (w64 ((w64 ((x0.getD ((Int.tmod (w64 ((w64 ((w64 ((w64 (x1 + 1)) - 1)) * 7)) + 3)) (x0.length : Int)).toNat) (0 : Int)))) * 1117)))) + (w64 ((w64 ((w64 (x1 + 1)) - 1)) * 29)))) | 36, [v83] => v83 = .int .i64 (w64 ((w64 (x1 + 1)) - 1)) | 37, [v84] => v84 = .pointer (some ⟨g0, 0, none⟩) | 38, [v85] => v85 = .pointer (some ⟨g0, 0, none⟩) | 39, [v86] => v86 = .pointer (some ⟨g0, 0, none⟩) | 40, [v87] => v87 = .slice A0 x0.length c0 | 41, [v88] => v88 = .int .i64 (x0.length : Int) | 42, [v89] => v89 = .int .i64 (w64 (Int.tdiv (w64 ((w64 (x1 + 1)) - 1)) (x0.length : Int))) | 43, [v90] => v90 = .int .i64 (w64 ((w64 (Int.tdiv (w64 ((w64 (x1 + 1)) - 1)) (x0.length : Int))) * 53)) | 44, [v91] => v91 = .int .i64 (w64 ((w64 ((w64 ((w64 ((w64 ((x0.getD ((Int.tmod (w64 ((w64 (x1 + 1)) - 1)) (x0.length : Int)).toNat) (0 : Int)))) * 131)) + (w64 ((w64 ((x0.getD ((Int.tmod (w64 ((w64 ((w64 ((w64 (x1 + 1)) - 1)) * 7)) + 3)) (x0.length : Int)).toNat) (0 : Int)))) * 1117)))) + (w64 ((w64 ((w64 (x1 + 1)) - 1)) * 29)))) + (w64 ((w64 (Int.tdiv (w64 ((w64 (x1 + 1)) - 1)) (x0.length : Int))) * 53)))) | 45, [v6] => v6 = .int .i64 (w64 ((w64 ((w64 ((w64 ((w64 ((x0.getD ((Int.tmod (w64 ((w64 (x1 + 1)) - 1)) (x0.length : Int)).toNat) (0 : Int)))) * 131)) + (w64 ((w64 ((x0.getD ((Int.tmod (w64 ((w64 ((w64 ((w64 (x1 + 1)) - 1)) * 7)) + 3)) (x0.length : Int)).toNat) (0 : Int)))) * 1117)))) + (w64 ((w64 ((w64 (x1 + 1)) - 1)) * 29)))) + (w64 ((w64 (Int.tdiv (w64 ((w64 (x1 + 1)) - 1)) (x0.length : Int))) * 53)))) | _, _ => True)
        (C := fun _ _ => [])
        (κ := (fun _ => none)) (Z := (fun _ => [])) mixed hF (by kernel_rfl) S ?_ ?_
      · refine ⟨?_, ?_, ?_, ?_, ?_, ?_, ?_, ?_, ?_, ?_, ?_, ?_, ?_, ?_, ?_, ?_, ?_, ?_, ?_, ?_, ?_, ?_, ?_, ?_, ?_, ?_, ?_, ?_, ?_, ?_, ?_, ?_, ?_, ?_, ?_, ?_, ?_, ?_, ?_, ?_, ?_, ?_, ?_, ?_, ?_, ?_, trivial⟩
        · intro a u X' hB hu hp hr hz hl S
          replace S : St w0 u ([] ++ X') := S
          exact .inl ⟨rfl, .pointer (some ⟨g0, 0, none⟩), u, (run_move rfl (hF.evB hB rfl rfl)), rfl, S⟩
        · intro a u X' hB hu hp hr hz hl S
          replace S : St w0 u ([] ++ X') := S
          have e47 : sl a 47 = .pointer (some ⟨g0, 0, none⟩) := hp 0 rfl
          exact .inl ⟨rfl, .pointer (some ⟨g0, 0, none⟩), u, (run_nilCheck rfl (ev_sl e47)), rfl, S⟩
        · intro a u X' hB hu hp hr hz hl S
          replace S : St w0 u ([] ++ X') := S
          have e48 : sl a 48 = .pointer (some ⟨g0, 0, none⟩) := hp 1 rfl
          exact .inl ⟨rfl, .pointer (some ⟨g0, 0, none⟩), u, (run_fieldAddr rfl fl58_0 (ev_sl e48) rfl), rfl, S⟩
        · intro a u X' hB hu hp hr hz hl S
          replace S : St w0 u ([] ++ X') := S
          have e49 : sl a 49 = .pointer (some ⟨g0, 0, none⟩) := hp 2 rfl
          exact .inl ⟨rfl, .slice A0 x0.length c0, u, (run_load1 rfl one22 (ev_sl e49) ((gr_box S hl 0 rfl).cell rfl)), rfl, S⟩
        · intro a u X' hB hu hp hr hz hl S
          replace S : St w0 u ([] ++ X') := S
          exact .inl ⟨rfl, .int .i64 (w64 ((w64 (x1 + 1)) - 1)), u, (run_move rfl (hF.evB hB rfl rfl)), rfl, S⟩
        · intro a u X' hB hu hp hr hz hl S
          replace S : St w0 u ([] ++ X') := S
          exact .inl ⟨rfl, .pointer (some ⟨g0, 0, none⟩), u, (run_move rfl (hF.evB hB rfl rfl)), rfl, S⟩
        · intro a u X' hB hu hp hr hz hl S
          replace S : St w0 u ([] ++ X') := S
          have e52 : sl a 52 = .pointer (some ⟨g0, 0, none⟩) := hp 5 rfl
          exact .inl ⟨rfl, .pointer (some ⟨g0, 0, none⟩), u, (run_nilCheck rfl (ev_sl e52)), rfl, S⟩
        · intro a u X' hB hu hp hr hz hl S
          replace S : St w0 u ([] ++ X') := S
          have e53 : sl a 53 = .pointer (some ⟨g0, 0, none⟩) := hp 6 rfl
          exact .inl ⟨rfl, .pointer (some ⟨g0, 0, none⟩), u, (run_fieldAddr rfl fl58_0 (ev_sl e53) rfl), rfl, S⟩
        · intro a u X' hB hu hp hr hz hl S
          replace S : St w0 u ([] ++ X') := S
          have e54 : sl a 54 = .pointer (some ⟨g0, 0, none⟩) := hp 7 rfl
          exact .inl ⟨rfl, .slice A0 x0.length c0, u, (run_load1 rfl one22 (ev_sl e54) ((gr_box S hl 0 rfl).cell rfl)), rfl, S⟩
        · intro a u X' hB hu hp hr hz hl S
          replace S : St w0 u ([] ++ X') := S
          have e55 : sl a 55 = .slice A0 x0.length c0 := hp 8 rfl
          exact .inl ⟨rfl, .int .i64 (x0.length : Int), u, (run_lenL rfl rfl Tryd.underlying22 (ev_sl e55)), rfl, S⟩
        · intro a u X' hB hu hp hr hz hl S
          replace S : St w0 u ([] ++ X') := S
          have e51 : sl a 51 = .int .i64 (w64 ((w64 (x1 + 1)) - 1)) := hp 4 rfl
          have e56 : sl a 56 = .int .i64 (x0.length : Int) := hp 9 rfl
          exact .inl ⟨rfl, .int .i64 (Int.tmod (w64 ((w64 (x1 + 1)) - 1)) (x0.length : Int)), u, (run_rem (z := Int.tmod (w64 ((w64 (x1 + 1)) - 1)) (x0.length : Int)) (ev_sl e51) (ev_sl e56) rfl hk103 rfl), rfl, S⟩
        · intro a u X' hB hu hp hr hz hl S
          replace S : St w0 u ([] ++ X') := S
          have e50 : sl a 50 = .slice A0 x0.length c0 := hp 3 rfl
          have e57 : sl a 57 = .int .i64 (Int.tmod (w64 ((w64 (x1 + 1)) - 1)) (x0.length : Int)) := hp 10 rfl
          exact .inl ⟨rfl, .pointer (some ⟨adB A0, adO A0 + ((Int.tmod (w64 ((w64 (x1 + 1)) - 1)) (x0.length : Int)).toNat) * 1, none⟩), u, (run_indexAddr (b := adB A0) (off := adO A0) rfl Tryd.underlying22 sz5 ((ev_sl e50).trans (congrArg (fun A => Value.slice A x0.length c0) ((S.rc0 h0.rc).rd.ad (ix_pos hk104)))) (ev_sl e57) hk104.1 hk104.2 (k' := adO A0 + ((Int.tmod (w64 ((w64 (x1 + 1)) - 1)) (x0.length : Int)).toNat) * 1) rfl), rfl, S⟩
        · intro a u X' hB hu hp hr hz hl S
          replace S : St w0 u ([] ++ X') := S
          have e58 : sl a 58 = .pointer (some ⟨adB A0, adO A0 + ((Int.tmod (w64 ((w64 (x1 + 1)) - 1)) (x0.length : Int)).toNat) * 1, none⟩) := hp 11 rfl
          exact .inl ⟨rfl, .int .u8 (x0.getD ((Int.tmod (w64 ((w64 (x1 + 1)) - 1)) (x0.length : Int)).toNat) (0 : Int)), u, (run_load1 rfl one5 (ev_sl e58) (rd_el0 (l := x0) (S.rc0 h0.rc).rd rfl eU_len (0 : Int) (ix_ltn hk104 rfl) rfl)), rfl, S⟩
        · intro a u X' hB hu hp hr hz hl S
          replace S : St w0 u ([] ++ X') := S
          have e59 : sl a 59 = .int .u8 (x0.getD ((Int.tmod (w64 ((w64 (x1 + 1)) - 1)) (x0.length : Int)).toNat) (0 : Int)) := hp 12 rfl
          exact .inl ⟨rfl, .int .i64 (w64 ((x0.getD ((Int.tmod (w64 ((w64 (x1 + 1)) - 1)) (x0.length : Int)).toNat) (0 : Int)))), u, (run_convI rfl Tryd.underlying5 Tryd.underlying3 (ev_sl e59)), rfl, S⟩
        · intro a u X' hB hu hp hr hz hl S
          replace S : St w0 u ([] ++ X') := S
          have e60 : sl a 60 = .int .i64 (w64 ((x0.getD ((Int.tmod (w64 ((w64 (x1 + 1)) - 1)) (x0.length : Int)).toNat) (0 : Int)))) := hp 13 rfl
          exact .inl ⟨rfl, .int .i64 (w64 ((w64 ((x0.getD ((Int.tmod (w64 ((w64 (x1 + 1)) - 1)) (x0.length : Int)).toNat) (0 : Int)))) * 131)), u, (run_mul (z := w64 ((w64 ((x0.getD ((Int.tmod (w64 ((w64 (x1 + 1)) - 1)) (x0.length : Int)).toNat) (0 : Int)))) * 131)) (ev_sl e60) (ev_const _ _) rfl rfl), rfl, S⟩
        · intro a u X' hB hu hp hr hz hl S
          replace S : St w0 u ([] ++ X') := S
          exact .inl ⟨rfl, .pointer (some ⟨g0, 0, none⟩), u, (run_move rfl (hF.evB hB rfl rfl)), rfl, S⟩
        · intro a u X' hB hu hp hr hz hl S
          replace S : St w0 u ([] ++ X') := S
          have e62 : sl a 62 = .pointer (some ⟨g0, 0, none⟩) := hp 15 rfl
          exact .inl ⟨rfl, .pointer (some ⟨g0, 0, none⟩), u, (run_nilCheck rfl (ev_sl e62)), rfl, S⟩
        · intro a u X' hB hu hp hr hz hl S
          replace S : St w0 u ([] ++ X') := S
          have e63 : sl a 63 = .pointer (some ⟨g0, 0, none⟩) := hp 16 rfl
          exact .inl ⟨rfl, .pointer (some ⟨g0, 0, none⟩), u, (run_fieldAddr rfl fl58_0 (ev_sl e63) rfl), rfl, S⟩
        · intro a u X' hB hu hp hr hz hl S
          replace S : St w0 u ([] ++ X') := S
          have e64 : sl a 64 = .pointer (some ⟨g0, 0, none⟩) := hp 17 rfl
          exact .inl ⟨rfl, .slice A0 x0.length c0, u, (run_load1 rfl one22 (ev_sl e64) ((gr_box S hl 0 rfl).cell rfl)), rfl, S⟩
        · intro a u X' hB hu hp hr hz hl S
          replace S : St w0 u ([] ++ X') := S
          exact .inl ⟨rfl, .int .i64 (w64 ((w64 (x1 + 1)) - 1)), u, (run_move rfl (hF.evB hB rfl rfl)), rfl, S⟩
        · intro a u X' hB hu hp hr hz hl S
          replace S : St w0 u ([] ++ X') := S
          have e66 : sl a 66 = .int .i64 (w64 ((w64 (x1 + 1)) - 1)) := hp 19 rfl
          exact .inl ⟨rfl, .int .i64 (w64 ((w64 ((w64 (x1 + 1)) - 1)) * 7)), u, (run_mul (z := w64 ((w64 ((w64 (x1 + 1)) - 1)) * 7)) (ev_sl e66) (ev_const _ _) rfl rfl), rfl, S⟩
        · intro a u X' hB hu hp hr hz hl S
          replace S : St w0 u ([] ++ X') := S
          have e67 : sl a 67 = .int .i64 (w64 ((w64 ((w64 (x1 + 1)) - 1)) * 7)) := hp 20 rfl
          exact .inl ⟨rfl, .int .i64 (w64 ((w64 ((w64 ((w64 (x1 + 1)) - 1)) * 7)) + 3)), u, (run_add (z := w64 ((w64 ((w64 ((w64 (x1 + 1)) - 1)) * 7)) + 3)) (ev_sl e67) (ev_const _ _) rfl rfl), rfl, S⟩
        · intro a u X' hB hu hp hr hz hl S
          replace S : St w0 u ([] ++ X') := S
          exact .inl ⟨rfl, .pointer (some ⟨g0, 0, none⟩), u, (run_move rfl (hF.evB hB rfl rfl)), rfl, S⟩
        · intro a u X' hB hu hp hr hz hl S
          replace S : St w0 u ([] ++ X') := S
          have e69 : sl a 69 = .pointer (some ⟨g0, 0, none⟩) := hp 22 rfl
          exact .inl ⟨rfl, .pointer (some ⟨g0, 0, none⟩), u, (run_nilCheck rfl (ev_sl e69)), rfl, S⟩
        · intro a u X' hB hu hp hr hz hl S
          replace S : St w0 u ([] ++ X') := S
          have e70 : sl a 70 = .pointer (some ⟨g0, 0, none⟩) := hp 23 rfl
          exact .inl ⟨rfl, .pointer (some ⟨g0, 0, none⟩), u, (run_fieldAddr rfl fl58_0 (ev_sl e70) rfl), rfl, S⟩
        · intro a u X' hB hu hp hr hz hl S
          replace S : St w0 u ([] ++ X') := S
          have e71 : sl a 71 = .pointer (some ⟨g0, 0, none⟩) := hp 24 rfl
          exact .inl ⟨rfl, .slice A0 x0.length c0, u, (run_load1 rfl one22 (ev_sl e71) ((gr_box S hl 0 rfl).cell rfl)), rfl, S⟩
        · intro a u X' hB hu hp hr hz hl S
          replace S : St w0 u ([] ++ X') := S
          have e72 : sl a 72 = .slice A0 x0.length c0 := hp 25 rfl
          exact .inl ⟨rfl, .int .i64 (x0.length : Int), u, (run_lenL rfl rfl Tryd.underlying22 (ev_sl e72)), rfl, S⟩
        · intro a u X' hB hu hp hr hz hl S
          replace S : St w0 u ([] ++ X') := S
          have e68 : sl a 68 = .int .i64 (w64 ((w64 ((w64 ((w64 (x1 + 1)) - 1)) * 7)) + 3)) := hp 21 rfl
          have e73 : sl a 73 = .int .i64 (x0.length : Int) := hp 26 rfl
          exact .inl ⟨rfl, .int .i64 (Int.tmod (w64 ((w64 ((w64 ((w64 (x1 + 1)) - 1)) * 7)) + 3)) (x0.length : Int)), u, (run_rem (z := Int.tmod (w64 ((w64 ((w64 ((w64 (x1 + 1)) - 1)) * 7)) + 3)) (x0.length : Int)) (ev_sl e68) (ev_sl e73) rfl hk105 rfl), rfl, S⟩
        · intro a u X' hB hu hp hr hz hl S
          replace S : St w0 u ([] ++ X') := S
          have e65 : sl a 65 = .slice A0 x0.length c0 := hp 18 rfl
          have e74 : sl a 74 = .int .i64 (Int.tmod (w64 ((w64 ((w64 ((w64 (x1 + 1)) - 1)) * 7)) + 3)) (x0.length : Int)) := hp 27 rfl
          exact .inl ⟨rfl, .pointer (some ⟨adB A0, adO A0 + ((Int.tmod (w64 ((w64 ((w64 ((w64 (x1 + 1)) - 1)) * 7)) + 3)) (x0.length : Int)).toNat) * 1, none⟩), u, (run_indexAddr (b := adB A0) (off := adO A0) rfl Tryd.underlying22 sz5 ((ev_sl e65).trans (congrArg (fun A => Value.slice A x0.length c0) ((S.rc0 h0.rc).rd.ad (ix_pos hk106)))) (ev_sl e74) hk106.1 hk106.2 (k' := adO A0 + ((Int.tmod (w64 ((w64 ((w64 ((w64 (x1 + 1)) - 1)) * 7)) + 3)) (x0.length : Int)).toNat) * 1) rfl), rfl, S⟩
        · intro a u X' hB hu hp hr hz hl S
          replace S : St w0 u ([] ++ X') := S
          have e75 : sl a 75 = .pointer (some ⟨adB A0, adO A0 + ((Int.tmod (w64 ((w64 ((w64 ((w64 (x1 + 1)) - 1)) * 7)) + 3)) (x0.length : Int)).toNat) * 1, none⟩) := hp 28 rfl
          exact .inl ⟨rfl, .int .u8 (x0.getD ((Int.tmod (w64 ((w64 ((w64 ((w64 (x1 + 1)) - 1)) * 7)) + 3)) (x0.length : Int)).toNat) (0 : Int)), u, (run_load1 rfl one5 (ev_sl e75) (rd_el0 (l := x0) (S.rc0 h0.rc).rd rfl eU_len (0 : Int) (ix_ltn hk106 rfl) rfl)), rfl, S⟩
        · intro a u X' hB hu hp hr hz hl S
          replace S : St w0 u ([] ++ X') := S
          have e76 : sl a 76 = .int .u8 (x0.getD ((Int.tmod (w64 ((w64 ((w64 ((w64 (x1 + 1)) - 1)) * 7)) + 3)) (x0.length : Int)).toNat) (0 : Int)) := hp 29 rfl
          exact .inl ⟨rfl, .int .i64 (w64 ((x0.getD ((Int.tmod (w64 ((w64 ((w64 ((w64 (x1 + 1)) - 1)) * 7)) + 3)) (x0.length : Int)).toNat) (0 : Int)))), u, (run_convI rfl Tryd.underlying5 Tryd.underlying3 (ev_sl e76)), rfl, S⟩
        · intro a u X' hB hu hp hr hz hl S
          replace S : St w0 u ([] ++ X') := S
          have e77 : sl a 77 = .int .i64 (w64 ((x0.getD ((Int.tmod (w64 ((w64 ((w64 ((w64 (x1 + 1)) - 1)) * 7)) + 3)) (x0.length : Int)).toNat) (0 : Int)))) := hp 30 rfl
          exact .inl ⟨rfl, .int .i64 (w64 ((w64 ((x0.getD ((Int.tmod (w64 ((w64 ((w64 ((w64 (x1 + 1)) - 1)) * 7)) + 3)) (x0.length : Int)).toNat) (0 : Int)))) * 1117)), u, (run_mul (z := w64 ((w64 ((x0.getD ((Int.tmod (w64 ((w64 ((w64 ((w64 (x1 + 1)) - 1)) * 7)) + 3)) (x0.length : Int)).toNat) (0 : Int)))) * 1117)) (ev_sl e77) (ev_const _ _) rfl rfl), rfl, S⟩
        · intro a u X' hB hu hp hr hz hl S
          replace S : St w0 u ([] ++ X') := S
          have e61 : sl a 61 = .int .i64 (w64 ((w64 ((x0.getD ((Int.tmod (w64 ((w64 (x1 + 1)) - 1)) (x0.length : Int)).toNat) (0 : Int)))) * 131)) := hp 14 rfl
          have e78 : sl a 78 = .int .i64 (w64 ((w64 ((x0.getD ((Int.tmod (w64 ((w64 ((w64 ((w64 (x1 + 1)) - 1)) * 7)) + 3)) (x0.length : Int)).toNat) (0 : Int)))) * 1117)) := hp 31 rfl
          exact .inl ⟨rfl, .int .i64 (w64 ((w64 ((w64 ((x0.getD ((Int.tmod (w64 ((w64 (x1 + 1)) - 1)) (x0.length : Int)).toNat) (0 : Int)))) * 131)) + (w64 ((w64 ((x0.getD ((Int.tmod (w64 ((w64 ((w64 ((w64 (x1 + 1)) - 1)) * 7)) + 3)) (x0.length : Int)).toNat) (0 : Int)))) * 1117)))), u, (run_add (z := w64 ((w64 ((w64 ((x0.getD ((Int.tmod (w64 ((w64 (x1 + 1)) - 1)) (x0.length : Int)).toNat) (0 : Int)))) * 131)) + (w64 ((w64 ((x0.getD ((Int.tmod (w64 ((w64 ((w64 ((w64 (x1 + 1)) - 1)) * 7)) + 3)) (x0.length : Int)).toNat) (0 : Int)))) * 1117)))) (ev_sl e61) (ev_sl e78) rfl rfl), rfl, S⟩
        · intro a u X' hB hu hp hr hz hl S
          replace S : St w0 u ([] ++ X') := S
          exact .inl ⟨rfl, .int .i64 (w64 ((w64 (x1 + 1)) - 1)), u, (run_move rfl (hF.evB hB rfl rfl)), rfl, S⟩
        · intro a u X' hB hu hp hr hz hl S
          replace S : St w0 u ([] ++ X') := S
          have e80 : sl a 80 = .int .i64 (w64 ((w64 (x1 + 1)) - 1)) := hp 33 rfl
          exact .inl ⟨rfl, .int .i64 (w64 ((w64 ((w64 (x1 + 1)) - 1)) * 29)), u, (run_mul (z := w64 ((w64 ((w64 (x1 + 1)) - 1)) * 29)) (ev_sl e80) (ev_const _ _) rfl rfl), rfl, S⟩
        · intro a u X' hB hu hp hr hz hl S
          replace S : St w0 u ([] ++ X') := S
          have e79 : sl a 79 = .int .i64 (w64 ((w64 ((w64 ((x0.getD ((Int.tmod (w64 ((w64 (x1 + 1)) - 1)) (x0.length : Int)).toNat) (0 : Int)))) * 131)) + (w64 ((w64 ((x0.getD ((Int.tmod (w64 ((w64 ((w64 ((w64 (x1 + 1)) - 1)) * 7)) + 3)) (x0.length : Int)).toNat) (0 : Int)))) * 1117)))) := hp 32 rfl
          have e81 : sl a 81 = .int .i64 (w64 ((w64 ((w64 (x1 + 1)) - 1)) * 29)) := hp 34 rfl
          exact .inl ⟨rfl, .int .i64 (w64 ((w64 ((w64 ((w64 ((x0.getD ((Int.tmod (w64 ((w64 (x1 + 1)) - 1)) (x0.length : Int)).toNat) (0 : Int)))) * 131)) + (w64 ((w64 ((x0.getD ((Int.tmod (w64 ((w64 ((w64 ((w64 (x1 + 1)) - 1)) * 7)) + 3)) (x0.length : Int)).toNat) (0 : Int)))) * 1117)))) + (w64 ((w64 ((w64 (x1 + 1)) - 1)) * 29)))), u, (run_add (z := w64 ((w64 ((w64 ((w64 ((x0.getD ((Int.tmod (w64 ((w64 (x1 + 1)) - 1)) (x0.length : Int)).toNat) (0 : Int)))) * 131)) + (w64 ((w64 ((x0.getD ((Int.tmod (w64 ((w64 ((w64 ((w64 (x1 + 1)) - 1)) * 7)) + 3)) (x0.length : Int)).toNat) (0 : Int)))) * 1117)))) + (w64 ((w64 ((w64 (x1 + 1)) - 1)) * 29)))) (ev_sl e79) (ev_sl e81) rfl rfl), rfl, S⟩
        · intro a u X' hB hu hp hr hz hl S
          replace S : St w0 u ([] ++ X') := S
          exact .inl ⟨rfl, .int .i64 (w64 ((w64 (x1 + 1)) - 1)), u, (run_move rfl (hF.evB hB rfl rfl)), rfl, S⟩
        · intro a u X' hB hu hp hr hz hl S
          replace S : St w0 u ([] ++ X') := S
          exact .inl ⟨rfl, .pointer (some ⟨g0, 0, none⟩), u, (run_move rfl (hF.evB hB rfl rfl)), rfl, S⟩
        · intro a u X' hB hu hp hr hz hl S
          replace S : St w0 u ([] ++ X') := S
          have e84 : sl a 84 = .pointer (some ⟨g0, 0, none⟩) := hp 37 rfl
          exact .inl ⟨rfl, .pointer (some ⟨g0, 0, none⟩), u, (run_nilCheck rfl (ev_sl e84)), rfl, S⟩
        · intro a u X' hB hu hp hr hz hl S
          replace S : St w0 u ([] ++ X') := S
          have e85 : sl a 85 = .pointer (some ⟨g0, 0, none⟩) := hp 38 rfl
          exact .inl ⟨rfl, .pointer (some ⟨g0, 0, none⟩), u, (run_fieldAddr rfl fl58_0 (ev_sl e85) rfl), rfl, S⟩
        · intro a u X' hB hu hp hr hz hl S
          replace S : St w0 u ([] ++ X') := S
          have e86 : sl a 86 = .pointer (some ⟨g0, 0, none⟩) := hp 39 rfl
          exact .inl ⟨rfl, .slice A0 x0.length c0, u, (run_load1 rfl one22 (ev_sl e86) ((gr_box S hl 0 rfl).cell rfl)), rfl, S⟩
        · intro a u X' hB hu hp hr hz hl S
          replace S : St w0 u ([] ++ X') := S
          have e87 : sl a 87 = .slice A0 x0.length c0 := hp 40 rfl
          exact .inl ⟨rfl, .int .i64 (x0.length : Int), u, (run_lenL rfl rfl Tryd.underlying22 (ev_sl e87)), rfl, S⟩
        · intro a u X' hB hu hp hr hz hl S
          replace S : St w0 u ([] ++ X') := S
          have e83 : sl a 83 = .int .i64 (w64 ((w64 (x1 + 1)) - 1)) := hp 36 rfl
          have e88 : sl a 88 = .int .i64 (x0.length : Int) := hp 41 rfl
          exact .inl ⟨rfl, .int .i64 (w64 (Int.tdiv (w64 ((w64 (x1 + 1)) - 1)) (x0.length : Int))), u, (run_quo (z := w64 (Int.tdiv (w64 ((w64 (x1 + 1)) - 1)) (x0.length : Int))) (ev_sl e83) (ev_sl e88) rfl hk107 rfl), rfl, S⟩
        · intro a u X' hB hu hp hr hz hl S
          replace S : St w0 u ([] ++ X') := S
          have e89 : sl a 89 = .int .i64 (w64 (Int.tdiv (w64 ((w64 (x1 + 1)) - 1)) (x0.length : Int))) := hp 42 rfl
          exact .inl ⟨rfl, .int .i64 (w64 ((w64 (Int.tdiv (w64 ((w64 (x1 + 1)) - 1)) (x0.length : Int))) * 53)), u, (run_mul (z := w64 ((w64 (Int.tdiv (w64 ((w64 (x1 + 1)) - 1)) (x0.length : Int))) * 53)) (ev_sl e89) (ev_const _ _) rfl rfl), rfl, S⟩
        · intro a u X' hB hu hp hr hz hl S
          replace S : St w0 u ([] ++ X') := S
          have e82 : sl a 82 = .int .i64 (w64 ((w64 ((w64 ((w64 ((x0.getD ((Int.tmod (w64 ((w64 (x1 + 1)) - 1)) (x0.length : Int)).toNat) (0 : Int)))) * 131)) + (w64 ((w64 ((x0.getD ((Int.tmod (w64 ((w64 ((w64 ((w64 (x1 + 1)) - 1)) * 7)) + 3)) (x0.length : Int)).toNat) (0 : Int)))) * 1117)))) + (w64 ((w64 ((w64 (x1 + 1)) - 1)) * 29)))) := hp 35 rfl
          have e90 : sl a 90 = .int .i64 (w64 ((w64 (Int.tdiv (w64 ((w64 (x1 + 1)) - 1)) (x0.length : Int))) * 53)) := hp 43 rfl
          exact .inl ⟨rfl, .int .i64 (w64 ((w64 ((w64 ((w64 ((w64 ((x0.getD ((Int.tmod (w64 ((w64 (x1 + 1)) - 1)) (x0.length : Int)).toNat) (0 : Int)))) * 131)) + (w64 ((w64 ((x0.getD ((Int.tmod (w64 ((w64 ((w64 ((w64 (x1 + 1)) - 1)) * 7)) + 3)) (x0.length : Int)).toNat) (0 : Int)))) * 1117)))) + (w64 ((w64 ((w64 (x1 + 1)) - 1)) * 29)))) + (w64 ((w64 (Int.tdiv (w64 ((w64 (x1 + 1)) - 1)) (x0.length : Int))) * 53)))), u, (run_add (z := w64 ((w64 ((w64 ((w64 ((w64 ((x0.getD ((Int.tmod (w64 ((w64 (x1 + 1)) - 1)) (x0.length : Int)).toNat) (0 : Int)))) * 131)) + (w64 ((w64 ((x0.getD ((Int.tmod (w64 ((w64 ((w64 ((w64 (x1 + 1)) - 1)) * 7)) + 3)) (x0.length : Int)).toNat) (0 : Int)))) * 1117)))) + (w64 ((w64 ((w64 (x1 + 1)) - 1)) * 29)))) + (w64 ((w64 (Int.tdiv (w64 ((w64 (x1 + 1)) - 1)) (x0.length : Int))) * 53)))) (ev_sl e82) (ev_sl e90) rfl rfl), rfl, S⟩
        · intro a u X' hB hu hp hr hz hl S
          replace S : St w0 u ([] ++ X') := S
          have e91 : sl a 91 = .int .i64 (w64 ((w64 ((w64 ((w64 ((w64 ((x0.getD ((Int.tmod (w64 ((w64 (x1 + 1)) - 1)) (x0.length : Int)).toNat) (0 : Int)))) * 131)) + (w64 ((w64 ((x0.getD ((Int.tmod (w64 ((w64 ((w64 ((w64 (x1 + 1)) - 1)) * 7)) + 3)) (x0.length : Int)).toNat) (0 : Int)))) * 1117)))) + (w64 ((w64 ((w64 (x1 + 1)) - 1)) * 29)))) + (w64 ((w64 (Int.tdiv (w64 ((w64 (x1 + 1)) - 1)) (x0.length : Int))) * 53)))) := hp 44 rfl
          exact .inl ⟨rfl, .int .i64 (w64 ((w64 ((w64 ((w64 ((w64 ((x0.getD ((Int.tmod (w64 ((w64 (x1 + 1)) - 1)) (x0.length : Int)).toNat) (0 : Int)))) * 131)) + (w64 ((w64 ((x0.getD ((Int.tmod (w64 ((w64 ((w64 ((w64 (x1 + 1)) - 1)) * 7)) + 3)) (x0.length : Int)).toNat) (0 : Int)))) * 1117)))) + (w64 ((w64 ((w64 (x1 + 1)) - 1)) * 29)))) + (w64 ((w64 (Int.tdiv (w64 ((w64 (x1 + 1)) - 1)) (x0.length : Int))) * 53)))), u, (run_assign rfl (ev_sl e91)), rfl, S⟩
      · intro a u hB hp S
        obtain ⟨q0, q1, q2, q3, q4, q5, q6, q7, q8, q9, q10, q11, q12, q13, q14, q15, q16, q17, q18, q19, q20, q21, q22, q23, q24, q25, q26, q27, q28, q29, q30, q31, q32, q33, q34, q35, q36, q37, q38, q39, q40, q41, q42, q43, q44, q45, _⟩ := hp
        have e47 : sl a 47 = .pointer (some ⟨g0, 0, none⟩) := q0
        have e48 : sl a 48 = .pointer (some ⟨g0, 0, none⟩) := q1
        have e49 : sl a 49 = .pointer (some ⟨g0, 0, none⟩) := q2
        have e50 : sl a 50 = .slice A0 x0.length c0 := q3
        have e51 : sl a 51 = .int .i64 (w64 ((w64 (x1 + 1)) - 1)) := q4
        have e52 : sl a 52 = .pointer (some ⟨g0, 0, none⟩) := q5
        have e53 : sl a 53 = .pointer (some ⟨g0, 0, none⟩) := q6
        have e54 : sl a 54 = .pointer (some ⟨g0, 0, none⟩) := q7
        have e55 : sl a 55 = .slice A0 x0.length c0 := q8
        have e56 : sl a 56 = .int .i64 (x0.length : Int) := q9
        have e57 : sl a 57 = .int .i64 (Int.tmod (w64 ((w64 (x1 + 1)) - 1)) (x0.length : Int)) := q10
        have e58 : sl a 58 = .pointer (some ⟨adB A0, adO A0 + ((Int.tmod (w64 ((w64 (x1 + 1)) - 1)) (x0.length : Int)).toNat) * 1, none⟩) := q11
        have e59 : sl a 59 = .int .u8 (x0.getD ((Int.tmod (w64 ((w64 (x1 + 1)) - 1)) (x0.length : Int)).toNat) (0 : Int)) := q12
        have e60 : sl a 60 = .int .i64 (w64 ((x0.getD ((Int.tmod (w64 ((w64 (x1 + 1)) - 1)) (x0.length : Int)).toNat) (0 : Int)))) := q13
        have e61 : sl a 61 = .int .i64 (w64 ((w64 ((x0.getD ((Int.tmod (w64 ((w64 (x1 + 1)) - 1)) (x0.length : Int)).toNat) (0 : Int)))) * 131)) := q14
        have e62 : sl a 62 = .pointer (some ⟨g0, 0, none⟩) := q15
        have e63 : sl a 63 = .pointer (some ⟨g0, 0, none⟩) := q16
        have e64 : sl a 64 = .pointer (some ⟨g0, 0, none⟩) := q17
        have e65 : sl a 65 = .slice A0 x0.length c0 := q18
        have e66 : sl a 66 = .int .i64 (w64 ((w64 (x1 + 1)) - 1)) := q19
        have e67 : sl a 67 = .int .i64 (w64 ((w64 ((w64 (x1 + 1)) - 1)) * 7)) := q20
        have e68 : sl a 68 = .int .i64 (w64 ((w64 ((w64 ((w64 (x1 + 1)) - 1)) * 7)) + 3)) := q21
        have e69 : sl a 69 = .pointer (some ⟨g0, 0, none⟩) := q22
        have e70 : sl a 70 = .pointer (some ⟨g0, 0, none⟩) := q23
        have e71 : sl a 71 = .pointer (some ⟨g0, 0, none⟩) := q24
        have e72 : sl a 72 = .slice A0 x0.length c0 := q25
        have e73 : sl a 73 = .int .i64 (x0.length : Int) := q26
        have e74 : sl a 74 = .int .i64 (Int.tmod (w64 ((w64 ((w64 ((w64 (x1 + 1)) - 1)) * 7)) + 3)) (x0.length : Int)) := q27
        have e75 : sl a 75 = .pointer (some ⟨adB A0, adO A0 + ((Int.tmod (w64 ((w64 ((w64 ((w64 (x1 + 1)) - 1)) * 7)) + 3)) (x0.length : Int)).toNat) * 1, none⟩) := q28
        have e76 : sl a 76 = .int .u8 (x0.getD ((Int.tmod (w64 ((w64 ((w64 ((w64 (x1 + 1)) - 1)) * 7)) + 3)) (x0.length : Int)).toNat) (0 : Int)) := q29
        have e77 : sl a 77 = .int .i64 (w64 ((x0.getD ((Int.tmod (w64 ((w64 ((w64 ((w64 (x1 + 1)) - 1)) * 7)) + 3)) (x0.length : Int)).toNat) (0 : Int)))) := q30
        have e78 : sl a 78 = .int .i64 (w64 ((w64 ((x0.getD ((Int.tmod (w64 ((w64 ((w64 ((w64 (x1 + 1)) - 1)) * 7)) + 3)) (x0.length : Int)).toNat) (0 : Int)))) * 1117)) := q31
        have e79 : sl a 79 = .int .i64 (w64 ((w64 ((w64 ((x0.getD ((Int.tmod (w64 ((w64 (x1 + 1)) - 1)) (x0.length : Int)).toNat) (0 : Int)))) * 131)) + (w64 ((w64 ((x0.getD ((Int.tmod (w64 ((w64 ((w64 ((w64 (x1 + 1)) - 1)) * 7)) + 3)) (x0.length : Int)).toNat) (0 : Int)))) * 1117)))) := q32
        have e80 : sl a 80 = .int .i64 (w64 ((w64 (x1 + 1)) - 1)) := q33
        have e81 : sl a 81 = .int .i64 (w64 ((w64 ((w64 (x1 + 1)) - 1)) * 29)) := q34
        have e82 : sl a 82 = .int .i64 (w64 ((w64 ((w64 ((w64 ((x0.getD ((Int.tmod (w64 ((w64 (x1 + 1)) - 1)) (x0.length : Int)).toNat) (0 : Int)))) * 131)) + (w64 ((w64 ((x0.getD ((Int.tmod (w64 ((w64 ((w64 ((w64 (x1 + 1)) - 1)) * 7)) + 3)) (x0.length : Int)).toNat) (0 : Int)))) * 1117)))) + (w64 ((w64 ((w64 (x1 + 1)) - 1)) * 29)))) := q35
        have e83 : sl a 83 = .int .i64 (w64 ((w64 (x1 + 1)) - 1)) := q36
        have e84 : sl a 84 = .pointer (some ⟨g0, 0, none⟩) := q37
        have e85 : sl a 85 = .pointer (some ⟨g0, 0, none⟩) := q38
        have e86 : sl a 86 = .pointer (some ⟨g0, 0, none⟩) := q39
        have e87 : sl a 87 = .slice A0 x0.length c0 := q40
        have e88 : sl a 88 = .int .i64 (x0.length : Int) := q41
        have e89 : sl a 89 = .int .i64 (w64 (Int.tdiv (w64 ((w64 (x1 + 1)) - 1)) (x0.length : Int))) := q42
        have e90 : sl a 90 = .int .i64 (w64 ((w64 (Int.tdiv (w64 ((w64 (x1 + 1)) - 1)) (x0.length : Int))) * 53)) := q43
        have e91 : sl a 91 = .int .i64 (w64 ((w64 ((w64 ((w64 ((w64 ((x0.getD ((Int.tmod (w64 ((w64 (x1 + 1)) - 1)) (x0.length : Int)).toNat) (0 : Int)))) * 131)) + (w64 ((w64 ((x0.getD ((Int.tmod (w64 ((w64 ((w64 ((w64 (x1 + 1)) - 1)) * 7)) + 3)) (x0.length : Int)).toNat) (0 : Int)))) * 1117)))) + (w64 ((w64 ((w64 (x1 + 1)) - 1)) * 29)))) + (w64 ((w64 (Int.tdiv (w64 ((w64 (x1 + 1)) - 1)) (x0.length : Int))) * 53)))) := q44
        have e6 : sl a 6 = .int .i64 (w64 ((w64 ((w64 ((w64 ((w64 ((x0.getD ((Int.tmod (w64 ((w64 (x1 + 1)) - 1)) (x0.length : Int)).toNat) (0 : Int)))) * 131)) + (w64 ((w64 ((x0.getD ((Int.tmod (w64 ((w64 ((w64 ((w64 (x1 + 1)) - 1)) * 7)) + 3)) (x0.length : Int)).toNat) (0 : Int)))) * 1117)))) + (w64 ((w64 ((w64 (x1 + 1)) - 1)) * 29)))) + (w64 ((w64 (Int.tdiv (w64 ((w64 (x1 + 1)) - 1)) (x0.length : Int))) * 53)))) := q45
        replace S : St w0 u (Asn.box g0 58 #[.slice A0 x0.length c0, .int .i64 (w64 (x1 + 1))] :: X) := S
        clear q0 q1 q2 q3 q4 q5 q6 q7 q8 q9 q10 q11 q12 q13 q14 q15 q16 q17 q18 q19 q20 q21 q22 q23 q24 q25 q26 q27 q28 q29 q30 q31 q32 q33 q34 q35 q36 q37 q38 q39 q40 q41 q42 q43 q44 q45
        have hF := hF.region hB [(47, .pointer (some ⟨g0, 0, none⟩)), (48, .pointer (some ⟨g0, 0, none⟩)), (49, .pointer (some ⟨g0, 0, none⟩)), (50, .slice A0 x0.length c0), (51, .int .i64 (w64 ((w64 (x1 + 1)) - 1))), (52, .pointer (some ⟨g0, 0, none⟩)), (53, .pointer (some ⟨g0, 0, none⟩)), (54, .pointer (some ⟨g0, 0, none⟩)), (55, .slice A0 x0.length c0), (56, .int .i64 (x0.length : Int)), (57, .int .i64 (Int.tmod (w64 ((w64 (x1 + 1)) - 1)) (x0.length : Int))), (58, .pointer (some ⟨adB A0, adO A0 + ((Int.tmod (w64 ((w64 (x1 + 1)) - 1)) (x0.length : Int)).toNat) * 1, none⟩)), (59, .int .u8 (x0.getD ((Int.tmod (w64 ((w64 (x1 + 1)) - 1)) (x0.length : Int)).toNat) (0 : Int))), (60, .int .i64 (w64 ((x0.getD ((Int.tmod (w64 ((w64 (x1 + 1)) - 1)) (x0.length : Int)).toNat) (0 : Int))))), (61, .int .i64 (w64 ((w64 ((x0.getD ((Int.tmod (w64 ((w64 (x1 + 1)) - 1)) (x0.length : Int)).toNat) (0 : Int)))) * 131))), (62, .pointer (some ⟨g0, 0, none⟩)), (63, .pointer (some ⟨g0, 0, none⟩)), (64, .pointer (some ⟨g0, 0, none⟩)), (65, .slice A0 x0.length c0), (66, .int .i64 (w64 ((w64 (x1 + 1)) - 1))), (67, .int .i64 (w64 ((w64 ((w64 (x1 + 1)) - 1)) * 7))), (68, .int .i64 (w64 ((w64 ((w64 ((w64 (x1 + 1)) - 1)) * 7)) + 3))), (69, .pointer (some ⟨g0, 0, none⟩)), (70, .pointer (some ⟨g0, 0, none⟩)), (71, .pointer (some ⟨g0, 0, none⟩)), (72, .slice A0 x0.length c0), (73, .int .i64 (x0.length : Int)), (74, .int .i64 (Int.tmod (w64 ((w64 ((w64 ((w64 (x1 + 1)) - 1)) * 7)) + 3)) (x0.length : Int))), (75, .pointer (some ⟨adB A0, adO A0 + ((Int.tmod (w64 ((w64 ((w64 ((w64 (x1 + 1)) - 1)) * 7)) + 3)) (x0.length : Int)).toNat) * 1, none⟩)), (76, .int .u8 (x0.getD ((Int.tmod (w64 ((w64 ((w64 ((w64 (x1 + 1)) - 1)) * 7)) + 3)) (x0.length : Int)).toNat) (0 : Int))), (77, .int .i64 (w64 ((x0.getD ((Int.tmod (w64 ((w64 ((w64 ((w64 (x1 + 1)) - 1)) * 7)) + 3)) (x0.length : Int)).toNat) (0 : Int))))), (78, .int .i64 (w64 ((w64 ((x0.getD ((Int.tmod (w64 ((w64 ((w64 ((w64 (x1 + 1)) - 1)) * 7)) + 3)) (x0.length : Int)).toNat) (0 : Int)))) * 1117))), (79, .int .i64 (w64 ((w64 ((w64 ((x0.getD ((Int.tmod (w64 ((w64 (x1 + 1)) - 1)) (x0.length : Int)).toNat) (0 : Int)))) * 131)) + (w64 ((w64 ((x0.getD ((Int.tmod (w64 ((w64 ((w64 ((w64 (x1 + 1)) - 1)) * 7)) + 3)) (x0.length : Int)).toNat) (0 : Int)))) * 1117))))), (80, .int .i64 (w64 ((w64 (x1 + 1)) - 1))), (81, .int .i64 (w64 ((w64 ((w64 (x1 + 1)) - 1)) * 29))), (82, .int .i64 (w64 ((w64 ((w64 ((w64 ((x0.getD ((Int.tmod (w64 ((w64 (x1 + 1)) - 1)) (x0.length : Int)).toNat) (0 : Int)))) * 131)) + (w64 ((w64 ((x0.getD ((Int.tmod (w64 ((w64 ((w64 ((w64 (x1 + 1)) - 1)) * 7)) + 3)) (x0.length : Int)).toNat) (0 : Int)))) * 1117)))) + (w64 ((w64 ((w64 (x1 + 1)) - 1)) * 29))))), (83, .int .i64 (w64 ((w64 (x1 + 1)) - 1))), (84, .pointer (some ⟨g0, 0, none⟩)), (85, .pointer (some ⟨g0, 0, none⟩)), (86, .pointer (some ⟨g0, 0, none⟩)), (87, .slice A0 x0.length c0), (88, .int .i64 (x0.length : Int)), (89, .int .i64 (w64 (Int.tdiv (w64 ((w64 (x1 + 1)) - 1)) (x0.length : Int)))), (90, .int .i64 (w64 ((w64 (Int.tdiv (w64 ((w64 (x1 + 1)) - 1)) (x0.length : Int))) * 53))), (91, .int .i64 (w64 ((w64 ((w64 ((w64 ((w64 ((x0.getD ((Int.tmod (w64 ((w64 (x1 + 1)) - 1)) (x0.length : Int)).toNat) (0 : Int)))) * 131)) + (w64 ((w64 ((x0.getD ((Int.tmod (w64 ((w64 ((w64 ((w64 (x1 + 1)) - 1)) * 7)) + 3)) (x0.length : Int)).toNat) (0 : Int)))) * 1117)))) + (w64 ((w64 ((w64 (x1 + 1)) - 1)) * 29)))) + (w64 ((w64 (Int.tdiv (w64 ((w64 (x1 + 1)) - 1)) (x0.length : Int))) * 53))))), (6, .int .i64 (w64 ((w64 ((w64 ((w64 ((w64 ((x0.getD ((Int.tmod (w64 ((w64 (x1 + 1)) - 1)) (x0.length : Int)).toNat) (0 : Int)))) * 131)) + (w64 ((w64 ((x0.getD ((Int.tmod (w64 ((w64 ((w64 ((w64 (x1 + 1)) - 1)) * 7)) + 3)) (x0.length : Int)).toNat) (0 : Int)))) * 1117)))) + (w64 ((w64 ((w64 (x1 + 1)) - 1)) * 29)))) + (w64 ((w64 (Int.tdiv (w64 ((w64 (x1 + 1)) - 1)) (x0.length : Int))) * 53)))))] (allSl_mem ⟨e47, e48, e49, e50, e51, e52, e53, e54, e55, e56, e57, e58, e59, e60, e61, e62, e63, e64, e65, e66, e67, e68, e69, e70, e71, e72, e73, e74, e75, e76, e77, e78, e79, e80, e81, e82, e83, e84, e85, e86, e87, e88, e89, e90, e91, e6, trivial⟩) rfl
        clear hB e47 e48 e49 e50 e51 e52 e53 e54 e55 e56 e57 e58 e59 e60 e61 e62 e63 e64 e65 e66 e67 e68 e69 e70 e71 e72 e73 e74 e75 e76 e77 e78 e79 e80 e81 e82 e83 e84 e85 e86 e87 e88 e89 e90 e91 e6
        refine wp_seq ?_
        refine wp_region_lit ?_
        refine op_val (v := .int .i64 (w64 ((w64 ((w64 ((w64 ((w64 ((x0.getD ((Int.tmod (w64 ((w64 (x1 + 1)) - 1)) (x0.length : Int)).toNat) (0 : Int)))) * 131)) + (w64 ((w64 ((x0.getD ((Int.tmod (w64 ((w64 ((w64 ((w64 (x1 + 1)) - 1)) * 7)) + 3)) (x0.length : Int)).toNat) (0 : Int)))) * 1117)))) + (w64 ((w64 ((w64 (x1 + 1)) - 1)) * 29)))) + (w64 ((w64 (Int.tdiv (w64 ((w64 (x1 + 1)) - 1)) (x0.length : Int))) * 53))))) rfl rfl hF rfl (run_move rfl (hF.ev rfl)) ?_; clear hF; intro a hF
        refine op_val (v := .int .i64 (w64 ((w64 ((w64 ((w64 ((w64 ((x0.getD ((Int.tmod (w64 ((w64 (x1 + 1)) - 1)) (x0.length : Int)).toNat) (0 : Int)))) * 131)) + (w64 ((w64 ((x0.getD ((Int.tmod (w64 ((w64 ((w64 ((w64 (x1 + 1)) - 1)) * 7)) + 3)) (x0.length : Int)).toNat) (0 : Int)))) * 1117)))) + (w64 ((w64 ((w64 (x1 + 1)) - 1)) * 29)))) + (w64 ((w64 (Int.tdiv (w64 ((w64 (x1 + 1)) - 1)) (x0.length : Int))) * 53))))) rfl rfl hF rfl (run_move rfl (hF.ev rfl)) ?_; clear hF; intro a hF
        refine op_val (v := .int .i64 (w64 (Int.tdiv (w64 ((w64 ((w64 ((w64 ((w64 ((x0.getD ((Int.tmod (w64 ((w64 (x1 + 1)) - 1)) (x0.length : Int)).toNat) (0 : Int)))) * 131)) + (w64 ((w64 ((x0.getD ((Int.tmod (w64 ((w64 ((w64 ((w64 (x1 + 1)) - 1)) * 7)) + 3)) (x0.length : Int)).toNat) (0 : Int)))) * 1117)))) + (w64 ((w64 ((w64 (x1 + 1)) - 1)) * 29)))) + (w64 ((w64 (Int.tdiv (w64 ((w64 (x1 + 1)) - 1)) (x0.length : Int))) * 53)))) 64))) rfl rfl hF rfl (run_quo (z := w64 (Int.tdiv (w64 ((w64 ((w64 ((w64 ((w64 ((x0.getD ((Int.tmod (w64 ((w64 (x1 + 1)) - 1)) (x0.length : Int)).toNat) (0 : Int)))) * 131)) + (w64 ((w64 ((x0.getD ((Int.tmod (w64 ((w64 ((w64 ((w64 (x1 + 1)) - 1)) * 7)) + 3)) (x0.length : Int)).toNat) (0 : Int)))) * 1117)))) + (w64 ((w64 ((w64 (x1 + 1)) - 1)) * 29)))) + (w64 ((w64 (Int.tdiv (w64 ((w64 (x1 + 1)) - 1)) (x0.length : Int))) * 53)))) 64)) (hF.ev rfl) rfl rfl (by decide) rfl) ?_; clear hF; intro a hF
        refine op_val (v := .int .i64 (bitsXor .i64 (w64 ((w64 ((w64 ((w64 ((w64 ((x0.getD ((Int.tmod (w64 ((w64 (x1 + 1)) - 1)) (x0.length : Int)).toNat) (0 : Int)))) * 131)) + (w64 ((w64 ((x0.getD ((Int.tmod (w64 ((w64 ((w64 ((w64 (x1 + 1)) - 1)) * 7)) + 3)) (x0.length : Int)).toNat) (0 : Int)))) * 1117)))) + (w64 ((w64 ((w64 (x1 + 1)) - 1)) * 29)))) + (w64 ((w64 (Int.tdiv (w64 ((w64 (x1 + 1)) - 1)) (x0.length : Int))) * 53)))) (w64 (Int.tdiv (w64 ((w64 ((w64 ((w64 ((w64 ((x0.getD ((Int.tmod (w64 ((w64 (x1 + 1)) - 1)) (x0.length : Int)).toNat) (0 : Int)))) * 131)) + (w64 ((w64 ((x0.getD ((Int.tmod (w64 ((w64 ((w64 ((w64 (x1 + 1)) - 1)) * 7)) + 3)) (x0.length : Int)).toNat) (0 : Int)))) * 1117)))) + (w64 ((w64 ((w64 (x1 + 1)) - 1)) * 29)))) + (w64 ((w64 (Int.tdiv (w64 ((w64 (x1 + 1)) - 1)) (x0.length : Int))) * 53)))) 64)))) rfl rfl hF rfl (run_bxor (hF.ev rfl) (hF.ev rfl) rfl) ?_; clear hF; intro a hF
        refine op_val (v := .int .i64 (bitsXor .i64 (w64 ((w64 ((w64 ((w64 ((w64 ((x0.getD ((Int.tmod (w64 ((w64 (x1 + 1)) - 1)) (x0.length : Int)).toNat) (0 : Int)))) * 131)) + (w64 ((w64 ((x0.getD ((Int.tmod (w64 ((w64 ((w64 ((w64 (x1 + 1)) - 1)) * 7)) + 3)) (x0.length : Int)).toNat) (0 : Int)))) * 1117)))) + (w64 ((w64 ((w64 (x1 + 1)) - 1)) * 29)))) + (w64 ((w64 (Int.tdiv (w64 ((w64 (x1 + 1)) - 1)) (x0.length : Int))) * 53)))) (w64 (Int.tdiv (w64 ((w64 ((w64 ((w64 ((w64 ((x0.getD ((Int.tmod (w64 ((w64 (x1 + 1)) - 1)) (x0.length : Int)).toNat) (0 : Int)))) * 131)) + (w64 ((w64 ((x0.getD ((Int.tmod (w64 ((w64 ((w64 ((w64 (x1 + 1)) - 1)) * 7)) + 3)) (x0.length : Int)).toNat) (0 : Int)))) * 1117)))) + (w64 ((w64 ((w64 (x1 + 1)) - 1)) * 29)))) + (w64 ((w64 (Int.tdiv (w64 ((w64 (x1 + 1)) - 1)) (x0.length : Int))) * 53)))) 64)))) rfl rfl hF rfl (run_assign rfl (hF.ev rfl)) ?_; clear hF; intro a hF
        refine wpList_nil ?_
        refine wp_seq ?_
        refine wp_region_lit ?_
        refine op_val (v := .int .i64 (bitsXor .i64 (w64 ((w64 ((w64 ((w64 ((w64 ((x0.getD ((Int.tmod (w64 ((w64 (x1 + 1)) - 1)) (x0.length : Int)).toNat) (0 : Int)))) * 131)) + (w64 ((w64 ((x0.getD ((Int.tmod (w64 ((w64 ((w64 ((w64 (x1 + 1)) - 1)) * 7)) + 3)) (x0.length : Int)).toNat) (0 : Int)))) * 1117)))) + (w64 ((w64 ((w64 (x1 + 1)) - 1)) * 29)))) + (w64 ((w64 (Int.tdiv (w64 ((w64 (x1 + 1)) - 1)) (x0.length : Int))) * 53)))) (w64 (Int.tdiv (w64 ((w64 ((w64 ((w64 ((w64 ((x0.getD ((Int.tmod (w64 ((w64 (x1 + 1)) - 1)) (x0.length : Int)).toNat) (0 : Int)))) * 131)) + (w64 ((w64 ((x0.getD ((Int.tmod (w64 ((w64 ((w64 ((w64 (x1 + 1)) - 1)) * 7)) + 3)) (x0.length : Int)).toNat) (0 : Int)))) * 1117)))) + (w64 ((w64 ((w64 (x1 + 1)) - 1)) * 29)))) + (w64 ((w64 (Int.tdiv (w64 ((w64 (x1 + 1)) - 1)) (x0.length : Int))) * 53)))) 64)))) rfl rfl hF rfl (run_move rfl (hF.ev rfl)) ?_; clear hF; intro a hF
        refine op_val (v := .int .i64 x2) rfl rfl hF rfl (run_move rfl (hF.ev rfl)) ?_; clear hF; intro a hF
        obtain ⟨hk108, hM⟩ := chk_ex hM
        replace hk108 := nzB_t hk108
        refine op_val (v := .int .i64 (Int.tmod (bitsXor .i64 (w64 ((w64 ((w64 ((w64 ((w64 ((x0.getD ((Int.tmod (w64 ((w64 (x1 + 1)) - 1)) (x0.length : Int)).toNat) (0 : Int)))) * 131)) + (w64 ((w64 ((x0.getD ((Int.tmod (w64 ((w64 ((w64 ((w64 (x1 + 1)) - 1)) * 7)) + 3)) (x0.length : Int)).toNat) (0 : Int)))) * 1117)))) + (w64 ((w64 ((w64 (x1 + 1)) - 1)) * 29)))) + (w64 ((w64 (Int.tdiv (w64 ((w64 (x1 + 1)) - 1)) (x0.length : Int))) * 53)))) (w64 (Int.tdiv (w64 ((w64 ((w64 ((w64 ((w64 ((x0.getD ((Int.tmod (w64 ((w64 (x1 + 1)) - 1)) (x0.length : Int)).toNat) (0 : Int)))) * 131)) + (w64 ((w64 ((x0.getD ((Int.tmod (w64 ((w64 ((w64 ((w64 (x1 + 1)) - 1)) * 7)) + 3)) (x0.length : Int)).toNat) (0 : Int)))) * 1117)))) + (w64 ((w64 ((w64 (x1 + 1)) - 1)) * 29)))) + (w64 ((w64 (Int.tdiv (w64 ((w64 (x1 + 1)) - 1)) (x0.length : Int))) * 53)))) 64))) x2)) rfl rfl hF rfl (run_rem (z := Int.tmod (bitsXor .i64 (w64 ((w64 ((w64 ((w64 ((w64 ((x0.getD ((Int.tmod (w64 ((w64 (x1 + 1)) - 1)) (x0.length : Int)).toNat) (0 : Int)))) * 131)) + (w64 ((w64 ((x0.getD ((Int.tmod (w64 ((w64 ((w64 ((w64 (x1 + 1)) - 1)) * 7)) + 3)) (x0.length : Int)).toNat) (0 : Int)))) * 1117)))) + (w64 ((w64 ((w64 (x1 + 1)) - 1)) * 29)))) + (w64 ((w64 (Int.tdiv (w64 ((w64 (x1 + 1)) - 1)) (x0.length : Int))) * 53)))) (w64 (Int.tdiv (w64 ((w64 ((w64 ((w64 ((w64 ((x0.getD ((Int.tmod (w64 ((w64 (x1 + 1)) - 1)) (x0.length : Int)).toNat) (0 : Int)))) * 131)) + (w64 ((w64 ((x0.getD ((Int.tmod (w64 ((w64 ((w64 ((w64 (x1 + 1)) - 1)) * 7)) + 3)) (x0.length : Int)).toNat) (0 : Int)))) * 1117)))) + (w64 ((w64 ((w64 (x1 + 1)) - 1)) * 29)))) + (w64 ((w64 (Int.tdiv (w64 ((w64 (x1 + 1)) - 1)) (x0.length : Int))) * 53)))) 64))) x2) (hF.ev rfl) (hF.ev rfl) rfl hk108 rfl) ?_; clear hF; intro a hF
        refine op_val (v := .int .i64 (Int.tmod (bitsXor .i64 (w64 ((w64 ((w64 ((w64 ((w64 ((x0.getD ((Int.tmod (w64 ((w64 (x1 + 1)) - 1)) (x0.length : Int)).toNat) (0 : Int)))) * 131)) + (w64 ((w64 ((x0.getD ((Int.tmod (w64 ((w64 ((w64 ((w64 (x1 + 1)) - 1)) * 7)) + 3)) (x0.length : Int)).toNat) (0 : Int)))) * 1117)))) + (w64 ((w64 ((w64 (x1 + 1)) - 1)) * 29)))) + (w64 ((w64 (Int.tdiv (w64 ((w64 (x1 + 1)) - 1)) (x0.length : Int))) * 53)))) (w64 (Int.tdiv (w64 ((w64 ((w64 ((w64 ((w64 ((x0.getD ((Int.tmod (w64 ((w64 (x1 + 1)) - 1)) (x0.length : Int)).toNat) (0 : Int)))) * 131)) + (w64 ((w64 ((x0.getD ((Int.tmod (w64 ((w64 ((w64 ((w64 (x1 + 1)) - 1)) * 7)) + 3)) (x0.length : Int)).toNat) (0 : Int)))) * 1117)))) + (w64 ((w64 ((w64 (x1 + 1)) - 1)) * 29)))) + (w64 ((w64 (Int.tdiv (w64 ((w64 (x1 + 1)) - 1)) (x0.length : Int))) * 53)))) 64))) x2)) rfl rfl hF rfl (run_assign rfl (hF.ev rfl)) ?_; clear hF; intro a hF
        refine wpList_nil ?_
        refine wp_ret ?_
        repeat with_reducible (first | refine then_ret ?_ | refine in_ret ?_ | refine in_nrm ?_)
        refine ret1_gw (.inl rfl) hF rfl (res_tmp (hF.ev rfl)) ?_
        obtain rfl := Option.some.inj hM
        exact ⟨rfl, S.selT (M := [.box g0 58 #[.slice A0 x0.length c0, .int .i64 (w64 (x1 + 1))]]) 1 [0] rfl rfl rfl⟩
    · replace hM := bif_t hc102 hM
      refine cond_t hF rfl hc102 ?_
      refine wp_seq ?_
      refine wp_region_lit ?_
      refine op_val (v := .pointer (some ⟨g0, 0, none⟩)) rfl rfl hF rfl (run_move rfl (hF.ev rfl)) ?_; clear hF; intro a hF
      refine op_val (v := .pointer (some ⟨g0, 0, none⟩)) rfl rfl hF rfl (run_nilCheck rfl (hF.ev rfl)) ?_; clear hF; intro a hF
      refine op_val (v := .pointer (some ⟨g0, 0, none⟩)) rfl rfl hF rfl (run_fieldAddr rfl fl58_0 (hF.ev rfl) rfl) ?_; clear hF; intro a hF
      refine op_val (v := .slice A0 x0.length c0) rfl rfl hF rfl (run_load1 rfl one22 (hF.ev rfl) ((S.free 0 rfl).cell rfl)) ?_; clear hF; intro a hF
      refine op_val (v := .int .i64 (w64 ((w64 (x1 + 1)) - 1))) rfl rfl hF rfl (run_move rfl (hF.ev rfl)) ?_; clear hF; intro a hF
      obtain ⟨hk109, hM⟩ := chk_ex hM
      replace hk109 := ixB_t hk109
      refine op_val (v := .pointer (some ⟨adB A0, adO A0 + ((w64 ((w64 (x1 + 1)) - 1)).toNat) * 1, none⟩)) rfl rfl hF rfl (run_indexAddr (b := adB A0) (off := adO A0) rfl Tryd.underlying22 sz5 ((hF.ev rfl).trans (congrArg (fun A => Value.slice A x0.length c0) ((S.rc0 h0.rc).rd.ad (ix_pos hk109)))) (hF.ev rfl) hk109.1 hk109.2 (k' := adO A0 + ((w64 ((w64 (x1 + 1)) - 1)).toNat) * 1) rfl) ?_; clear hF; intro a hF
      refine op_val (v := .int .u8 (x0.getD ((w64 ((w64 (x1 + 1)) - 1)).toNat) (0 : Int))) rfl rfl hF rfl (run_load1 rfl one5 (hF.ev rfl) (rd_el0 (l := x0) (S.rc0 h0.rc).rd rfl eU_len (0 : Int) (ix_ltn hk109 rfl) rfl)) ?_; clear hF; intro a hF
      refine op_val (v := .int .i64 (w64 ((x0.getD ((w64 ((w64 (x1 + 1)) - 1)).toNat) (0 : Int))))) rfl rfl hF rfl (run_convI rfl Tryd.underlying5 Tryd.underlying3 (hF.ev rfl)) ?_; clear hF; intro a hF
      refine op_val (v := .int .i64 x2) rfl rfl hF rfl (run_move rfl (hF.ev rfl)) ?_; clear hF; intro a hF
      obtain ⟨hk110, hM⟩ := chk_ex hM
      replace hk110 := nzB_t hk110
      refine op_val (v := .int .i64 (Int.tmod (w64 ((x0.getD ((w64 ((w64 (x1 + 1)) - 1)).toNat) (0 : Int)))) x2)) rfl rfl hF rfl (run_rem (z := Int.tmod (w64 ((x0.getD ((w64 ((w64 (x1 + 1)) - 1)).toNat) (0 : Int)))) x2) (hF.ev rfl) (hF.ev rfl) rfl hk110 rfl) ?_; clear hF; intro a hF
      refine op_val (v := .int .i64 (Int.tmod (w64 ((x0.getD ((w64 ((w64 (x1 + 1)) - 1)).toNat) (0 : Int)))) x2)) rfl rfl hF rfl (run_assign rfl (hF.ev rfl)) ?_; clear hF; intro a hF
      refine wpList_nil ?_
      refine wp_ret ?_
      repeat with_reducible (first | refine then_ret ?_ | refine in_ret ?_ | refine in_nrm ?_)
      refine ret1_gw (.inl rfl) hF rfl (res_tmp (hF.ev rfl)) ?_
      obtain rfl := Option.some.inj hM
      exact ⟨rfl, S.selT (M := [.box g0 58 #[.slice A0 x0.length c0, .int .i64 (w64 (x1 + 1))]]) 1 [0] rfl rfl rfl⟩
  · replace hM := bif_t hc101 hM
    refine cond_t hF rfl hc101 ?_
    refine wp_seq ?_
    refine wp_region_lit ?_
    refine op_val (v := .int .i64 0) rfl rfl hF rfl (run_assign rfl rfl) ?_; clear hF; intro a hF
    refine wpList_nil ?_
    refine wp_ret ?_
    repeat with_reducible (first | refine then_ret ?_ | refine in_ret ?_ | refine in_nrm ?_)
    refine ret1_gw (.inl rfl) hF rfl (res_tmp (hF.ev rfl)) ?_
    obtain rfl := Option.some.inj hM
    exact ⟨rfl, S.selT (M := [.box g0 58 #[.slice A0 x0.length c0, .int .i64 (w64 (x1 + 1))]]) 1 [0] rfl rfl rfl⟩

set_option maxHeartbeats 4000000 in
theorem c_spec_l20Rd_odd {x0 : List Int} {x1 : Int} {x2 : Int} {A0 : Option Addr} {n0 c0 : Nat} {g0 : Nat} {w : World} {r : Bool × Int} {w0 : World} {X : List Asn} (h0 : Rt w0 1 eU A0 n0 c0 x0) (S : St w0 w (Asn.box g0 58 #[.slice A0 n0 c0, .int .i64 x1] :: X)) (hM : m_spec_l20Rd_odd x0 x1 x2 = some r) :
    Calls Tryd.prog 33 #[.pointer (some ⟨g0, 0, none⟩), .int .i64 x2] w (fun e w' => e = .returned (.bool r.1) ∧ St w0 w' (Asn.box g0 58 #[.slice A0 n0 c0, .int .i64 r.2] :: X)) := by
  obtain rfl := h0.len
  unfold m_spec_l20Rd_odd at hM
  refine calls_gw Tryd.func33 Tryd.ntmps33 rfl [(0, .pointer (some ⟨g0, 0, none⟩)), (1, .int .i64 x2)] ⟨rfl, rfl, trivial⟩ rfl ?_
  intro a hF
  refine wp_seq ?_
  refine wp_region_lit ?_
  refine op_val (v := .bool false) rfl rfl hF rfl (run_assign rfl rfl) ?_; clear hF; intro a hF
  refine wpList_nil ?_
  refine wp_seq ?_
  obtain ⟨o102, hM103, hM⟩ := bind_ex hM
  refine wp_cut (fun a u => ∃ (p101 : Bool × Int), p101 = o102 ∧ Fr a 15 [(4, .bool p101.1)] ∧ St w0 u (Asn.box g0 58 #[.slice A0 x0.length c0, .int .i64 p101.2] :: X)) ?_ ?_
  · have _ := trivial
    refine wp_region_lit ?_
    refine op_val (v := .int .i64 x2) rfl rfl hF rfl (run_move rfl (hF.ev rfl)) ?_; clear hF; intro a hF
    refine op_val (v := .bool (ltB 0 x2)) rfl rfl hF rfl (run_gtr (hF.ev rfl) rfl rfl) ?_; clear hF; intro a hF
    refine op_val (v := .bool (ltB 0 x2)) rfl rfl hF rfl (run_move rfl (hF.ev rfl)) ?_; clear hF; intro a hF
    refine op_gv (v := .pointer (some ⟨g0, 0, none⟩)) rfl rfl hF rfl (yt (gw_yield hF rfl rfl rfl)) (fun hg => (run_move rfl (hF.ev rfl))) ?_; clear hF; intro a hF
    refine op_gv (v := .int .i64 x2) rfl rfl hF rfl (yt (gw_yield hF rfl rfl rfl)) (fun hg => (run_move rfl (hF.ev rfl))) ?_; clear hF; intro a hF
    cases hc104 : (ltB 0 x2)
    · replace hM103 := bif_f hc104 hM103
      refine op_skipped rfl ((gw_yield hF rfl rfl rfl).trans (congrArg some hc104)) rfl rfl hF rfl ?_; clear hF; intro a hF
      refine op_skipped rfl ((gw_yield hF rfl rfl rfl).trans (congrArg some hc104)) rfl rfl hF rfl ?_; clear hF; intro a hF
      refine op_skipped rfl ((gw_yield hF rfl rfl rfl).trans (congrArg some hc104)) rfl rfl hF rfl ?_; clear hF; intro a hF
      refine op_skipped rfl ((gw_yield hF rfl rfl rfl).trans (congrArg some hc104)) rfl rfl hF rfl ?_; clear hF; intro a hF
      refine op_val (v := .bool false) rfl rfl hF rfl (run_pick_f rfl (hF.ev rfl) hc104 rfl) ?_; clear hF; intro a hF
      refine op_val (v := .bool false) rfl rfl hF rfl (run_assign rfl (hF.ev rfl)) ?_; clear hF; intro a hF
      refine wpList_nil ?_
      obtain rfl := Option.some.inj hM103
      exact ⟨(false, x1), rfl, hF.keep _ ⟨rfl, trivial⟩, S.selT (M := [.box g0 58 #[.slice A0 x0.length c0, .int .i64 x1]]) 1 [0] rfl rfl rfl⟩
    · replace hM103 := bif_t hc104 hM103
      refine op_guarded rfl ((gw_yield hF rfl rfl rfl).trans (congrArg some hc104)) ?_
      obtain ⟨p105, h105, hM103⟩ := bind_ex hM103
      refine op_call rfl rfl hF rfl (run_call (vs := [.pointer (some ⟨g0, 0, none⟩), .int .i64 x2]) rfl rfl co26 ⟨((hF.ev rfl).trans (gv_t hc104)), ((hF.ev rfl).trans (gv_t hc104)), trivial⟩) (c_spec_l20Rd_pick (x0 := x0) (x1 := x1) (x2 := x2) ⟨h0.rc, rfl⟩ (show St w0 _ (Asn.box g0 58 #[.slice A0 x0.length c0, .int .i64 x1] :: X) from S.selT (M := [.box g0 58 #[.slice A0 x0.length c0, .int .i64 x1]]) 1 [0] rfl rfl rfl) h105) ?_
      rintro e u ⟨rfl, T⟩
      refine ⟨_, rfl, ?_⟩
      clear hF; intro a hF
      clear S; have S := T; clear T
      refine op_guarded rfl ((gw_yield hF rfl rfl rfl).trans (congrArg some hc104)) ?_
      refine op_val (v := .int .i64 x2) rfl rfl hF rfl (run_move rfl (hF.ev rfl)) ?_; clear hF; intro a hF
      refine op_guarded rfl ((gw_yield hF rfl rfl rfl).trans (congrArg some hc104)) ?_
      refine op_val (v := .int .i64 (w64 (x2 - 1))) rfl rfl hF rfl (run_sub (z := w64 (x2 - 1)) (hF.ev rfl) rfl rfl rfl) ?_; clear hF; intro a hF
      refine op_guarded rfl ((gw_yield hF rfl rfl rfl).trans (congrArg some hc104)) ?_
      refine op_val (v := .bool (p105.1 == (w64 (x2 - 1)))) rfl rfl hF rfl (run_eql (hF.ev rfl) (hF.ev rfl) rfl) ?_; clear hF; intro a hF
      refine op_val (v := .bool (p105.1 == (w64 (x2 - 1)))) rfl rfl hF rfl (run_pick_t rfl (hF.ev rfl) hc104 (hF.ev rfl)) ?_; clear hF; intro a hF
      refine op_val (v := .bool (p105.1 == (w64 (x2 - 1)))) rfl rfl hF rfl (run_assign rfl (hF.ev rfl)) ?_; clear hF; intro a hF
      refine wpList_nil ?_
      obtain rfl := Option.some.inj hM103
      exact ⟨(p105.1 == (w64 (x2 - 1)), p105.2), rfl, hF.keep _ ⟨rfl, trivial⟩, S.selT (M := [.box g0 58 #[.slice A0 x0.length c0, .int .i64 p105.2]]) 1 [0] rfl rfl rfl⟩
  · rintro a u ⟨p101, rfl, hF, S⟩
    refine wp_ret ?_
    repeat with_reducible (first | refine then_ret ?_ | refine in_ret ?_ | refine in_nrm ?_)
    refine ret1_gw (.inl rfl) hF rfl (res_tmp (hF.ev rfl)) ?_
    obtain rfl := Option.some.inj hM
    exact ⟨rfl, S.selT (M := [.box g0 58 #[.slice A0 x0.length c0, .int .i64 p101.2]]) 1 [0] rfl rfl rfl⟩

set_option maxHeartbeats 4000000 in
theorem c_spec_l20Bars {x0 : List Int} {x1 : Int} {x2 : Int} {A0 : Option Addr} {n0 c0 : Nat} {g0 : Nat} {w : World} {r : List Int × Bool × Int} {w0 : World} {X : List Asn} (h0 : Rt w0 1 eU A0 n0 c0 x0) (S : St w0 w (Asn.box g0 58 #[.slice A0 n0 c0, .int .i64 x1] :: X)) (hM : m_spec_l20Bars x0 x1 x2 = some r) :
    Calls Tryd.prog 25 #[.pointer (some ⟨g0, 0, none⟩), .int .i64 x2] w (fun e w' => ∃ (B0 : Option Addr) (N0 D0 : Nat), e = .returned (.agg #[.slice B0 N0 D0, .bool r.2.1]) ∧ N0 = r.1.length ∧ St w0 w' (Asn.row 3 1 (.slice B0 N0 D0) N0 (r.1.flatMap eI) :: Asn.box g0 58 #[.slice A0 n0 c0, .int .i64 r.2.2] :: X)) := by
  obtain rfl := h0.len
  unfold m_spec_l20Bars at hM
  refine calls_gw Tryd.func25 Tryd.ntmps25 rfl [(0, .pointer (some ⟨g0, 0, none⟩)), (1, .int .i64 x2)] ⟨rfl, rfl, trivial⟩ rfl ?_
  intro a hF
  refine wp_seq ?_
  refine wp_region_lit ?_
  refine op_new (cs := #[.slice none 0 0, .bool false]) rfl rfl hF rfl S (run_allocZ rfl zr25) ?_; clear hF S; intro a g101 u hF S
  refine wpList_nil ?_
  refine wp_seq ?_
  refine wp_region_lit ?_
  refine op_val (v := .pointer (some ⟨g0, 0, none⟩)) rfl rfl hF rfl (run_move rfl (hF.ev rfl)) ?_; clear hF; intro a hF
  obtain ⟨p102, h102, hM⟩ := bind_ex hM
  refine op_call rfl rfl hF rfl (run_call (vs := [.pointer (some ⟨g0, 0, none⟩), .int .i64 2]) rfl rfl co26 ⟨(hF.ev rfl), rfl, trivial⟩) (c_spec_l20Rd_pick (x0 := x0) (x1 := x1) (x2 := 2) ⟨h0.rc, rfl⟩ (show St w0 _ (Asn.box g0 58 #[.slice A0 x0.length c0, .int .i64 x1] :: Asn.box g101 25 #[.slice none 0 0, .bool false] :: X) from S.selT (M := [.box g0 58 #[.slice A0 x0.length c0, .int .i64 x1], .box g101 25 #[.slice none 0 0, .bool false]]) 2 [1, 0] rfl rfl rfl) h102) ?_
  rintro e u ⟨rfl, T⟩
  refine ⟨_, rfl, ?_⟩
  clear hF; intro a hF
  clear S; have S := T; clear T
  refine op_val (v := .bool (p102.1 == 0)) rfl rfl hF rfl (run_eql (hF.ev rfl) rfl rfl) ?_; clear hF; intro a hF
  refine op_val (v := .agg #[.slice none 0 0, .bool (p102.1 == 0)]) rfl rfl hF rfl (run_build (vs := [(1, .bool (p102.1 == 0))]) rfl ⟨⟨rfl, (hF.ev rfl)⟩, trivial⟩ (bd25_1 rfl)) ?_; clear hF; intro a hF
  refine op_new (cs := #[.slice none 0 0, .bool false]) rfl rfl hF rfl S (run_allocZ rfl zr25) ?_; clear hF S; intro a g103 u hF S
  refine op_do rfl rfl (run_store (cs' := #[.slice none 0 0, .bool (p102.1 == 0)]) rfl sz25 (hF.ev rfl) (hF.ev rfl) rfl rfl rfl (S.free 0 rfl) rfl rfl) ?_; replace S := S.put 0 rfl (#[.slice none 0 0, .bool (p102.1 == 0)])
  generalize World.setRow _ _ _ = u at S ⊢
  refine wpList_nil ?_
  refine wp_seq ?_
  refine wp_seq ?_
  refine wp_region_lit ?_
  refine op_val (v := .pointer (some ⟨g0, 0, none⟩)) rfl rfl hF rfl (run_move rfl (hF.ev rfl)) ?_; clear hF; intro a hF
  obtain ⟨p104, h104, hM⟩ := bind_ex hM
  refine op_call rfl rfl hF rfl (run_call (vs := [.pointer (some ⟨g0, 0, none⟩), .int .i64 6]) rfl rfl co26 ⟨(hF.ev rfl), rfl, trivial⟩) (c_spec_l20Rd_pick (x0 := x0) (x1 := p102.2) (x2 := 6) ⟨h0.rc, rfl⟩ (show St w0 _ (Asn.box g0 58 #[.slice A0 x0.length c0, .int .i64 p102.2] :: Asn.box g103 25 #[.slice none 0 0, .bool (p102.1 == 0)] :: Asn.box g101 25 #[.slice none 0 0, .bool false] :: X) from S.selT (M := [.box g0 58 #[.slice A0 x0.length c0, .int .i64 p102.2], .box g103 25 #[.slice none 0 0, .bool (p102.1 == 0)], .box g101 25 #[.slice none 0 0, .bool false]]) 3 [1, 0, 2] rfl rfl rfl) h104) ?_
  rintro e u ⟨rfl, T⟩
  refine ⟨_, rfl, ?_⟩
  clear hF; intro a hF
  clear S; have S := T; clear T
  refine op_val (v := .int .i64 (w64 (1 + p104.1))) rfl rfl hF rfl (run_add (z := w64 (1 + p104.1)) rfl (hF.ev rfl) rfl rfl) ?_; clear hF; intro a hF
  refine op_val (v := .int .i64 (w64 (1 + p104.1))) rfl rfl hF rfl (run_assign rfl (hF.ev rfl)) ?_; clear hF; intro a hF
  refine wpList_nil ?_
  obtain ⟨o106, hM109, hM⟩ := bind_ex hM
  refine wp_cut (fun a u => ∃ (p105 : Int × List Int) (B107 : Option Addr) (d108 : Nat), p105 = o106 ∧ Fr a 59 [(0, .pointer (some ⟨g0, 0, none⟩)), (1, .int .i64 x2), (4, .pointer (some ⟨g101, 0, none⟩)), (5, .pointer (some ⟨g103, 0, none⟩))] ∧ St w0 u (Asn.box g0 58 #[.slice A0 x0.length c0, .int .i64 p105.1] :: Asn.box g103 25 #[.slice B107 p105.2.length d108, .bool (p102.1 == 0)] :: Asn.box g101 25 #[.slice none 0 0, .bool false] :: Asn.row 3 1 (.slice B107 p105.2.length d108) p105.2.length (p105.2.flatMap eI) :: X)) ?_ ?_
  · have _ := trivial
    refine wp_block ?_
    replace S := S.nilrow 3 1
    refine loop_gw (fun m a u => ∃ (p110 : Int × Int × List Int) (B111 : Option Addr) (d112 : Nat), m_spec_l20Bars_l1 x0 p102 m p110 = some _ ∧ Fr a 59 [(0, .pointer (some ⟨g0, 0, none⟩)), (1, .int .i64 x2), (4, .pointer (some ⟨g101, 0, none⟩)), (5, .pointer (some ⟨g103, 0, none⟩)), (6, .int .i64 p110.1)] ∧ St w0 u (Asn.box g0 58 #[.slice A0 x0.length c0, .int .i64 p110.2.1] :: Asn.box g103 25 #[.slice B111 p110.2.2.length d112, .bool (p102.1 == 0)] :: Asn.box g101 25 #[.slice none 0 0, .bool false] :: Asn.row 3 1 (.slice B111 p110.2.2.length d112) p110.2.2.length (p110.2.2.flatMap eI) :: X)) FUEL ⟨(w64 (1 + p104.1), p104.2, ([] : List Int)), none, 0, hM109, hF.keep _ ⟨rfl, rfl, rfl, rfl, rfl, trivial⟩, S.selT (M := [.box g0 58 #[.slice A0 x0.length c0, .int .i64 p104.2], .box g103 25 #[.slice none 0 0, .bool (p102.1 == 0)], .box g101 25 #[.slice none 0 0, .bool false], .row 3 1 (.slice none 0 0) 0 (([] : List Int).flatMap eI)]) 4 [1, 2, 3, 0] rfl rfl rfl⟩ ?_
    clear hF S hM109; rintro m a u ⟨p110, B111, d112, hM109, hF, S⟩
    rcases m with _ | f1
    · exact none_some hM109
    rw [m_spec_l20Bars_l1.eq_2] at hM109
    refine wp_seq ?_
    refine wp_seq ?_
    refine wp_region_lit ?_
    refine op_val (v := .int .i64 p110.1) rfl rfl hF rfl (run_move rfl (hF.ev rfl)) ?_; clear hF; intro a hF
    refine op_val (v := .bool (ltB 0 p110.1)) rfl rfl hF rfl (run_gtr (hF.ev rfl) rfl rfl) ?_; clear hF; intro a hF
    refine wpList_nil ?_
    cases hc113 : (ltB 0 p110.1)
    · replace hM109 := bif_f hc113 hM109
      refine cond_f hF rfl hc113 ?_
      refine wp_exit ?_
      repeat with_reducible (first | refine then_exit ?_ | refine in_hit ?_ | refine in_miss rfl ?_)
      obtain rfl := Option.some.inj hM109
      exact ⟨(p110.2.1, p110.2.2), B111, d112, rfl, hF.keep _ ⟨rfl, rfl, rfl, rfl, trivial⟩, S.selT (M := [.box g0 58 #[.slice A0 x0.length c0, .int .i64 p110.2.1], .box g103 25 #[.slice B111 p110.2.2.length d112, .bool (p102.1 == 0)], .box g101 25 #[.slice none 0 0, .bool false], .row 3 1 (.slice B111 p110.2.2.length d112) p110.2.2.length (p110.2.2.flatMap eI)]) 4 [0, 1, 2, 3] rfl rfl rfl⟩
    · replace hM109 := bif_t hc113 hM109
      refine cond_t hF rfl hc113 ?_
      refine wp_skip ?_
      refine wp_seq ?_
      refine wp_block ?_
      refine wp_seq ?_
      refine wp_region_lit ?_
      refine op_val (v := .pointer (some ⟨g0, 0, none⟩)) rfl rfl hF rfl (run_move rfl (hF.ev rfl)) ?_; clear hF; intro a hF
      obtain ⟨p114, h114, hM109⟩ := bind_ex hM109
      refine op_call rfl rfl hF rfl (run_call (vs := [.pointer (some ⟨g0, 0, none⟩), .int .i64 2]) rfl rfl co26 ⟨(hF.ev rfl), rfl, trivial⟩) (c_spec_l20Rd_pick (x0 := x0) (x1 := p110.2.1) (x2 := 2) ⟨h0.rc, rfl⟩ (show St w0 _ (Asn.box g0 58 #[.slice A0 x0.length c0, .int .i64 p110.2.1] :: Asn.box g103 25 #[.slice B111 p110.2.2.length d112, .bool (p102.1 == 0)] :: Asn.box g101 25 #[.slice none 0 0, .bool false] :: Asn.row 3 1 (.slice B111 p110.2.2.length d112) p110.2.2.length (p110.2.2.flatMap eI) :: X) from S.selT (M := [.box g0 58 #[.slice A0 x0.length c0, .int .i64 p110.2.1], .box g103 25 #[.slice B111 p110.2.2.length d112, .bool (p102.1 == 0)], .box g101 25 #[.slice none 0 0, .bool false], .row 3 1 (.slice B111 p110.2.2.length d112) p110.2.2.length (p110.2.2.flatMap eI)]) 4 [0, 1, 2, 3] rfl rfl rfl) h114) ?_
      rintro e u ⟨rfl, T⟩
      refine ⟨_, rfl, ?_⟩
      clear hF; intro a hF
      clear S; have S := T; clear T
      refine op_val (v := .int .i64 (w64 (1 + p114.1))) rfl rfl hF rfl (run_add (z := w64 (1 + p114.1)) rfl (hF.ev rfl) rfl rfl) ?_; clear hF; intro a hF
      refine op_val (v := .int .i64 (w64 (1 + p114.1))) rfl rfl hF rfl (run_assign rfl (hF.ev rfl)) ?_; clear hF; intro a hF
      refine wpList_nil ?_
      refine wp_seq ?_
      refine wp_seq ?_
      obtain ⟨o116, hM117, hM109⟩ := bind_ex hM109
      refine wp_cut (fun a u => ∃ (p115 : Bool × Int), p115 = o116 ∧ Fr a 59 [(0, .pointer (some ⟨g0, 0, none⟩)), (1, .int .i64 x2), (4, .pointer (some ⟨g101, 0, none⟩)), (5, .pointer (some ⟨g103, 0, none⟩)), (6, .int .i64 p110.1), (7, .int .i64 (w64 (1 + p114.1))), (28, .bool p115.1)] ∧ St w0 u (Asn.box g0 58 #[.slice A0 x0.length c0, .int .i64 p115.2] :: Asn.box g103 25 #[.slice B111 p110.2.2.length d112, .bool (p102.1 == 0)] :: Asn.box g101 25 #[.slice none 0 0, .bool false] :: Asn.row 3 1 (.slice B111 p110.2.2.length d112) p110.2.2.length (p110.2.2.flatMap eI) :: X)) ?_ ?_
      · have _ := trivial
        refine wp_region_lit ?_
        refine op_val (v := .pointer (some ⟨g103, 1, none⟩)) rfl rfl hF rfl (run_fieldAddr rfl fl25_1 (hF.ev rfl) rfl) ?_; clear hF; intro a hF
        refine op_val (v := .bool (p102.1 == 0)) rfl rfl hF rfl (run_load1 rfl one4 (hF.ev rfl) ((S.free 1 rfl).cell rfl)) ?_; clear hF; intro a hF
        refine op_val (v := .bool (p102.1 == 0)) rfl rfl hF rfl (run_move rfl (hF.ev rfl)) ?_; clear hF; intro a hF
        refine op_gv (v := .pointer (some ⟨g0, 0, none⟩)) rfl rfl hF rfl (yt (gw_yield hF rfl rfl rfl)) (fun hg => (run_move rfl (hF.ev rfl))) ?_; clear hF; intro a hF
        rcases (Bool.eq_false_or_eq_true (p102.1 == 0)).symm with hc118 | hc118
        · replace hM117 := bif_f hc118 hM117
          refine op_skipped rfl ((gw_yield hF rfl rfl rfl).trans (congrArg some hc118)) rfl rfl hF rfl ?_; clear hF; intro a hF
          refine op_skipped rfl ((gw_yield hF rfl rfl rfl).trans (congrArg some hc118)) rfl rfl hF rfl ?_; clear hF; intro a hF
          refine op_val (v := .bool false) rfl rfl hF rfl (run_pick_f rfl (hF.ev rfl) hc118 rfl) ?_; clear hF; intro a hF
          refine wpList_nil ?_
          obtain rfl := Option.some.inj hM117
          exact ⟨(false, p114.2), rfl, hF.keep _ ⟨rfl, rfl, rfl, rfl, rfl, rfl, rfl, trivial⟩, S.selT (M := [.box g0 58 #[.slice A0 x0.length c0, .int .i64 p114.2], .box g103 25 #[.slice B111 p110.2.2.length d112, .bool (p102.1 == 0)], .box g101 25 #[.slice none 0 0, .bool false], .row 3 1 (.slice B111 p110.2.2.length d112) p110.2.2.length (p110.2.2.flatMap eI)]) 4 [0, 1, 2, 3] rfl rfl rfl⟩
        · replace hM117 := bif_t hc118 hM117
          refine op_guarded rfl ((gw_yield hF rfl rfl rfl).trans (congrArg some hc118)) ?_
          obtain ⟨p119, h119, hM117⟩ := bind_ex hM117
          refine op_call rfl rfl hF rfl (run_call (vs := [.pointer (some ⟨g0, 0, none⟩), .int .i64 4]) rfl rfl co26 ⟨((hF.ev rfl).trans (gv_t hc118)), rfl, trivial⟩) (c_spec_l20Rd_pick (x0 := x0) (x1 := p114.2) (x2 := 4) ⟨h0.rc, rfl⟩ (show St w0 _ (Asn.box g0 58 #[.slice A0 x0.length c0, .int .i64 p114.2] :: Asn.box g103 25 #[.slice B111 p110.2.2.length d112, .bool (p102.1 == 0)] :: Asn.box g101 25 #[.slice none 0 0, .bool false] :: Asn.row 3 1 (.slice B111 p110.2.2.length d112) p110.2.2.length (p110.2.2.flatMap eI) :: X) from S.selT (M := [.box g0 58 #[.slice A0 x0.length c0, .int .i64 p114.2], .box g103 25 #[.slice B111 p110.2.2.length d112, .bool (p102.1 == 0)], .box g101 25 #[.slice none 0 0, .bool false], .row 3 1 (.slice B111 p110.2.2.length d112) p110.2.2.length (p110.2.2.flatMap eI)]) 4 [0, 1, 2, 3] rfl rfl rfl) h119) ?_
          rintro e u ⟨rfl, T⟩
          refine ⟨_, rfl, ?_⟩
          clear hF; intro a hF
          clear S; have S := T; clear T
          refine op_guarded rfl ((gw_yield hF rfl rfl rfl).trans (congrArg some hc118)) ?_
          refine op_val (v := .bool (p119.1 == 0)) rfl rfl hF rfl (run_eql (hF.ev rfl) rfl rfl) ?_; clear hF; intro a hF
          refine op_val (v := .bool (p119.1 == 0)) rfl rfl hF rfl (run_pick_t rfl (hF.ev rfl) hc118 (hF.ev rfl)) ?_; clear hF; intro a hF
          refine wpList_nil ?_
          obtain rfl := Option.some.inj hM117
          exact ⟨(p119.1 == 0, p119.2), rfl, hF.keep _ ⟨rfl, rfl, rfl, rfl, rfl, rfl, rfl, trivial⟩, S.selT (M := [.box g0 58 #[.slice A0 x0.length c0, .int .i64 p119.2], .box g103 25 #[.slice B111 p110.2.2.length d112, .bool (p102.1 == 0)], .box g101 25 #[.slice none 0 0, .bool false], .row 3 1 (.slice B111 p110.2.2.length d112) p110.2.2.length (p110.2.2.flatMap eI)]) 4 [0, 1, 2, 3] rfl rfl rfl⟩
      · rintro a u ⟨p115, rfl, hF, S⟩
        obtain ⟨o121, hM122, hM109⟩ := bind_ex hM109
        refine wp_cut (fun a u => ∃ (p120 : Int), p120 = o121 ∧ Fr a 59 [(0, .pointer (some ⟨g0, 0, none⟩)), (1, .int .i64 x2), (4, .pointer (some ⟨g101, 0, none⟩)), (5, .pointer (some ⟨g103, 0, none⟩)), (6, .int .i64 p110.1), (7, .int .i64 p120)] ∧ St w0 u (Asn.box g0 58 #[.slice A0 x0.length c0, .int .i64 p115.2] :: Asn.box g103 25 #[.slice B111 p110.2.2.length d112, .bool (p102.1 == 0)] :: Asn.box g101 25 #[.slice none 0 0, .bool false] :: Asn.row 3 1 (.slice B111 p110.2.2.length d112) p110.2.2.length (p110.2.2.flatMap eI) :: X)) ?_ ?_
        · have _ := trivial
          cases hc123 : (p115.1)
          · replace hM122 := bif_f hc123 hM122
            refine cond_f hF rfl hc123 ?_
            refine wp_skip ?_
            obtain rfl := Option.some.inj hM122
            exact ⟨w64 (1 + p114.1), rfl, hF.keep _ ⟨rfl, rfl, rfl, rfl, rfl, rfl, trivial⟩, S.selT (M := [.box g0 58 #[.slice A0 x0.length c0, .int .i64 p115.2], .box g103 25 #[.slice B111 p110.2.2.length d112, .bool (p102.1 == 0)], .box g101 25 #[.slice none 0 0, .bool false], .row 3 1 (.slice B111 p110.2.2.length d112) p110.2.2.length (p110.2.2.flatMap eI)]) 4 [0, 1, 2, 3] rfl rfl rfl⟩
          · replace hM122 := bif_t hc123 hM122
            refine cond_t hF rfl hc123 ?_
            refine wp_region_lit ?_
            refine op_val (v := .int .i64 3) rfl rfl hF rfl (run_assign rfl rfl) ?_; clear hF; intro a hF
            refine wpList_nil ?_
            obtain rfl := Option.some.inj hM122
            exact ⟨3, rfl, hF.keep _ ⟨rfl, rfl, rfl, rfl, rfl, rfl, trivial⟩, S.selT (M := [.box g0 58 #[.slice A0 x0.length c0, .int .i64 p115.2], .box g103 25 #[.slice B111 p110.2.2.length d112, .bool (p102.1 == 0)], .box g101 25 #[.slice none 0 0, .bool false], .row 3 1 (.slice B111 p110.2.2.length d112) p110.2.2.length (p110.2.2.flatMap eI)]) 4 [0, 1, 2, 3] rfl rfl rfl⟩
        · rintro a u ⟨p120, rfl, hF, S⟩
          refine wp_region_lit ?_
          refine op_val (v := .pointer (some ⟨g103, 0, none⟩)) rfl rfl hF rfl (run_fieldAddr rfl fl25_0 (hF.ev rfl) rfl) ?_; clear hF; intro a hF
          refine op_val (v := .slice B111 p110.2.2.length d112) rfl rfl hF rfl (run_load1 rfl one23 (hF.ev rfl) ((S.free 1 rfl).cell rfl)) ?_; clear hF; intro a hF
          refine op_val (v := .int .i64 p120) rfl rfl hF rfl (run_move rfl (hF.ev rfl)) ?_; clear hF; intro a hF
          refine op_newrowL (ls := (([p120] : List Int) : List Int)) (e := eI) rfl rfl hF rfl S (run_buildS (vs := [(0, .int .i64 p120)]) rfl ⟨⟨rfl, (hF.ev rfl)⟩, trivial⟩ (bs23_1_0 rfl)) rfl eI_len (Nat.le_of_ble_eq_true rfl) ?_; clear hF S; intro a g124 u hF S
          obtain ⟨hk127, hM109⟩ := chk_ex hM109
          replace hk127 := apB_t hk127
          refine op_appendL (lx := p110.2.2) (ly := ([p120] : List Int)) rfl rfl hF rfl S rfl (hF.ev rfl) (hF.ev rfl) (i := 4) rfl rfl Tryd.underlying23 inf3 rfl (by decide) (S.rc 0 rfl).rd rfl eI_one hk127 (by decide) ?_; clear hF S; intro a B125 d126 u hF S
          refine op_val (v := .pointer (some ⟨g103, 0, none⟩)) rfl rfl hF rfl (run_fieldAddr rfl fl25_0 (hF.ev rfl) rfl) ?_; clear hF; intro a hF
          refine op_do rfl rfl (run_store (cs' := #[.slice B125 ((p110.2.2 ++ ([p120] : List Int)).length) d126, .bool (p102.1 == 0)]) rfl sz23 (hF.ev rfl) (hF.ev rfl) rfl rfl rfl (S.free 2 rfl) rfl rfl) ?_; replace S := S.put 2 rfl (#[.slice B125 ((p110.2.2 ++ ([p120] : List Int)).length) d126, .bool (p102.1 == 0)])
          generalize World.setRow _ _ _ = u at S ⊢
          refine wpList_nil ?_
          refine wp_region_lit ?_
          refine op_val (v := .int .i64 p110.1) rfl rfl hF rfl (run_move rfl (hF.ev rfl)) ?_; clear hF; intro a hF
          refine op_val (v := .int .i64 (w64 (p110.1 - 1))) rfl rfl hF rfl (run_sub (z := w64 (p110.1 - 1)) (hF.ev rfl) rfl rfl rfl) ?_; clear hF; intro a hF
          refine op_val (v := .int .i64 (w64 (p110.1 - 1))) rfl rfl hF rfl (run_assign rfl (hF.ev rfl)) ?_; clear hF; intro a hF
          refine wpList_nil ?_
          exact ⟨f1, Nat.lt_succ_self _, (w64 (p110.1 - 1), p115.2, p110.2.2 ++ ([p120] : List Int)), B125, d126, hM109, hF.keep _ ⟨rfl, rfl, rfl, rfl, rfl, trivial⟩, S.selT (M := [.box g0 58 #[.slice A0 x0.length c0, .int .i64 p115.2], .box g103 25 #[.slice B125 ((p110.2.2 ++ ([p120] : List Int)).length) d126, .bool (p102.1 == 0)], .box g101 25 #[.slice none 0 0, .bool false], .row 3 1 (.slice B125 ((p110.2.2 ++ ([p120] : List Int)).length) d126) ((p110.2.2 ++ ([p120] : List Int)).length) ((p110.2.2 ++ ([p120] : List Int)).flatMap eI)]) 5 [1, 2, 3, 4] rfl rfl rfl⟩
  · rintro a u ⟨p105, B107, d108, rfl, hF, S⟩
    refine wp_seq ?_
    refine wp_seq ?_
    refine wp_region_lit ?_
    refine op_val (v := .pointer (some ⟨g0, 0, none⟩)) rfl rfl hF rfl (run_move rfl (hF.ev rfl)) ?_; clear hF; intro a hF
    refine op_val (v := .int .i64 x2) rfl rfl hF rfl (run_move rfl (hF.ev rfl)) ?_; clear hF; intro a hF
    obtain ⟨p128, h128, hM⟩ := bind_ex hM
    refine op_call rfl rfl hF rfl (run_call (vs := [.pointer (some ⟨g0, 0, none⟩), .int .i64 x2]) rfl rfl co33 ⟨(hF.ev rfl), (hF.ev rfl), trivial⟩) (c_spec_l20Rd_odd (x0 := x0) (x1 := p105.1) (x2 := x2) ⟨h0.rc, rfl⟩ (show St w0 _ (Asn.box g0 58 #[.slice A0 x0.length c0, .int .i64 p105.1] :: Asn.box g103 25 #[.slice B107 p105.2.length d108, .bool (p102.1 == 0)] :: Asn.box g101 25 #[.slice none 0 0, .bool false] :: Asn.row 3 1 (.slice B107 p105.2.length d108) p105.2.length (p105.2.flatMap eI) :: X) from S.selT (M := [.box g0 58 #[.slice A0 x0.length c0, .int .i64 p105.1], .box g103 25 #[.slice B107 p105.2.length d108, .bool (p102.1 == 0)], .box g101 25 #[.slice none 0 0, .bool false], .row 3 1 (.slice B107 p105.2.length d108) p105.2.length (p105.2.flatMap eI)]) 4 [0, 1, 2, 3] rfl rfl rfl) h128) ?_
    rintro e u ⟨rfl, T⟩
    refine ⟨_, rfl, ?_⟩
    clear hF; intro a hF
    clear S; have S := T; clear T
    refine wpList_nil ?_
    obtain ⟨o130, hM133, hM⟩ := bind_ex hM
    refine wp_cut (fun a u => ∃ (p129 : Int × List Int × Bool) (B131 : Option Addr) (d132 : Nat), p129 = o130 ∧ Fr a 59 [(4, .pointer (some ⟨g101, 0, none⟩)), (5, .pointer (some ⟨g103, 0, none⟩))] ∧ St w0 u (Asn.box g0 58 #[.slice A0 x0.length c0, .int .i64 p129.1] :: Asn.box g103 25 #[.slice B131 p129.2.1.length d132, .bool p129.2.2] :: Asn.box g101 25 #[.slice none 0 0, .bool false] :: Asn.row 3 1 (.slice B131 p129.2.1.length d132) p129.2.1.length (p129.2.1.flatMap eI) :: X)) ?_ ?_
    · have _ := trivial
      cases hc134 : (p128.1)
      · replace hM133 := bif_f hc134 hM133
        refine cond_f hF rfl hc134 ?_
        refine wp_skip ?_
        obtain rfl := Option.some.inj hM133
        exact ⟨(p128.2, p105.2, p102.1 == 0), B107, d108, rfl, hF.keep _ ⟨rfl, rfl, trivial⟩, S.selT (M := [.box g0 58 #[.slice A0 x0.length c0, .int .i64 p128.2], .box g103 25 #[.slice B107 p105.2.length d108, .bool (p102.1 == 0)], .box g101 25 #[.slice none 0 0, .bool false], .row 3 1 (.slice B107 p105.2.length d108) p105.2.length (p105.2.flatMap eI)]) 4 [0, 1, 2, 3] rfl rfl rfl⟩
      · replace hM133 := bif_t hc134 hM133
        refine cond_t hF rfl hc134 ?_
        refine wp_seq ?_
        refine wp_region_lit ?_
        refine op_val (v := .pointer (some ⟨g0, 0, none⟩)) rfl rfl hF rfl (run_move rfl (hF.ev rfl)) ?_; clear hF; intro a hF
        obtain ⟨p135, h135, hM133⟩ := bind_ex hM133
        refine op_call rfl rfl hF rfl (run_call (vs := [.pointer (some ⟨g0, 0, none⟩), .int .i64 3]) rfl rfl co26 ⟨(hF.ev rfl), rfl, trivial⟩) (c_spec_l20Rd_pick (x0 := x0) (x1 := p128.2) (x2 := 3) ⟨h0.rc, rfl⟩ (show St w0 _ (Asn.box g0 58 #[.slice A0 x0.length c0, .int .i64 p128.2] :: Asn.box g103 25 #[.slice B107 p105.2.length d108, .bool (p102.1 == 0)] :: Asn.box g101 25 #[.slice none 0 0, .bool false] :: Asn.row 3 1 (.slice B107 p105.2.length d108) p105.2.length (p105.2.flatMap eI) :: X) from S.selT (M := [.box g0 58 #[.slice A0 x0.length c0, .int .i64 p128.2], .box g103 25 #[.slice B107 p105.2.length d108, .bool (p102.1 == 0)], .box g101 25 #[.slice none 0 0, .bool false], .row 3 1 (.slice B107 p105.2.length d108) p105.2.length (p105.2.flatMap eI)]) 4 [0, 1, 2, 3] rfl rfl rfl) h135) ?_
        rintro e u ⟨rfl, T⟩
        refine ⟨_, rfl, ?_⟩
        clear hF; intro a hF
        clear S; have S := T; clear T
        refine wpList_nil ?_
        refine wp_block ?_
        refine wp_seq ?_
        refine wp_region_lit ?_
        refine op_val (v := .bool (p135.1 == 0)) rfl rfl hF rfl (run_eql (hF.ev rfl) rfl rfl) ?_; clear hF; intro a hF
        refine op_val (v := .bool (p135.1 == 0)) rfl rfl hF rfl (run_assign rfl (hF.ev rfl)) ?_; clear hF; intro a hF
        refine wpList_nil ?_
        obtain ⟨o137, hM140, hM133⟩ := bind_ex hM133
        refine wp_cut (fun a u => ∃ (p136 : Int × List Int × Bool) (B138 : Option Addr) (d139 : Nat), p136 = o137 ∧ Fr a 59 [(4, .pointer (some ⟨g101, 0, none⟩)), (5, .pointer (some ⟨g103, 0, none⟩))] ∧ St w0 u (Asn.box g0 58 #[.slice A0 x0.length c0, .int .i64 p136.1] :: Asn.box g103 25 #[.slice B138 p136.2.1.length d139, .bool p136.2.2] :: Asn.box g101 25 #[.slice none 0 0, .bool false] :: Asn.row 3 1 (.slice B138 p136.2.1.length d139) p136.2.1.length (p136.2.1.flatMap eI) :: X)) ?_ ?_
        · have _ := trivial
          cases hc141 : (p135.1 == 0)
          · replace hM140 := bif_f hc141 hM140
            refine cond_f hF rfl hc141 ?_
            refine wp_seq ?_
            refine wp_region_lit ?_
            refine op_val (v := .bool (p135.1 == 1)) rfl rfl hF rfl (run_eql (hF.ev rfl) rfl rfl) ?_; clear hF; intro a hF
            refine op_val (v := .bool (p135.1 == 1)) rfl rfl hF rfl (run_assign rfl (hF.ev rfl)) ?_; clear hF; intro a hF
            refine wpList_nil ?_
            obtain ⟨o143, hM146, hM140⟩ := bind_ex hM140
            refine wp_cut (fun a u => ∃ (p142 : List Int × Bool) (B144 : Option Addr) (d145 : Nat), p142 = o143 ∧ Fr a 59 [(4, .pointer (some ⟨g101, 0, none⟩)), (5, .pointer (some ⟨g103, 0, none⟩))] ∧ St w0 u (Asn.box g0 58 #[.slice A0 x0.length c0, .int .i64 p135.2] :: Asn.box g103 25 #[.slice B144 p142.1.length d145, .bool p142.2] :: Asn.box g101 25 #[.slice none 0 0, .bool false] :: Asn.row 3 1 (.slice B144 p142.1.length d145) p142.1.length (p142.1.flatMap eI) :: X)) ?_ ?_
            · have _ := trivial
              cases hc147 : (p135.1 == 1)
              · replace hM146 := bif_f hc147 hM146
                refine cond_f hF rfl hc147 ?_
                refine wp_region_lit ?_
                obtain ⟨hk149, hM146⟩ := chk_ex hM146
                replace hk149 := mkB_t hk149
                refine op_newrowL (m := (7 : Int).toNat) (ls := List.replicate ((7 : Int).toNat) (0 : Int)) (e := eI) rfl rfl hF rfl S (run_makeL rfl rfl rfl Tryd.underlying23 inf3 eI_len rfl (by decide) hk149) List.length_replicate eI_len (by rw [List.length_replicate]; omega) ?_; clear hF S; intro a g148 u hF S
                refine op_val (v := .pointer (some ⟨g103, 0, none⟩)) rfl rfl hF rfl (run_fieldAddr rfl fl25_0 (hF.ev rfl) rfl) ?_; clear hF; intro a hF
                refine op_do rfl rfl (run_store (cs' := #[.slice (some ⟨g148, 0, none⟩) ((7 : Int).toNat) ((7 : Int).toNat), .bool (p102.1 == 0)]) rfl sz23 (hF.ev rfl) (hF.ev rfl) rfl rfl rfl (S.free 2 rfl) rfl rfl) ?_; replace S := S.put 2 rfl (#[.slice (some ⟨g148, 0, none⟩) ((7 : Int).toNat) ((7 : Int).toNat), .bool (p102.1 == 0)])
                generalize World.setRow _ _ _ = u at S ⊢
                refine wpList_nil ?_
                obtain rfl := Option.some.inj hM146
                try rw [show (7 : Int).toNat = (List.replicate ((7 : Int).toNat) (0 : Int)).length from List.length_replicate.symm] at hF
                try rw [show (7 : Int).toNat = (List.replicate ((7 : Int).toNat) (0 : Int)).length from List.length_replicate.symm] at S
                exact ⟨(List.replicate ((7 : Int).toNat) (0 : Int), p102.1 == 0), (some ⟨g148, 0, none⟩), ((7 : Int).toNat), rfl, hF.keep _ ⟨rfl, rfl, trivial⟩, S.selT (M := [.box g0 58 #[.slice A0 x0.length c0, .int .i64 p135.2], .box g103 25 #[.slice (some ⟨g148, 0, none⟩) ((List.replicate ((7 : Int).toNat) (0 : Int)).length) ((7 : Int).toNat), .bool (p102.1 == 0)], .box g101 25 #[.slice none 0 0, .bool false], .row 3 1 (.slice (some ⟨g148, 0, none⟩) ((List.replicate ((7 : Int).toNat) (0 : Int)).length) ((7 : Int).toNat)) ((List.replicate ((7 : Int).toNat) (0 : Int)).length) ((List.replicate ((7 : Int).toNat) (0 : Int)).flatMap eI)]) 5 [1, 2, 3, 0] rfl rfl rfl⟩
              · replace hM146 := bif_t hc147 hM146
                refine cond_t hF rfl hc147 ?_
                refine wp_seq ?_
                refine wp_region_lit ?_
                refine op_val (v := .pointer (some ⟨g103, 0, none⟩)) rfl rfl hF rfl (run_fieldAddr rfl fl25_0 (hF.ev rfl) rfl) ?_; clear hF; intro a hF
                refine op_val (v := .slice B107 p105.2.length d108) rfl rfl hF rfl (run_load1 rfl one23 (hF.ev rfl) ((S.free 1 rfl).cell rfl)) ?_; clear hF; intro a hF
                obtain ⟨hk150, hM146⟩ := chk_ex hM146
                replace hk150 := ixB_t hk150
                refine op_val (v := .pointer (some ⟨adB B107, adO B107 + ((0 : Int).toNat) * 1, none⟩)) rfl rfl hF rfl (run_indexAddr (b := adB B107) (off := adO B107) rfl Tryd.underlying23 sz3 ((hF.ev rfl).trans (congrArg (fun A => Value.slice A p105.2.length d108) ((S.rc 3 rfl).rd.ad (ix_pos hk150)))) rfl hk150.1 hk150.2 (k' := adO B107 + ((0 : Int).toNat) * 1) rfl) ?_; clear hF; intro a hF
                obtain ⟨w', hrun, S'⟩ := run_storeElN (P := Tryd.prog) (ρ := a.eval) (y0 := 3) (off := 0) S 3 (.tmp 56) (.const (.int .i64 3)) (i := 3) sz3 (hF.ev rfl) rfl rfl rfl rfl rfl rfl eI_len (0 : Int) (ix_ltn hk150 rfl) rfl rfl
                refine op_do rfl rfl (hrun _ rfl) ?_; clear hrun S; have S := S'; clear S'; generalize w' = u at S ⊢
                refine wpList_nil ?_
                refine wp_region_lit ?_
                refine op_val (v := .pointer (some ⟨g103, 1, none⟩)) rfl rfl hF rfl (run_fieldAddr rfl fl25_1 (hF.ev rfl) rfl) ?_; clear hF; intro a hF
                refine op_do rfl rfl (run_store (cs' := #[.slice B107 p105.2.length d108, .bool false]) rfl sz4 (hF.ev rfl) rfl rfl rfl rfl (S.free 1 rfl) rfl rfl) ?_; replace S := S.put 1 rfl (#[.slice B107 p105.2.length d108, .bool false])
                generalize World.setRow _ _ _ = u at S ⊢
                refine wpList_nil ?_
                obtain rfl := Option.some.inj hM146
                try rw [show p105.2.length = (p105.2.set ((0 : Int).toNat) 3).length from (len_set rfl)] at hF
                try rw [show p105.2.length = (p105.2.set ((0 : Int).toNat) 3).length from (len_set rfl)] at S
                exact ⟨(p105.2.set ((0 : Int).toNat) 3, false), B107, d108, rfl, hF.keep _ ⟨rfl, rfl, trivial⟩, S.selT (M := [.box g0 58 #[.slice A0 x0.length c0, .int .i64 p135.2], .box g103 25 #[.slice B107 ((p105.2.set ((0 : Int).toNat) 3).length) d108, .bool false], .box g101 25 #[.slice none 0 0, .bool false], .row 3 1 (.slice B107 ((p105.2.set ((0 : Int).toNat) 3).length) d108) ((p105.2.set ((0 : Int).toNat) 3).length) ((p105.2.set ((0 : Int).toNat) 3).flatMap eI)]) 4 [0, 1, 2, 3] rfl rfl rfl⟩
            · rintro a u ⟨p142, B144, d145, rfl, hF, S⟩
              obtain rfl := Option.some.inj hM140
              exact ⟨(p135.2, p142.1, p142.2), B144, d145, rfl, hF.keep _ ⟨rfl, rfl, trivial⟩, S.selT (M := [.box g0 58 #[.slice A0 x0.length c0, .int .i64 p135.2], .box g103 25 #[.slice B144 p142.1.length d145, .bool p142.2], .box g101 25 #[.slice none 0 0, .bool false], .row 3 1 (.slice B144 p142.1.length d145) p142.1.length (p142.1.flatMap eI)]) 4 [0, 1, 2, 3] rfl rfl rfl⟩
          · replace hM140 := bif_t hc141 hM140
            refine cond_t hF rfl hc141 ?_
            obtain ⟨p151, h151, hM140⟩ := bind_ex hM140
            obtain ⟨hk152, hM140⟩ := chk_ex hM140
            replace hk152 := ixB_t hk152
            obtain ⟨hk153, hM140⟩ := chk_ex hM140
            replace hk153 := ixB_t hk153
            refine region_gw (D := [44, 45, 46, 47, 48, 49, 50, 51]) (Lr := (Asn.box g103 25 #[.slice B107 p105.2.length d108, .bool (p102.1 == 0)] :: Asn.box g101 25 #[.slice none 0 0, .bool false] :: X)) (deps := (fun | 0 => [44] | 1 => [45] | 2 => [46] | 3 => [47] | 4 => [48] | 5 => [49, 46] | 6 => [50] | 7 => [51] | 8 => [51] | _ => [])) (rd := (fun | 5 => [2] | 6 => [2] | _ => [])) (zr := (fun | 7 => [8] | _ => []))
              (φ := fun i vs => match i, vs with | 0, [v44] => v44 = .pointer (some ⟨g103, 0, none⟩) | 1, [v45] => v45 = .slice B107 p105.2.length d108 | 2, [v46] => v46 = .slice (slA v46) ((([0, 4, -1] : List Int) : List Int).length) ((([0, 4, -1] : List Int) : List Int).length) | 3, [v47] => v47 = .pointer (some ⟨g0, 0, none⟩) | 4, [v48] => v48 = .int .i64 p151.1 | 5, [v49, v46] => v49 = .pointer (some ⟨adB (slA v46), adO (slA v46) + p151.1.toNat * 1, none⟩) | 6, [v50] => v50 = .int .i64 (([0, 4, -1] : List Int).getD p151.1.toNat (0 : Int)) | 7, [v51] => v51 = .pointer (some ⟨adB B107, adO B107 + ((0 : Int).toNat) * 1, none⟩) | _, _ => True)
              (C := fun i vs => match i, vs with | 2, [v46] => [.row 3 1 (.slice (slA v46) ((([0, 4, -1] : List Int) : List Int).length) ((([0, 4, -1] : List Int) : List Int).length)) ((([0, 4, -1] : List Int) : List Int).length) (([0, 4, -1] : List Int).flatMap eI)] | 4, [v48] => [.box g0 58 #[.slice A0 x0.length c0, .int .i64 p151.2]] | 8, [v51] => [.row 3 1 (.slice B107 p105.2.length d108) p105.2.length ((p105.2.set ((0 : Int).toNat) (([0, 4, -1] : List Int).getD p151.1.toNat (0 : Int))).flatMap eI)] | _, _ => [])
              (κ := (fun _ => none)) (Z := (fun | 4 => [.box g0 58 #[.slice A0 x0.length c0, .int .i64 p135.2]] | 8 => [.row 3 1 (.slice B107 p105.2.length d108) p105.2.length (p105.2.flatMap eI)] | _ => [])) mixed hF (by kernel_rfl) (show St w0 _ (Asn.box g0 58 #[.slice A0 x0.length c0, .int .i64 p135.2] :: Asn.row 3 1 (.slice B107 p105.2.length d108) p105.2.length (p105.2.flatMap eI) :: Asn.box g103 25 #[.slice B107 p105.2.length d108, .bool (p102.1 == 0)] :: Asn.box g101 25 #[.slice none 0 0, .bool false] :: X) from S.selT (M := [.box g0 58 #[.slice A0 x0.length c0, .int .i64 p135.2], .row 3 1 (.slice B107 p105.2.length d108) p105.2.length (p105.2.flatMap eI), .box g103 25 #[.slice B107 p105.2.length d108, .bool (p102.1 == 0)], .box g101 25 #[.slice none 0 0, .bool false]]) 4 [0, 3, 1, 2] rfl rfl rfl) ?_ ?_
            · refine ⟨?_, ?_, ?_, ?_, ?_, ?_, ?_, ?_, ?_, trivial⟩
              · intro a u X' hB hu hp hr hz hl S
                replace S : St w0 u ([] ++ X') := S
                exact .inl ⟨rfl, .pointer (some ⟨g103, 0, none⟩), u, (run_fieldAddr rfl fl25_0 (hF.evB hB rfl rfl) rfl), rfl, S⟩
              · intro a u X' hB hu hp hr hz hl S
                replace S : St w0 u ([] ++ X') := S
                have e44 : sl a 44 = .pointer (some ⟨g103, 0, none⟩) := hp 0 rfl
                exact .inl ⟨rfl, .slice B107 p105.2.length d108, u, (run_load1 rfl one23 (ev_sl e44) ((gr_box S hl 0 rfl).cell rfl)), rfl, S⟩
              · intro a u X' hB hu hp hr hz hl S
                replace S : St w0 u ([] ++ X') := S
                exact .inl ⟨rfl, _, _, run_buildS (vs := [(0, .int .i64 0), (1, .int .i64 4), (2, .int .i64 (-1))]) rfl ⟨⟨rfl, (ev_const _ _)⟩, ⟨rfl, (ev_const _ _)⟩, ⟨rfl, (ev_const _ _)⟩, trivial⟩ (bs23_3_0_0_0 rfl rfl rfl), rfl, S.newrowL (e := eI) (ls := ([0, 4, -1] : List Int)) rfl eI_len (Nat.le_of_ble_eq_true rfl)⟩
              · intro a u X' hB hu hp hr hz hl S
                replace S : St w0 u ([] ++ X') := S
                exact .inl ⟨rfl, .pointer (some ⟨g0, 0, none⟩), u, (run_move rfl (hF.evB hB rfl rfl)), rfl, S⟩
              · intro a u X' hB hu hp hr hz hl S
                replace S : St w0 u ([.box g0 58 #[.slice A0 x0.length c0, .int .i64 p135.2]] ++ X') := S
                have e47 : sl a 47 = .pointer (some ⟨g0, 0, none⟩) := hp 3 rfl
                refine .inr (.inr (.inl ⟨rfl, _, _, (run_call (vs := [.pointer (some ⟨g0, 0, none⟩), .int .i64 3]) rfl rfl co26 ⟨(ev_sl e47), (ev_const _ _), trivial⟩), ?_⟩))
                refine Calls.mono (c_spec_l20Rd_pick (x0 := x0) (x1 := p135.2) (x2 := 3) ⟨h0.rc, rfl⟩ S h151) ?_
                rintro e w1 ⟨rfl, T⟩
                exact ⟨_, rfl, rfl, T⟩
              · intro a u X' hB hu hp hr hz hl S
                replace S : St w0 u ([] ++ X') := S
                have e46 : sl a 46 = .slice (slA (sl a 46)) ((([0, 4, -1] : List Int) : List Int).length) ((([0, 4, -1] : List Int) : List Int).length) := hp 2 rfl
                have e48 : sl a 48 = .int .i64 p151.1 := hp 4 rfl
                exact .inl ⟨rfl, .pointer (some ⟨adB (slA (sl a 46)), adO (slA (sl a 46)) + p151.1.toNat * 1, none⟩), u, (run_indexAddr (b := adB (slA (sl a 46))) (off := adO (slA (sl a 46))) rfl Tryd.underlying23 sz3 ((ev_sl e46).trans (congrArg (fun A => Value.slice A ((([0, 4, -1] : List Int) : List Int).length) ((([0, 4, -1] : List Int) : List Int).length)) ((own_rc (show World.ownsRow _ 0 _ _ _ _ _ from S.mem (List.mem_append_right _ (hr 2 (List.mem_of_getElem? (i := 0) rfl) _ (List.mem_of_getElem? (i := 0) rfl))))).rd.ad (ix_pos hk152)))) (ev_sl e48) hk152.1 hk152.2 (k' := adO (slA (sl a 46)) + p151.1.toNat * 1) rfl), rfl, S⟩
              · intro a u X' hB hu hp hr hz hl S
                replace S : St w0 u ([] ++ X') := S
                have e49 : sl a 49 = .pointer (some ⟨adB (slA (sl a 46)), adO (slA (sl a 46)) + p151.1.toNat * 1, none⟩) := hp 5 rfl
                exact .inl ⟨rfl, .int .i64 (([0, 4, -1] : List Int).getD p151.1.toNat (0 : Int)), u, (run_load1 rfl one3 (ev_sl e49) (rd_el0 (l := ([0, 4, -1] : List Int)) (own_rc (show World.ownsRow _ 0 _ _ _ _ _ from S.mem (List.mem_append_right _ (hr 2 (List.mem_of_getElem? (i := 0) rfl) _ (List.mem_of_getElem? (i := 0) rfl))))).rd rfl eI_len (0 : Int) (ix_ltn hk152 rfl) rfl)), rfl, S⟩
              · intro a u X' hB hu hp hr hz hl S
                replace S : St w0 u ([] ++ X') := S
                have e45 : sl a 45 = .slice B107 p105.2.length d108 := hp 1 rfl
                exact .inl ⟨rfl, .pointer (some ⟨adB B107, adO B107 + ((0 : Int).toNat) * 1, none⟩), u, (run_indexAddr (b := adB B107) (off := adO B107) rfl Tryd.underlying23 sz3 ((ev_sl e45).trans (congrArg (fun A => Value.slice A p105.2.length d108) ((own_rc (show World.ownsRow _ 0 _ _ _ _ _ from S.mem (List.mem_append_right _ (hz 8 (List.mem_of_getElem? (i := 0) rfl) _ (List.mem_of_getElem? (i := 0) rfl))))).rd.ad (ix_pos hk153)))) (ev_const _ _) hk153.1 hk153.2 (k' := adO B107 + ((0 : Int).toNat) * 1) rfl), rfl, S⟩
              · intro a u X' hB hu hp hr hz hl S
                replace S : St w0 u ([.row 3 1 (.slice B107 p105.2.length d108) p105.2.length (p105.2.flatMap eI)] ++ X') := S
                have e50 : sl a 50 = .int .i64 (([0, 4, -1] : List Int).getD p151.1.toNat (0 : Int)) := hp 6 rfl
                have e51 : sl a 51 = .pointer (some ⟨adB B107, adO B107 + ((0 : Int).toNat) * 1, none⟩) := hp 7 rfl
                obtain ⟨w', hrun, S'⟩ := run_storeElN (P := Tryd.prog) (ρ := a.eval) (y0 := (([0, 4, -1] : List Int).getD p151.1.toNat (0 : Int))) (off := 0) S 3 (.tmp 51) (.tmp 50) (i := 0) sz3 (ev_sl e51) (ev_sl e50) rfl rfl rfl rfl rfl eI_len (0 : Int) (ix_ltn hk153 rfl) rfl rfl
                exact .inr (.inl ⟨rfl, w', hrun _ rfl, trivial, S'⟩)
            · intro a u hB hp S
              obtain ⟨q0, q1, q2, q3, q4, q5, q6, q7, q8, _⟩ := hp
              have e44 : sl a 44 = .pointer (some ⟨g103, 0, none⟩) := q0
              have e45 : sl a 45 = .slice B107 p105.2.length d108 := q1
              have e46 : sl a 46 = .slice (slA (sl a 46)) ((([0, 4, -1] : List Int) : List Int).length) ((([0, 4, -1] : List Int) : List Int).length) := q2
              have e47 : sl a 47 = .pointer (some ⟨g0, 0, none⟩) := q3
              have e48 : sl a 48 = .int .i64 p151.1 := q4
              have e49 : sl a 49 = .pointer (some ⟨adB (slA (sl a 46)), adO (slA (sl a 46)) + p151.1.toNat * 1, none⟩) := q5
              have e50 : sl a 50 = .int .i64 (([0, 4, -1] : List Int).getD p151.1.toNat (0 : Int)) := q6
              have e51 : sl a 51 = .pointer (some ⟨adB B107, adO B107 + ((0 : Int).toNat) * 1, none⟩) := q7
              replace S : St w0 u (Asn.row 3 1 (.slice (slA (sl a 46)) ((([0, 4, -1] : List Int) : List Int).length) ((([0, 4, -1] : List Int) : List Int).length)) ((([0, 4, -1] : List Int) : List Int).length) (([0, 4, -1] : List Int).flatMap eI) :: Asn.box g0 58 #[.slice A0 x0.length c0, .int .i64 p151.2] :: Asn.row 3 1 (.slice B107 p105.2.length d108) p105.2.length ((p105.2.set ((0 : Int).toNat) (([0, 4, -1] : List Int).getD p151.1.toNat (0 : Int))).flatMap eI) :: Asn.box g103 25 #[.slice B107 p105.2.length d108, .bool (p102.1 == 0)] :: Asn.box g101 25 #[.slice none 0 0, .bool false] :: X) := S
              clear q0 q1 q2 q3 q4 q5 q6 q7 q8
              generalize slA (sl a 46) = B154 at *
              have hF := hF.region hB [(44, .pointer (some ⟨g103, 0, none⟩)), (45, .slice B107 p105.2.length d108), (46, .slice B154 ((([0, 4, -1] : List Int) : List Int).length) ((([0, 4, -1] : List Int) : List Int).length)), (47, .pointer (some ⟨g0, 0, none⟩)), (48, .int .i64 p151.1), (49, .pointer (some ⟨adB B154, adO B154 + p151.1.toNat * 1, none⟩)), (50, .int .i64 (([0, 4, -1] : List Int).getD p151.1.toNat (0 : Int))), (51, .pointer (some ⟨adB B107, adO B107 + ((0 : Int).toNat) * 1, none⟩))] (allSl_mem ⟨e44, e45, e46, e47, e48, e49, e50, e51, trivial⟩) rfl
              clear hB e44 e45 e46 e47 e48 e49 e50 e51
              obtain rfl := Option.some.inj hM140
              try rw [show p105.2.length = (p105.2.set ((0 : Int).toNat) (([0, 4, -1] : List Int).getD p151.1.toNat (0 : Int))).length from (len_set rfl)] at hF
              try rw [show p105.2.length = (p105.2.set ((0 : Int).toNat) (([0, 4, -1] : List Int).getD p151.1.toNat (0 : Int))).length from (len_set rfl)] at S
              exact ⟨(p151.2, p105.2.set ((0 : Int).toNat) (([0, 4, -1] : List Int).getD p151.1.toNat (0 : Int)), p102.1 == 0), B107, d108, rfl, hF.keep _ ⟨rfl, rfl, trivial⟩, S.selT (M := [.box g0 58 #[.slice A0 x0.length c0, .int .i64 p151.2], .box g103 25 #[.slice B107 ((p105.2.set ((0 : Int).toNat) (([0, 4, -1] : List Int).getD p151.1.toNat (0 : Int))).length) d108, .bool (p102.1 == 0)], .box g101 25 #[.slice none 0 0, .bool false], .row 3 1 (.slice B107 ((p105.2.set ((0 : Int).toNat) (([0, 4, -1] : List Int).getD p151.1.toNat (0 : Int))).length) d108) ((p105.2.set ((0 : Int).toNat) (([0, 4, -1] : List Int).getD p151.1.toNat (0 : Int))).length) ((p105.2.set ((0 : Int).toNat) (([0, 4, -1] : List Int).getD p151.1.toNat (0 : Int))).flatMap eI)]) 5 [1, 3, 4, 2] rfl rfl rfl⟩
        · rintro a u ⟨p136, B138, d139, rfl, hF, S⟩
          obtain rfl := Option.some.inj hM133
          exact ⟨(p136.1, p136.2.1, p136.2.2), B138, d139, rfl, hF.keep _ ⟨rfl, rfl, trivial⟩, S.selT (M := [.box g0 58 #[.slice A0 x0.length c0, .int .i64 p136.1], .box g103 25 #[.slice B138 p136.2.1.length d139, .bool p136.2.2], .box g101 25 #[.slice none 0 0, .bool false], .row 3 1 (.slice B138 p136.2.1.length d139) p136.2.1.length (p136.2.1.flatMap eI)]) 4 [0, 1, 2, 3] rfl rfl rfl⟩
    · rintro a u ⟨p129, B131, d132, rfl, hF, S⟩
      refine wp_seq ?_
      refine wp_region_lit ?_
      refine op_val (v := .agg #[.slice B131 p129.2.1.length d132, .bool p129.2.2]) rfl rfl hF rfl (run_loadN rfl ag25 (hF.ev rfl) rfl ((S.free 1 rfl).cells 0 #[.slice B131 p129.2.1.length d132, .bool p129.2.2] rfl)) ?_; clear hF; intro a hF
      refine op_do rfl rfl (run_store (cs' := #[.slice B131 p129.2.1.length d132, .bool p129.2.2]) rfl sz25 (hF.ev rfl) (hF.ev rfl) rfl rfl rfl (S.free 2 rfl) rfl rfl) ?_; replace S := S.put 2 rfl (#[.slice B131 p129.2.1.length d132, .bool p129.2.2])
      generalize World.setRow _ _ _ = u at S ⊢
      refine wpList_nil ?_
      refine wp_ret ?_
      repeat with_reducible (first | refine then_ret ?_ | refine in_ret ?_ | refine in_nrm ?_)
      refine ret1_gw (.inl rfl) hF rfl (res_cell (hF.ev rfl) (res_loadN ag25 rfl (S.cells 2 rfl 0 #[.slice B131 p129.2.1.length d132, .bool p129.2.2] rfl))) ?_
      obtain rfl := Option.some.inj hM
      exact ⟨B131, p129.2.1.length, d132, rfl, rfl, S.selT (M := [.row 3 1 (.slice B131 p129.2.1.length d132) p129.2.1.length (p129.2.1.flatMap eI), .box g0 58 #[.slice A0 x0.length c0, .int .i64 p129.1]]) 4 [3, 0] rfl rfl rfl⟩

set_option maxHeartbeats 4000000 in
theorem c_spec_DrawBarsDo {x0 : List Int} {A0 : Option Addr} {n0 c0 : Nat} {w : World} {r : List Int × Bool × Int} (h0 : Rt w 1 eU A0 n0 c0 x0) (hM : m_spec_DrawBarsDo x0 = some r) :
    Calls Tryd.prog 7 #[.slice A0 n0 c0] w (fun e w' => ∃ (B0 : Option Addr) (N0 D0 : Nat), e = .returned (.tuple #[.agg #[.slice B0 N0 D0, .bool r.2.1], .int .i64 r.2.2]) ∧ N0 = r.1.length ∧ St w w' [.row 3 1 (.slice B0 N0 D0) N0 (r.1.flatMap eI)]) := by
  obtain rfl := h0.len
  unfold m_spec_DrawBarsDo at hM
  refine calls_gw Tryd.func7 Tryd.ntmps7 rfl [(0, .slice A0 x0.length c0)] ⟨rfl, trivial⟩ rfl ?_
  intro a hF
  have S := St.nil w
  refine wp_seq ?_
  refine wp_region_lit ?_
  refine op_new (cs := #[.slice none 0 0, .bool false]) rfl rfl hF rfl S (run_allocZ rfl zr25) ?_; clear hF S; intro a g101 u hF S
  refine op_val (v := .int .i64 0) rfl rfl hF rfl (run_assign rfl rfl) ?_; clear hF; intro a hF
  refine wpList_nil ?_
  refine wp_seq ?_
  refine wp_region_lit ?_
  refine op_val (v := .slice A0 x0.length c0) rfl rfl hF rfl (run_move rfl (hF.ev rfl)) ?_; clear hF; intro a hF
  refine op_call rfl rfl hF rfl (run_call (vs := [.slice A0 x0.length c0]) rfl rfl co24 ⟨(hF.ev rfl), trivial⟩) (c_spec_l20Open ⟨(S.rc0 h0.rc), rfl⟩) ?_
  rintro e u ⟨g102, rfl, T⟩
  refine ⟨_, rfl, ?_⟩
  clear hF; intro a hF
  replace S := S.call1 T; clear T
  refine op_val (v := .pointer (some ⟨g102, 0, none⟩)) rfl rfl hF rfl (run_assign rfl (hF.ev rfl)) ?_; clear hF; intro a hF
  refine wpList_nil ?_
  refine wp_seq ?_
  refine wp_region_lit ?_
  refine op_val (v := .pointer (some ⟨g102, 0, none⟩)) rfl rfl hF rfl (run_move rfl (hF.ev rfl)) ?_; clear hF; intro a hF
  obtain ⟨p103, h103, hM⟩ := bind_ex hM
  refine op_call rfl rfl hF rfl (run_call (vs := [.pointer (some ⟨g102, 0, none⟩), .int .i64 9]) rfl rfl co25 ⟨(hF.ev rfl), rfl, trivial⟩) (c_spec_l20Bars (x0 := x0.take 2000) (x1 := 0) (x2 := 9) ⟨(op_rc h0.rc rfl), rfl⟩ (show St w _ [.box g102 58 #[.slice (opA c0 x0.length A0) ((x0.take 2000).length) c0, .int .i64 0], .box g101 25 #[.slice none 0 0, .bool false]] from S.sel [0, 1] rfl rfl) h103) ?_
  rintro e u ⟨B104, n105, d106, rfl, rfl, T⟩
  refine ⟨_, rfl, ?_⟩
  clear hF; intro a hF
  clear S; have S := T; clear T
  refine op_new (cs := #[.slice none 0 0, .bool false]) rfl rfl hF rfl S (run_allocZ rfl zr25) ?_; clear hF S; intro a g107 u hF S
  refine op_do rfl rfl (run_store (cs' := #[.slice B104 p103.1.length d106, .bool p103.2.1]) rfl sz25 (hF.ev rfl) (hF.ev rfl) rfl rfl rfl (S.free 0 rfl) rfl rfl) ?_; replace S := S.put 0 rfl (#[.slice B104 p103.1.length d106, .bool p103.2.1])
  generalize World.setRow _ _ _ = u at S ⊢
  refine wpList_nil ?_
  refine wp_seq ?_
  obtain ⟨p108, h108, hM⟩ := bind_ex hM
  obtain ⟨p109, h109, hM⟩ := bind_ex hM
  refine region_gw (D := [10, 11, 12, 13, 14, 15, 16, 17, 18, 19, 20, 21, 3]) (Lr := [.box g107 25 #[.slice B104 p103.1.length d106, .bool p103.2.1], .row 3 1 (.slice B104 p103.1.length d106) p103.1.length (p103.1.flatMap eI)]) (deps := (fun | 0 => [10] | 1 => [11] | 2 => [12] | 3 => [13] | 4 => [14] | 5 => [15] | 6 => [16] | 7 => [17] | 8 => [18] | 9 => [19] | 10 => [20] | 11 => [21] | 12 => [2] | 13 => [3] | _ => [])) (rd := (fun _ => [])) (zr := (fun _ => []))
    (φ := fun i vs => match i, vs with | 0, [v10] => v10 = .agg #[.slice B104 p103.1.length d106, .bool p103.2.1] | 1, [v11] => v11 = .pointer (some ⟨g102, 0, none⟩) | 2, [v12] => v12 = .pointer (some ⟨g107, 0, none⟩) | 3, [v13] => v13 = .slice B104 p103.1.length d106 | 4, [v14] => v14 = .int .i64 (p103.1.length : Int) | 5, [v15] => v15 = .int .i64 (w64 (4 * (p103.1.length : Int))) | 6, [v16] => v16 = .int .i64 (w64 ((w64 (4 * (p103.1.length : Int))) + 4)) | 7, [v17] => v17 = .int .i64 p108.1 | 8, [v18] => v18 = .pointer (some ⟨g102, 0, none⟩) | 9, [v19] => v19 = .int .i64 p109.1 | 10, [v20] => v20 = .int .i64 (w64 (Int.tdiv p109.1 8)) | 11, [v21] => v21 = .int .i64 (w64 (p108.1 - (w64 (Int.tdiv p109.1 8)))) | 13, [v3] => v3 = .int .i64 (w64 (p108.1 - (w64 (Int.tdiv p109.1 8)))) | _, _ => True)
    (C := fun i vs => match i, vs with | 7, [v17] => [.box g102 58 #[.slice (opA c0 x0.length A0) ((x0.take 2000).length) c0, .int .i64 p108.2]] | 9, [v19] => [.box g102 58 #[.slice (opA c0 x0.length A0) ((x0.take 2000).length) c0, .int .i64 p109.2]] | 12, [v2] => [.box g101 25 #[.slice B104 p103.1.length d106, .bool p103.2.1]] | _, _ => [])
    (κ := (fun | 7 => some 9 | _ => none)) (Z := (fun | 7 => [.box g102 58 #[.slice (opA c0 x0.length A0) ((x0.take 2000).length) c0, .int .i64 p103.2.2]] | 12 => [.box g101 25 #[.slice none 0 0, .bool false]] | _ => [])) mixed hF (by kernel_rfl) (show St w _ [.box g102 58 #[.slice (opA c0 x0.length A0) ((x0.take 2000).length) c0, .int .i64 p103.2.2], .box g101 25 #[.slice none 0 0, .bool false], .box g107 25 #[.slice B104 p103.1.length d106, .bool p103.2.1], .row 3 1 (.slice B104 p103.1.length d106) p103.1.length (p103.1.flatMap eI)] from S.sel [2, 3, 0, 1] rfl rfl) ?_ ?_
  · refine ⟨?_, ?_, ?_, ?_, ?_, ?_, ?_, ?_, ?_, ?_, ?_, ?_, ?_, ?_, trivial⟩
    · intro a u X hB hu hp hr hz hl S
      replace S : St w u ([] ++ X) := S
      exact .inl ⟨rfl, .agg #[.slice B104 p103.1.length d106, .bool p103.2.1], u, (run_loadN rfl ag25 (hF.evB hB rfl rfl) rfl ((gr_box S hl 0 rfl).cells 0 #[.slice B104 p103.1.length d106, .bool p103.2.1] rfl)), rfl, S⟩
    · intro a u X hB hu hp hr hz hl S
      replace S : St w u ([] ++ X) := S
      exact .inl ⟨rfl, .pointer (some ⟨g102, 0, none⟩), u, (run_move rfl (hF.evB hB rfl rfl)), rfl, S⟩
    · intro a u X hB hu hp hr hz hl S
      replace S : St w u ([] ++ X) := S
      exact .inl ⟨rfl, .pointer (some ⟨g107, 0, none⟩), u, (run_fieldAddr rfl fl25_0 (hF.evB hB rfl rfl) rfl), rfl, S⟩
    · intro a u X hB hu hp hr hz hl S
      replace S : St w u ([] ++ X) := S
      have e12 : sl a 12 = .pointer (some ⟨g107, 0, none⟩) := hp 2 rfl
      exact .inl ⟨rfl, .slice B104 p103.1.length d106, u, (run_load1 rfl one23 (ev_sl e12) ((gr_box S hl 0 rfl).cell rfl)), rfl, S⟩
    · intro a u X hB hu hp hr hz hl S
      replace S : St w u ([] ++ X) := S
      have e13 : sl a 13 = .slice B104 p103.1.length d106 := hp 3 rfl
      exact .inl ⟨rfl, .int .i64 (p103.1.length : Int), u, (run_lenL rfl rfl Tryd.underlying23 (ev_sl e13)), rfl, S⟩
    · intro a u X hB hu hp hr hz hl S
      replace S : St w u ([] ++ X) := S
      have e14 : sl a 14 = .int .i64 (p103.1.length : Int) := hp 4 rfl
      exact .inl ⟨rfl, .int .i64 (w64 (4 * (p103.1.length : Int))), u, (run_mul (z := w64 (4 * (p103.1.length : Int))) (ev_const _ _) (ev_sl e14) rfl rfl), rfl, S⟩
    · intro a u X hB hu hp hr hz hl S
      replace S : St w u ([] ++ X) := S
      have e15 : sl a 15 = .int .i64 (w64 (4 * (p103.1.length : Int))) := hp 5 rfl
      exact .inl ⟨rfl, .int .i64 (w64 ((w64 (4 * (p103.1.length : Int))) + 4)), u, (run_add (z := w64 ((w64 (4 * (p103.1.length : Int))) + 4)) (ev_sl e15) (ev_const _ _) rfl rfl), rfl, S⟩
    · intro a u X hB hu hp hr hz hl S
      replace S : St w u ([.box g102 58 #[.slice (opA c0 x0.length A0) ((x0.take 2000).length) c0, .int .i64 p103.2.2]] ++ X) := S
      have e11 : sl a 11 = .pointer (some ⟨g102, 0, none⟩) := hp 1 rfl
      have e16 : sl a 16 = .int .i64 (w64 ((w64 (4 * (p103.1.length : Int))) + 4)) := hp 6 rfl
      refine .inr (.inr (.inl ⟨rfl, _, _, (run_call (vs := [.pointer (some ⟨g102, 0, none⟩), .int .i64 (w64 ((w64 (4 * (p103.1.length : Int))) + 4))]) rfl rfl co26 ⟨(ev_sl e11), (ev_sl e16), trivial⟩), ?_⟩))
      refine Calls.mono (c_spec_l20Rd_pick (x0 := x0.take 2000) (x1 := p103.2.2) (x2 := w64 ((w64 (4 * (p103.1.length : Int))) + 4)) ⟨(op_rc h0.rc rfl), rfl⟩ S h108) ?_
      rintro e w1 ⟨rfl, T⟩
      exact ⟨_, rfl, rfl, T⟩
    · intro a u X hB hu hp hr hz hl S
      replace S : St w u ([] ++ X) := S
      exact .inl ⟨rfl, .pointer (some ⟨g102, 0, none⟩), u, (run_move rfl (hF.evB hB rfl rfl)), rfl, S⟩
    · intro a u X hB hu hp hr hz hl S
      replace S : St w u ([.box g102 58 #[.slice (opA c0 x0.length A0) ((x0.take 2000).length) c0, .int .i64 p108.2]] ++ X) := S
      have e18 : sl a 18 = .pointer (some ⟨g102, 0, none⟩) := hp 8 rfl
      refine .inr (.inr (.inl ⟨rfl, _, _, (run_call (vs := [.pointer (some ⟨g102, 0, none⟩), .int .i64 9]) rfl rfl co26 ⟨(ev_sl e18), (ev_const _ _), trivial⟩), ?_⟩))
      refine Calls.mono (c_spec_l20Rd_pick (x0 := x0.take 2000) (x1 := p108.2) (x2 := 9) ⟨(op_rc h0.rc rfl), rfl⟩ S h109) ?_
      rintro e w1 ⟨rfl, T⟩
      exact ⟨_, rfl, rfl, T⟩
    · intro a u X hB hu hp hr hz hl S
      replace S : St w u ([] ++ X) := S
      have e19 : sl a 19 = .int .i64 p109.1 := hp 9 rfl
      exact .inl ⟨rfl, .int .i64 (w64 (Int.tdiv p109.1 8)), u, (run_quo (z := w64 (Int.tdiv p109.1 8)) (ev_sl e19) (ev_const _ _) rfl (by decide) rfl), rfl, S⟩
    · intro a u X hB hu hp hr hz hl S
      replace S : St w u ([] ++ X) := S
      have e17 : sl a 17 = .int .i64 p108.1 := hp 7 rfl
      have e20 : sl a 20 = .int .i64 (w64 (Int.tdiv p109.1 8)) := hp 10 rfl
      exact .inl ⟨rfl, .int .i64 (w64 (p108.1 - (w64 (Int.tdiv p109.1 8)))), u, (run_sub (z := w64 (p108.1 - (w64 (Int.tdiv p109.1 8)))) (ev_sl e17) (ev_sl e20) rfl rfl), rfl, S⟩
    · intro a u X hB hu hp hr hz hl S
      replace S : St w u ([.box g101 25 #[.slice none 0 0, .bool false]] ++ X) := S
      have e10 : sl a 10 = .agg #[.slice B104 p103.1.length d106, .bool p103.2.1] := hp 0 rfl
      exact .inr (.inl ⟨rfl, _, run_store (cs' := #[.slice B104 p103.1.length d106, .bool p103.2.1]) rfl sz25 (hF.evB hB rfl rfl) (ev_sl e10) rfl rfl rfl (S.free 0 rfl) rfl rfl, trivial, S.put 0 rfl (#[.slice B104 p103.1.length d106, .bool p103.2.1])⟩)
    · intro a u X hB hu hp hr hz hl S
      replace S : St w u ([] ++ X) := S
      have e21 : sl a 21 = .int .i64 (w64 (p108.1 - (w64 (Int.tdiv p109.1 8)))) := hp 11 rfl
      exact .inl ⟨rfl, .int .i64 (w64 (p108.1 - (w64 (Int.tdiv p109.1 8)))), u, (run_assign rfl (ev_sl e21)), rfl, S⟩
  · intro a u hB hp S
    obtain ⟨q0, q1, q2, q3, q4, q5, q6, q7, q8, q9, q10, q11, q12, q13, _⟩ := hp
    have e10 : sl a 10 = .agg #[.slice B104 p103.1.length d106, .bool p103.2.1] := q0
    have e11 : sl a 11 = .pointer (some ⟨g102, 0, none⟩) := q1
    have e12 : sl a 12 = .pointer (some ⟨g107, 0, none⟩) := q2
    have e13 : sl a 13 = .slice B104 p103.1.length d106 := q3
    have e14 : sl a 14 = .int .i64 (p103.1.length : Int) := q4
    have e15 : sl a 15 = .int .i64 (w64 (4 * (p103.1.length : Int))) := q5
    have e16 : sl a 16 = .int .i64 (w64 ((w64 (4 * (p103.1.length : Int))) + 4)) := q6
    have e17 : sl a 17 = .int .i64 p108.1 := q7
    have e18 : sl a 18 = .pointer (some ⟨g102, 0, none⟩) := q8
    have e19 : sl a 19 = .int .i64 p109.1 := q9
    have e20 : sl a 20 = .int .i64 (w64 (Int.tdiv p109.1 8)) := q10
    have e21 : sl a 21 = .int .i64 (w64 (p108.1 - (w64 (Int.tdiv p109.1 8)))) := q11
    have e3 : sl a 3 = .int .i64 (w64 (p108.1 - (w64 (Int.tdiv p109.1 8)))) := q13
    replace S : St w u [.box g102 58 #[.slice (opA c0 x0.length A0) ((x0.take 2000).length) c0, .int .i64 p109.2], .box g101 25 #[.slice B104 p103.1.length d106, .bool p103.2.1], .box g107 25 #[.slice B104 p103.1.length d106, .bool p103.2.1], .row 3 1 (.slice B104 p103.1.length d106) p103.1.length (p103.1.flatMap eI)] := S
    clear q0 q1 q2 q3 q4 q5 q6 q7 q8 q9 q10 q11 q12 q13
    have hF := hF.region hB [(10, .agg #[.slice B104 p103.1.length d106, .bool p103.2.1]), (11, .pointer (some ⟨g102, 0, none⟩)), (12, .pointer (some ⟨g107, 0, none⟩)), (13, .slice B104 p103.1.length d106), (14, .int .i64 (p103.1.length : Int)), (15, .int .i64 (w64 (4 * (p103.1.length : Int)))), (16, .int .i64 (w64 ((w64 (4 * (p103.1.length : Int))) + 4))), (17, .int .i64 p108.1), (18, .pointer (some ⟨g102, 0, none⟩)), (19, .int .i64 p109.1), (20, .int .i64 (w64 (Int.tdiv p109.1 8))), (21, .int .i64 (w64 (p108.1 - (w64 (Int.tdiv p109.1 8))))), (3, .int .i64 (w64 (p108.1 - (w64 (Int.tdiv p109.1 8)))))] (allSl_mem ⟨e10, e11, e12, e13, e14, e15, e16, e17, e18, e19, e20, e21, e3, trivial⟩) rfl
    clear hB e10 e11 e12 e13 e14 e15 e16 e17 e18 e19 e20 e21 e3
    refine wp_ret ?_
    repeat with_reducible (first | refine then_ret ?_ | refine in_ret ?_ | refine in_nrm ?_)
    refine ret2_gw (.inl rfl) hF rfl (res_cell (hF.ev rfl) (res_loadN ag25 rfl (S.cells 1 rfl 0 #[.slice B104 p103.1.length d106, .bool p103.2.1] rfl))) (res_tmp (hF.ev rfl)) ?_
    obtain rfl := Option.some.inj hM
    exact ⟨B104, p103.1.length, d106, rfl, rfl, S.sel [3] rfl rfl⟩

set_option maxHeartbeats 4000000 in
theorem c_impl_BarsValid {x0 : List Int} {x1 : Bool} {A0 : Option Addr} {n0 c0 : Nat} {w : World} {r : Bool} (h0 : Rt w 1 eI A0 n0 c0 x0) (hM : m_impl_BarsValid x0 x1 = some r) :
    Calls Tryd.prog 12 #[.agg #[.slice A0 n0 c0, .bool x1]] w (fun e w' => e = .returned (.bool r) ∧ St w w' []) := by
  obtain rfl := h0.len
  unfold m_impl_BarsValid at hM
  refine calls_gw Tryd.func12 Tryd.ntmps12 rfl [(0, .agg #[.slice A0 x0.length c0, .bool x1])] ⟨rfl, trivial⟩ rfl ?_
  intro a hF
  have S := St.nil w
  refine wp_seq ?_
  refine wp_region_lit ?_
  refine op_new (cs := #[.slice A0 x0.length c0, .bool x1]) rfl rfl hF rfl S (run_box rfl (hF.ev rfl) rfl) ?_; clear hF S; intro a g101 u hF S
  refine op_val (v := .bool false) rfl rfl hF rfl (run_assign rfl rfl) ?_; clear hF; intro a hF
  refine wpList_nil ?_
  refine wp_seq ?_
  refine wp_seq ?_
  refine wp_region_lit ?_
  refine op_val (v := .pointer (some ⟨g101, 0, none⟩)) rfl rfl hF rfl (run_fieldAddr rfl fl25_0 (hF.ev rfl) rfl) ?_; clear hF; intro a hF
  refine op_val (v := .slice A0 x0.length c0) rfl rfl hF rfl (run_load1 rfl one23 (hF.ev rfl) ((S.free 0 rfl).cell rfl)) ?_; clear hF; intro a hF
  refine op_val (v := .int .i64 (x0.length : Int)) rfl rfl hF rfl (run_lenL rfl rfl Tryd.underlying23 (hF.ev rfl)) ?_; clear hF; intro a hF
  refine op_val (v := .bool (ltB (x0.length : Int) 1)) rfl rfl hF rfl (run_lss (hF.ev rfl) rfl rfl) ?_; clear hF; intro a hF
  refine op_val (v := .bool (ltB (x0.length : Int) 1)) rfl rfl hF rfl (run_move rfl (hF.ev rfl)) ?_; clear hF; intro a hF
  refine op_gv (v := .pointer (some ⟨g101, 0, none⟩)) rfl rfl hF rfl (yf (gw_yield hF rfl rfl rfl)) (fun hg => (run_fieldAddr rfl fl25_0 (hF.ev rfl) rfl)) ?_; clear hF; intro a hF
  refine op_gv (v := .slice A0 x0.length c0) rfl rfl hF rfl (yf (gw_yield hF rfl rfl rfl)) (fun hg => (run_load1 rfl one23 ((hF.ev rfl).trans (gv_t hg)) ((S.free 0 rfl).cell rfl))) ?_; clear hF; intro a hF
  refine op_gv (v := .int .i64 (x0.length : Int)) rfl rfl hF rfl (yf (gw_yield hF rfl rfl rfl)) (fun hg => (run_lenL rfl rfl Tryd.underlying23 ((hF.ev rfl).trans (gv_t hg)))) ?_; clear hF; intro a hF
  refine op_gv (v := .bool (ltB 6 (x0.length : Int))) rfl rfl hF rfl (yf (gw_yield hF rfl rfl rfl)) (fun hg => (run_gtr ((hF.ev rfl).trans (gv_t hg)) rfl rfl)) ?_; clear hF; intro a hF
  refine op_val (v := .bool ((ltB (x0.length : Int) 1) || (ltB 6 (x0.length : Int)))) rfl rfl hF rfl (run_pick_or rfl (hF.ev rfl) rfl (fun hp => ((hF.ev rfl).trans (gv_t (not_t hp))))) ?_; clear hF; intro a hF
  refine wpList_nil ?_
  cases hc102 : ((ltB (x0.length : Int) 1) || (ltB 6 (x0.length : Int)))
  · replace hM := bif_f hc102 hM
    refine cond_f hF rfl hc102 ?_
    refine wp_skip ?_
    refine wp_seq ?_
    refine wp_seq ?_
    refine wp_region_lit ?_
    refine op_val (v := .pointer (some ⟨g101, 0, none⟩)) rfl rfl hF rfl (run_fieldAddr rfl fl25_0 (hF.ev rfl) rfl) ?_; clear hF; intro a hF
    refine op_val (v := .slice A0 x0.length c0) rfl rfl hF rfl (run_load1 rfl one23 (hF.ev rfl) ((S.free 0 rfl).cell rfl)) ?_; clear hF; intro a hF
    refine op_val (v := .int .i64 (x0.length : Int)) rfl rfl hF rfl (run_lenL rfl rfl Tryd.underlying23 (hF.ev rfl)) ?_; clear hF; intro a hF
    refine op_val (v := .int .i64 0) rfl rfl hF rfl (run_move rfl rfl) ?_; clear hF; intro a hF
    refine wpList_nil ?_
    obtain ⟨o104, hM105, hM⟩ := bind_ex hM
    refine wp_cut (fun a u => ∃ (p103 : Unit), (Sum.inl p103) = o104 ∧ Fr a 38 [(2, .bool false)] ∧ St w u []) ?_ ?_
    · have _ := trivial
      refine wp_block ?_
      refine loop_gw (fun m a u => ∃ (p106 : Int), m_impl_BarsValid_l1 x0 x1 m p106 = some _ ∧ Fr a 38 [(1, .pointer (some ⟨g101, 0, none⟩)), (2, .bool false), (16, .slice A0 x0.length c0), (17, .int .i64 (x0.length : Int)), (18, .int .i64 p106)] ∧ St w u [.box g101 25 #[.slice A0 x0.length c0, .bool x1]]) FUEL ⟨0, hM105, hF.keep _ ⟨rfl, rfl, rfl, rfl, rfl, trivial⟩, S.sel [0] rfl rfl⟩ ?_
      clear hF S hM105; rintro m a u ⟨p106, hM105, hF, S⟩
      rcases m with _ | f1
      · exact none_some hM105
      rw [m_impl_BarsValid_l1.eq_2] at hM105
      refine wp_seq ?_
      refine wp_region_lit ?_
      refine op_val (v := .bool (ltB p106 (x0.length : Int))) rfl rfl hF rfl (run_lss (hF.ev rfl) (hF.ev rfl) rfl) ?_; clear hF; intro a hF
      refine wpList_nil ?_
      refine wp_seq ?_
      cases hc107 : (ltB p106 (x0.length : Int))
      · replace hM105 := bif_f hc107 hM105
        refine cond_f hF rfl hc107 ?_
        refine wp_exit ?_
        repeat with_reducible (first | refine then_exit ?_ | refine in_hit ?_ | refine in_miss rfl ?_)
        obtain rfl := Option.some.inj hM105
        exact ⟨(), rfl, hF.keep _ ⟨rfl, trivial⟩, S.sel [] rfl rfl⟩
      · replace hM105 := bif_t hc107 hM105
        refine cond_t hF rfl hc107 ?_
        refine wp_skip ?_
        refine wp_seq ?_
        refine wp_block ?_
        refine wp_seq ?_
        refine wp_region_lit ?_
        obtain ⟨hk108, hM105⟩ := chk_ex hM105
        replace hk108 := ixB_t hk108
        refine op_val (v := .pointer (some ⟨adB A0, adO A0 + p106.toNat * 1, none⟩)) rfl rfl hF rfl (run_indexAddr (b := adB A0) (off := adO A0) rfl Tryd.underlying23 sz3 ((hF.ev rfl).trans (congrArg (fun A => Value.slice A x0.length c0) ((S.rc0 h0.rc).rd.ad (ix_pos hk108)))) (hF.ev rfl) hk108.1 hk108.2 (k' := adO A0 + p106.toNat * 1) rfl) ?_; clear hF; intro a hF
        refine op_val (v := .int .i64 (x0.getD p106.toNat (0 : Int))) rfl rfl hF rfl (run_load1 rfl one3 (hF.ev rfl) (rd_el0 (l := x0) (S.rc0 h0.rc).rd rfl eI_len (0 : Int) (ix_ltn hk108 rfl) rfl)) ?_; clear hF; intro a hF
        refine op_val (v := .int .i64 (x0.getD p106.toNat (0 : Int))) rfl rfl hF rfl (run_assign rfl (hF.ev rfl)) ?_; clear hF; intro a hF
        refine wpList_nil ?_
        refine wp_seq ?_
        refine wp_region_lit ?_
        refine op_val (v := .int .i64 (x0.getD p106.toNat (0 : Int))) rfl rfl hF rfl (run_move rfl (hF.ev rfl)) ?_; clear hF; intro a hF
        refine op_val (v := .bool (ltB (x0.getD p106.toNat (0 : Int)) 1)) rfl rfl hF rfl (run_lss (hF.ev rfl) rfl rfl) ?_; clear hF; intro a hF
        refine op_val (v := .bool (ltB (x0.getD p106.toNat (0 : Int)) 1)) rfl rfl hF rfl (run_move rfl (hF.ev rfl)) ?_; clear hF; intro a hF
        refine op_gv (v := .int .i64 (x0.getD p106.toNat (0 : Int))) rfl rfl hF rfl (yf (gw_yield hF rfl rfl rfl)) (fun hg => (run_move rfl (hF.ev rfl))) ?_; clear hF; intro a hF
        refine op_gv (v := .bool (ltB 3 (x0.getD p106.toNat (0 : Int)))) rfl rfl hF rfl (yf (gw_yield hF rfl rfl rfl)) (fun hg => (run_gtr ((hF.ev rfl).trans (gv_t hg)) rfl rfl)) ?_; clear hF; intro a hF
        refine op_val (v := .bool ((ltB (x0.getD p106.toNat (0 : Int)) 1) || (ltB 3 (x0.getD p106.toNat (0 : Int))))) rfl rfl hF rfl (run_pick_or rfl (hF.ev rfl) rfl (fun hp => ((hF.ev rfl).trans (gv_t (not_t hp))))) ?_; clear hF; intro a hF
        refine op_val (v := .bool ((ltB (x0.getD p106.toNat (0 : Int)) 1) || (ltB 3 (x0.getD p106.toNat (0 : Int))))) rfl rfl hF rfl (run_move rfl (hF.ev rfl)) ?_; clear hF; intro a hF
        refine op_gv (v := .int .i64 (x0.getD p106.toNat (0 : Int))) rfl rfl hF rfl (yf (gw_yield hF rfl rfl rfl)) (fun hg => (run_move rfl (hF.ev rfl))) ?_; clear hF; intro a hF
        refine op_gv (v := .bool ((x0.getD p106.toNat (0 : Int)) == 3)) rfl rfl hF rfl (yf (gw_yield hF rfl rfl rfl)) (fun hg => (run_eql ((hF.ev rfl).trans (gv_t hg)) rfl rfl)) ?_; clear hF; intro a hF
        refine op_gv (v := .bool ((x0.getD p106.toNat (0 : Int)) == 3)) rfl rfl hF rfl (yf (gw_yield hF rfl rfl rfl)) (fun hg => (run_move rfl ((hF.ev rfl).trans (gv_t hg)))) ?_; clear hF; intro a hF
        refine op_gv (v := .pointer (some ⟨g101, 1, none⟩)) rfl rfl hF rfl (ytG (gw_yieldG hF rfl rfl rfl)) (fun hg => (run_fieldAddr rfl fl25_1 (hF.ev rfl) rfl)) ?_; clear hF; intro a hF
        refine op_gv (v := .bool x1) rfl rfl hF rfl (ytG (gw_yieldG hF rfl rfl rfl)) (fun hg => (run_load1 rfl one4 ((hF.ev rfl).trans (gv_t hg)) ((S.free 0 rfl).cell rfl))) ?_; clear hF; intro a hF
        refine op_gv (v := .bool (!x1)) rfl rfl hF rfl (ytG (gw_yieldG hF rfl rfl rfl)) (fun hg => (run_not rfl ((hF.ev rfl).trans (gv_t hg)))) ?_; clear hF; intro a hF
        refine op_gv (v := .bool (((x0.getD p106.toNat (0 : Int)) == 3) && (!x1))) rfl rfl hF rfl (yf (gw_yield hF rfl rfl rfl)) (fun hg => (run_pick_and rfl ((hF.ev rfl).trans (gv_t hg)) (fun hp => ((hF.ev rfl).trans (gv_t (and_i hg hp)))) rfl)) ?_; clear hF; intro a hF
        refine op_val (v := .bool (((ltB (x0.getD p106.toNat (0 : Int)) 1) || (ltB 3 (x0.getD p106.toNat (0 : Int)))) || (((x0.getD p106.toNat (0 : Int)) == 3) && (!x1)))) rfl rfl hF rfl (run_pick_or rfl (hF.ev rfl) rfl (fun hp => ((hF.ev rfl).trans (gv_t (not_t hp))))) ?_; clear hF; intro a hF
        refine wpList_nil ?_
        cases hc109 : (((ltB (x0.getD p106.toNat (0 : Int)) 1) || (ltB 3 (x0.getD p106.toNat (0 : Int)))) || (((x0.getD p106.toNat (0 : Int)) == 3) && (!x1)))
        · replace hM105 := bif_f hc109 hM105
          refine cond_f hF rfl hc109 ?_
          refine wp_skip ?_
          refine wp_region_lit ?_
          refine op_val (v := .int .i64 (w64 (p106 + 1))) rfl rfl hF rfl (run_add (z := w64 (p106 + 1)) (hF.ev rfl) rfl rfl rfl) ?_; clear hF; intro a hF
          refine op_val (v := .int .i64 (w64 (p106 + 1))) rfl rfl hF rfl (run_move rfl (hF.ev rfl)) ?_; clear hF; intro a hF
          refine wpList_nil ?_
          exact ⟨f1, Nat.lt_succ_self _, w64 (p106 + 1), hM105, hF.keep _ ⟨rfl, rfl, rfl, rfl, rfl, trivial⟩, S.sel [0] rfl rfl⟩
        · replace hM105 := bif_t hc109 hM105
          refine cond_t hF rfl hc109 ?_
          refine wp_seq ?_
          refine wp_region_lit ?_
          refine op_val (v := .bool false) rfl rfl hF rfl (run_assign rfl rfl) ?_; clear hF; intro a hF
          refine wpList_nil ?_
          refine wp_ret ?_
          repeat with_reducible (first | refine then_ret ?_ | refine in_ret ?_ | refine in_nrm ?_)
          refine ret1_gw (.inl rfl) hF rfl (res_tmp (hF.ev rfl)) ?_
          obtain rfl := Option.some.inj hM105
          obtain rfl := Option.some.inj hM
          exact ⟨rfl, S.sel [] rfl rfl⟩
    · rintro a u ⟨p103, rfl, hF, S⟩
      replace hM := elim_l hM
      refine wp_seq ?_
      refine wp_region_lit ?_
      refine op_val (v := .bool true) rfl rfl hF rfl (run_assign rfl rfl) ?_; clear hF; intro a hF
      refine wpList_nil ?_
      refine wp_ret ?_
      repeat with_reducible (first | refine then_ret ?_ | refine in_ret ?_ | refine in_nrm ?_)
      refine ret1_gw (.inl rfl) hF rfl (res_tmp (hF.ev rfl)) ?_
      obtain rfl := Option.some.inj hM
      exact ⟨rfl, S.sel [] rfl rfl⟩
  · replace hM := bif_t hc102 hM
    refine cond_t hF rfl hc102 ?_
    refine wp_seq ?_
    refine wp_region_lit ?_
    refine op_val (v := .bool false) rfl rfl hF rfl (run_assign rfl rfl) ?_; clear hF; intro a hF
    refine wpList_nil ?_
    refine wp_ret ?_
    repeat with_reducible (first | refine then_ret ?_ | refine in_ret ?_ | refine in_nrm ?_)
    refine ret1_gw (.inl rfl) hF rfl (res_tmp (hF.ev rfl)) ?_
    obtain rfl := Option.some.inj hM
    exact ⟨rfl, S.sel [] rfl rfl⟩

set_option maxHeartbeats 4000000 in
theorem c_slices_Clone_int_int {x0 : List Int} {A0 : Option Addr} {n0 c0 : Nat} {w : World} {r : List Int} (h0 : Rt w 1 eI A0 n0 c0 x0) (hM : m_slices_Clone_int_int x0 = some r) :
    Calls Tryd.prog 34 #[.slice A0 n0 c0] w (fun e w' => ∃ (B0 : Option Addr) (N0 D0 : Nat), e = .returned (.slice B0 N0 D0) ∧ N0 = r.length ∧ St w w' [.row 3 1 (.slice B0 N0 D0) N0 (r.flatMap eI)]) := by
  obtain rfl := h0.len
  unfold m_slices_Clone_int_int at hM
  obtain ⟨hk, hM⟩ := chk_ex hM
  replace hk := apB_t hk
  obtain rfl := Option.some.inj hM
  refine calls_gw Tryd.func34 Tryd.ntmps34 rfl [(0, .slice A0 x0.length c0)] ⟨rfl, trivial⟩ rfl ?_
  intro a hF
  have S := St.nil w
  refine wp_seq ?_
  refine wp_region_lit ?_
  refine op_val (v := .slice none 0 0) rfl rfl hF rfl (run_assign rfl rfl) ?_; clear hF; intro a hF
  refine wpList_nil ?_
  refine wp_seq ?_
  refine wp_seq ?_
  refine wp_region_lit ?_
  refine op_val (v := .slice A0 x0.length c0) rfl rfl hF rfl (run_move rfl (hF.ev rfl)) ?_; clear hF; intro a hF
  refine op_val (v := .bool (Option.isNone A0)) rfl rfl hF rfl (run_eqlNil rfl Tryd.underlying23 (hF.ev rfl) rfl) ?_; clear hF; intro a hF
  refine wpList_nil ?_
  cases hc101 : (Option.isNone A0)
  · have hx := trivial
    refine cond_f hF rfl hc101 ?_
    refine wp_skip ?_
    refine wp_seq ?_
    refine wp_region_lit ?_
    refine op_newrow (cs := #[]) (size := 1) rfl rfl hF rfl S (run_buildSlice0 rfl Tryd.underlying23 (congrArg Option.isSome sz3)) rfl (Nat.zero_le _) ?_; clear hF S; intro a g102 u hF S
    refine op_val (v := .slice A0 x0.length c0) rfl rfl hF rfl (run_move rfl (hF.ev rfl)) ?_; clear hF; intro a hF
    have hk105 := hk
    refine op_appendL (lx := []) (ly := x0) rfl rfl hF rfl S rfl (hF.ev rfl) (hF.ev rfl) (i := 0) rfl rfl Tryd.underlying23 inf3 rfl (by decide) (S.rc0 h0.rc).rd rfl eI_one hk105 (by decide) ?_; clear hF S; intro a B103 d104 u hF S
    refine op_val (v := .slice B103 ((([] : List Int) ++ x0).length) d104) rfl rfl hF rfl (run_assign rfl (hF.ev rfl)) ?_; clear hF; intro a hF
    refine wpList_nil ?_
    refine wp_ret ?_
    repeat with_reducible (first | refine then_ret ?_ | refine in_ret ?_ | refine in_nrm ?_)
    refine ret1_gw (.inl rfl) hF rfl (res_tmp (hF.ev rfl)) ?_
    exact ⟨B103, ((([] : List Int) ++ x0).length), d104, rfl, rfl, S.sel [0] rfl rfl⟩
  · have hx := nil_none h0.rc.rd rfl hc101
    refine cond_t hF rfl hc101 ?_
    refine wp_seq ?_
    refine wp_region_lit ?_
    refine op_val (v := .slice none 0 0) rfl rfl hF rfl (run_assign rfl rfl) ?_; clear hF; intro a hF
    refine wpList_nil ?_
    refine wp_ret ?_
    repeat with_reducible (first | refine then_ret ?_ | refine in_ret ?_ | refine in_nrm ?_)
    refine ret1_gw (.inl rfl) hF rfl (res_tmp (hF.ev rfl)) ?_
    subst hx
    replace S := S.nilrow 3 1
    exact ⟨none, 0, 0, rfl, rfl, S.sel [0] rfl rfl⟩

set_option maxHeartbeats 4000000 in
theorem c_impl_Bars_clone {x0 : List Int} {x1 : Bool} {A0 : Option Addr} {n0 c0 : Nat} {w : World} {r : List Int × Bool} (h0 : Rt w 1 eI A0 n0 c0 x0) (hM : m_impl_Bars_clone x0 x1 = some r) :
    Calls Tryd.prog 27 #[.agg #[.slice A0 n0 c0, .bool x1]] w (fun e w' => ∃ (B0 : Option Addr) (N0 D0 : Nat), e = .returned (.agg #[.slice B0 N0 D0, .bool r.2]) ∧ N0 = r.1.length ∧ St w w' [.row 3 1 (.slice B0 N0 D0) N0 (r.1.flatMap eI)]) := by
  obtain rfl := h0.len
  unfold m_impl_Bars_clone at hM
  refine calls_gw Tryd.func27 Tryd.ntmps27 rfl [(0, .agg #[.slice A0 x0.length c0, .bool x1])] ⟨rfl, trivial⟩ rfl ?_
  intro a hF
  have S := St.nil w
  refine wp_seq ?_
  refine wp_region_lit ?_
  refine op_new (cs := #[.slice A0 x0.length c0, .bool x1]) rfl rfl hF rfl S (run_box rfl (hF.ev rfl) rfl) ?_; clear hF S; intro a g101 u hF S
  refine op_new (cs := #[.slice none 0 0, .bool false]) rfl rfl hF rfl S (run_allocZ rfl zr25) ?_; clear hF S; intro a g102 u hF S
  refine wpList_nil ?_
  refine wp_seq ?_
  obtain ⟨p103, h103, hM⟩ := bind_ex hM
  refine region_gw (D := [3, 4, 5, 6, 7, 8]) (Lr := [.box g101 25 #[.slice A0 x0.length c0, .bool x1]]) (deps := (fun | 0 => [3] | 1 => [4] | 2 => [5] | 3 => [6] | 4 => [7] | 5 => [8, 5] | 6 => [2, 5] | _ => [])) (rd := (fun _ => [])) (zr := (fun _ => []))
    (φ := fun i vs => match i, vs with | 0, [v3] => v3 = .pointer (some ⟨g101, 0, none⟩) | 1, [v4] => v4 = .slice A0 x0.length c0 | 2, [v5] => v5 = .slice (slA v5) p103.length (slC v5) | 3, [v6] => v6 = .pointer (some ⟨g101, 1, none⟩) | 4, [v7] => v7 = .bool x1 | 5, [v8, v5] => v8 = .agg #[.slice (slA v5) p103.length (slC v5), .bool x1] | _, _ => True)
    (C := fun i vs => match i, vs with | 2, [v5] => [.row 3 1 (.slice (slA v5) p103.length (slC v5)) p103.length (p103.flatMap eI)] | 6, [v2, v5] => [.box g102 25 #[.slice (slA v5) p103.length (slC v5), .bool x1]] | _, _ => [])
    (κ := (fun _ => none)) (Z := (fun | 6 => [.box g102 25 #[.slice none 0 0, .bool false]] | _ => [])) mixed hF (by kernel_rfl) (show St w _ [.box g102 25 #[.slice none 0 0, .bool false], .box g101 25 #[.slice A0 x0.length c0, .bool x1]] from S.sel [0, 1] rfl rfl) ?_ ?_
  · refine ⟨?_, ?_, ?_, ?_, ?_, ?_, ?_, trivial⟩
    · intro a u X hB hu hp hr hz hl S
      replace S : St w u ([] ++ X) := S
      exact .inl ⟨rfl, .pointer (some ⟨g101, 0, none⟩), u, (run_fieldAddr rfl fl25_0 (hF.evB hB rfl rfl) rfl), rfl, S⟩
    · intro a u X hB hu hp hr hz hl S
      replace S : St w u ([] ++ X) := S
      have e3 : sl a 3 = .pointer (some ⟨g101, 0, none⟩) := hp 0 rfl
      exact .inl ⟨rfl, .slice A0 x0.length c0, u, (run_load1 rfl one23 (ev_sl e3) ((gr_box S hl 0 rfl).cell rfl)), rfl, S⟩
    · intro a u X hB hu hp hr hz hl S
      replace S : St w u ([] ++ X) := S
      have e4 : sl a 4 = .slice A0 x0.length c0 := hp 1 rfl
      refine .inr (.inr (.inl ⟨rfl, _, _, (run_call (vs := [.slice A0 x0.length c0]) rfl rfl co34 ⟨(ev_sl e4), trivial⟩), ?_⟩))
      refine Calls.mono (c_slices_Clone_int_int (x0 := x0) ⟨(S.rc0 h0.rc), rfl⟩ h103) ?_
      rintro e w1 ⟨B107, n108, d109, rfl, rfl, T⟩
      exact ⟨_, rfl, rfl, S.call1 T⟩
    · intro a u X hB hu hp hr hz hl S
      replace S : St w u ([] ++ X) := S
      exact .inl ⟨rfl, .pointer (some ⟨g101, 1, none⟩), u, (run_fieldAddr rfl fl25_1 (hF.evB hB rfl rfl) rfl), rfl, S⟩
    · intro a u X hB hu hp hr hz hl S
      replace S : St w u ([] ++ X) := S
      have e6 : sl a 6 = .pointer (some ⟨g101, 1, none⟩) := hp 3 rfl
      exact .inl ⟨rfl, .bool x1, u, (run_load1 rfl one4 (ev_sl e6) ((gr_box S hl 0 rfl).cell rfl)), rfl, S⟩
    · intro a u X hB hu hp hr hz hl S
      replace S : St w u ([] ++ X) := S
      have e5 : sl a 5 = .slice (slA (sl a 5)) p103.length (slC (sl a 5)) := hp 2 rfl
      have e7 : sl a 7 = .bool x1 := hp 4 rfl
      exact .inl ⟨rfl, .agg #[.slice (slA (sl a 5)) p103.length (slC (sl a 5)), .bool x1], u, (run_build (vs := [(0, .slice (slA (sl a 5)) p103.length (slC (sl a 5))), (1, .bool x1)]) rfl ⟨⟨rfl, (ev_sl e5)⟩, ⟨rfl, (ev_sl e7)⟩, trivial⟩ (bd25_0_1 rfl rfl)), rfl, S⟩
    · intro a u X hB hu hp hr hz hl S
      replace S : St w u ([.box g102 25 #[.slice none 0 0, .bool false]] ++ X) := S
      have e8 : sl a 8 = .agg #[.slice (slA (sl a 5)) p103.length (slC (sl a 5)), .bool x1] := hp 5 rfl
      exact .inr (.inl ⟨rfl, _, run_store (cs' := #[.slice (slA (sl a 5)) p103.length (slC (sl a 5)), .bool x1]) rfl sz25 (hF.evB hB rfl rfl) (ev_sl e8) rfl rfl rfl (S.free 0 rfl) rfl rfl, trivial, S.put 0 rfl (#[.slice (slA (sl a 5)) p103.length (slC (sl a 5)), .bool x1])⟩)
  · intro a u hB hp S
    obtain ⟨q0, q1, q2, q3, q4, q5, q6, _⟩ := hp
    have e3 : sl a 3 = .pointer (some ⟨g101, 0, none⟩) := q0
    have e4 : sl a 4 = .slice A0 x0.length c0 := q1
    have e5 : sl a 5 = .slice (slA (sl a 5)) p103.length (slC (sl a 5)) := q2
    have e6 : sl a 6 = .pointer (some ⟨g101, 1, none⟩) := q3
    have e7 : sl a 7 = .bool x1 := q4
    have e8 : sl a 8 = .agg #[.slice (slA (sl a 5)) p103.length (slC (sl a 5)), .bool x1] := q5
    replace S : St w u [.row 3 1 (.slice (slA (sl a 5)) p103.length (slC (sl a 5))) p103.length (p103.flatMap eI), .box g102 25 #[.slice (slA (sl a 5)) p103.length (slC (sl a 5)), .bool x1], .box g101 25 #[.slice A0 x0.length c0, .bool x1]] := S
    clear q0 q1 q2 q3 q4 q5 q6
    generalize slA (sl a 5) = B110 at *
    generalize slC (sl a 5) = d111 at *
    have hF := hF.region hB [(3, .pointer (some ⟨g101, 0, none⟩)), (4, .slice A0 x0.length c0), (5, .slice B110 p103.length d111), (6, .pointer (some ⟨g101, 1, none⟩)), (7, .bool x1), (8, .agg #[.slice B110 p103.length d111, .bool x1])] (allSl_mem ⟨e3, e4, e5, e6, e7, e8, trivial⟩) rfl
    clear hB e3 e4 e5 e6 e7 e8
    refine wp_ret ?_
    repeat with_reducible (first | refine then_ret ?_ | refine in_ret ?_ | refine in_nrm ?_)
    refine ret1_gw (.inl rfl) hF rfl (res_cell (hF.ev rfl) (res_loadN ag25 rfl (S.cells 1 rfl 0 #[.slice B110 p103.length d111, .bool x1] rfl))) ?_
    obtain rfl := Option.some.inj hM
    exact ⟨B110, p103.length, d111, rfl, rfl, S.sel [0] rfl rfl⟩

set_option maxHeartbeats 4000000 in
theorem c_impl_BarsDo {x0 : List Int} {x1 : Bool} {x2 : Int} {A0 : Option Addr} {n0 c0 : Nat} {w : World} {r : List Int × Bool × Bool} (h0 : Rt w 1 eI A0 n0 c0 x0) (hM : m_impl_BarsDo x0 x1 x2 = some r) :
    Calls Tryd.prog 8 #[.agg #[.slice A0 n0 c0, .bool x1], .int .i64 x2] w (fun e w' => ∃ (B0 : Option Addr) (N0 D0 : Nat), e = .returned (.tuple #[.agg #[.slice B0 N0 D0, .bool r.2.1], .bool r.2.2]) ∧ N0 = r.1.length ∧ St w w' [.row 3 1 (.slice B0 N0 D0) N0 (r.1.flatMap eI)]) := by
  obtain rfl := h0.len
  unfold m_impl_BarsDo at hM
  refine calls_gw Tryd.func8 Tryd.ntmps8 rfl [(0, .agg #[.slice A0 x0.length c0, .bool x1]), (1, .int .i64 x2)] ⟨rfl, rfl, trivial⟩ rfl ?_
  intro a hF
  have S := St.nil w
  refine wp_seq ?_
  refine wp_region_lit ?_
  refine op_new (cs := #[.slice A0 x0.length c0, .bool x1]) rfl rfl hF rfl S (run_box rfl (hF.ev rfl) rfl) ?_; clear hF S; intro a g101 u hF S
  refine op_new (cs := #[.slice none 0 0, .bool false]) rfl rfl hF rfl S (run_allocZ rfl zr25) ?_; clear hF S; intro a g102 u hF S
  refine op_val (v := .bool false) rfl rfl hF rfl (run_assign rfl rfl) ?_; clear hF; intro a hF
  refine wpList_nil ?_
  refine wp_seq ?_
  refine wp_seq ?_
  refine wp_region_lit ?_
  refine op_val (v := .agg #[.slice A0 x0.length c0, .bool x1]) rfl rfl hF rfl (run_loadN rfl ag25 (hF.ev rfl) rfl ((S.free 1 rfl).cells 0 #[.slice A0 x0.length c0, .bool x1] rfl)) ?_; clear hF; intro a hF
  obtain ⟨p103, h103, hM⟩ := bind_ex hM
  refine op_call rfl rfl hF rfl (run_call (vs := [.agg #[.slice A0 x0.length c0, .bool x1]]) rfl rfl co12 ⟨(hF.ev rfl), trivial⟩) (c_impl_BarsValid (x0 := x0) (x1 := x1) ⟨(S.rc0 h0.rc), rfl⟩ h103) ?_
  rintro e u ⟨rfl, T⟩
  refine ⟨_, rfl, ?_⟩
  clear hF; intro a hF
  replace S := S.call0 T; clear T
  refine op_val (v := .bool (!p103)) rfl rfl hF rfl (run_not rfl (hF.ev rfl)) ?_; clear hF; intro a hF
  refine wpList_nil ?_
  cases hc104 : (p103)
  · replace hM := bif_f hc104 hM
    refine cond_t hF rfl (not_t hc104) ?_
    refine wp_seq ?_
    refine wp_region_lit ?_
    refine op_val (v := .agg #[.slice none 0 0, .bool false]) rfl rfl hF rfl (run_build (vs := []) rfl trivial (bd25 )) ?_; clear hF; intro a hF
    refine op_do rfl rfl (run_store (cs' := #[.slice none 0 0, .bool false]) rfl sz25 (hF.ev rfl) (hF.ev rfl) rfl rfl rfl (S.free 0 rfl) rfl rfl) ?_; replace S := S.put 0 rfl (#[.slice none 0 0, .bool false])
    generalize World.setRow _ _ _ = u at S ⊢
    refine op_val (v := .bool false) rfl rfl hF rfl (run_assign rfl rfl) ?_; clear hF; intro a hF
    refine wpList_nil ?_
    refine wp_ret ?_
    repeat with_reducible (first | refine then_ret ?_ | refine in_ret ?_ | refine in_nrm ?_)
    refine ret2_gw (.inl rfl) hF rfl (res_cell (hF.ev rfl) (res_loadN ag25 rfl (S.cells 0 rfl 0 #[.slice none 0 0, .bool false] rfl))) (res_tmp (hF.ev rfl)) ?_
    obtain rfl := Option.some.inj hM
    replace S := S.nilrow 3 1
    exact ⟨none, 0, 0, rfl, rfl, S.sel [0] rfl rfl⟩
  · replace hM := bif_t hc104 hM
    refine cond_f hF rfl (not_f hc104) ?_
    refine wp_skip ?_
    refine wp_seq ?_
    refine wp_region_lit ?_
    refine op_val (v := .agg #[.slice A0 x0.length c0, .bool x1]) rfl rfl hF rfl (run_loadN rfl ag25 (hF.ev rfl) rfl ((S.free 1 rfl).cells 0 #[.slice A0 x0.length c0, .bool x1] rfl)) ?_; clear hF; intro a hF
    obtain ⟨p105, h105, hM⟩ := bind_ex hM
    refine op_call rfl rfl hF rfl (run_call (vs := [.agg #[.slice A0 x0.length c0, .bool x1]]) rfl rfl co27 ⟨(hF.ev rfl), trivial⟩) (c_impl_Bars_clone (x0 := x0) (x1 := x1) ⟨(S.rc0 h0.rc), rfl⟩ h105) ?_
    rintro e u ⟨B106, n107, d108, rfl, rfl, T⟩
    refine ⟨_, rfl, ?_⟩
    clear hF; intro a hF
    replace S := S.call1 T; clear T
    refine op_new (cs := #[.slice none 0 0, .bool false]) rfl rfl hF rfl S (run_allocZ rfl zr25) ?_; clear hF S; intro a g109 u hF S
    refine op_do rfl rfl (run_store (cs' := #[.slice B106 p105.1.length d108, .bool p105.2]) rfl sz25 (hF.ev rfl) (hF.ev rfl) rfl rfl rfl (S.free 0 rfl) rfl rfl) ?_; replace S := S.put 0 rfl (#[.slice B106 p105.1.length d108, .bool p105.2])
    generalize World.setRow _ _ _ = u at S ⊢
    refine wpList_nil ?_
    refine wp_seq ?_
    refine wp_region_lit ?_
    refine op_val (v := .int .i64 x2) rfl rfl hF rfl (run_move rfl (hF.ev rfl)) ?_; clear hF; intro a hF
    refine op_val (v := .int .i64 (Int.tmod x2 2)) rfl rfl hF rfl (run_rem (z := Int.tmod x2 2) (hF.ev rfl) rfl rfl (by decide) rfl) ?_; clear hF; intro a hF
    refine op_val (v := .bool ((Int.tmod x2 2) == 1)) rfl rfl hF rfl (run_eql (hF.ev rfl) rfl rfl) ?_; clear hF; intro a hF
    refine op_val (v := .bool ((Int.tmod x2 2) == 1)) rfl rfl hF rfl (run_assign rfl (hF.ev rfl)) ?_; clear hF; intro a hF
    refine wpList_nil ?_
    refine wp_seq ?_
    refine wp_block ?_
    refine wp_seq ?_
    refine wp_region_lit ?_
    refine op_val (v := .int .i64 x2) rfl rfl hF rfl (run_move rfl (hF.ev rfl)) ?_; clear hF; intro a hF
    refine op_val (v := .bool (ltB x2 0)) rfl rfl hF rfl (run_lss (hF.ev rfl) rfl rfl) ?_; clear hF; intro a hF
    refine op_val (v := .bool (ltB x2 0)) rfl rfl hF rfl (run_move rfl (hF.ev rfl)) ?_; clear hF; intro a hF
    refine op_gv (v := .int .i64 x2) rfl rfl hF rfl (yf (gw_yield hF rfl rfl rfl)) (fun hg => (run_move rfl (hF.ev rfl))) ?_; clear hF; intro a hF
    refine op_gv (v := .pointer (some ⟨g101, 0, none⟩)) rfl rfl hF rfl (yf (gw_yield hF rfl rfl rfl)) (fun hg => (run_fieldAddr rfl fl25_0 (hF.ev rfl) rfl)) ?_; clear hF; intro a hF
    refine op_gv (v := .slice A0 x0.length c0) rfl rfl hF rfl (yf (gw_yield hF rfl rfl rfl)) (fun hg => (run_load1 rfl one23 ((hF.ev rfl).trans (gv_t hg)) ((S.free 3 rfl).cell rfl))) ?_; clear hF; intro a hF
    refine op_gv (v := .int .i64 (x0.length : Int)) rfl rfl hF rfl (yf (gw_yield hF rfl rfl rfl)) (fun hg => (run_lenL rfl rfl Tryd.underlying23 ((hF.ev rfl).trans (gv_t hg)))) ?_; clear hF; intro a hF
    refine op_gv (v := .int .i64 (w64 (4 * (x0.length : Int)))) rfl rfl hF rfl (yf (gw_yield hF rfl rfl rfl)) (fun hg => (run_mul (z := w64 (4 * (x0.length : Int))) rfl ((hF.ev rfl).trans (gv_t hg)) rfl rfl)) ?_; clear hF; intro a hF
    refine op_gv (v := .int .i64 (w64 (2 + (w64 (4 * (x0.length : Int)))))) rfl rfl hF rfl (yf (gw_yield hF rfl rfl rfl)) (fun hg => (run_add (z := w64 (2 + (w64 (4 * (x0.length : Int))))) rfl ((hF.ev rfl).trans (gv_t hg)) rfl rfl)) ?_; clear hF; intro a hF
    refine op_gv (v := .bool (leB (w64 (2 + (w64 (4 * (x0.length : Int))))) x2)) rfl rfl hF rfl (yf (gw_yield hF rfl rfl rfl)) (fun hg => (run_geq ((hF.ev rfl).trans (gv_t hg)) ((hF.ev rfl).trans (gv_t hg)) rfl)) ?_; clear hF; intro a hF
    refine op_val (v := .bool ((ltB x2 0) || (leB (w64 (2 + (w64 (4 * (x0.length : Int))))) x2))) rfl rfl hF rfl (run_pick_or rfl (hF.ev rfl) rfl (fun hp => ((hF.ev rfl).trans (gv_t (not_t hp))))) ?_; clear hF; intro a hF
    refine op_val (v := .bool ((ltB x2 0) || (leB (w64 (2 + (w64 (4 * (x0.length : Int))))) x2))) rfl rfl hF rfl (run_assign rfl (hF.ev rfl)) ?_; clear hF; intro a hF
    refine wpList_nil ?_
    cases hc110 : ((ltB x2 0) || (leB (w64 (2 + (w64 (4 * (x0.length : Int))))) x2))
    · replace hM := bif_f hc110 hM
      refine cond_f hF rfl hc110 ?_
      refine wp_seq ?_
      refine wp_region_lit ?_
      refine op_val (v := .int .i64 x2) rfl rfl hF rfl (run_move rfl (hF.ev rfl)) ?_; clear hF; intro a hF
      refine op_val (v := .bool (ltB x2 2)) rfl rfl hF rfl (run_lss (hF.ev rfl) rfl rfl) ?_; clear hF; intro a hF
      refine op_val (v := .bool (ltB x2 2)) rfl rfl hF rfl (run_assign rfl (hF.ev rfl)) ?_; clear hF; intro a hF
      refine wpList_nil ?_
      obtain ⟨o112, hM114, hM⟩ := bind_ex hM
      refine wp_cut (fun a u => ∃ (p111 : List Int × Bool), (Sum.inl p111) = o112 ∧ p105.1.length = p111.1.length ∧ Fr a 76 [(2, .pointer (some ⟨g101, 0, none⟩)), (4, .pointer (some ⟨g102, 0, none⟩)), (5, .bool false), (6, .pointer (some ⟨g109, 0, none⟩))] ∧ St w u [.box g109 25 #[.slice B106 p105.1.length d108, .bool p111.2], .box g102 25 #[.slice none 0 0, .bool false], .box g101 25 #[.slice A0 x0.length c0, .bool x1], .row 3 1 (.slice B106 p105.1.length d108) p105.1.length (p111.1.flatMap eI)]) ?_ ?_
      · have _ := trivial
        cases hc115 : (ltB x2 2)
        · replace hM114 := bif_f hc115 hM114
          refine cond_f hF rfl hc115 ?_
          refine wp_seq ?_
          refine wp_region_lit ?_
          refine op_val (v := .int .i64 x2) rfl rfl hF rfl (run_move rfl (hF.ev rfl)) ?_; clear hF; intro a hF
          refine op_val (v := .int .i64 (w64 (x2 - 2))) rfl rfl hF rfl (run_sub (z := w64 (x2 - 2)) (hF.ev rfl) rfl rfl rfl) ?_; clear hF; intro a hF
          refine op_val (v := .int .i64 (w64 (Int.tdiv (w64 (x2 - 2)) 4))) rfl rfl hF rfl (run_quo (z := w64 (Int.tdiv (w64 (x2 - 2)) 4)) (hF.ev rfl) rfl rfl (by decide) rfl) ?_; clear hF; intro a hF
          refine op_val (v := .int .i64 x2) rfl rfl hF rfl (run_move rfl (hF.ev rfl)) ?_; clear hF; intro a hF
          refine op_val (v := .int .i64 (w64 (x2 - 2))) rfl rfl hF rfl (run_sub (z := w64 (x2 - 2)) (hF.ev rfl) rfl rfl rfl) ?_; clear hF; intro a hF
          refine op_val (v := .int .i64 (w64 (Int.tdiv (w64 (x2 - 2)) 2))) rfl rfl hF rfl (run_quo (z := w64 (Int.tdiv (w64 (x2 - 2)) 2)) (hF.ev rfl) rfl rfl (by decide) rfl) ?_; clear hF; intro a hF
          refine op_val (v := .int .i64 (Int.tmod (w64 (Int.tdiv (w64 (x2 - 2)) 2)) 2)) rfl rfl hF rfl (run_rem (z := Int.tmod (w64 (Int.tdiv (w64 (x2 - 2)) 2)) 2) (hF.ev rfl) rfl rfl (by decide) rfl) ?_; clear hF; intro a hF
          refine op_val (v := .int .i64 (w64 (Int.tdiv (w64 (x2 - 2)) 4))) rfl rfl hF rfl (run_assign rfl (hF.ev rfl)) ?_; clear hF; intro a hF
          refine op_val (v := .int .i64 (Int.tmod (w64 (Int.tdiv (w64 (x2 - 2)) 2)) 2)) rfl rfl hF rfl (run_assign rfl (hF.ev rfl)) ?_; clear hF; intro a hF
          refine wpList_nil ?_
          refine wp_seq ?_
          refine wp_seq ?_
          refine wp_region_lit ?_
          refine op_val (v := .pointer (some ⟨g109, 0, none⟩)) rfl rfl hF rfl (run_fieldAddr rfl fl25_0 (hF.ev rfl) rfl) ?_; clear hF; intro a hF
          refine op_val (v := .slice B106 p105.1.length d108) rfl rfl hF rfl (run_load1 rfl one23 (hF.ev rfl) ((S.free 0 rfl).cell rfl)) ?_; clear hF; intro a hF
          refine op_val (v := .int .i64 (w64 (Int.tdiv (w64 (x2 - 2)) 4))) rfl rfl hF rfl (run_move rfl (hF.ev rfl)) ?_; clear hF; intro a hF
          obtain ⟨hk116, hM114⟩ := chk_ex hM114
          replace hk116 := ixB_t hk116
          refine op_val (v := .pointer (some ⟨adB B106, adO B106 + ((w64 (Int.tdiv (w64 (x2 - 2)) 4)).toNat) * 1, none⟩)) rfl rfl hF rfl (run_indexAddr (b := adB B106) (off := adO B106) rfl Tryd.underlying23 sz3 ((hF.ev rfl).trans (congrArg (fun A => Value.slice A p105.1.length d108) ((S.rc 1 rfl).rd.ad (ix_pos hk116)))) (hF.ev rfl) hk116.1 hk116.2 (k' := adO B106 + ((w64 (Int.tdiv (w64 (x2 - 2)) 4)).toNat) * 1) rfl) ?_; clear hF; intro a hF
          refine op_val (v := .int .i64 (p105.1.getD ((w64 (Int.tdiv (w64 (x2 - 2)) 4)).toNat) (0 : Int))) rfl rfl hF rfl (run_load1 rfl one3 (hF.ev rfl) (rd_el0 (l := p105.1) (S.rc 1 rfl).rd rfl eI_len (0 : Int) (ix_ltn hk116 rfl) rfl)) ?_; clear hF; intro a hF
          refine op_val (v := .int .i64 (Int.tmod (w64 (Int.tdiv (w64 (x2 - 2)) 2)) 2)) rfl rfl hF rfl (run_move rfl (hF.ev rfl)) ?_; clear hF; intro a hF
          obtain ⟨hk117, hM114⟩ := chk_ex hM114
          replace hk117 := nnB_t hk117
          refine op_val (v := .int .i64 (bitsShr .i64 (p105.1.getD ((w64 (Int.tdiv (w64 (x2 - 2)) 4)).toNat) (0 : Int)) (Int.tmod (w64 (Int.tdiv (w64 (x2 - 2)) 2)) 2))) rfl rfl hF rfl (run_shr (hF.ev rfl) (hF.ev rfl) rfl hk117) ?_; clear hF; intro a hF
          refine op_val (v := .int .i64 (bitsAnd .i64 (bitsShr .i64 (p105.1.getD ((w64 (Int.tdiv (w64 (x2 - 2)) 4)).toNat) (0 : Int)) (Int.tmod (w64 (Int.tdiv (w64 (x2 - 2)) 2)) 2)) 1)) rfl rfl hF rfl (run_band (hF.ev rfl) rfl rfl) ?_; clear hF; intro a hF
          refine op_val (v := .bool ((bitsAnd .i64 (bitsShr .i64 (p105.1.getD ((w64 (Int.tdiv (w64 (x2 - 2)) 4)).toNat) (0 : Int)) (Int.tmod (w64 (Int.tdiv (w64 (x2 - 2)) 2)) 2)) 1) == 1)) rfl rfl hF rfl (run_eql (hF.ev rfl) rfl rfl) ?_; clear hF; intro a hF
          refine op_val (v := .bool ((Int.tmod x2 2) == 1)) rfl rfl hF rfl (run_move rfl (hF.ev rfl)) ?_; clear hF; intro a hF
          refine op_val (v := .bool (((bitsAnd .i64 (bitsShr .i64 (p105.1.getD ((w64 (Int.tdiv (w64 (x2 - 2)) 4)).toNat) (0 : Int)) (Int.tmod (w64 (Int.tdiv (w64 (x2 - 2)) 2)) 2)) 1) == 1) == ((Int.tmod x2 2) == 1))) rfl rfl hF rfl (run_eqlB (hF.ev rfl) (hF.ev rfl) Tryd.underlying4 rfl) ?_; clear hF; intro a hF
          refine wpList_nil ?_
          cases hc118 : (((bitsAnd .i64 (bitsShr .i64 (p105.1.getD ((w64 (Int.tdiv (w64 (x2 - 2)) 4)).toNat) (0 : Int)) (Int.tmod (w64 (Int.tdiv (w64 (x2 - 2)) 2)) 2)) 1) == 1) == ((Int.tmod x2 2) == 1))
          · replace hM114 := bif_f hc118 hM114
            refine cond_f hF rfl hc118 ?_
            refine wp_skip ?_
            obtain ⟨hk119, hM114⟩ := chk_ex hM114
            replace hk119 := ixB_t hk119
            obtain ⟨hk120, hM114⟩ := chk_ex hM114
            replace hk120 := nnB_t hk120
            obtain ⟨hk121, hM114⟩ := chk_ex hM114
            replace hk121 := ixB_t hk121
            refine region_gw (D := [38, 39, 40, 41, 42, 43, 44, 45, 46]) (Lr := [.box g109 25 #[.slice B106 p105.1.length d108, .bool p105.2], .box g102 25 #[.slice none 0 0, .bool false], .box g101 25 #[.slice A0 x0.length c0, .bool x1]]) (deps := (fun | 0 => [38] | 1 => [39] | 2 => [40] | 3 => [41] | 4 => [42] | 5 => [43] | 6 => [44] | 7 => [45] | 8 => [46] | 9 => [46] | _ => [])) (rd := (fun _ => [])) (zr := (fun | 3 => [9] | 4 => [9] | 8 => [9] | _ => []))
              (φ := fun i vs => match i, vs with | 0, [v38] => v38 = .pointer (some ⟨g109, 0, none⟩) | 1, [v39] => v39 = .slice B106 p105.1.length d108 | 2, [v40] => v40 = .int .i64 (w64 (Int.tdiv (w64 (x2 - 2)) 4)) | 3, [v41] => v41 = .pointer (some ⟨adB B106, adO B106 + ((w64 (Int.tdiv (w64 (x2 - 2)) 4)).toNat) * 1, none⟩) | 4, [v42] => v42 = .int .i64 (p105.1.getD ((w64 (Int.tdiv (w64 (x2 - 2)) 4)).toNat) (0 : Int)) | 5, [v43] => v43 = .int .i64 (Int.tmod (w64 (Int.tdiv (w64 (x2 - 2)) 2)) 2) | 6, [v44] => v44 = .int .i64 (bitsShl .i64 1 (Int.tmod (w64 (Int.tdiv (w64 (x2 - 2)) 2)) 2)) | 7, [v45] => v45 = .int .i64 (bitsXor .i64 (p105.1.getD ((w64 (Int.tdiv (w64 (x2 - 2)) 4)).toNat) (0 : Int)) (bitsShl .i64 1 (Int.tmod (w64 (Int.tdiv (w64 (x2 - 2)) 2)) 2))) | 8, [v46] => v46 = .pointer (some ⟨adB B106, adO B106 + ((w64 (Int.tdiv (w64 (x2 - 2)) 4)).toNat) * 1, none⟩) | _, _ => True)
              (C := fun i vs => match i, vs with | 9, [v46] => [.row 3 1 (.slice B106 p105.1.length d108) p105.1.length ((p105.1.set ((w64 (Int.tdiv (w64 (x2 - 2)) 4)).toNat) (bitsXor .i64 (p105.1.getD ((w64 (Int.tdiv (w64 (x2 - 2)) 4)).toNat) (0 : Int)) (bitsShl .i64 1 (Int.tmod (w64 (Int.tdiv (w64 (x2 - 2)) 2)) 2)))).flatMap eI)] | _, _ => [])
              (κ := (fun _ => none)) (Z := (fun | 9 => [.row 3 1 (.slice B106 p105.1.length d108) p105.1.length (p105.1.flatMap eI)] | _ => [])) mixed hF (by kernel_rfl) (show St w _ [.row 3 1 (.slice B106 p105.1.length d108) p105.1.length (p105.1.flatMap eI), .box g109 25 #[.slice B106 p105.1.length d108, .bool p105.2], .box g102 25 #[.slice none 0 0, .bool false], .box g101 25 #[.slice A0 x0.length c0, .bool x1]] from S.sel [1, 0, 2, 3] rfl rfl) ?_ ?_
            · refine ⟨?_, ?_, ?_, ?_, ?_, ?_, ?_, ?_, ?_, ?_, trivial⟩
              · intro a u X hB hu hp hr hz hl S
                replace S : St w u ([] ++ X) := S
                exact .inl ⟨rfl, .pointer (some ⟨g109, 0, none⟩), u, (run_fieldAddr rfl fl25_0 (hF.evB hB rfl rfl) rfl), rfl, S⟩
              · intro a u X hB hu hp hr hz hl S
                replace S : St w u ([] ++ X) := S
                have e38 : sl a 38 = .pointer (some ⟨g109, 0, none⟩) := hp 0 rfl
                exact .inl ⟨rfl, .slice B106 p105.1.length d108, u, (run_load1 rfl one23 (ev_sl e38) ((gr_box S hl 0 rfl).cell rfl)), rfl, S⟩
              · intro a u X hB hu hp hr hz hl S
                replace S : St w u ([] ++ X) := S
                exact .inl ⟨rfl, .int .i64 (w64 (Int.tdiv (w64 (x2 - 2)) 4)), u, (run_move rfl (hF.evB hB rfl rfl)), rfl, S⟩
              · intro a u X hB hu hp hr hz hl S
                replace S : St w u ([] ++ X) := S
                have e39 : sl a 39 = .slice B106 p105.1.length d108 := hp 1 rfl
                have e40 : sl a 40 = .int .i64 (w64 (Int.tdiv (w64 (x2 - 2)) 4)) := hp 2 rfl
                exact .inl ⟨rfl, .pointer (some ⟨adB B106, adO B106 + ((w64 (Int.tdiv (w64 (x2 - 2)) 4)).toNat) * 1, none⟩), u, (run_indexAddr (b := adB B106) (off := adO B106) rfl Tryd.underlying23 sz3 ((ev_sl e39).trans (congrArg (fun A => Value.slice A p105.1.length d108) ((own_rc (show World.ownsRow _ 0 _ _ _ _ _ from S.mem (List.mem_append_right _ (hz 9 (List.mem_of_getElem? (i := 0) rfl) _ (List.mem_of_getElem? (i := 0) rfl))))).rd.ad (ix_pos hk119)))) (ev_sl e40) hk119.1 hk119.2 (k' := adO B106 + ((w64 (Int.tdiv (w64 (x2 - 2)) 4)).toNat) * 1) rfl), rfl, S⟩
              · intro a u X hB hu hp hr hz hl S
                replace S : St w u ([] ++ X) := S
                have e41 : sl a 41 = .pointer (some ⟨adB B106, adO B106 + ((w64 (Int.tdiv (w64 (x2 - 2)) 4)).toNat) * 1, none⟩) := hp 3 rfl
                exact .inl ⟨rfl, .int .i64 (p105.1.getD ((w64 (Int.tdiv (w64 (x2 - 2)) 4)).toNat) (0 : Int)), u, (run_load1 rfl one3 (ev_sl e41) (rd_el0 (l := p105.1) (own_rc (show World.ownsRow _ 0 _ _ _ _ _ from S.mem (List.mem_append_right _ (hz 9 (List.mem_of_getElem? (i := 0) rfl) _ (List.mem_of_getElem? (i := 0) rfl))))).rd rfl eI_len (0 : Int) (ix_ltn hk119 rfl) rfl)), rfl, S⟩
              · intro a u X hB hu hp hr hz hl S
                replace S : St w u ([] ++ X) := S
                exact .inl ⟨rfl, .int .i64 (Int.tmod (w64 (Int.tdiv (w64 (x2 - 2)) 2)) 2), u, (run_move rfl (hF.evB hB rfl rfl)), rfl, S⟩
              · intro a u X hB hu hp hr hz hl S
                replace S : St w u ([] ++ X) := S
                have e43 : sl a 43 = .int .i64 (Int.tmod (w64 (Int.tdiv (w64 (x2 - 2)) 2)) 2) := hp 5 rfl
                exact .inl ⟨rfl, .int .i64 (bitsShl .i64 1 (Int.tmod (w64 (Int.tdiv (w64 (x2 - 2)) 2)) 2)), u, (run_shl (ev_const _ _) (ev_sl e43) rfl hk120), rfl, S⟩
              · intro a u X hB hu hp hr hz hl S
                replace S : St w u ([] ++ X) := S
                have e42 : sl a 42 = .int .i64 (p105.1.getD ((w64 (Int.tdiv (w64 (x2 - 2)) 4)).toNat) (0 : Int)) := hp 4 rfl
                have e44 : sl a 44 = .int .i64 (bitsShl .i64 1 (Int.tmod (w64 (Int.tdiv (w64 (x2 - 2)) 2)) 2)) := hp 6 rfl
                exact .inl ⟨rfl, .int .i64 (bitsXor .i64 (p105.1.getD ((w64 (Int.tdiv (w64 (x2 - 2)) 4)).toNat) (0 : Int)) (bitsShl .i64 1 (Int.tmod (w64 (Int.tdiv (w64 (x2 - 2)) 2)) 2))), u, (run_bxor (ev_sl e42) (ev_sl e44) rfl), rfl, S⟩
              · intro a u X hB hu hp hr hz hl S
                replace S : St w u ([] ++ X) := S
                have e39 : sl a 39 = .slice B106 p105.1.length d108 := hp 1 rfl
                have e40 : sl a 40 = .int .i64 (w64 (Int.tdiv (w64 (x2 - 2)) 4)) := hp 2 rfl
                exact .inl ⟨rfl, .pointer (some ⟨adB B106, adO B106 + ((w64 (Int.tdiv (w64 (x2 - 2)) 4)).toNat) * 1, none⟩), u, (run_indexAddr (b := adB B106) (off := adO B106) rfl Tryd.underlying23 sz3 ((ev_sl e39).trans (congrArg (fun A => Value.slice A p105.1.length d108) ((own_rc (show World.ownsRow _ 0 _ _ _ _ _ from S.mem (List.mem_append_right _ (hz 9 (List.mem_of_getElem? (i := 0) rfl) _ (List.mem_of_getElem? (i := 0) rfl))))).rd.ad (ix_pos hk121)))) (ev_sl e40) hk121.1 hk121.2 (k' := adO B106 + ((w64 (Int.tdiv (w64 (x2 - 2)) 4)).toNat) * 1) rfl), rfl, S⟩
              · intro a u X hB hu hp hr hz hl S
                replace S : St w u ([.row 3 1 (.slice B106 p105.1.length d108) p105.1.length (p105.1.flatMap eI)] ++ X) := S
                have e45 : sl a 45 = .int .i64 (bitsXor .i64 (p105.1.getD ((w64 (Int.tdiv (w64 (x2 - 2)) 4)).toNat) (0 : Int)) (bitsShl .i64 1 (Int.tmod (w64 (Int.tdiv (w64 (x2 - 2)) 2)) 2))) := hp 7 rfl
                have e46 : sl a 46 = .pointer (some ⟨adB B106, adO B106 + ((w64 (Int.tdiv (w64 (x2 - 2)) 4)).toNat) * 1, none⟩) := hp 8 rfl
                obtain ⟨w', hrun, S'⟩ := run_storeElN (P := Tryd.prog) (ρ := a.eval) (y0 := bitsXor .i64 (p105.1.getD ((w64 (Int.tdiv (w64 (x2 - 2)) 4)).toNat) (0 : Int)) (bitsShl .i64 1 (Int.tmod (w64 (Int.tdiv (w64 (x2 - 2)) 2)) 2))) (off := 0) S 3 (.tmp 46) (.tmp 45) (i := 0) sz3 (ev_sl e46) (ev_sl e45) rfl rfl rfl rfl rfl eI_len (0 : Int) (ix_ltn hk121 rfl) rfl rfl
                exact .inr (.inl ⟨rfl, w', hrun _ rfl, trivial, S'⟩)
            · intro a u hB hp S
              obtain ⟨q0, q1, q2, q3, q4, q5, q6, q7, q8, q9, _⟩ := hp
              have e38 : sl a 38 = .pointer (some ⟨g109, 0, none⟩) := q0
              have e39 : sl a 39 = .slice B106 p105.1.length d108 := q1
              have e40 : sl a 40 = .int .i64 (w64 (Int.tdiv (w64 (x2 - 2)) 4)) := q2
              have e41 : sl a 41 = .pointer (some ⟨adB B106, adO B106 + ((w64 (Int.tdiv (w64 (x2 - 2)) 4)).toNat) * 1, none⟩) := q3
              have e42 : sl a 42 = .int .i64 (p105.1.getD ((w64 (Int.tdiv (w64 (x2 - 2)) 4)).toNat) (0 : Int)) := q4
              have e43 : sl a 43 = .int .i64 (Int.tmod (w64 (Int.tdiv (w64 (x2 - 2)) 2)) 2) := q5
              have e44 : sl a 44 = .int .i64 (bitsShl .i64 1 (Int.tmod (w64 (Int.tdiv (w64 (x2 - 2)) 2)) 2)) := q6
              have e45 : sl a 45 = .int .i64 (bitsXor .i64 (p105.1.getD ((w64 (Int.tdiv (w64 (x2 - 2)) 4)).toNat) (0 : Int)) (bitsShl .i64 1 (Int.tmod (w64 (Int.tdiv (w64 (x2 - 2)) 2)) 2))) := q7
              have e46 : sl a 46 = .pointer (some ⟨adB B106, adO B106 + ((w64 (Int.tdiv (w64 (x2 - 2)) 4)).toNat) * 1, none⟩) := q8
              replace S : St w u [.row 3 1 (.slice B106 p105.1.length d108) p105.1.length ((p105.1.set ((w64 (Int.tdiv (w64 (x2 - 2)) 4)).toNat) (bitsXor .i64 (p105.1.getD ((w64 (Int.tdiv (w64 (x2 - 2)) 4)).toNat) (0 : Int)) (bitsShl .i64 1 (Int.tmod (w64 (Int.tdiv (w64 (x2 - 2)) 2)) 2)))).flatMap eI), .box g109 25 #[.slice B106 p105.1.length d108, .bool p105.2], .box g102 25 #[.slice none 0 0, .bool false], .box g101 25 #[.slice A0 x0.length c0, .bool x1]] := S
              clear q0 q1 q2 q3 q4 q5 q6 q7 q8 q9
              have hF := hF.region hB [(38, .pointer (some ⟨g109, 0, none⟩)), (39, .slice B106 p105.1.length d108), (40, .int .i64 (w64 (Int.tdiv (w64 (x2 - 2)) 4))), (41, .pointer (some ⟨adB B106, adO B106 + ((w64 (Int.tdiv (w64 (x2 - 2)) 4)).toNat) * 1, none⟩)), (42, .int .i64 (p105.1.getD ((w64 (Int.tdiv (w64 (x2 - 2)) 4)).toNat) (0 : Int))), (43, .int .i64 (Int.tmod (w64 (Int.tdiv (w64 (x2 - 2)) 2)) 2)), (44, .int .i64 (bitsShl .i64 1 (Int.tmod (w64 (Int.tdiv (w64 (x2 - 2)) 2)) 2))), (45, .int .i64 (bitsXor .i64 (p105.1.getD ((w64 (Int.tdiv (w64 (x2 - 2)) 4)).toNat) (0 : Int)) (bitsShl .i64 1 (Int.tmod (w64 (Int.tdiv (w64 (x2 - 2)) 2)) 2)))), (46, .pointer (some ⟨adB B106, adO B106 + ((w64 (Int.tdiv (w64 (x2 - 2)) 4)).toNat) * 1, none⟩))] (allSl_mem ⟨e38, e39, e40, e41, e42, e43, e44, e45, e46, trivial⟩) rfl
              clear hB e38 e39 e40 e41 e42 e43 e44 e45 e46
              obtain rfl := Option.some.inj hM114
              exact ⟨(p105.1.set ((w64 (Int.tdiv (w64 (x2 - 2)) 4)).toNat) (bitsXor .i64 (p105.1.getD ((w64 (Int.tdiv (w64 (x2 - 2)) 4)).toNat) (0 : Int)) (bitsShl .i64 1 (Int.tmod (w64 (Int.tdiv (w64 (x2 - 2)) 2)) 2))), p105.2), rfl, (len_set rfl), hF.keep _ ⟨rfl, rfl, rfl, rfl, trivial⟩, S.sel [1, 2, 3, 0] rfl rfl⟩
          · replace hM114 := bif_t hc118 hM114
            refine cond_t hF rfl hc118 ?_
            refine wp_seq ?_
            refine wp_region_lit ?_
            refine op_val (v := .agg #[.slice B106 p105.1.length d108, .bool p105.2]) rfl rfl hF rfl (run_loadN rfl ag25 (hF.ev rfl) rfl ((S.free 0 rfl).cells 0 #[.slice B106 p105.1.length d108, .bool p105.2] rfl)) ?_; clear hF; intro a hF
            refine op_do rfl rfl (run_store (cs' := #[.slice B106 p105.1.length d108, .bool p105.2]) rfl sz25 (hF.ev rfl) (hF.ev rfl) rfl rfl rfl (S.free 2 rfl) rfl rfl) ?_; replace S := S.put 2 rfl (#[.slice B106 p105.1.length d108, .bool p105.2])
            generalize World.setRow _ _ _ = u at S ⊢
            refine op_val (v := .bool false) rfl rfl hF rfl (run_assign rfl rfl) ?_; clear hF; intro a hF
            refine wpList_nil ?_
            refine wp_ret ?_
            repeat with_reducible (first | refine then_ret ?_ | refine in_ret ?_ | refine in_nrm ?_)
            refine ret2_gw (.inl rfl) hF rfl (res_cell (hF.ev rfl) (res_loadN ag25 rfl (S.cells 2 rfl 0 #[.slice B106 p105.1.length d108, .bool p105.2] rfl))) (res_tmp (hF.ev rfl)) ?_
            obtain rfl := Option.some.inj hM114
            obtain rfl := Option.some.inj hM
            exact ⟨B106, p105.1.length, d108, rfl, rfl, S.sel [1] rfl rfl⟩
        · replace hM114 := bif_t hc115 hM114
          refine cond_t hF rfl hc115 ?_
          refine wp_seq ?_
          refine wp_seq ?_
          refine wp_region_lit ?_
          refine op_val (v := .pointer (some ⟨g109, 1, none⟩)) rfl rfl hF rfl (run_fieldAddr rfl fl25_1 (hF.ev rfl) rfl) ?_; clear hF; intro a hF
          refine op_val (v := .bool p105.2) rfl rfl hF rfl (run_load1 rfl one4 (hF.ev rfl) ((S.free 0 rfl).cell rfl)) ?_; clear hF; intro a hF
          refine op_val (v := .bool ((Int.tmod x2 2) == 1)) rfl rfl hF rfl (run_move rfl (hF.ev rfl)) ?_; clear hF; intro a hF
          refine op_val (v := .bool (p105.2 == ((Int.tmod x2 2) == 1))) rfl rfl hF rfl (run_eqlB (hF.ev rfl) (hF.ev rfl) Tryd.underlying4 rfl) ?_; clear hF; intro a hF
          refine wpList_nil ?_
          cases hc122 : (p105.2 == ((Int.tmod x2 2) == 1))
          · replace hM114 := bif_f hc122 hM114
            refine cond_f hF rfl hc122 ?_
            refine wp_skip ?_
            refine wp_region_lit ?_
            refine op_val (v := .bool ((Int.tmod x2 2) == 1)) rfl rfl hF rfl (run_move rfl (hF.ev rfl)) ?_; clear hF; intro a hF
            refine op_val (v := .pointer (some ⟨g109, 1, none⟩)) rfl rfl hF rfl (run_fieldAddr rfl fl25_1 (hF.ev rfl) rfl) ?_; clear hF; intro a hF
            refine op_do rfl rfl (run_store (cs' := #[.slice B106 p105.1.length d108, .bool ((Int.tmod x2 2) == 1)]) rfl sz4 (hF.ev rfl) (hF.ev rfl) rfl rfl rfl (S.free 0 rfl) rfl rfl) ?_; replace S := S.put 0 rfl (#[.slice B106 p105.1.length d108, .bool ((Int.tmod x2 2) == 1)])
            generalize World.setRow _ _ _ = u at S ⊢
            refine wpList_nil ?_
            obtain rfl := Option.some.inj hM114
            exact ⟨(p105.1, (Int.tmod x2 2) == 1), rfl, rfl, hF.keep _ ⟨rfl, rfl, rfl, rfl, trivial⟩, S.sel [0, 2, 3, 1] rfl rfl⟩
          · replace hM114 := bif_t hc122 hM114
            refine cond_t hF rfl hc122 ?_
            refine wp_seq ?_
            refine wp_region_lit ?_
            refine op_val (v := .agg #[.slice B106 p105.1.length d108, .bool p105.2]) rfl rfl hF rfl (run_loadN rfl ag25 (hF.ev rfl) rfl ((S.free 0 rfl).cells 0 #[.slice B106 p105.1.length d108, .bool p105.2] rfl)) ?_; clear hF; intro a hF
            refine op_do rfl rfl (run_store (cs' := #[.slice B106 p105.1.length d108, .bool p105.2]) rfl sz25 (hF.ev rfl) (hF.ev rfl) rfl rfl rfl (S.free 2 rfl) rfl rfl) ?_; replace S := S.put 2 rfl (#[.slice B106 p105.1.length d108, .bool p105.2])
            generalize World.setRow _ _ _ = u at S ⊢
            refine op_val (v := .bool false) rfl rfl hF rfl (run_assign rfl rfl) ?_; clear hF; intro a hF
            refine wpList_nil ?_
            refine wp_ret ?_
            repeat with_reducible (first | refine then_ret ?_ | refine in_ret ?_ | refine in_nrm ?_)
            refine ret2_gw (.inl rfl) hF rfl (res_cell (hF.ev rfl) (res_loadN ag25 rfl (S.cells 2 rfl 0 #[.slice B106 p105.1.length d108, .bool p105.2] rfl))) (res_tmp (hF.ev rfl)) ?_
            obtain rfl := Option.some.inj hM114
            obtain rfl := Option.some.inj hM
            exact ⟨B106, p105.1.length, d108, rfl, rfl, S.sel [1] rfl rfl⟩
      · rintro a u ⟨p111, rfl, hn113, hF, S⟩
        replace hM := elim_l hM
        refine wp_seq ?_
        refine wp_seq ?_
        refine wp_region_lit ?_
        refine op_val (v := .agg #[.slice B106 p105.1.length d108, .bool p111.2]) rfl rfl hF rfl (run_loadN rfl ag25 (hF.ev rfl) rfl ((S.free 0 rfl).cells 0 #[.slice B106 p105.1.length d108, .bool p111.2] rfl)) ?_; clear hF; intro a hF
        obtain ⟨p123, h123, hM⟩ := bind_ex hM
        refine op_call rfl rfl hF rfl (run_call (vs := [.agg #[.slice B106 p105.1.length d108, .bool p111.2]]) rfl rfl co12 ⟨(hF.ev rfl), trivial⟩) (c_impl_BarsValid (x0 := p111.1) (x1 := p111.2) ⟨(S.rc 3 rfl), hn113⟩ h123) ?_
        rintro e u ⟨rfl, T⟩
        refine ⟨_, rfl, ?_⟩
        clear hF; intro a hF
        replace S := S.call0 T; clear T
        refine op_val (v := .bool (!p123)) rfl rfl hF rfl (run_not rfl (hF.ev rfl)) ?_; clear hF; intro a hF
        refine wpList_nil ?_
        cases hc124 : (p123)
        · replace hM := bif_f hc124 hM
          refine cond_t hF rfl (not_t hc124) ?_
          refine wp_seq ?_
          refine wp_region_lit ?_
          refine op_val (v := .agg #[.slice A0 x0.length c0, .bool x1]) rfl rfl hF rfl (run_loadN rfl ag25 (hF.ev rfl) rfl ((S.free 2 rfl).cells 0 #[.slice A0 x0.length c0, .bool x1] rfl)) ?_; clear hF; intro a hF
          obtain ⟨p125, h125, hM⟩ := bind_ex hM
          refine op_call rfl rfl hF rfl (run_call (vs := [.agg #[.slice A0 x0.length c0, .bool x1]]) rfl rfl co27 ⟨(hF.ev rfl), trivial⟩) (c_impl_Bars_clone (x0 := x0) (x1 := x1) ⟨(S.rc0 h0.rc), rfl⟩ h125) ?_
          rintro e u ⟨B126, n127, d128, rfl, rfl, T⟩
          refine ⟨_, rfl, ?_⟩
          clear hF; intro a hF
          replace S := S.call1 T; clear T
          refine op_do rfl rfl (run_store (cs' := #[.slice B126 p125.1.length d128, .bool p125.2]) rfl sz25 (hF.ev rfl) (hF.ev rfl) rfl rfl rfl (S.free 2 rfl) rfl rfl) ?_; replace S := S.put 2 rfl (#[.slice B126 p125.1.length d128, .bool p125.2])
          generalize World.setRow _ _ _ = u at S ⊢
          refine op_val (v := .bool false) rfl rfl hF rfl (run_assign rfl rfl) ?_; clear hF; intro a hF
          refine wpList_nil ?_
          refine wp_ret ?_
          repeat with_reducible (first | refine then_ret ?_ | refine in_ret ?_ | refine in_nrm ?_)
          refine ret2_gw (.inl rfl) hF rfl (res_cell (hF.ev rfl) (res_loadN ag25 rfl (S.cells 2 rfl 0 #[.slice B126 p125.1.length d128, .bool p125.2] rfl))) (res_tmp (hF.ev rfl)) ?_
          obtain rfl := Option.some.inj hM
          exact ⟨B126, p125.1.length, d128, rfl, rfl, S.sel [0] rfl rfl⟩
        · replace hM := bif_t hc124 hM
          refine cond_f hF rfl (not_f hc124) ?_
          refine wp_skip ?_
          refine wp_seq ?_
          refine wp_region_lit ?_
          refine op_val (v := .agg #[.slice B106 p105.1.length d108, .bool p111.2]) rfl rfl hF rfl (run_loadN rfl ag25 (hF.ev rfl) rfl ((S.free 0 rfl).cells 0 #[.slice B106 p105.1.length d108, .bool p111.2] rfl)) ?_; clear hF; intro a hF
          refine op_do rfl rfl (run_store (cs' := #[.slice B106 p105.1.length d108, .bool p111.2]) rfl sz25 (hF.ev rfl) (hF.ev rfl) rfl rfl rfl (S.free 1 rfl) rfl rfl) ?_; replace S := S.put 1 rfl (#[.slice B106 p105.1.length d108, .bool p111.2])
          generalize World.setRow _ _ _ = u at S ⊢
          refine op_val (v := .bool true) rfl rfl hF rfl (run_assign rfl rfl) ?_; clear hF; intro a hF
          refine wpList_nil ?_
          refine wp_ret ?_
          repeat with_reducible (first | refine then_ret ?_ | refine in_ret ?_ | refine in_nrm ?_)
          refine ret2_gw (.inl rfl) hF rfl (res_cell (hF.ev rfl) (res_loadN ag25 rfl (S.cells 1 rfl 0 #[.slice B106 p105.1.length d108, .bool p111.2] rfl))) (res_tmp (hF.ev rfl)) ?_
          obtain rfl := Option.some.inj hM
          exact ⟨B106, p105.1.length, d108, rfl, hn113, S.sel [3] rfl rfl⟩
    · replace hM := bif_t hc110 hM
      refine cond_t hF rfl hc110 ?_
      refine wp_seq ?_
      refine wp_region_lit ?_
      refine op_val (v := .agg #[.slice B106 p105.1.length d108, .bool p105.2]) rfl rfl hF rfl (run_loadN rfl ag25 (hF.ev rfl) rfl ((S.free 0 rfl).cells 0 #[.slice B106 p105.1.length d108, .bool p105.2] rfl)) ?_; clear hF; intro a hF
      refine op_do rfl rfl (run_store (cs' := #[.slice B106 p105.1.length d108, .bool p105.2]) rfl sz25 (hF.ev rfl) (hF.ev rfl) rfl rfl rfl (S.free 2 rfl) rfl rfl) ?_; replace S := S.put 2 rfl (#[.slice B106 p105.1.length d108, .bool p105.2])
      generalize World.setRow _ _ _ = u at S ⊢
      refine op_val (v := .bool false) rfl rfl hF rfl (run_assign rfl rfl) ?_; clear hF; intro a hF
      refine wpList_nil ?_
      refine wp_ret ?_
      repeat with_reducible (first | refine then_ret ?_ | refine in_ret ?_ | refine in_nrm ?_)
      refine ret2_gw (.inl rfl) hF rfl (res_cell (hF.ev rfl) (res_loadN ag25 rfl (S.cells 2 rfl 0 #[.slice B106 p105.1.length d108, .bool p105.2] rfl))) (res_tmp (hF.ev rfl)) ?_
      obtain rfl := Option.some.inj hM
      exact ⟨B106, p105.1.length, d108, rfl, rfl, S.sel [1] rfl rfl⟩

set_option maxHeartbeats 4000000 in
theorem c_spec_l1In {x0 : Int} {x1 : Int} {x2 : Int} {w : World} {r : Bool}  (hM : m_spec_l1In x0 x1 x2 = some r) :
    Calls Tryd.prog 32 #[.int .i64 x0, .int .i64 x1, .int .i64 x2] w (fun e w' => e = .returned (.bool r) ∧ St w w' []) := by
  unfold m_spec_l1In at hM
  refine calls_gw Tryd.func32 Tryd.ntmps32 rfl [(0, .int .i64 x0), (1, .int .i64 x1), (2, .int .i64 x2)] ⟨rfl, rfl, rfl, trivial⟩ rfl ?_
  intro a hF
  have S := St.nil w
  refine wp_seq ?_
  refine wp_region_lit ?_
  refine op_val (v := .bool false) rfl rfl hF rfl (run_assign rfl rfl) ?_; clear hF; intro a hF
  refine wpList_nil ?_
  refine wp_seq ?_
  refine wp_region_lit ?_
  refine op_val (v := .int .i64 x0) rfl rfl hF rfl (run_move rfl (hF.ev rfl)) ?_; clear hF; intro a hF
  refine op_val (v := .int .i64 x1) rfl rfl hF rfl (run_move rfl (hF.ev rfl)) ?_; clear hF; intro a hF
  refine op_val (v := .bool (leB x1 x0)) rfl rfl hF rfl (run_geq (hF.ev rfl) (hF.ev rfl) rfl) ?_; clear hF; intro a hF
  refine op_val (v := .bool (leB x1 x0)) rfl rfl hF rfl (run_move rfl (hF.ev rfl)) ?_; clear hF; intro a hF
  refine op_gv (v := .int .i64 x0) rfl rfl hF rfl (yt (gw_yield hF rfl rfl rfl)) (fun hg => (run_move rfl (hF.ev rfl))) ?_; clear hF; intro a hF
  refine op_gv (v := .int .i64 x2) rfl rfl hF rfl (yt (gw_yield hF rfl rfl rfl)) (fun hg => (run_move rfl (hF.ev rfl))) ?_; clear hF; intro a hF
  refine op_gv (v := .bool (leB x0 x2)) rfl rfl hF rfl (yt (gw_yield hF rfl rfl rfl)) (fun hg => (run_leq ((hF.ev rfl).trans (gv_t hg)) ((hF.ev rfl).trans (gv_t hg)) rfl)) ?_; clear hF; intro a hF
  refine op_val (v := .bool ((leB x1 x0) && (leB x0 x2))) rfl rfl hF rfl (run_pick_and rfl (hF.ev rfl) (fun hp => ((hF.ev rfl).trans (gv_t hp))) rfl) ?_; clear hF; intro a hF
  refine op_val (v := .bool ((leB x1 x0) && (leB x0 x2))) rfl rfl hF rfl (run_assign rfl (hF.ev rfl)) ?_; clear hF; intro a hF
  refine wpList_nil ?_
  refine wp_ret ?_
  repeat with_reducible (first | refine then_ret ?_ | refine in_ret ?_ | refine in_nrm ?_)
  refine ret1_gw (.inl rfl) hF rfl (res_tmp (hF.ev rfl)) ?_
  obtain rfl := Option.some.inj hM
  exact ⟨rfl, S.sel [] rfl rfl⟩

set_option maxHeartbeats 4000000 in
theorem c_spec_BarsValid {x0 : List Int} {x1 : Bool} {A0 : Option Addr} {n0 c0 : Nat} {w : World} {r : Bool} (h0 : Rt w 1 eI A0 n0 c0 x0) (hM : m_spec_BarsValid x0 x1 = some r) :
    Calls Tryd.prog 20 #[.agg #[.slice A0 n0 c0, .bool x1]] w (fun e w' => e = .returned (.bool r) ∧ St w w' []) := by
  obtain rfl := h0.len
  unfold m_spec_BarsValid at hM
  refine calls_gw Tryd.func20 Tryd.ntmps20 rfl [(0, .agg #[.slice A0 x0.length c0, .bool x1])] ⟨rfl, trivial⟩ rfl ?_
  intro a hF
  have S := St.nil w
  refine wp_seq ?_
  refine wp_region_lit ?_
  refine op_new (cs := #[.slice A0 x0.length c0, .bool x1]) rfl rfl hF rfl S (run_box rfl (hF.ev rfl) rfl) ?_; clear hF S; intro a g101 u hF S
  refine op_val (v := .bool false) rfl rfl hF rfl (run_assign rfl rfl) ?_; clear hF; intro a hF
  refine wpList_nil ?_
  refine wp_seq ?_
  refine wp_seq ?_
  refine wp_region_lit ?_
  refine op_val (v := .int .i64 0) rfl rfl hF rfl (run_assign rfl rfl) ?_; clear hF; intro a hF
  refine wpList_nil ?_
  obtain ⟨o103, hM104, hM⟩ := bind_ex hM
  refine wp_cut (fun a u => ∃ (p102 : Unit), (Sum.inl p102) = o103 ∧ Fr a 35 [(1, .pointer (some ⟨g101, 0, none⟩)), (2, .bool false)] ∧ St w u [.box g101 25 #[.slice A0 x0.length c0, .bool x1]]) ?_ ?_
  · have _ := trivial
    refine wp_block ?_
    refine loop_gw (fun m a u => ∃ (p105 : Int), m_spec_BarsValid_l1 x0 x1 m p105 = some _ ∧ Fr a 35 [(1, .pointer (some ⟨g101, 0, none⟩)), (2, .bool false), (3, .int .i64 p105)] ∧ St w u [.box g101 25 #[.slice A0 x0.length c0, .bool x1]]) FUEL ⟨0, hM104, hF.keep _ ⟨rfl, rfl, rfl, trivial⟩, S.sel [0] rfl rfl⟩ ?_
    clear hF S hM104; rintro m a u ⟨p105, hM104, hF, S⟩
    rcases m with _ | f1
    · exact none_some hM104
    rw [m_spec_BarsValid_l1.eq_2] at hM104
    refine wp_seq ?_
    refine wp_seq ?_
    refine wp_region_lit ?_
    refine op_val (v := .int .i64 p105) rfl rfl hF rfl (run_move rfl (hF.ev rfl)) ?_; clear hF; intro a hF
    refine op_val (v := .pointer (some ⟨g101, 0, none⟩)) rfl rfl hF rfl (run_fieldAddr rfl fl25_0 (hF.ev rfl) rfl) ?_; clear hF; intro a hF
    refine op_val (v := .slice A0 x0.length c0) rfl rfl hF rfl (run_load1 rfl one23 (hF.ev rfl) ((S.free 0 rfl).cell rfl)) ?_; clear hF; intro a hF
    refine op_val (v := .int .i64 (x0.length : Int)) rfl rfl hF rfl (run_lenL rfl rfl Tryd.underlying23 (hF.ev rfl)) ?_; clear hF; intro a hF
    refine op_val (v := .bool (ltB p105 (x0.length : Int))) rfl rfl hF rfl (run_lss (hF.ev rfl) (hF.ev rfl) rfl) ?_; clear hF; intro a hF
    refine wpList_nil ?_
    cases hc106 : (ltB p105 (x0.length : Int))
    · replace hM104 := bif_f hc106 hM104
      refine cond_f hF rfl hc106 ?_
      refine wp_exit ?_
      repeat with_reducible (first | refine then_exit ?_ | refine in_hit ?_ | refine in_miss rfl ?_)
      obtain rfl := Option.some.inj hM104
      exact ⟨(), rfl, hF.keep _ ⟨rfl, rfl, trivial⟩, S.sel [0] rfl rfl⟩
    · replace hM104 := bif_t hc106 hM104
      refine cond_t hF rfl hc106 ?_
      refine wp_skip ?_
      refine wp_seq ?_
      refine wp_block ?_
      refine wp_seq ?_
      refine wp_region_lit ?_
      refine op_val (v := .pointer (some ⟨g101, 0, none⟩)) rfl rfl hF rfl (run_fieldAddr rfl fl25_0 (hF.ev rfl) rfl) ?_; clear hF; intro a hF
      refine op_val (v := .slice A0 x0.length c0) rfl rfl hF rfl (run_load1 rfl one23 (hF.ev rfl) ((S.free 0 rfl).cell rfl)) ?_; clear hF; intro a hF
      refine op_val (v := .int .i64 p105) rfl rfl hF rfl (run_move rfl (hF.ev rfl)) ?_; clear hF; intro a hF
      obtain ⟨hk107, hM104⟩ := chk_ex hM104
      replace hk107 := ixB_t hk107
      refine op_val (v := .pointer (some ⟨adB A0, adO A0 + p105.toNat * 1, none⟩)) rfl rfl hF rfl (run_indexAddr (b := adB A0) (off := adO A0) rfl Tryd.underlying23 sz3 ((hF.ev rfl).trans (congrArg (fun A => Value.slice A x0.length c0) ((S.rc0 h0.rc).rd.ad (ix_pos hk107)))) (hF.ev rfl) hk107.1 hk107.2 (k' := adO A0 + p105.toNat * 1) rfl) ?_; clear hF; intro a hF
      refine op_val (v := .int .i64 (x0.getD p105.toNat (0 : Int))) rfl rfl hF rfl (run_load1 rfl one3 (hF.ev rfl) (rd_el0 (l := x0) (S.rc0 h0.rc).rd rfl eI_len (0 : Int) (ix_ltn hk107 rfl) rfl)) ?_; clear hF; intro a hF
      obtain ⟨p108, h108, hM104⟩ := bind_ex hM104
      refine op_call rfl rfl hF rfl (run_call (vs := [.int .i64 (x0.getD p105.toNat (0 : Int)), .int .i64 1, .int .i64 3]) rfl rfl co32 ⟨(hF.ev rfl), rfl, rfl, trivial⟩) (c_spec_l1In (x0 := (x0.getD p105.toNat (0 : Int))) (x1 := 1) (x2 := 3)  h108) ?_
      rintro e u ⟨rfl, T⟩
      refine ⟨_, rfl, ?_⟩
      clear hF; intro a hF
      replace S := S.call0 T; clear T
      refine op_val (v := .bool (!p108)) rfl rfl hF rfl (run_not rfl (hF.ev rfl)) ?_; clear hF; intro a hF
      refine op_val (v := .bool (!p108)) rfl rfl hF rfl (run_move rfl (hF.ev rfl)) ?_; clear hF; intro a hF
      refine op_gv (v := .pointer (some ⟨g101, 0, none⟩)) rfl rfl hF rfl (yf (gw_yield hF rfl rfl rfl)) (fun hg => (run_fieldAddr rfl fl25_0 (hF.ev rfl) rfl)) ?_; clear hF; intro a hF
      refine op_gv (v := .slice A0 x0.length c0) rfl rfl hF rfl (yf (gw_yield hF rfl rfl rfl)) (fun hg => (run_load1 rfl one23 ((hF.ev rfl).trans (gv_t hg)) ((S.free 0 rfl).cell rfl))) ?_; clear hF; intro a hF
      refine op_gv (v := .int .i64 p105) rfl rfl hF rfl (yf (gw_yield hF rfl rfl rfl)) (fun hg => (run_move rfl (hF.ev rfl))) ?_; clear hF; intro a hF
      obtain ⟨hk109, hM104⟩ := chk_ex hM104
      replace hk109 := fun hg => ixB_t (imp_t hk109 hg)
      refine op_gv (v := .pointer (some ⟨adB A0, adO A0 + p105.toNat * 1, none⟩)) rfl rfl hF rfl (yf (gw_yield hF rfl rfl rfl)) (fun hg => (run_indexAddr (b := adB A0) (off := adO A0) rfl Tryd.underlying23 sz3 (((hF.ev rfl).trans (gv_t hg)).trans (congrArg (fun A => Value.slice A x0.length c0) ((S.rc0 h0.rc).rd.ad (ix_pos (hk109 hg))))) ((hF.ev rfl).trans (gv_t hg)) (hk109 hg).1 (hk109 hg).2 (k' := adO A0 + p105.toNat * 1) rfl)) ?_; clear hF; intro a hF
      refine op_gv (v := .int .i64 (x0.getD p105.toNat (0 : Int))) rfl rfl hF rfl (yf (gw_yield hF rfl rfl rfl)) (fun hg => (run_load1 rfl one3 ((hF.ev rfl).trans (gv_t hg)) (rd_el0 (l := x0) (S.rc0 h0.rc).rd rfl eI_len (0 : Int) (ix_ltn (hk109 hg) rfl) rfl))) ?_; clear hF; intro a hF
      refine op_gv (v := .bool ((x0.getD p105.toNat (0 : Int)) == 3)) rfl rfl hF rfl (yf (gw_yield hF rfl rfl rfl)) (fun hg => (run_eql ((hF.ev rfl).trans (gv_t hg)) rfl rfl)) ?_; clear hF; intro a hF
      refine op_gv (v := .bool ((x0.getD p105.toNat (0 : Int)) == 3)) rfl rfl hF rfl (yf (gw_yield hF rfl rfl rfl)) (fun hg => (run_move rfl ((hF.ev rfl).trans (gv_t hg)))) ?_; clear hF; intro a hF
      refine op_gv (v := .pointer (some ⟨g101, 1, none⟩)) rfl rfl hF rfl (ytG (gw_yieldG hF rfl rfl rfl)) (fun hg => (run_fieldAddr rfl fl25_1 (hF.ev rfl) rfl)) ?_; clear hF; intro a hF
      refine op_gv (v := .bool x1) rfl rfl hF rfl (ytG (gw_yieldG hF rfl rfl rfl)) (fun hg => (run_load1 rfl one4 ((hF.ev rfl).trans (gv_t hg)) ((S.free 0 rfl).cell rfl))) ?_; clear hF; intro a hF
      refine op_gv (v := .bool (!x1)) rfl rfl hF rfl (ytG (gw_yieldG hF rfl rfl rfl)) (fun hg => (run_not rfl ((hF.ev rfl).trans (gv_t hg)))) ?_; clear hF; intro a hF
      refine op_gv (v := .bool (((x0.getD p105.toNat (0 : Int)) == 3) && (!x1))) rfl rfl hF rfl (yf (gw_yield hF rfl rfl rfl)) (fun hg => (run_pick_and rfl ((hF.ev rfl).trans (gv_t hg)) (fun hp => ((hF.ev rfl).trans (gv_t (and_i hg hp)))) rfl)) ?_; clear hF; intro a hF
      refine op_val (v := .bool ((!p108) || (((x0.getD p105.toNat (0 : Int)) == 3) && (!x1)))) rfl rfl hF rfl (run_pick_or rfl (hF.ev rfl) rfl (fun hp => ((hF.ev rfl).trans (gv_t (not_t hp))))) ?_; clear hF; intro a hF
      refine wpList_nil ?_
      cases hc110 : ((!p108) || (((x0.getD p105.toNat (0 : Int)) == 3) && (!x1)))
      · replace hM104 := bif_f hc110 hM104
        refine cond_f hF rfl hc110 ?_
        refine wp_skip ?_
        refine wp_region_lit ?_
        refine op_val (v := .int .i64 p105) rfl rfl hF rfl (run_move rfl (hF.ev rfl)) ?_; clear hF; intro a hF
        refine op_val (v := .int .i64 (w64 (p105 + 1))) rfl rfl hF rfl (run_add (z := w64 (p105 + 1)) (hF.ev rfl) rfl rfl rfl) ?_; clear hF; intro a hF
        refine op_val (v := .int .i64 (w64 (p105 + 1))) rfl rfl hF rfl (run_assign rfl (hF.ev rfl)) ?_; clear hF; intro a hF
        refine wpList_nil ?_
        exact ⟨f1, Nat.lt_succ_self _, w64 (p105 + 1), hM104, hF.keep _ ⟨rfl, rfl, rfl, trivial⟩, S.sel [0] rfl rfl⟩
      · replace hM104 := bif_t hc110 hM104
        refine cond_t hF rfl hc110 ?_
        refine wp_seq ?_
        refine wp_region_lit ?_
        refine op_val (v := .bool false) rfl rfl hF rfl (run_assign rfl rfl) ?_; clear hF; intro a hF
        refine wpList_nil ?_
        refine wp_ret ?_
        repeat with_reducible (first | refine then_ret ?_ | refine in_ret ?_ | refine in_nrm ?_)
        refine ret1_gw (.inl rfl) hF rfl (res_tmp (hF.ev rfl)) ?_
        obtain rfl := Option.some.inj hM104
        obtain rfl := Option.some.inj hM
        exact ⟨rfl, S.sel [] rfl rfl⟩
  · rintro a u ⟨p102, rfl, hF, S⟩
    replace hM := elim_l hM
    refine wp_seq ?_
    refine wp_region_lit ?_
    refine op_val (v := .pointer (some ⟨g101, 0, none⟩)) rfl rfl hF rfl (run_fieldAddr rfl fl25_0 (hF.ev rfl) rfl) ?_; clear hF; intro a hF
    refine op_val (v := .slice A0 x0.length c0) rfl rfl hF rfl (run_load1 rfl one23 (hF.ev rfl) ((S.free 0 rfl).cell rfl)) ?_; clear hF; intro a hF
    refine op_val (v := .int .i64 (x0.length : Int)) rfl rfl hF rfl (run_lenL rfl rfl Tryd.underlying23 (hF.ev rfl)) ?_; clear hF; intro a hF
    obtain ⟨p111, h111, hM⟩ := bind_ex hM
    refine op_call rfl rfl hF rfl (run_call (vs := [.int .i64 (x0.length : Int), .int .i64 1, .int .i64 6]) rfl rfl co32 ⟨(hF.ev rfl), rfl, rfl, trivial⟩) (c_spec_l1In (x0 := (x0.length : Int)) (x1 := 1) (x2 := 6)  h111) ?_
    rintro e u ⟨rfl, T⟩
    refine ⟨_, rfl, ?_⟩
    clear hF; intro a hF
    replace S := S.call0 T; clear T
    refine op_val (v := .bool p111) rfl rfl hF rfl (run_assign rfl (hF.ev rfl)) ?_; clear hF; intro a hF
    refine wpList_nil ?_
    refine wp_ret ?_
    repeat with_reducible (first | refine then_ret ?_ | refine in_ret ?_ | refine in_nrm ?_)
    refine ret1_gw (.inl rfl) hF rfl (res_tmp (hF.ev rfl)) ?_
    obtain rfl := Option.some.inj hM
    exact ⟨rfl, S.sel [] rfl rfl⟩

set_option maxHeartbeats 4000000 in
theorem c_spec_l10Copy {x0 : List Int} {x1 : Bool} {A0 : Option Addr} {n0 c0 : Nat} {w : World} {r : List Int × Bool} (h0 : Rt w 1 eI A0 n0 c0 x0) (hM : m_spec_l10Copy x0 x1 = some r) :
    Calls Tryd.prog 28 #[.agg #[.slice A0 n0 c0, .bool x1]] w (fun e w' => ∃ (B0 : Option Addr) (N0 D0 : Nat), e = .returned (.agg #[.slice B0 N0 D0, .bool r.2]) ∧ N0 = r.1.length ∧ St w w' [.row 3 1 (.slice B0 N0 D0) N0 (r.1.flatMap eI)]) := by
  obtain rfl := h0.len
  unfold m_spec_l10Copy at hM
  refine calls_gw Tryd.func28 Tryd.ntmps28 rfl [(0, .agg #[.slice A0 x0.length c0, .bool x1])] ⟨rfl, trivial⟩ rfl ?_
  intro a hF
  have S := St.nil w
  refine wp_seq ?_
  refine wp_region_lit ?_
  refine op_new (cs := #[.slice A0 x0.length c0, .bool x1]) rfl rfl hF rfl S (run_box rfl (hF.ev rfl) rfl) ?_; clear hF S; intro a g101 u hF S
  refine op_new (cs := #[.slice none 0 0, .bool false]) rfl rfl hF rfl S (run_allocZ rfl zr25) ?_; clear hF S; intro a g102 u hF S
  refine wpList_nil ?_
  refine wp_seq ?_
  obtain ⟨hk103, hM⟩ := chk_ex hM
  replace hk103 := apB_t hk103
  refine region_gw (D := [3, 4, 5, 6, 7, 8, 9]) (Lr := [.box g101 25 #[.slice A0 x0.length c0, .bool x1]]) (deps := (fun | 0 => [3] | 1 => [4] | 2 => [5] | 3 => [6] | 4 => [7] | 5 => [8] | 6 => [9, 6] | 7 => [2, 6] | _ => [])) (rd := (fun _ => [])) (zr := (fun _ => []))
    (φ := fun i vs => match i, vs with | 0, [v3] => v3 = .slice (slA v3) 0 0 | 1, [v4] => v4 = .pointer (some ⟨g101, 0, none⟩) | 2, [v5] => v5 = .slice A0 x0.length c0 | 3, [v6] => v6 = .slice (slA v6) (([] ++ x0).length) (slC v6) | 4, [v7] => v7 = .pointer (some ⟨g101, 1, none⟩) | 5, [v8] => v8 = .bool x1 | 6, [v9, v6] => v9 = .agg #[.slice (slA v6) (([] ++ x0).length) (slC v6), .bool x1] | _, _ => True)
    (C := fun i vs => match i, vs with | 0, [v3] => [.row 3 1 (.slice (slA v3) 0 0) 0 (([] : List Int).flatMap eI)] | 3, [v6] => [.row 3 1 (.slice (slA v6) (([] ++ x0).length) (slC v6)) (([] ++ x0).length) (([] ++ x0).flatMap eI)] | 7, [v2, v6] => [.box g102 25 #[.slice (slA v6) (([] ++ x0).length) (slC v6), .bool x1]] | _, _ => [])
    (κ := (fun | 0 => some 3 | _ => none)) (Z := (fun | 7 => [.box g102 25 #[.slice none 0 0, .bool false]] | _ => [])) mixed hF (by kernel_rfl) (show St w _ [.box g102 25 #[.slice none 0 0, .bool false], .box g101 25 #[.slice A0 x0.length c0, .bool x1]] from S.sel [0, 1] rfl rfl) ?_ ?_
  · refine ⟨?_, ?_, ?_, ?_, ?_, ?_, ?_, ?_, trivial⟩
    · intro a u X hB hu hp hr hz hl S
      replace S : St w u ([] ++ X) := S
      exact .inl ⟨rfl, _, _, run_buildSlice0 rfl Tryd.underlying23 (congrArg Option.isSome sz3), rfl, S.newrow 3 1 0 #[] rfl (Nat.zero_le _)⟩
    · intro a u X hB hu hp hr hz hl S
      replace S : St w u ([] ++ X) := S
      exact .inl ⟨rfl, .pointer (some ⟨g101, 0, none⟩), u, (run_fieldAddr rfl fl25_0 (hF.evB hB rfl rfl) rfl), rfl, S⟩
    · intro a u X hB hu hp hr hz hl S
      replace S : St w u ([] ++ X) := S
      have e4 : sl a 4 = .pointer (some ⟨g101, 0, none⟩) := hp 1 rfl
      exact .inl ⟨rfl, .slice A0 x0.length c0, u, (run_load1 rfl one23 (ev_sl e4) ((gr_box S hl 0 rfl).cell rfl)), rfl, S⟩
    · intro a u X hB hu hp hr hz hl S
      replace S : St w u ([.row 3 1 (.slice (slA (sl a 3)) 0 0) 0 (([] : List Int).flatMap eI)] ++ X) := S
      have e3 : sl a 3 = .slice (slA (sl a 3)) 0 0 := hp 0 rfl
      have e5 : sl a 5 = .slice A0 x0.length c0 := hp 2 rfl
      obtain ⟨B, d, w', hrun, S'⟩ := S.appendL (i := 0) (P := Tryd.prog) (ty := 23) (lx := []) (ly := x0) (c' := c0) rfl rfl Tryd.underlying23 inf3 rfl (by decide) (S.rc0 h0.rc).rd rfl eI_one hk103 (by decide)
      exact .inl ⟨rfl, _, w', run_append rfl (ev_sl e3) (ev_sl e5) hrun, rfl, S'⟩
    · intro a u X hB hu hp hr hz hl S
      replace S : St w u ([] ++ X) := S
      exact .inl ⟨rfl, .pointer (some ⟨g101, 1, none⟩), u, (run_fieldAddr rfl fl25_1 (hF.evB hB rfl rfl) rfl), rfl, S⟩
    · intro a u X hB hu hp hr hz hl S
      replace S : St w u ([] ++ X) := S
      have e7 : sl a 7 = .pointer (some ⟨g101, 1, none⟩) := hp 4 rfl
      exact .inl ⟨rfl, .bool x1, u, (run_load1 rfl one4 (ev_sl e7) ((gr_box S hl 0 rfl).cell rfl)), rfl, S⟩
    · intro a u X hB hu hp hr hz hl S
      replace S : St w u ([] ++ X) := S
      have e6 : sl a 6 = .slice (slA (sl a 6)) (([] ++ x0).length) (slC (sl a 6)) := hp 3 rfl
      have e8 : sl a 8 = .bool x1 := hp 5 rfl
      exact .inl ⟨rfl, .agg #[.slice (slA (sl a 6)) (([] ++ x0).length) (slC (sl a 6)), .bool x1], u, (run_build (vs := [(0, .slice (slA (sl a 6)) (([] ++ x0).length) (slC (sl a 6))), (1, .bool x1)]) rfl ⟨⟨rfl, (ev_sl e6)⟩, ⟨rfl, (ev_sl e8)⟩, trivial⟩ (bd25_0_1 rfl rfl)), rfl, S⟩
    · intro a u X hB hu hp hr hz hl S
      replace S : St w u ([.box g102 25 #[.slice none 0 0, .bool false]] ++ X) := S
      have e9 : sl a 9 = .agg #[.slice (slA (sl a 6)) (([] ++ x0).length) (slC (sl a 6)), .bool x1] := hp 6 rfl
      exact .inr (.inl ⟨rfl, _, run_store (cs' := #[.slice (slA (sl a 6)) (([] ++ x0).length) (slC (sl a 6)), .bool x1]) rfl sz25 (hF.evB hB rfl rfl) (ev_sl e9) rfl rfl rfl (S.free 0 rfl) rfl rfl, trivial, S.put 0 rfl (#[.slice (slA (sl a 6)) (([] ++ x0).length) (slC (sl a 6)), .bool x1])⟩)
  · intro a u hB hp S
    obtain ⟨q0, q1, q2, q3, q4, q5, q6, q7, _⟩ := hp
    have e3 : sl a 3 = .slice (slA (sl a 3)) 0 0 := q0
    have e4 : sl a 4 = .pointer (some ⟨g101, 0, none⟩) := q1
    have e5 : sl a 5 = .slice A0 x0.length c0 := q2
    have e6 : sl a 6 = .slice (slA (sl a 6)) (([] ++ x0).length) (slC (sl a 6)) := q3
    have e7 : sl a 7 = .pointer (some ⟨g101, 1, none⟩) := q4
    have e8 : sl a 8 = .bool x1 := q5
    have e9 : sl a 9 = .agg #[.slice (slA (sl a 6)) (([] ++ x0).length) (slC (sl a 6)), .bool x1] := q6
    replace S : St w u [.row 3 1 (.slice (slA (sl a 6)) (([] ++ x0).length) (slC (sl a 6))) (([] ++ x0).length) (([] ++ x0).flatMap eI), .box g102 25 #[.slice (slA (sl a 6)) (([] ++ x0).length) (slC (sl a 6)), .bool x1], .box g101 25 #[.slice A0 x0.length c0, .bool x1]] := S
    clear q0 q1 q2 q3 q4 q5 q6 q7
    generalize slA (sl a 3) = B104 at *
    generalize slA (sl a 6) = B105 at *
    generalize slC (sl a 6) = d106 at *
    have hF := hF.region hB [(3, .slice B104 0 0), (4, .pointer (some ⟨g101, 0, none⟩)), (5, .slice A0 x0.length c0), (6, .slice B105 (([] ++ x0).length) d106), (7, .pointer (some ⟨g101, 1, none⟩)), (8, .bool x1), (9, .agg #[.slice B105 (([] ++ x0).length) d106, .bool x1])] (allSl_mem ⟨e3, e4, e5, e6, e7, e8, e9, trivial⟩) rfl
    clear hB e3 e4 e5 e6 e7 e8 e9
    refine wp_ret ?_
    repeat with_reducible (first | refine then_ret ?_ | refine in_ret ?_ | refine in_nrm ?_)
    refine ret1_gw (.inl rfl) hF rfl (res_cell (hF.ev rfl) (res_loadN ag25 rfl (S.cells 1 rfl 0 #[.slice B105 (([] ++ x0).length) d106, .bool x1] rfl))) ?_
    obtain rfl := Option.some.inj hM
    exact ⟨B105, (([] ++ x0).length), d106, rfl, rfl, S.sel [0] rfl rfl⟩

end Go.Proofs.YtandfbpanaldcaaDoor
