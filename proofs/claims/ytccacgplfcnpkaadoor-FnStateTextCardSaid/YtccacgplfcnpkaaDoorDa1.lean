/- Calls return what the models say. -/
import Derived.Test.YtccacgplfcnpkaaDoorDaT
namespace Go.Proofs.YtccacgplfcnpkaaDoor
open Go.ChangeShapes Go.WideShapes Go.ChangeAt Go.RowKit
set_option linter.unusedVariables false
set_option linter.unusedSimpArgs false

theorem c_spec_l20Open {x0 : List Int} {A0 : Option Addr} {n0 c0 : Nat} {w : World} (h0 : Rt w 1 eU A0 n0 c0 x0) :
    Calls Tryd.prog 16 #[.slice A0 n0 c0] w (fun e w' => ∃ G0, e = .returned (.pointer (some ⟨G0, 0, none⟩)) ∧ St w w' [.box G0 57 #[.slice (opA c0 n0 A0) (x0.take 2000).length c0, .int .i64 0]]) := by
  obtain rfl := h0.len
  refine calls_gw Tryd.func16 Tryd.ntmps16 rfl [(0, .slice A0 x0.length c0)] ⟨rfl, trivial⟩ rfl ?_
  intro a hF
  have S := St.nil w
  refine wp_seq ?_
  refine wp_region_lit ?_
  refine op_val (v := .pointer none) rfl rfl hF rfl (run_assign rfl rfl) ?_; clear hF; intro a hF
  refine wpList_nil ?_
  refine wp_seq ?_
  refine wp_seq ?_
  refine wp_region_lit ?_
  refine op_val (v := .slice A0 x0.length c0) rfl rfl hF rfl (run_move rfl (hF.ev rfl)) ?_; clear hF; intro a hF
  refine op_val (v := .int .i64 (x0.length : Int)) rfl rfl hF rfl (run_lenL rfl rfl Tryd.underlying22 (hF.ev rfl)) ?_; clear hF; intro a hF
  refine op_val (v := .bool (ltB 2000 (x0.length : Int))) rfl rfl hF rfl (run_gtr (hF.ev rfl) rfl rfl) ?_; clear hF; intro a hF
  refine wpList_nil ?_
  cases hc101 : (ltB 2000 (x0.length : Int))
  · have hc101_ := hc101
    refine cond_f hF rfl hc101 ?_
    refine wp_skip ?_
    refine wp_seq ?_
    refine wp_region_lit ?_
    refine op_val (v := .slice A0 x0.length c0) rfl rfl hF rfl (run_move rfl (hF.ev rfl)) ?_; clear hF; intro a hF
    refine op_val (v := .agg #[.slice A0 x0.length c0, .int .i64 0]) rfl rfl hF rfl (run_build (vs := [(0, .slice A0 x0.length c0)]) rfl ⟨⟨rfl, (hF.ev rfl)⟩, trivial⟩ (bd57_0 rfl)) ?_; clear hF; intro a hF
    refine op_new (cs := #[.slice A0 x0.length c0, .int .i64 0]) rfl rfl hF rfl S (run_box rfl (hF.ev rfl) rfl) ?_; clear hF S; intro a g102 u hF S
    refine op_val (v := .pointer (some ⟨g102, 0, none⟩)) rfl rfl hF rfl (run_assign rfl (hF.ev rfl)) ?_; clear hF; intro a hF
    refine wpList_nil ?_
    refine wp_ret ?_
    repeat with_reducible (first | refine then_ret ?_ | refine in_ret ?_ | refine in_nrm ?_)
    refine ret1_gw (.inl rfl) hF rfl (res_tmp (hF.ev rfl)) ?_
    have q1 := ltB_f hc101
    rw [opA, if_neg (by omega), List.take_of_length_le (by omega)]
    exact ⟨g102, rfl, S.sel [0] rfl rfl⟩
  · have hc101_ := hc101
    refine cond_t hF rfl hc101 ?_
    refine wp_region_lit ?_
    refine op_val (v := .slice A0 x0.length c0) rfl rfl hF rfl (run_move rfl (hF.ev rfl)) ?_; clear hF; intro a hF
    have hk103 := slB_t (show slB 0 2000 x0.length = true by have := ltB_t hc101; simp [slB]; omega)
    refine op_val (v := .slice (subA c0 ((0 : Int).toNat) 1 A0) ((subL x0 0 2000).length) (c0 - (0 : Int).toNat)) rfl rfl hF rfl (run_sliceH (l := x0) rfl Tryd.underlying22 sz5 (hF.ev rfl) rfl hk103 rfl (S.rc0 h0.rc).cap) ?_; clear hF; intro a hF
    refine op_val (v := .slice (subA c0 ((0 : Int).toNat) 1 A0) ((subL x0 0 2000).length) (c0 - (0 : Int).toNat)) rfl rfl hF rfl (run_assign rfl (hF.ev rfl)) ?_; clear hF; intro a hF
    refine wpList_nil ?_
    refine wp_seq ?_
    refine wp_region_lit ?_
    refine op_val (v := .slice (subA c0 ((0 : Int).toNat) 1 A0) ((subL x0 0 2000).length) (c0 - (0 : Int).toNat)) rfl rfl hF rfl (run_move rfl (hF.ev rfl)) ?_; clear hF; intro a hF
    refine op_val (v := .agg #[.slice (subA c0 ((0 : Int).toNat) 1 A0) ((subL x0 0 2000).length) (c0 - (0 : Int).toNat), .int .i64 0]) rfl rfl hF rfl (run_build (vs := [(0, .slice (subA c0 ((0 : Int).toNat) 1 A0) ((subL x0 0 2000).length) (c0 - (0 : Int).toNat))]) rfl ⟨⟨rfl, (hF.ev rfl)⟩, trivial⟩ (bd57_0 rfl)) ?_; clear hF; intro a hF
    refine op_new (cs := #[.slice (subA c0 ((0 : Int).toNat) 1 A0) ((subL x0 0 2000).length) (c0 - (0 : Int).toNat), .int .i64 0]) rfl rfl hF rfl S (run_box rfl (hF.ev rfl) rfl) ?_; clear hF S; intro a g104 u hF S
    refine op_val (v := .pointer (some ⟨g104, 0, none⟩)) rfl rfl hF rfl (run_assign rfl (hF.ev rfl)) ?_; clear hF; intro a hF
    refine wpList_nil ?_
    refine wp_ret ?_
    repeat with_reducible (first | refine then_ret ?_ | refine in_ret ?_ | refine in_nrm ?_)
    refine ret1_gw (.inl rfl) hF rfl (res_tmp (hF.ev rfl)) ?_
    have q1 := ltB_t hc101
    rw [opA, if_pos (by omega), take_sub]
    exact ⟨g104, rfl, S.sel [0] rfl rfl⟩

set_option maxHeartbeats 4000000 in
theorem c_impl_Net_hasBus {x0 : Int} {x1 : List (Int × Int × Int)} {x2 : Int} {A1 : Option Addr} {n1 c1 : Nat} {w : World} {r : Bool} (h1 : Rt w 3 eLine A1 n1 c1 x1) (hM : m_impl_Net_hasBus x0 x1 x2 = some r) :
    Calls Tryd.prog 27 #[.agg #[.int .i64 x0, .slice A1 n1 c1], .int .i64 x2] w (fun e w' => e = .returned (.bool r) ∧ St w w' []) := by
  obtain rfl := h1.len
  unfold m_impl_Net_hasBus at hM
  refine calls_gw Tryd.func27 Tryd.ntmps27 rfl [(0, .agg #[.int .i64 x0, .slice A1 x1.length c1]), (1, .int .i64 x2)] ⟨rfl, rfl, trivial⟩ rfl ?_
  intro a hF
  have S := St.nil w
  refine wp_seq ?_
  refine wp_region_lit ?_
  refine op_new (cs := #[.int .i64 x0, .slice A1 x1.length c1]) rfl rfl hF rfl S (run_box rfl (hF.ev rfl) rfl) ?_; clear hF S; intro a g101 u hF S
  refine op_val (v := .bool false) rfl rfl hF rfl (run_assign rfl rfl) ?_; clear hF; intro a hF
  refine wpList_nil ?_
  refine wp_seq ?_
  refine wp_region_lit ?_
  refine op_val (v := .int .i64 x2) rfl rfl hF rfl (run_move rfl (hF.ev rfl)) ?_; clear hF; intro a hF
  refine op_val (v := .bool (leB 0 x2)) rfl rfl hF rfl (run_geq (hF.ev rfl) rfl rfl) ?_; clear hF; intro a hF
  refine op_val (v := .bool (leB 0 x2)) rfl rfl hF rfl (run_move rfl (hF.ev rfl)) ?_; clear hF; intro a hF
  refine op_gv (v := .int .i64 x2) rfl rfl hF rfl (yt (gw_yield hF rfl rfl rfl)) (fun hg => (run_move rfl (hF.ev rfl))) ?_; clear hF; intro a hF
  refine op_gv (v := .pointer (some ⟨g101, 0, none⟩)) rfl rfl hF rfl (yt (gw_yield hF rfl rfl rfl)) (fun hg => (run_fieldAddr rfl fl37_0 (hF.ev rfl) rfl)) ?_; clear hF; intro a hF
  refine op_gv (v := .int .i64 x0) rfl rfl hF rfl (yt (gw_yield hF rfl rfl rfl)) (fun hg => (run_load1 rfl one3 ((hF.ev rfl).trans (gv_t hg)) ((S.free 0 rfl).cell rfl))) ?_; clear hF; intro a hF
  refine op_gv (v := .bool (ltB x2 x0)) rfl rfl hF rfl (yt (gw_yield hF rfl rfl rfl)) (fun hg => (run_lss ((hF.ev rfl).trans (gv_t hg)) ((hF.ev rfl).trans (gv_t hg)) rfl)) ?_; clear hF; intro a hF
  refine op_val (v := .bool ((leB 0 x2) && (ltB x2 x0))) rfl rfl hF rfl (run_pick_and rfl (hF.ev rfl) (fun hp => ((hF.ev rfl).trans (gv_t hp))) rfl) ?_; clear hF; intro a hF
  refine op_val (v := .bool ((leB 0 x2) && (ltB x2 x0))) rfl rfl hF rfl (run_assign rfl (hF.ev rfl)) ?_; clear hF; intro a hF
  refine wpList_nil ?_
  refine wp_ret ?_
  repeat with_reducible (first | refine then_ret ?_ | refine in_ret ?_ | refine in_nrm ?_)
  refine ret1_gw (.inl rfl) hF rfl (res_tmp (hF.ev rfl)) ?_
  obtain rfl := Option.some.inj hM
  exact ⟨rfl, S.sel [] rfl rfl⟩

set_option maxHeartbeats 4000000 in
theorem c_impl_NetValid {x0 : Int} {x1 : List (Int × Int × Int)} {A1 : Option Addr} {n1 c1 : Nat} {w : World} {r : Bool} (h1 : Rt w 3 eLine A1 n1 c1 x1) (hM : m_impl_NetValid x0 x1 = some r) :
    Calls Tryd.prog 21 #[.agg #[.int .i64 x0, .slice A1 n1 c1]] w (fun e w' => e = .returned (.bool r) ∧ St w w' []) := by
  obtain rfl := h1.len
  unfold m_impl_NetValid at hM
  refine calls_gw Tryd.func21 Tryd.ntmps21 rfl [(0, .agg #[.int .i64 x0, .slice A1 x1.length c1])] ⟨rfl, trivial⟩ rfl ?_
  intro a hF
  have S := St.nil w
  refine wp_seq ?_
  refine wp_region_lit ?_
  refine op_new (cs := #[.int .i64 x0, .slice A1 x1.length c1]) rfl rfl hF rfl S (run_box rfl (hF.ev rfl) rfl) ?_; clear hF S; intro a g101 u hF S
  refine op_val (v := .bool false) rfl rfl hF rfl (run_assign rfl rfl) ?_; clear hF; intro a hF
  refine wpList_nil ?_
  refine wp_seq ?_
  refine wp_seq ?_
  refine wp_region_lit ?_
  refine op_val (v := .pointer (some ⟨g101, 0, none⟩)) rfl rfl hF rfl (run_fieldAddr rfl fl37_0 (hF.ev rfl) rfl) ?_; clear hF; intro a hF
  refine op_val (v := .int .i64 x0) rfl rfl hF rfl (run_load1 rfl one3 (hF.ev rfl) ((S.free 0 rfl).cell rfl)) ?_; clear hF; intro a hF
  refine op_val (v := .bool (ltB x0 1)) rfl rfl hF rfl (run_lss (hF.ev rfl) rfl rfl) ?_; clear hF; intro a hF
  refine op_val (v := .bool (ltB x0 1)) rfl rfl hF rfl (run_move rfl (hF.ev rfl)) ?_; clear hF; intro a hF
  refine op_gv (v := .pointer (some ⟨g101, 0, none⟩)) rfl rfl hF rfl (yf (gw_yield hF rfl rfl rfl)) (fun hg => (run_fieldAddr rfl fl37_0 (hF.ev rfl) rfl)) ?_; clear hF; intro a hF
  refine op_gv (v := .int .i64 x0) rfl rfl hF rfl (yf (gw_yield hF rfl rfl rfl)) (fun hg => (run_load1 rfl one3 ((hF.ev rfl).trans (gv_t hg)) ((S.free 0 rfl).cell rfl))) ?_; clear hF; intro a hF
  refine op_gv (v := .bool (ltB 8 x0)) rfl rfl hF rfl (yf (gw_yield hF rfl rfl rfl)) (fun hg => (run_gtr ((hF.ev rfl).trans (gv_t hg)) rfl rfl)) ?_; clear hF; intro a hF
  refine op_val (v := .bool ((ltB x0 1) || (ltB 8 x0))) rfl rfl hF rfl (run_pick_or rfl (hF.ev rfl) rfl (fun hp => ((hF.ev rfl).trans (gv_t (not_t hp))))) ?_; clear hF; intro a hF
  refine op_val (v := .bool ((ltB x0 1) || (ltB 8 x0))) rfl rfl hF rfl (run_move rfl (hF.ev rfl)) ?_; clear hF; intro a hF
  refine op_gv (v := .pointer (some ⟨g101, 1, none⟩)) rfl rfl hF rfl (yf (gw_yield hF rfl rfl rfl)) (fun hg => (run_fieldAddr rfl fl37_1 (hF.ev rfl) rfl)) ?_; clear hF; intro a hF
  refine op_gv (v := .slice A1 x1.length c1) rfl rfl hF rfl (yf (gw_yield hF rfl rfl rfl)) (fun hg => (run_load1 rfl one35 ((hF.ev rfl).trans (gv_t hg)) ((S.free 0 rfl).cell rfl))) ?_; clear hF; intro a hF
  refine op_gv (v := .int .i64 (x1.length : Int)) rfl rfl hF rfl (yf (gw_yield hF rfl rfl rfl)) (fun hg => (run_lenL rfl rfl Tryd.underlying35 ((hF.ev rfl).trans (gv_t hg)))) ?_; clear hF; intro a hF
  refine op_gv (v := .bool (ltB 10 (x1.length : Int))) rfl rfl hF rfl (yf (gw_yield hF rfl rfl rfl)) (fun hg => (run_gtr ((hF.ev rfl).trans (gv_t hg)) rfl rfl)) ?_; clear hF; intro a hF
  refine op_val (v := .bool (((ltB x0 1) || (ltB 8 x0)) || (ltB 10 (x1.length : Int)))) rfl rfl hF rfl (run_pick_or rfl (hF.ev rfl) rfl (fun hp => ((hF.ev rfl).trans (gv_t (not_t hp))))) ?_; clear hF; intro a hF
  refine wpList_nil ?_
  cases hc102 : (((ltB x0 1) || (ltB 8 x0)) || (ltB 10 (x1.length : Int)))
  · replace hM := bif_f hc102 hM
    refine cond_f hF rfl hc102 ?_
    refine wp_skip ?_
    refine wp_seq ?_
    refine wp_seq ?_
    refine wp_region_lit ?_
    refine op_val (v := .pointer (some ⟨g101, 1, none⟩)) rfl rfl hF rfl (run_fieldAddr rfl fl37_1 (hF.ev rfl) rfl) ?_; clear hF; intro a hF
    refine op_val (v := .slice A1 x1.length c1) rfl rfl hF rfl (run_load1 rfl one35 (hF.ev rfl) ((S.free 0 rfl).cell rfl)) ?_; clear hF; intro a hF
    refine op_val (v := .int .i64 (x1.length : Int)) rfl rfl hF rfl (run_lenL rfl rfl Tryd.underlying35 (hF.ev rfl)) ?_; clear hF; intro a hF
    refine op_val (v := .int .i64 0) rfl rfl hF rfl (run_move rfl rfl) ?_; clear hF; intro a hF
    refine wpList_nil ?_
    obtain ⟨o104, hM105, hM⟩ := bind_ex hM
    refine wp_cut (fun a u => ∃ (p103 : Unit), (Sum.inl p103) = o104 ∧ Fr a 56 [(2, .bool false)] ∧ St w u []) ?_ ?_
    · have _ := trivial
      refine wp_block ?_
      refine loop_gw (fun m a u => ∃ (p106 : Int), m_impl_NetValid_l1 x0 x1 m p106 = some _ ∧ Fr a 56 [(1, .pointer (some ⟨g101, 0, none⟩)), (2, .bool false), (20, .slice A1 x1.length c1), (21, .int .i64 (x1.length : Int)), (22, .int .i64 p106)] ∧ St w u [.box g101 37 #[.int .i64 x0, .slice A1 x1.length c1]]) FUEL ⟨0, hM105, hF.keep _ ⟨rfl, rfl, rfl, rfl, rfl, trivial⟩, S.sel [0] rfl rfl⟩ ?_
      clear hF S hM105; rintro m a u ⟨p106, hM105, hF, S⟩
      rcases m with _ | f1
      · exact none_some hM105
      rw [m_impl_NetValid_l1.eq_2] at hM105
      refine wp_seq ?_
      refine wp_region_lit ?_
      refine op_val (v := .bool (ltB p106 (x1.length : Int))) rfl rfl hF rfl (run_lss (hF.ev rfl) (hF.ev rfl) rfl) ?_; clear hF; intro a hF
      refine wpList_nil ?_
      refine wp_seq ?_
      cases hc107 : (ltB p106 (x1.length : Int))
      · replace hM105 := bif_f hc107 hM105
        refine cond_f hF rfl hc107 ?_
        refine wp_exit ?_
        repeat with_reducible (first | refine then_exit ?_ | refine in_hit ?_ | refine in_miss rfl ?_)
        obtain rfl := Option.some.inj hM105
        exact ⟨(), rfl, hF.keep _ ⟨rfl, trivial⟩, S.sel [] rfl rfl⟩
      · replace hM105 := bif_t hc107 hM105
        refine cond_t hF rfl hc107 ?_
        refine wp_skip ?_
        refine wp_seq ?_
        refine wp_block ?_
        refine wp_seq ?_
        refine wp_region_lit ?_
        obtain ⟨hk108, hM105⟩ := chk_ex hM105
        replace hk108 := ixB_t hk108
        refine op_val (v := .pointer (some ⟨adB A1, adO A1 + p106.toNat * 3, none⟩)) rfl rfl hF rfl (run_indexAddr (b := adB A1) (off := adO A1) rfl Tryd.underlying35 sz34 ((hF.ev rfl).trans (congrArg (fun A => Value.slice A x1.length c1) ((S.rc0 h1.rc).rd.ad (ix_pos hk108)))) (hF.ev rfl) hk108.1 hk108.2 (k' := adO A1 + p106.toNat * 3) rfl) ?_; clear hF; intro a hF
        refine op_val (v := .agg #[.int .i64 ((x1.getD p106.toNat ((0, 0, 0) : Int × Int × Int)).1), .int .i64 ((x1.getD p106.toNat ((0, 0, 0) : Int × Int × Int)).2.1), .int .i64 ((x1.getD p106.toNat ((0, 0, 0) : Int × Int × Int)).2.2)]) rfl rfl hF rfl (run_loadN (cs := #[.int .i64 ((x1.getD p106.toNat ((0, 0, 0) : Int × Int × Int)).1), .int .i64 ((x1.getD p106.toNat ((0, 0, 0) : Int × Int × Int)).2.1), .int .i64 ((x1.getD p106.toNat ((0, 0, 0) : Int × Int × Int)).2.2)]) rfl ag34 (hF.ev rfl) rfl (rd_elN (l := x1) (S.rc0 h1.rc).rd rfl eLine_len ((0, 0, 0) : Int × Int × Int) (ix_ltn hk108 rfl) rfl)) ?_; clear hF; intro a hF
        refine op_new (cs := #[.int .i64 0, .int .i64 0, .int .i64 0]) rfl rfl hF rfl S (run_allocZ rfl zr34) ?_; clear hF S; intro a g109 u hF S
        refine op_do rfl rfl (run_store (cs' := #[.int .i64 ((x1.getD p106.toNat ((0, 0, 0) : Int × Int × Int)).1), .int .i64 ((x1.getD p106.toNat ((0, 0, 0) : Int × Int × Int)).2.1), .int .i64 ((x1.getD p106.toNat ((0, 0, 0) : Int × Int × Int)).2.2)]) rfl sz34 (hF.ev rfl) (hF.ev rfl) rfl rfl rfl (S.free 0 rfl) rfl rfl) ?_; replace S := S.put 0 rfl (#[.int .i64 ((x1.getD p106.toNat ((0, 0, 0) : Int × Int × Int)).1), .int .i64 ((x1.getD p106.toNat ((0, 0, 0) : Int × Int × Int)).2.1), .int .i64 ((x1.getD p106.toNat ((0, 0, 0) : Int × Int × Int)).2.2)])
        generalize World.setRow _ _ _ = u at S ⊢
        refine wpList_nil ?_
        refine wp_seq ?_
        refine wp_region_lit ?_
        refine op_val (v := .agg #[.int .i64 x0, .slice A1 x1.length c1]) rfl rfl hF rfl (run_loadN rfl ag37 (hF.ev rfl) rfl ((S.free 1 rfl).cells 0 #[.int .i64 x0, .slice A1 x1.length c1] rfl)) ?_; clear hF; intro a hF
        refine op_val (v := .pointer (some ⟨g109, 0, none⟩)) rfl rfl hF rfl (run_fieldAddr rfl fl34_0 (hF.ev rfl) rfl) ?_; clear hF; intro a hF
        refine op_val (v := .int .i64 ((x1.getD p106.toNat ((0, 0, 0) : Int × Int × Int)).1)) rfl rfl hF rfl (run_load1 rfl one3 (hF.ev rfl) ((S.free 0 rfl).cell rfl)) ?_; clear hF; intro a hF
        obtain ⟨p110, h110, hM105⟩ := bind_ex hM105
        refine op_call rfl rfl hF rfl (run_call (vs := [.agg #[.int .i64 x0, .slice A1 x1.length c1], .int .i64 ((x1.getD p106.toNat ((0, 0, 0) : Int × Int × Int)).1)]) rfl rfl co27 ⟨(hF.ev rfl), (hF.ev rfl), trivial⟩) (c_impl_Net_hasBus (x0 := x0) (x1 := x1) (x2 := (x1.getD p106.toNat ((0, 0, 0) : Int × Int × Int)).1) ⟨(S.rc0 h1.rc), rfl⟩ h110) ?_
        rintro e u ⟨rfl, T⟩
        refine ⟨_, rfl, ?_⟩
        clear hF; intro a hF
        replace S := S.call0 T; clear T
        refine op_val (v := .bool (!p110)) rfl rfl hF rfl (run_not rfl (hF.ev rfl)) ?_; clear hF; intro a hF
        refine op_val (v := .bool (!p110)) rfl rfl hF rfl (run_move rfl (hF.ev rfl)) ?_; clear hF; intro a hF
        refine op_gv (v := .agg #[.int .i64 x0, .slice A1 x1.length c1]) rfl rfl hF rfl (yf (gw_yield hF rfl rfl rfl)) (fun hg => (run_loadN rfl ag37 (hF.ev rfl) rfl ((S.free 1 rfl).cells 0 #[.int .i64 x0, .slice A1 x1.length c1] rfl))) ?_; clear hF; intro a hF
        refine op_gv (v := .pointer (some ⟨g109, 1, none⟩)) rfl rfl hF rfl (yf (gw_yield hF rfl rfl rfl)) (fun hg => (run_fieldAddr rfl fl34_1 (hF.ev rfl) rfl)) ?_; clear hF; intro a hF
        refine op_gv (v := .int .i64 ((x1.getD p106.toNat ((0, 0, 0) : Int × Int × Int)).2.1)) rfl rfl hF rfl (yf (gw_yield hF rfl rfl rfl)) (fun hg => (run_load1 rfl one3 ((hF.ev rfl).trans (gv_t hg)) ((S.free 0 rfl).cell rfl))) ?_; clear hF; intro a hF
        obtain ⟨p111, h111, hM105⟩ := bind_ex hM105
        refine op_gcall (v := .bool p111) rfl rfl hF rfl S (yf (gw_yield hF rfl rfl rfl)) (fun hg => (run_call (vs := [.agg #[.int .i64 x0, .slice A1 x1.length c1], .int .i64 ((x1.getD p106.toNat ((0, 0, 0) : Int × Int × Int)).2.1)]) rfl rfl co27 ⟨((hF.ev rfl).trans (gv_t hg)), ((hF.ev rfl).trans (gv_t hg)), trivial⟩)) (fun hg => c_impl_Net_hasBus (x0 := x0) (x1 := x1) (x2 := (x1.getD p106.toNat ((0, 0, 0) : Int × Int × Int)).2.1) ⟨(S.rc0 h1.rc), rfl⟩ (gb_t h111 hg)) ?_; clear hF S; intro a u hF S
        refine op_gv (v := .bool (!p111)) rfl rfl hF rfl (yf (gw_yield hF rfl rfl rfl)) (fun hg => (run_not rfl ((hF.ev rfl).trans (gv_t hg)))) ?_; clear hF; intro a hF
        refine op_val (v := .bool ((!p110) || (!p111))) rfl rfl hF rfl (run_pick_or rfl (hF.ev rfl) rfl (fun hp => ((hF.ev rfl).trans (gv_t (not_t hp))))) ?_; clear hF; intro a hF
        refine op_val (v := .bool ((!p110) || (!p111))) rfl rfl hF rfl (run_move rfl (hF.ev rfl)) ?_; clear hF; intro a hF
        refine op_gv (v := .pointer (some ⟨g109, 0, none⟩)) rfl rfl hF rfl (yf (gw_yield hF rfl rfl rfl)) (fun hg => (run_fieldAddr rfl fl34_0 (hF.ev rfl) rfl)) ?_; clear hF; intro a hF
        refine op_gv (v := .int .i64 ((x1.getD p106.toNat ((0, 0, 0) : Int × Int × Int)).1)) rfl rfl hF rfl (yf (gw_yield hF rfl rfl rfl)) (fun hg => (run_load1 rfl one3 ((hF.ev rfl).trans (gv_t hg)) ((S.free 0 rfl).cell rfl))) ?_; clear hF; intro a hF
        refine op_gv (v := .pointer (some ⟨g109, 1, none⟩)) rfl rfl hF rfl (yf (gw_yield hF rfl rfl rfl)) (fun hg => (run_fieldAddr rfl fl34_1 (hF.ev rfl) rfl)) ?_; clear hF; intro a hF
        refine op_gv (v := .int .i64 ((x1.getD p106.toNat ((0, 0, 0) : Int × Int × Int)).2.1)) rfl rfl hF rfl (yf (gw_yield hF rfl rfl rfl)) (fun hg => (run_load1 rfl one3 ((hF.ev rfl).trans (gv_t hg)) ((S.free 0 rfl).cell rfl))) ?_; clear hF; intro a hF
        refine op_gv (v := .bool (((x1.getD p106.toNat ((0, 0, 0) : Int × Int × Int)).1) == ((x1.getD p106.toNat ((0, 0, 0) : Int × Int × Int)).2.1))) rfl rfl hF rfl (yf (gw_yield hF rfl rfl rfl)) (fun hg => (run_eql ((hF.ev rfl).trans (gv_t hg)) ((hF.ev rfl).trans (gv_t hg)) rfl)) ?_; clear hF; intro a hF
        refine op_val (v := .bool (((!p110) || (!p111)) || (((x1.getD p106.toNat ((0, 0, 0) : Int × Int × Int)).1) == ((x1.getD p106.toNat ((0, 0, 0) : Int × Int × Int)).2.1)))) rfl rfl hF rfl (run_pick_or rfl (hF.ev rfl) rfl (fun hp => ((hF.ev rfl).trans (gv_t (not_t hp))))) ?_; clear hF; intro a hF
        refine op_val (v := .bool (((!p110) || (!p111)) || (((x1.getD p106.toNat ((0, 0, 0) : Int × Int × Int)).1) == ((x1.getD p106.toNat ((0, 0, 0) : Int × Int × Int)).2.1)))) rfl rfl hF rfl (run_move rfl (hF.ev rfl)) ?_; clear hF; intro a hF
        refine op_gv (v := .pointer (some ⟨g109, 2, none⟩)) rfl rfl hF rfl (yf (gw_yield hF rfl rfl rfl)) (fun hg => (run_fieldAddr rfl fl34_2 (hF.ev rfl) rfl)) ?_; clear hF; intro a hF
        refine op_gv (v := .int .i64 ((x1.getD p106.toNat ((0, 0, 0) : Int × Int × Int)).2.2)) rfl rfl hF rfl (yf (gw_yield hF rfl rfl rfl)) (fun hg => (run_load1 rfl one3 ((hF.ev rfl).trans (gv_t hg)) ((S.free 0 rfl).cell rfl))) ?_; clear hF; intro a hF
        refine op_gv (v := .bool (ltB ((x1.getD p106.toNat ((0, 0, 0) : Int × Int × Int)).2.2) 1)) rfl rfl hF rfl (yf (gw_yield hF rfl rfl rfl)) (fun hg => (run_lss ((hF.ev rfl).trans (gv_t hg)) rfl rfl)) ?_; clear hF; intro a hF
        refine op_val (v := .bool ((((!p110) || (!p111)) || (((x1.getD p106.toNat ((0, 0, 0) : Int × Int × Int)).1) == ((x1.getD p106.toNat ((0, 0, 0) : Int × Int × Int)).2.1))) || (ltB ((x1.getD p106.toNat ((0, 0, 0) : Int × Int × Int)).2.2) 1))) rfl rfl hF rfl (run_pick_or rfl (hF.ev rfl) rfl (fun hp => ((hF.ev rfl).trans (gv_t (not_t hp))))) ?_; clear hF; intro a hF
        refine op_val (v := .bool ((((!p110) || (!p111)) || (((x1.getD p106.toNat ((0, 0, 0) : Int × Int × Int)).1) == ((x1.getD p106.toNat ((0, 0, 0) : Int × Int × Int)).2.1))) || (ltB ((x1.getD p106.toNat ((0, 0, 0) : Int × Int × Int)).2.2) 1))) rfl rfl hF rfl (run_move rfl (hF.ev rfl)) ?_; clear hF; intro a hF
        refine op_gv (v := .pointer (some ⟨g109, 2, none⟩)) rfl rfl hF rfl (yf (gw_yield hF rfl rfl rfl)) (fun hg => (run_fieldAddr rfl fl34_2 (hF.ev rfl) rfl)) ?_; clear hF; intro a hF
        refine op_gv (v := .int .i64 ((x1.getD p106.toNat ((0, 0, 0) : Int × Int × Int)).2.2)) rfl rfl hF rfl (yf (gw_yield hF rfl rfl rfl)) (fun hg => (run_load1 rfl one3 ((hF.ev rfl).trans (gv_t hg)) ((S.free 0 rfl).cell rfl))) ?_; clear hF; intro a hF
        refine op_gv (v := .bool (ltB 999 ((x1.getD p106.toNat ((0, 0, 0) : Int × Int × Int)).2.2))) rfl rfl hF rfl (yf (gw_yield hF rfl rfl rfl)) (fun hg => (run_gtr ((hF.ev rfl).trans (gv_t hg)) rfl rfl)) ?_; clear hF; intro a hF
        refine op_val (v := .bool (((((!p110) || (!p111)) || (((x1.getD p106.toNat ((0, 0, 0) : Int × Int × Int)).1) == ((x1.getD p106.toNat ((0, 0, 0) : Int × Int × Int)).2.1))) || (ltB ((x1.getD p106.toNat ((0, 0, 0) : Int × Int × Int)).2.2) 1)) || (ltB 999 ((x1.getD p106.toNat ((0, 0, 0) : Int × Int × Int)).2.2)))) rfl rfl hF rfl (run_pick_or rfl (hF.ev rfl) rfl (fun hp => ((hF.ev rfl).trans (gv_t (not_t hp))))) ?_; clear hF; intro a hF
        refine wpList_nil ?_
        cases hc112 : (((((!p110) || (!p111)) || (((x1.getD p106.toNat ((0, 0, 0) : Int × Int × Int)).1) == ((x1.getD p106.toNat ((0, 0, 0) : Int × Int × Int)).2.1))) || (ltB ((x1.getD p106.toNat ((0, 0, 0) : Int × Int × Int)).2.2) 1)) || (ltB 999 ((x1.getD p106.toNat ((0, 0, 0) : Int × Int × Int)).2.2)))
        · replace hM105 := bif_f hc112 hM105
          refine cond_f hF rfl hc112 ?_
          refine wp_skip ?_
          refine wp_region_lit ?_
          refine op_val (v := .int .i64 (w64 (p106 + 1))) rfl rfl hF rfl (run_add (z := w64 (p106 + 1)) (hF.ev rfl) rfl rfl rfl) ?_; clear hF; intro a hF
          refine op_val (v := .int .i64 (w64 (p106 + 1))) rfl rfl hF rfl (run_move rfl (hF.ev rfl)) ?_; clear hF; intro a hF
          refine wpList_nil ?_
          exact ⟨f1, Nat.lt_succ_self _, w64 (p106 + 1), hM105, hF.keep _ ⟨rfl, rfl, rfl, rfl, rfl, trivial⟩, S.sel [1] rfl rfl⟩
        · replace hM105 := bif_t hc112 hM105
          refine cond_t hF rfl hc112 ?_
          refine wp_seq ?_
          refine wp_region_lit ?_
          refine op_val (v := .bool false) rfl rfl hF rfl (run_assign rfl rfl) ?_; clear hF; intro a hF
          refine wpList_nil ?_
          refine wp_ret ?_
          repeat with_reducible (first | refine then_ret ?_ | refine in_ret ?_ | refine in_nrm ?_)
          refine ret1_gw (.inl rfl) hF rfl (res_tmp (hF.ev rfl)) ?_
          obtain rfl := Option.some.inj hM105
          obtain rfl := Option.some.inj hM
          exact ⟨rfl, S.sel [] rfl rfl⟩
    · rintro a u ⟨p103, rfl, hF, S⟩
      replace hM := elim_l hM
      refine wp_seq ?_
      refine wp_region_lit ?_
      refine op_val (v := .bool true) rfl rfl hF rfl (run_assign rfl rfl) ?_; clear hF; intro a hF
      refine wpList_nil ?_
      refine wp_ret ?_
      repeat with_reducible (first | refine then_ret ?_ | refine in_ret ?_ | refine in_nrm ?_)
      refine ret1_gw (.inl rfl) hF rfl (res_tmp (hF.ev rfl)) ?_
      obtain rfl := Option.some.inj hM
      exact ⟨rfl, S.sel [] rfl rfl⟩
  · replace hM := bif_t hc102 hM
    refine cond_t hF rfl hc102 ?_
    refine wp_seq ?_
    refine wp_region_lit ?_
    refine op_val (v := .bool false) rfl rfl hF rfl (run_assign rfl rfl) ?_; clear hF; intro a hF
    refine wpList_nil ?_
    refine wp_ret ?_
    repeat with_reducible (first | refine then_ret ?_ | refine in_ret ?_ | refine in_nrm ?_)
    refine ret1_gw (.inl rfl) hF rfl (res_tmp (hF.ev rfl)) ?_
    obtain rfl := Option.some.inj hM
    exact ⟨rfl, S.sel [] rfl rfl⟩

theorem c_impl_NetText_bad {x0 : Int} {x1 : List (Int × Int × Int)} {A1 : Option Addr} {n1 c1 : Nat} {w : World} (h1 : Rt w 3 eLine A1 n1 c1 x1) (hv : m_impl_NetValid x0 x1 = some false) :
    Calls Tryd.prog 15 #[.agg #[.int .i64 x0, .slice A1 n1 c1]] w (fun e w' => e = .returned (.string ({ data := #[] } : ByteArray)) ∧ St w w' []) := by
  obtain rfl := h1.len
  refine calls_gw Tryd.func15 Tryd.ntmps15 rfl [(0, .agg #[.int .i64 x0, .slice A1 x1.length c1])] ⟨rfl, trivial⟩ rfl ?_
  intro a hF
  have S := St.nil w
  refine wp_seq ?_
  refine wp_region_lit ?_
  refine op_new (cs := #[.int .i64 x0, .slice A1 x1.length c1]) rfl rfl hF rfl S (run_box rfl (hF.ev rfl) rfl) ?_; clear hF S; intro a g101 u hF S
  refine op_val (v := .string ({ data := #[] } : ByteArray)) rfl rfl hF rfl (run_assign rfl rfl) ?_; clear hF; intro a hF
  refine wpList_nil ?_
  refine wp_seq ?_
  refine wp_seq ?_
  refine wp_region_lit ?_
  refine op_val (v := .agg #[.int .i64 x0, .slice A1 x1.length c1]) rfl rfl hF rfl (run_loadN rfl ag37 (hF.ev rfl) rfl ((S.free 0 rfl).cells 0 #[.int .i64 x0, .slice A1 x1.length c1] rfl)) ?_; clear hF; intro a hF
  refine op_call rfl rfl hF rfl (run_call (vs := [.agg #[.int .i64 x0, .slice A1 x1.length c1]]) rfl rfl co21 ⟨(hF.ev rfl), trivial⟩) (c_impl_NetValid ⟨(S.rc0 h1.rc), rfl⟩ hv) ?_
  rintro e u ⟨rfl, T⟩
  refine ⟨_, rfl, ?_⟩
  clear hF; intro a hF
  replace S := S.call0 T; clear T
  refine op_val (v := .bool (!false)) rfl rfl hF rfl (run_not rfl (hF.ev rfl)) ?_; clear hF; intro a hF
  refine wpList_nil ?_
  refine cond_t hF rfl (not_t rfl) ?_
  refine wp_seq ?_
  refine wp_region_lit ?_
  refine op_val (v := .string ({ data := #[] } : ByteArray)) rfl rfl hF rfl (run_assign rfl rfl) ?_; clear hF; intro a hF
  refine wpList_nil ?_
  refine wp_ret ?_
  repeat with_reducible (first | refine then_ret ?_ | refine in_ret ?_ | refine in_nrm ?_)
  refine ret1_gw (.inl rfl) hF rfl (res_tmp (hF.ev rfl)) ?_
  exact ⟨rfl, S.sel [] rfl rfl⟩

set_option maxHeartbeats 4000000 in
theorem c_spec_l20Rd_pick {x0 : List Int} {x1 : Int} {x2 : Int} {A0 : Option Addr} {n0 c0 : Nat} {g0 : Nat} {w : World} {r : Int × Int} {w0 : World} {X : List Asn} (h0 : Rt w0 1 eU A0 n0 c0 x0) (S : St w0 w (Asn.box g0 57 #[.slice A0 n0 c0, .int .i64 x1] :: X)) (hM : m_spec_l20Rd_pick x0 x1 x2 = some r) :
    Calls Tryd.prog 19 #[.pointer (some ⟨g0, 0, none⟩), .int .i64 x2] w (fun e w' => e = .returned (.int .i64 r.1) ∧ St w0 w' (Asn.box g0 57 #[.slice A0 n0 c0, .int .i64 r.2] :: X)) := by
  obtain rfl := h0.len
  unfold m_spec_l20Rd_pick at hM
  refine calls_gw Tryd.func19 Tryd.ntmps19 rfl [(0, .pointer (some ⟨g0, 0, none⟩)), (1, .int .i64 x2)] ⟨rfl, rfl, trivial⟩ rfl ?_
  intro a hF
  refine wp_seq ?_
  refine wp_region_lit ?_
  refine op_val (v := .int .i64 0) rfl rfl hF rfl (run_assign rfl rfl) ?_; clear hF; intro a hF
  refine wpList_nil ?_
  refine wp_seq ?_
  refine wp_region_lit ?_
  refine op_val (v := .pointer (some ⟨g0, 0, none⟩)) rfl rfl hF rfl (run_move rfl (hF.ev rfl)) ?_; clear hF; intro a hF
  refine op_val (v := .pointer (some ⟨g0, 0, none⟩)) rfl rfl hF rfl (run_move rfl (hF.ev rfl)) ?_; clear hF; intro a hF
  refine op_val (v := .pointer (some ⟨g0, 0, none⟩)) rfl rfl hF rfl (run_nilCheck rfl (hF.ev rfl)) ?_; clear hF; intro a hF
  refine op_val (v := .pointer (some ⟨g0, 1, none⟩)) rfl rfl hF rfl (run_fieldAddr rfl fl57_1 (hF.ev rfl) rfl) ?_; clear hF; intro a hF
  refine op_val (v := .int .i64 x1) rfl rfl hF rfl (run_load1 rfl one3 (hF.ev rfl) ((S.free 0 rfl).cell rfl)) ?_; clear hF; intro a hF
  refine op_val (v := .int .i64 (w64 (x1 + 1))) rfl rfl hF rfl (run_add (z := w64 (x1 + 1)) (hF.ev rfl) rfl rfl rfl) ?_; clear hF; intro a hF
  refine op_val (v := .pointer (some ⟨g0, 0, none⟩)) rfl rfl hF rfl (run_nilCheck rfl (hF.ev rfl)) ?_; clear hF; intro a hF
  refine op_val (v := .pointer (some ⟨g0, 1, none⟩)) rfl rfl hF rfl (run_fieldAddr rfl fl57_1 (hF.ev rfl) rfl) ?_; clear hF; intro a hF
  refine op_do rfl rfl (run_store (cs' := #[.slice A0 x0.length c0, .int .i64 (w64 (x1 + 1))]) rfl sz3 (hF.ev rfl) (hF.ev rfl) rfl rfl rfl (S.free 0 rfl) rfl rfl) ?_; replace S := S.put 0 rfl (#[.slice A0 x0.length c0, .int .i64 (w64 (x1 + 1))])
  generalize World.setRow _ _ _ = u at S ⊢
  refine wpList_nil ?_
  refine wp_seq ?_
  refine wp_seq ?_
  refine wp_region_lit ?_
  refine op_val (v := .int .i64 x2) rfl rfl hF rfl (run_move rfl (hF.ev rfl)) ?_; clear hF; intro a hF
  refine op_val (v := .bool (ltB x2 1)) rfl rfl hF rfl (run_lss (hF.ev rfl) rfl rfl) ?_; clear hF; intro a hF
  refine op_val (v := .bool (ltB x2 1)) rfl rfl hF rfl (run_move rfl (hF.ev rfl)) ?_; clear hF; intro a hF
  refine op_gv (v := .pointer (some ⟨g0, 0, none⟩)) rfl rfl hF rfl (yf (gw_yield hF rfl rfl rfl)) (fun hg => (run_move rfl (hF.ev rfl))) ?_; clear hF; intro a hF
  refine op_gv (v := .pointer (some ⟨g0, 0, none⟩)) rfl rfl hF rfl (yf (gw_yield hF rfl rfl rfl)) (fun hg => (run_nilCheck rfl ((hF.ev rfl).trans (gv_t hg)))) ?_; clear hF; intro a hF
  refine op_gv (v := .pointer (some ⟨g0, 0, none⟩)) rfl rfl hF rfl (yf (gw_yield hF rfl rfl rfl)) (fun hg => (run_fieldAddr rfl fl57_0 ((hF.ev rfl).trans (gv_t hg)) rfl)) ?_; clear hF; intro a hF
  refine op_gv (v := .slice A0 x0.length c0) rfl rfl hF rfl (yf (gw_yield hF rfl rfl rfl)) (fun hg => (run_load1 rfl one22 ((hF.ev rfl).trans (gv_t hg)) ((S.free 0 rfl).cell rfl))) ?_; clear hF; intro a hF
  refine op_gv (v := .int .i64 (x0.length : Int)) rfl rfl hF rfl (yf (gw_yield hF rfl rfl rfl)) (fun hg => (run_lenL rfl rfl Tryd.underlying22 ((hF.ev rfl).trans (gv_t hg)))) ?_; clear hF; intro a hF
  refine op_gv (v := .bool ((x0.length : Int) == 0)) rfl rfl hF rfl (yf (gw_yield hF rfl rfl rfl)) (fun hg => (run_eql ((hF.ev rfl).trans (gv_t hg)) rfl rfl)) ?_; clear hF; intro a hF
  refine op_val (v := .bool ((ltB x2 1) || ((x0.length : Int) == 0))) rfl rfl hF rfl (run_pick_or rfl (hF.ev rfl) rfl (fun hp => ((hF.ev rfl).trans (gv_t (not_t hp))))) ?_; clear hF; intro a hF
  refine wpList_nil ?_
  cases hc101 : ((ltB x2 1) || ((x0.length : Int) == 0))
  · replace hM := bif_f hc101 hM
    refine cond_f hF rfl hc101 ?_
    refine wp_skip ?_
    refine wp_seq ?_
    refine wp_region_lit ?_
    refine op_val (v := .pointer (some ⟨g0, 0, none⟩)) rfl rfl hF rfl (run_move rfl (hF.ev rfl)) ?_; clear hF; intro a hF
    refine op_val (v := .pointer (some ⟨g0, 0, none⟩)) rfl rfl hF rfl (run_nilCheck rfl (hF.ev rfl)) ?_; clear hF; intro a hF
    refine op_val (v := .pointer (some ⟨g0, 1, none⟩)) rfl rfl hF rfl (run_fieldAddr rfl fl57_1 (hF.ev rfl) rfl) ?_; clear hF; intro a hF
    refine op_val (v := .int .i64 (w64 (x1 + 1))) rfl rfl hF rfl (run_load1 rfl one3 (hF.ev rfl) ((S.free 0 rfl).cell rfl)) ?_; clear hF; intro a hF
    refine op_val (v := .int .i64 (w64 ((w64 (x1 + 1)) - 1))) rfl rfl hF rfl (run_sub (z := w64 ((w64 (x1 + 1)) - 1)) (hF.ev rfl) rfl rfl rfl) ?_; clear hF; intro a hF
    refine op_val (v := .int .i64 (w64 ((w64 (x1 + 1)) - 1))) rfl rfl hF rfl (run_assign rfl (hF.ev rfl)) ?_; clear hF; intro a hF
    refine wpList_nil ?_
    refine wp_seq ?_
    refine wp_seq ?_
    refine wp_region_lit ?_
    refine op_val (v := .int .i64 (w64 ((w64 (x1 + 1)) - 1))) rfl rfl hF rfl (run_move rfl (hF.ev rfl)) ?_; clear hF; intro a hF
    refine op_val (v := .pointer (some ⟨g0, 0, none⟩)) rfl rfl hF rfl (run_move rfl (hF.ev rfl)) ?_; clear hF; intro a hF
    refine op_val (v := .pointer (some ⟨g0, 0, none⟩)) rfl rfl hF rfl (run_nilCheck rfl (hF.ev rfl)) ?_; clear hF; intro a hF
    refine op_val (v := .pointer (some ⟨g0, 0, none⟩)) rfl rfl hF rfl (run_fieldAddr rfl fl57_0 (hF.ev rfl) rfl) ?_; clear hF; intro a hF
    refine op_val (v := .slice A0 x0.length c0) rfl rfl hF rfl (run_load1 rfl one22 (hF.ev rfl) ((S.free 0 rfl).cell rfl)) ?_; clear hF; intro a hF
    refine op_val (v := .int .i64 (x0.length : Int)) rfl rfl hF rfl (run_lenL rfl rfl Tryd.underlying22 (hF.ev rfl)) ?_; clear hF; intro a hF
    refine op_val (v := .bool (ltB (w64 ((w64 (x1 + 1)) - 1)) (x0.length : Int))) rfl rfl hF rfl (run_lss (hF.ev rfl) (hF.ev rfl) rfl) ?_; clear hF; intro a hF
    refine wpList_nil ?_
    cases hc102 : (ltB (w64 ((w64 (x1 + 1)) - 1)) (x0.length : Int))
    · replace hM := bif_f hc102 hM
      refine cond_f hF rfl hc102 ?_
      refine wp_skip ?_
      refine wp_seq ?_
      obtain ⟨hk103, hM⟩ := chk_ex hM
      replace hk103 := nzB_t hk103
      obtain ⟨hk104, hM⟩ := chk_ex hM
      replace hk104 := ixB_t hk104
      obtain ⟨hk105, hM⟩ := chk_ex hM
      replace hk105 := nzB_t hk105
      obtain ⟨hk106, hM⟩ := chk_ex hM
      replace hk106 := ixB_t hk106
      obtain ⟨hk107, hM⟩ := chk_ex hM
      replace hk107 := nzB_t hk107
      refine region_gw (D := [47, 48, 49, 50, 51, 52, 53, 54, 55, 56, 57, 58, 59, 60, 61, 62, 63, 64, 65, 66, 67, 68, 69, 70, 71, 72, 73, 74, 75, 76, 77, 78, 79, 80, 81, 82, 83, 84, 85, 86, 87, 88, 89, 90, 91, 6]) (Lr := (Asn.box g0 57 #[.slice A0 x0.length c0, .int .i64 (w64 (x1 + 1))] :: X)) (deps := (fun | 0 => [47] | 1 => [48] | 2 => [49] | 3 => [50] | 4 => [51] | 5 => [52] | 6 => [53] | 7 => [54] | 8 => [55] | 9 => [56] | 10 => [57] | 11 => [58] | 12 => [59] | 13 => [60] | 14 => [61] | 15 => [62] | 16 => [63] | 17 => [64] | 18 => [65] | 19 => [66] | 20 => [67] | 21 => [68] | 22 => [69] | 23 => [70] | 24 => [71] | 25 => [72] | 26 => [73] | 27 => [74] | 28 => [75] | 29 => [76] | 30 => [77] | 31 => [78] | 32 => [79] | 33 => [80] | 34 => [81] | 35 => [82] | 36 => [83] | 37 => [84] | 38 => [85] | 39 => [86] | 40 => [87] | 41 => [88] | 42 => [89] | 43 => [90] | 44 => [91] | 45 => [6] | _ => [])) (rd := (fun _ => [])) (zr := (fun _ => []))
        (φ := fun i vs => match i, vs with | 0, [v47] => v47 = .pointer (some ⟨g0, 0, none⟩) | 1, [v48] => v48 = .pointer (some ⟨g0, 0, none⟩) | 2, [v49] => v49 = .pointer (some ⟨g0, 0, none⟩) | 3, [v50] => v50 = .slice A0 x0.length c0 | 4, [v51] => v51 = .int .i64 (w64 ((w64 (x1 + 1)) - 1)) | 5, [v52] => v52 = .pointer (some ⟨g0, 0, none⟩) | 6, [v53] => v53 = .pointer (some ⟨g0, 0, none⟩) | 7, [v54] => v54 = .pointer (some ⟨g0, 0, none⟩) | 8, [v55] => v55 = .slice A0 x0.length c0 | 9, [v56] => v56 = .int .i64 (x0.length : Int) | 10, [v57] => v57 = .int .i64 (Int.tmod (w64 ((w64 (x1 + 1)) - 1)) (x0.length : Int)) | 11, [v58] => v58 = .pointer (some ⟨adB A0, adO A0 + ((Int.tmod (w64 ((w64 (x1 + 1)) - 1)) (x0.length : Int)).toNat) * 1, none⟩) | 12, [v59] => v59 = .int .u8 (x0.getD ((Int.tmod (w64 ((w64 (x1 + 1)) - 1)) (x0.length : Int)).toNat) (0 : Int)) | 13, [v60] => v60 = .int .i64 (w64 ((x0.getD ((Int.tmod (w64 ((w64 (x1 + 1)) - 1)) (x0.length : Int)).toNat) (0 : Int)))) | 14, [v61] => v61 = .int .i64 (w64 ((w64 ((x0.getD ((Int.tmod (w64 ((w64 (x1 + 1)) - 1)) (x0.length : Int)).toNat) (0 : Int)))) * 131)) | 15, [v62] => v62 = .pointer (some ⟨g0, 0, none⟩) | 16, [v63] => v63 = .pointer (some ⟨g0, 0, none⟩) | 17, [v64] => v64 = .pointer (some ⟨g0, 0, none⟩) | 18, [v65] => v65 = .slice A0 x0.length c0 | 19, [v66] => v66 = .int .i64 (w64 ((w64 (x1 + 1)) - 1)) | 20, [v67] => v67 = .int .i64 (w64 ((w64 ((w64 (x1 + 1)) - 1)) * 7)) | 21, [v68] => v68 = .int .i64 (w64 ((w64 ((w64 ((w64 (x1 + 1)) - 1)) * 7)) + 3)) | 22, [v69] => v69 = .pointer (some ⟨g0, 0, none⟩) | 23, [v70] => v70 = .pointer (some ⟨g0, 0, none⟩) | 24, [v71] => v71 = .pointer (some ⟨g0, 0, none⟩) | 25, [v72] => v72 = .slice A0 x0.length c0 | 26, [v73] => v73 = .int .i64 (x0.length : Int) | 27, [v74] => v74 = .int .i64 (Int.tmod (w64 ((w64 ((w64 ((w64 (x1 + 1)) - 1)) * 7)) + 3)) (x0.length : Int)) | 28, [v75] => v75 = .pointer (some ⟨adB A0, adO A0 + ((Int.tmod (w64 ((w64 ((w64 ((w64 (x1 + 1)) - 1)) * 7)) + 3)) (x0.length : Int)).toNat) * 1, none⟩) | 29, [v76] => v76 = .int .u8 (x0.getD ((Int.tmod (w64 ((w64 ((w64 ((w64 (x1 + 1)) - 1)) * 7)) + 3)) (x0.length : Int)).toNat) (0 : Int)) | 30, [v77] => v77 = .int .i64 (w64 ((x0.getD ((Int.tmod (w64 ((w64 ((w64 ((w64 (x1 + 1)) - 1)) * 7)) + 3)) (x0.length : Int)).toNat) (0 : Int)))) | 31, [v78] => v78 = .int .i64 (w64 ((w64 ((x0.getD ((Int.tmod (w64 ((w64 ((w64 ((w64 (x1 + 1)) - 1)) * 7)) + 3)) (x0.length : Int)).toNat) (0 : Int)))) * 1117)) | 32, [v79] => v79 = .int .i64 (w64 ((w64 ((w64 ((x0.getD ((Int.tmod (w64 ((w64 (x1 + 1)) - 1)) (x0.length : Int)).toNat) (0 : Int)))) * 131)) + (w64 ((w64 ((x0.getD ((Int.tmod (w64 ((w64 ((w64 ((w64 (x1 + 1)) - 1)) * 7)) + 3)) (x0.length : Int)).toNat) (0 : Int)))) * 1117)))) | 33, [v80] => v80 = .int .i64 (w64 ((w64 (x1 + 1)) - 1)) | 34, [v81] => v81 = .int .i64 (w64 ((w64 ((w64 (x1 + 1)) - 1)) * 29)) | 35, [v82] => v82 = .int .i64 (w64 ((w64 ((w64 ((w64 ((x0.getD ((Int.tmod (w64 ((w64 (x1 + 1)) - 1)) (x0.length : Int)).toNat) (0 : Int)))) * 131)) + (w64 ((w64 ((x0.getD ((Int.tmod (w64 ((w64 ((w64 ((w64 (x1 + 1)) - 1)) * 7)) + 3)) (x0.length : Int)).toNat) (0 : Int)))) * 1117)))) + (w64 ((w64 ((w64 (x1 + 1)) - 1)) * 29)))) | 36, [v83] => v83 = .int .i64 (w64 ((w64 (x1 + 1)) - 1)) | 37, [v84] => v84 = .pointer (some ⟨g0, 0, none⟩) | 38, [v85] => v85 = .pointer (some ⟨g0, 0, none⟩) | 39, [v86] => v86 = .pointer (some ⟨g0, 0, none⟩) | 40, [v87] => v87 = .slice A0 x0.length c0 | 41, [v88] => v88 = .int .i64 (x0.length : Int) | 42, [v89] => v89 = .int .i64 (w64 (Int.tdiv (w64 ((w64 (x1 + 1)) - 1)) (x0.length : Int))) | 43, [v90] => v90 = .int .i64 (w64 ((w64 (Int.tdiv (w64 ((w64 (x1 + 1)) - 1)) (x0.length : Int))) * 53)) | 44, [v91] => v91 = .int .i64 (w64 ((w64 ((w64 ((w64 ((w64 ((x0.getD ((Int.tmod (w64 ((w64 (x1 + 1)) - 1)) (x0.length : Int)).toNat) (0 : Int)))) * 131)) + (w64 ((w64 ((x0.getD ((Int.tmod (w64 ((w64 ((w64 ((w64 (x1 + 1)) - 1)) * 7)) + 3)) (x0.length : Int)).toNat) (0 : Int)))) * 1117)))) + (w64 ((w64 ((w64 (x1 + 1)) - 1)) * 29)))) + (w64 ((w64 (Int.tdiv (w64 ((w64 (x1 + 1)) - 1)) (x0.length : Int))) * 53)))) | 45, [v6] => v6 = .int .i64 (w64 ((w64 ((w64 ((w64 ((w64 ((x0.getD ((Int.tmod (w64 ((w64 (x1 + 1)) - 1)) (x0.length : Int)).toNat) (0 : Int)))) * 131)) + (w64 ((w64 ((x0.getD ((Int.tmod (w64 ((w64 ((w64 ((w64 (x1 + 1)) - 1)) * 7)) + 3)) (x0.length : Int)).toNat) (0 : Int)))) * 1117)))) + (w64 ((w64 ((w64 (x1 + 1)) - 1)) * 29)))) + (w64 ((w64 (Int.tdiv (w64 ((w64 (x1 + 1)) - 1)) (x0.length : Int))) * 53)))) | _, _ => True)
        (C := fun _ _ => [])
        (κ := (fun _ => none)) (Z := (fun _ => [])) mixed hF (by kernel_rfl) S ?_ ?_
      · refine ⟨?_, ?_, ?_, ?_, ?_, ?_, ?_, ?_, ?_, ?_, ?_, ?_, ?_, ?_, ?_, ?_, ?_, ?_, ?_, ?_, ?_, ?_, ?_, ?_, ?_, ?_, ?_, ?_, ?_, ?_, ?_, ?_, ?_, ?_, ?_, ?_, ?_, ?_, ?_, ?_, ?_, ?_, ?_, ?_, ?_, ?_, trivial⟩
        · intro a u X' hB hu hp hr hz hl S
          replace S : St w0 u ([] ++ X') := S
          exact .inl ⟨rfl, .pointer (some ⟨g0, 0, none⟩), u, (run_move rfl (hF.evB hB rfl rfl)), rfl, S⟩
        · intro a u X' hB hu hp hr hz hl S
          replace S : St w0 u ([] ++ X') := S
          have e47 : sl a 47 = .pointer (some ⟨g0, 0, none⟩) := hp 0 rfl
          exact .inl ⟨rfl, .pointer (some ⟨g0, 0, none⟩), u, (run_nilCheck rfl (ev_sl e47)), rfl, S⟩
        · intro a u X' hB hu hp hr hz hl S
          replace S : St w0 u ([] ++ X') := S
          have e48 : sl a 48 = .pointer (some ⟨g0, 0, none⟩) := hp 1 rfl
          exact .inl ⟨rfl, .pointer (some ⟨g0, 0, none⟩), u, (run_fieldAddr rfl fl57_0 (ev_sl e48) rfl), rfl, S⟩
        · intro a u X' hB hu hp hr hz hl S
          replace S : St w0 u ([] ++ X') := S
          have e49 : sl a 49 = .pointer (some ⟨g0, 0, none⟩) := hp 2 rfl
          exact .inl ⟨rfl, .slice A0 x0.length c0, u, (run_load1 rfl one22 (ev_sl e49) ((gr_box S hl 0 rfl).cell rfl)), rfl, S⟩
        · intro a u X' hB hu hp hr hz hl S
          replace S : St w0 u ([] ++ X') := S
          exact .inl ⟨rfl, .int .i64 (w64 ((w64 (x1 + 1)) - 1)), u, (run_move rfl (hF.evB hB rfl rfl)), rfl, S⟩
        · intro a u X' hB hu hp hr hz hl S
          replace S : St w0 u ([] ++ X') := S
          exact .inl ⟨rfl, .pointer (some ⟨g0, 0, none⟩), u, (run_move rfl (hF.evB hB rfl rfl)), rfl, S⟩
        · intro a u X' hB hu hp hr hz hl S
          replace S : St w0 u ([] ++ X') := S
          have e52 : sl a 52 = .pointer (some ⟨g0, 0, none⟩) := hp 5 rfl
          exact .inl ⟨rfl, .pointer (some ⟨g0, 0, none⟩), u, (run_nilCheck rfl (ev_sl e52)), rfl, S⟩
        · intro a u X' hB hu hp hr hz hl S
          replace S : St w0 u ([] ++ X') := S
          have e53 : sl a 53 = .pointer (some ⟨g0, 0, none⟩) := hp 6 rfl
          exact .inl ⟨rfl, .pointer (some ⟨g0, 0, none⟩), u, (run_fieldAddr rfl fl57_0 (ev_sl e53) rfl), rfl, S⟩
        · intro a u X' hB hu hp hr hz hl S
          replace S : St w0 u ([] ++ X') := S
          have e54 : sl a 54 = .pointer (some ⟨g0, 0, none⟩) := hp 7 rfl
          exact .inl ⟨rfl, .slice A0 x0.length c0, u, (run_load1 rfl one22 (ev_sl e54) ((gr_box S hl 0 rfl).cell rfl)), rfl, S⟩
        · intro a u X' hB hu hp hr hz hl S
          replace S : St w0 u ([] ++ X') := S
          have e55 : sl a 55 = .slice A0 x0.length c0 := hp 8 rfl
          exact .inl ⟨rfl, .int .i64 (x0.length : Int), u, (run_lenL rfl rfl Tryd.underlying22 (ev_sl e55)), rfl, S⟩
        · intro a u X' hB hu hp hr hz hl S
          replace S : St w0 u ([] ++ X') := S
          have e51 : sl a 51 = .int .i64 (w64 ((w64 (x1 + 1)) - 1)) := hp 4 rfl
          have e56 : sl a 56 = .int .i64 (x0.length : Int) := hp 9 rfl
          exact .inl ⟨rfl, .int .i64 (Int.tmod (w64 ((w64 (x1 + 1)) - 1)) (x0.length : Int)), u, (run_rem (z := Int.tmod (w64 ((w64 (x1 + 1)) - 1)) (x0.length : Int)) (ev_sl e51) (ev_sl e56) rfl hk103 rfl), rfl, S⟩
        · intro a u X' hB hu hp hr hz hl S
          replace S : St w0 u ([] ++ X') := S
          have e50 : sl a 50 = .slice A0 x0.length c0 := hp 3 rfl
          have e57 : sl a 57 = .int .i64 (Int.tmod (w64 ((w64 (x1 + 1)) - 1)) (x0.length : Int)) := hp 10 rfl
          exact .inl ⟨rfl, .pointer (some ⟨adB A0, adO A0 + ((Int.tmod (w64 ((w64 (x1 + 1)) - 1)) (x0.length : Int)).toNat) * 1, none⟩), u, (run_indexAddr (b := adB A0) (off := adO A0) rfl Tryd.underlying22 sz5 ((ev_sl e50).trans (congrArg (fun A => Value.slice A x0.length c0) ((S.rc0 h0.rc).rd.ad (ix_pos hk104)))) (ev_sl e57) hk104.1 hk104.2 (k' := adO A0 + ((Int.tmod (w64 ((w64 (x1 + 1)) - 1)) (x0.length : Int)).toNat) * 1) rfl), rfl, S⟩
        · intro a u X' hB hu hp hr hz hl S
          replace S : St w0 u ([] ++ X') := S
          have e58 : sl a 58 = .pointer (some ⟨adB A0, adO A0 + ((Int.tmod (w64 ((w64 (x1 + 1)) - 1)) (x0.length : Int)).toNat) * 1, none⟩) := hp 11 rfl
          exact .inl ⟨rfl, .int .u8 (x0.getD ((Int.tmod (w64 ((w64 (x1 + 1)) - 1)) (x0.length : Int)).toNat) (0 : Int)), u, (run_load1 rfl one5 (ev_sl e58) (rd_el0 (l := x0) (S.rc0 h0.rc).rd rfl eU_len (0 : Int) (ix_ltn hk104 rfl) rfl)), rfl, S⟩
        · intro a u X' hB hu hp hr hz hl S
          replace S : St w0 u ([] ++ X') := S
          have e59 : sl a 59 = .int .u8 (x0.getD ((Int.tmod (w64 ((w64 (x1 + 1)) - 1)) (x0.length : Int)).toNat) (0 : Int)) := hp 12 rfl
          exact .inl ⟨rfl, .int .i64 (w64 ((x0.getD ((Int.tmod (w64 ((w64 (x1 + 1)) - 1)) (x0.length : Int)).toNat) (0 : Int)))), u, (run_convI rfl Tryd.underlying5 Tryd.underlying3 (ev_sl e59)), rfl, S⟩
        · intro a u X' hB hu hp hr hz hl S
          replace S : St w0 u ([] ++ X') := S
          have e60 : sl a 60 = .int .i64 (w64 ((x0.getD ((Int.tmod (w64 ((w64 (x1 + 1)) - 1)) (x0.length : Int)).toNat) (0 : Int)))) := hp 13 rfl
          exact .inl ⟨rfl, .int .i64 (w64 ((w64 ((x0.getD ((Int.tmod (w64 ((w64 (x1 + 1)) - 1)) (x0.length : Int)).toNat) (0 : Int)))) * 131)), u, (run_mul (z := w64 ((w64 ((x0.getD ((Int.tmod (w64 ((w64 (x1 + 1)) - 1)) (x0.length : Int)).toNat) (0 : Int)))) * 131)) (ev_sl e60) (ev_const _ _) rfl rfl), rfl, S⟩
        · intro a u X' hB hu hp hr hz hl S
          replace S : St w0 u ([] ++ X') := S
          exact .inl ⟨rfl, .pointer (some ⟨g0, 0, none⟩), u, (run_move rfl (hF.evB hB rfl rfl)), rfl, S⟩
        · intro a u X' hB hu hp hr hz hl S
          replace S : St w0 u ([] ++ X') := S
          have e62 : sl a 62 = .pointer (some ⟨g0, 0, none⟩) := hp 15 rfl
          exact .inl ⟨rfl, .pointer (some ⟨g0, 0, none⟩), u, (run_nilCheck rfl (ev_sl e62)), rfl, S⟩
        · intro a u X' hB hu hp hr hz hl S
          replace S : St w0 u ([] ++ X') := S
          have e63 : sl a 63 = .pointer (some ⟨g0, 0, none⟩) := hp 16 rfl
          exact .inl ⟨rfl, .pointer (some ⟨g0, 0, none⟩), u, (run_fieldAddr rfl fl57_0 (ev_sl e63) rfl), rfl, S⟩
        · intro a u X' hB hu hp hr hz hl S
          replace S : St w0 u ([] ++ X') := S
          have e64 : sl a 64 = .pointer (some ⟨g0, 0, none⟩) := hp 17 rfl
          exact .inl ⟨rfl, .slice A0 x0.length c0, u, (run_load1 rfl one22 (ev_sl e64) ((gr_box S hl 0 rfl).cell rfl)), rfl, S⟩
        · intro a u X' hB hu hp hr hz hl S
          replace S : St w0 u ([] ++ X') := S
          exact .inl ⟨rfl, .int .i64 (w64 ((w64 (x1 + 1)) - 1)), u, (run_move rfl (hF.evB hB rfl rfl)), rfl, S⟩
        · intro a u X' hB hu hp hr hz hl S
          replace S : St w0 u ([] ++ X') := S
          have e66 : sl a 66 = .int .i64 (w64 ((w64 (x1 + 1)) - 1)) := hp 19 rfl
          exact .inl ⟨rfl, .int .i64 (w64 ((w64 ((w64 (x1 + 1)) - 1)) * 7)), u, (run_mul (z := w64 ((w64 ((w64 (x1 + 1)) - 1)) * 7)) (ev_sl e66) (ev_const _ _) rfl rfl), rfl, S⟩
        · intro a u X' hB hu hp hr hz hl S
          replace S : St w0 u ([] ++ X') := S
          have e67 : sl a 67 = .int .i64 (w64 ((w64 ((w64 (x1 + 1)) - 1)) * 7)) := hp 20 rfl
          exact .inl ⟨rfl, .int .i64 (w64 ((w64 ((w64 ((w64 (x1 + 1)) - 1)) * 7)) + 3)), u, (run_add (z := w64 ((w64 ((w64 ((w64 (x1 + 1)) - 1)) * 7)) + 3)) (ev_sl e67) (ev_const _ _) rfl rfl), rfl, S⟩
        · intro a u X' hB hu hp hr hz hl S
          replace S : St w0 u ([] ++ X') := S
          exact .inl ⟨rfl, .pointer (some ⟨g0, 0, none⟩), u, (run_move rfl (hF.evB hB rfl rfl)), rfl, S⟩
        · intro a u X' hB hu hp hr hz hl S
          replace S : St w0 u ([] ++ X') := S
          have e69 : sl a 69 = .pointer (some ⟨g0, 0, none⟩) := hp 22 rfl
          exact .inl ⟨rfl, .pointer (some ⟨g0, 0, none⟩), u, (run_nilCheck rfl (ev_sl e69)), rfl, S⟩
        · intro a u X' hB hu hp hr hz hl S
          replace S : St w0 u ([] ++ X') := S
          have e70 : sl a 70 = .pointer (some ⟨g0, 0, none⟩) := hp 23 rfl
          exact .inl ⟨rfl, .pointer (some ⟨g0, 0, none⟩), u, (run_fieldAddr rfl fl57_0 (ev_sl e70) rfl), rfl, S⟩
        · intro a u X' hB hu hp hr hz hl S
          replace S : St w0 u ([] ++ X') := S
          have e71 : sl a 71 = .pointer (some ⟨g0, 0, none⟩) := hp 24 rfl
          exact .inl ⟨rfl, .slice A0 x0.length c0, u, (run_load1 rfl one22 (ev_sl e71) ((gr_box S hl 0 rfl).cell rfl)), rfl, S⟩
        · intro a u X' hB hu hp hr hz hl S
          replace S : St w0 u ([] ++ X') := S
          have e72 : sl a 72 = .slice A0 x0.length c0 := hp 25 rfl
          exact .inl ⟨rfl, .int .i64 (x0.length : Int), u, (run_lenL rfl rfl Tryd.underlying22 (ev_sl e72)), rfl, S⟩
        · intro a u X' hB hu hp hr hz hl S
          replace S : St w0 u ([] ++ X') := S
          have e68 : sl a 68 = .int .i64 (w64 ((w64 ((w64 ((w64 (x1 + 1)) - 1)) * 7)) + 3)) := hp 21 rfl
          have e73 : sl a 73 = .int .i64 (x0.length : Int) := hp 26 rfl
          exact .inl ⟨rfl, .int .i64 (Int.tmod (w64 ((w64 ((w64 ((w64 (x1 + 1)) - 1)) * 7)) + 3)) (x0.length : Int)), u, (run_rem (z := Int.tmod (w64 ((w64 ((w64 ((w64 (x1 + 1)) - 1)) * 7)) + 3)) (x0.length : Int)) (ev_sl e68) (ev_sl e73) rfl hk105 rfl), rfl, S⟩
        · intro a u X' hB hu hp hr hz hl S
          replace S : St w0 u ([] ++ X') := S
          have e65 : sl a 65 = .slice A0 x0.length c0 := hp 18 rfl
          have e74 : sl a 74 = .int .i64 (Int.tmod (w64 ((w64 ((w64 ((w64 (x1 + 1)) - 1)) * 7)) + 3)) (x0.length : Int)) := hp 27 rfl
          exact .inl ⟨rfl, .pointer (some ⟨adB A0, adO A0 + ((Int.tmod (w64 ((w64 ((w64 ((w64 (x1 + 1)) - 1)) * 7)) + 3)) (x0.length : Int)).toNat) * 1, none⟩), u, (run_indexAddr (b := adB A0) (off := adO A0) rfl Tryd.underlying22 sz5 ((ev_sl e65).trans (congrArg (fun A => Value.slice A x0.length c0) ((S.rc0 h0.rc).rd.ad (ix_pos hk106)))) (ev_sl e74) hk106.1 hk106.2 (k' := adO A0 + ((Int.tmod (w64 ((w64 ((w64 ((w64 (x1 + 1)) - 1)) * 7)) + 3)) (x0.length : Int)).toNat) * 1) rfl), rfl, S⟩
        · intro a u X' hB hu hp hr hz hl S
          replace S : St w0 u ([] ++ X') := S
          have e75 : sl a 75 = .pointer (some ⟨adB A0, adO A0 + ((Int.tmod (w64 ((w64 ((w64 ((w64 (x1 + 1)) - 1)) * 7)) + 3)) (x0.length : Int)).toNat) * 1, none⟩) := hp 28 rfl
          exact .inl ⟨rfl, .int .u8 (x0.getD ((Int.tmod (w64 ((w64 ((w64 ((w64 (x1 + 1)) - 1)) * 7)) + 3)) (x0.length : Int)).toNat) (0 : Int)), u, (run_load1 rfl one5 (ev_sl e75) (rd_el0 (l := x0) (S.rc0 h0.rc).rd rfl eU_len (0 : Int) (ix_ltn hk106 rfl) rfl)), rfl, S⟩
        · intro a u X' hB hu hp hr hz hl S
          replace S : St w0 u ([] ++ X') := S
          have e76 : sl a 76 = .int .u8 (x0.getD ((Int.tmod (w64 ((w64 ((w64 ((w64 (x1 + 1)) - 1)) * 7)) + 3)) (x0.length : Int)).toNat) (0 : Int)) := hp 29 rfl
          exact .inl ⟨rfl, .int .i64 (w64 ((x0.getD ((Int.tmod (w64 ((w64 ((w64 ((w64 (x1 + 1)) - 1)) * 7)) + 3)) (x0.length : Int)).toNat) (0 : Int)))), u, (run_convI rfl Tryd.underlying5 Tryd.underlying3 (ev_sl e76)), rfl, S⟩
        · intro a u X' hB hu hp hr hz hl S
          replace S : St w0 u ([] ++ X') := S
          have e77 : sl a 77 = .int .i64 (w64 ((x0.getD ((Int.tmod (w64 ((w64 ((w64 ((w64 (x1 + 1)) - 1)) * 7)) + 3)) (x0.length : Int)).toNat) (0 : Int)))) := hp 30 rfl
          exact .inl ⟨rfl, .int .i64 (w64 ((w64 ((x0.getD ((Int.tmod (w64 ((w64 ((w64 ((w64 (x1 + 1)) - 1)) * 7)) + 3)) (x0.length : Int)).toNat) (0 : Int)))) * 1117)), u, (run_mul (z := w64 ((w64 ((x0.getD ((Int.tmod (w64 ((w64 ((w64 ((w64 (x1 + 1)) - 1)) * 7)) + 3)) (x0.length : Int)).toNat) (0 : Int)))) * 1117)) (ev_sl e77) (ev_const _ _) rfl rfl), rfl, S⟩
        · intro a u X' hB hu hp hr hz hl S
          replace S : St w0 u ([] ++ X') := S
          have e61 : sl a 61 = .int .i64 (w64 ((w64 ((x0.getD ((Int.tmod (w64 ((w64 (x1 + 1)) - 1)) (x0.length : Int)).toNat) (0 : Int)))) * 131)) := hp 14 rfl
          have e78 : sl a 78 = .int .i64 (w64 ((w64 ((x0.getD ((Int.tmod (w64 ((w64 ((w64 ((w64 (x1 + 1)) - 1)) * 7)) + 3)) (x0.length : Int)).toNat) (0 : Int)))) * 1117)) := hp 31 rfl
          exact .inl ⟨rfl, .int .i64 (w64 ((w64 ((w64 ((x0.getD ((Int.tmod (w64 ((w64 (x1 + 1)) - 1)) (x0.length : Int)).toNat) (0 : Int)))) * 131)) + (w64 ((w64 ((x0.getD ((Int.tmod (w64 ((w64 ((w64 ((w64 (x1 + 1)) - 1)) * 7)) + 3)) (x0.length : Int)).toNat) (0 : Int)))) * 1117)))), u, (run_add (z := w64 ((w64 ((w64 ((x0.getD ((Int.tmod (w64 ((w64 (x1 + 1)) - 1)) (x0.length : Int)).toNat) (0 : Int)))) * 131)) + (w64 ((w64 ((x0.getD ((Int.tmod (w64 ((w64 ((w64 ((w64 (x1 + 1)) - 1)) * 7)) + 3)) (x0.length : Int)).toNat) (0 : Int)))) * 1117)))) (ev_sl e61) (ev_sl e78) rfl rfl), rfl, S⟩
        · intro a u X' hB hu hp hr hz hl S
          replace S : St w0 u ([] ++ X') := S
          exact .inl ⟨rfl, .int .i64 (w64 ((w64 (x1 + 1)) - 1)), u, (run_move rfl (hF.evB hB rfl rfl)), rfl, S⟩
        · intro a u X' hB hu hp hr hz hl S
          replace S : St w0 u ([] ++ X') := S
          have e80 : sl a 80 = .int .i64 (w64 ((w64 (x1 + 1)) - 1)) := hp 33 rfl
          exact .inl ⟨rfl, .int .i64 (w64 ((w64 ((w64 (x1 + 1)) - 1)) * 29)), u, (run_mul (z := w64 ((w64 ((w64 (x1 + 1)) - 1)) * 29)) (ev_sl e80) (ev_const _ _) rfl rfl), rfl, S⟩
        · intro a u X' hB hu hp hr hz hl S
          replace S : St w0 u ([] ++ X') := S
          have e79 : sl a 79 = .int .i64 (w64 ((w64 ((w64 ((x0.getD ((Int.tmod (w64 ((w64 (x1 + 1)) - 1)) (x0.length : Int)).toNat) (0 : Int)))) * 131)) + (w64 ((w64 ((x0.getD ((Int.tmod (w64 ((w64 ((w64 ((w64 (x1 + 1)) - 1)) * 7)) + 3)) (x0.length : Int)).toNat) (0 : Int)))) * 1117)))) := hp 32 rfl
          have e81 : sl a 81 = .int .i64 (w64 ((w64 ((w64 (x1 + 1)) - 1)) * 29)) := hp 34 rfl
          exact .inl ⟨rfl, .int .i64 (w64 ((w64 ((w64 ((w64 ((x0.getD ((Int.tmod (w64 ((w64 (x1 + 1)) - 1)) (x0.length : Int)).toNat) (0 : Int)))) * 131)) + (w64 ((w64 ((x0.getD ((Int.tmod (w64 ((w64 ((w64 ((w64 (x1 + 1)) - 1)) * 7)) + 3)) (x0.length : Int)).toNat) (0 : Int)))) * 1117)))) + (w64 ((w64 ((w64 (x1 + 1)) - 1)) * 29)))), u, (run_add (z := w64 ((w64 ((w64 ((w64 ((x0.getD ((Int.tmod (w64 ((w64 (x1 + 1)) - 1)) (x0.length : Int)).toNat) (0 : Int)))) * 131)) + (w64 ((w64 ((x0.getD ((Int.tmod (w64 ((w64 ((w64 ((w64 (x1 + 1)) - 1)) * 7)) + 3)) (x0.length : Int)).toNat) (0 : Int)))) * 1117)))) + (w64 ((w64 ((w64 (x1 + 1)) - 1)) * 29)))) (ev_sl e79) (ev_sl e81) rfl rfl), rfl, S⟩
        · intro a u X' hB hu hp hr hz hl S
          replace S : St w0 u ([] ++ X') := S
          exact .inl ⟨rfl, .int .i64 (w64 ((w64 (x1 + 1)) - 1)), u, (run_move rfl (hF.evB hB rfl rfl)), rfl, S⟩
        · intro a u X' hB hu hp hr hz hl S
          replace S : St w0 u ([] ++ X') := S
          exact .inl ⟨rfl, .pointer (some ⟨g0, 0, none⟩), u, (run_move rfl (hF.evB hB rfl rfl)), rfl, S⟩
        · intro a u X' hB hu hp hr hz hl S
          replace S : St w0 u ([] ++ X') := S
          have e84 : sl a 84 = .pointer (some ⟨g0, 0, none⟩) := hp 37 rfl
          exact .inl ⟨rfl, .pointer (some ⟨g0, 0, none⟩), u, (run_nilCheck rfl (ev_sl e84)), rfl, S⟩
        · intro a u X' hB hu hp hr hz hl S
          replace S : St w0 u ([] ++ X') := S
          have e85 : sl a 85 = .pointer (some ⟨g0, 0, none⟩) := hp 38 rfl
          exact .inl ⟨rfl, .pointer (some ⟨g0, 0, none⟩), u, (run_fieldAddr rfl fl57_0 (ev_sl e85) rfl), rfl, S⟩
        · intro a u X' hB hu hp hr hz hl S
          replace S : St w0 u ([] ++ X') := S
          have e86 : sl a 86 = .pointer (some ⟨g0, 0, none⟩) := hp 39 rfl
          exact .inl ⟨rfl, .slice A0 x0.length c0, u, (run_load1 rfl one22 (ev_sl e86) ((gr_box S hl 0 rfl).cell rfl)), rfl, S⟩
        · intro a u X' hB hu hp hr hz hl S
          replace S : St w0 u ([] ++ X') := S
          have e87 : sl a 87 = .slice A0 x0.length c0 := hp 40 rfl
          exact .inl ⟨rfl, .int .i64 (x0.length : Int), u, (run_lenL rfl rfl Tryd.underlying22 (ev_sl e87)), rfl, S⟩
        · intro a u X' hB hu hp hr hz hl S
          replace S : St w0 u ([] ++ X') := S
          have e83 : sl a 83 = .int .i64 (w64 ((w64 (x1 + 1)) - 1)) := hp 36 rfl
          have e88 : sl a 88 = .int .i64 (x0.length : Int) := hp 41 rfl
          exact .inl ⟨rfl, .int .i64 (w64 (Int.tdiv (w64 ((w64 (x1 + 1)) - 1)) (x0.length : Int))), u, (run_quo (z := w64 (Int.tdiv (w64 ((w64 (x1 + 1)) - 1)) (x0.length : Int))) (ev_sl e83) (ev_sl e88) rfl hk107 rfl), rfl, S⟩
        · intro a u X' hB hu hp hr hz hl S
          replace S : St w0 u ([] ++ X') := S
          have e89 : sl a 89 = .int .i64 (w64 (Int.tdiv (w64 ((w64 (x1 + 1)) - 1)) (x0.length : Int))) := hp 42 rfl
          exact .inl ⟨rfl, .int .i64 (w64 ((w64 (Int.tdiv (w64 ((w64 (x1 + 1)) - 1)) (x0.length : Int))) * 53)), u, (run_mul (z := w64 ((w64 (Int.tdiv (w64 ((w64 (x1 + 1)) - 1)) (x0.length : Int))) * 53)) (ev_sl e89) (ev_const _ _) rfl rfl), rfl, S⟩
        · intro a u X' hB hu hp hr hz hl S
          replace S : St w0 u ([] ++ X') := S
          have e82 : sl a 82 = .int .i64 (w64 ((w64 ((w64 ((w64 ((x0.getD ((Int.tmod (w64 ((w64 (x1 + 1)) - 1)) (x0.length : Int)).toNat) (0 : Int)))) * 131)) + (w64 ((w64 ((x0.getD ((Int.tmod (w64 ((w64 ((w64 ((w64 (x1 + 1)) - 1)) * 7)) + 3)) (x0.length : Int)).toNat) (0 : Int)))) * 1117)))) + (w64 ((w64 ((w64 (x1 + 1)) - 1)) * 29)))) := hp 35 rfl
          have e90 : sl a 90 = .int .i64 (w64 ((w64 (Int.tdiv (w64 ((w64 (x1 + 1)) - 1)) (x0.length : Int))) * 53)) := hp 43 rfl
          exact .inl ⟨rfl, .int .i64 (w64 ((w64 ((w64 ((w64 ((w64 ((x0.getD ((Int.tmod (w64 ((w64 (x1 + 1)) - 1)) (x0.length : Int)).toNat) (0 : Int)))) * 131)) + (w64 ((w64 ((x0.getD ((Int.tmod (w64 ((w64 ((w64 ((w64 (x1 + 1)) - 1)) * 7)) + 3)) (x0.length : Int)).toNat) (0 : Int)))) * 1117)))) + (w64 ((w64 ((w64 (x1 + 1)) - 1)) * 29)))) + (w64 ((w64 (Int.tdiv (w64 ((w64 (x1 + 1)) - 1)) (x0.length : Int))) * 53)))), u, (run_add (z := w64 ((w64 ((w64 ((w64 ((w64 ((x0.getD ((Int.tmod (w64 ((w64 (x1 + 1)) - 1)) (x0.length : Int)).toNat) (0 : Int)))) * 131)) + (w64 ((w64 ((x0.getD ((Int.tmod (w64 ((w64 ((w64 ((w64 (x1 + 1)) - 1)) * 7)) + 3)) (x0.length : Int)).toNat) (0 : Int)))) * 1117)))) + (w64 ((w64 ((w64 (x1 + 1)) - 1)) * 29)))) + (w64 ((w64 (Int.tdiv (w64 ((w64 (x1 + 1)) - 1)) (x0.length : Int))) * 53)))) (ev_sl e82) (ev_sl e90) rfl rfl), rfl, S⟩
        · intro a u X' hB hu hp hr hz hl S
          replace S : St w0 u ([] ++ X') := S
          have e91 : sl a 91 = .int .i64 (w64 ((w64 ((w64 ((w64 ((w64 ((x0.getD ((Int.tmod (w64 ((w64 (x1 + 1)) - 1)) (x0.length : Int)).toNat) (0 : Int)))) * 131)) + (w64 ((w64 ((x0.getD ((Int.tmod (w64 ((w64 ((w64 ((w64 (x1 + 1)) - 1)) * 7)) + 3)) (x0.length : Int)).toNat) (0 : Int)))) * 1117)))) + (w64 ((w64 ((w64 (x1 + 1)) - 1)) * 29)))) + (w64 ((w64 (Int.tdiv (w64 ((w64 (x1 + 1)) - 1)) (x0.length : Int))) * 53)))) := hp 44 rfl
          exact .inl ⟨rfl, .int .i64 (w64 ((w64 ((w64 ((w64 ((w64 ((x0.getD ((Int.tmod (w64 ((w64 (x1 + 1)) - 1)) (x0.length : Int)).toNat) (0 : Int)))) * 131)) + (w64 ((w64 ((x0.getD ((Int.tmod (w64 ((w64 ((w64 ((w64 (x1 + 1)) - 1)) * 7)) + 3)) (x0.length : Int)).toNat) (0 : Int)))) * 1117)))) + (w64 ((w64 ((w64 (x1 + 1)) - 1)) * 29)))) + (w64 ((w64 (Int.tdiv (w64 ((w64 (x1 + 1)) - 1)) (x0.length : Int))) * 53)))), u, (run_assign rfl (ev_sl e91)), rfl, S⟩
      · intro a u hB hp S
        obtain ⟨q0, q1, q2, q3, q4, q5, q6, q7, q8, q9, q10, q11, q12, q13, q14, q15, q16, q17, q18, q19, q20, q21, q22, q23, q24, q25, q26, q27, q28, q29, q30, q31, q32, q33, q34, q35, q36, q37, q38, q39, q40, q41, q42, q43, q44, q45, _⟩ := hp
        have e47 : sl a 47 = .pointer (some ⟨g0, 0, none⟩) := q0
        have e48 : sl a 48 = .pointer (some ⟨g0, 0, none⟩) := q1
        have e49 : sl a 49 = .pointer (some ⟨g0, 0, none⟩) := q2
        have e50 : sl a 50 = .slice A0 x0.length c0 := q3
        have e51 : sl a 51 = .int .i64 (w64 ((w64 (x1 + 1)) - 1)) := q4
        have e52 : sl a 52 = .pointer (some ⟨g0, 0, none⟩) := q5
        have e53 : sl a 53 = .pointer (some ⟨g0, 0, none⟩) := q6
        have e54 : sl a 54 = .pointer (some ⟨g0, 0, none⟩) := q7
        have e55 : sl a 55 = .slice A0 x0.length c0 := q8
        have e56 : sl a 56 = .int .i64 (x0.length : Int) := q9
        have e57 : sl a 57 = .int .i64 (Int.tmod (w64 ((w64 (x1 + 1)) - 1)) (x0.length : Int)) := q10
        have e58 : sl a 58 = .pointer (some ⟨adB A0, adO A0 + ((Int.tmod (w64 ((w64 (x1 + 1)) - 1)) (x0.length : Int)).toNat) * 1, none⟩) := q11
        have e59 : sl a 59 = .int .u8 (x0.getD ((Int.tmod (w64 ((w64 (x1 + 1)) - 1)) (x0.length : Int)).toNat) (0 : Int)) := q12
        have e60 : sl a 60 = .int .i64 (w64 ((x0.getD ((Int.tmod (w64 ((w64 (x1 + 1)) - 1)) (x0.length : Int)).toNat) (0 : Int)))) := q13
        have e61 : sl a 61 = .int .i64 (w64 ((w64 ((x0.getD ((Int.tmod (w64 ((w64 (x1 + 1)) - 1)) (x0.length : Int)).toNat) (0 : Int)))) * 131)) := q14
        have e62 : sl a 62 = .pointer (some ⟨g0, 0, none⟩) := q15
        have e63 : sl a 63 = .pointer (some ⟨g0, 0, none⟩) := q16
        have e64 : sl a 64 = .pointer (some ⟨g0, 0, none⟩) := q17
        have e65 : sl a 65 = .slice A0 x0.length c0 := q18
        have e66 : sl a 66 = .int .i64 (w64 ((w64 (x1 + 1)) - 1)) := q19
        have e67 : sl a 67 = .int .i64 (w64 ((w64 ((w64 (x1 + 1)) - 1)) * 7)) := q20
        have e68 : sl a 68 = .int .i64 (w64 ((w64 ((w64 ((w64 (x1 + 1)) - 1)) * 7)) + 3)) := q21
        have e69 : sl a 69 = .pointer (some ⟨g0, 0, none⟩) := q22
        have e70 : sl a 70 = .pointer (some ⟨g0, 0, none⟩) := q23
        have e71 : sl a 71 = .pointer (some ⟨g0, 0, none⟩) := q24
        have e72 : sl a 72 = .slice A0 x0.length c0 := q25
        have e73 : sl a 73 = .int .i64 (x0.length : Int) := q26
        have e74 : sl a 74 = .int .i64 (Int.tmod (w64 ((w64 ((w64 ((w64 (x1 + 1)) - 1)) * 7)) + 3)) (x0.length : Int)) := q27
        have e75 : sl a 75 = .pointer (some ⟨adB A0, adO A0 + ((Int.tmod (w64 ((w64 ((w64 ((w64 (x1 + 1)) - 1)) * 7)) + 3)) (x0.length : Int)).toNat) * 1, none⟩) := q28
        have e76 : sl a 76 = .int .u8 (x0.getD ((Int.tmod (w64 ((w64 ((w64 ((w64 (x1 + 1)) - 1)) * 7)) + 3)) (x0.length : Int)).toNat) (0 : Int)) := q29
        have e77 : sl a 77 = .int .i64 (w64 ((x0.getD ((Int.tmod (w64 ((w64 ((w64 ((w64 (x1 + 1)) - 1)) * 7)) + 3)) (x0.length : Int)).toNat) (0 : Int)))) := q30
        have e78 : sl a 78 = .int .i64 (w64 ((w64 ((x0.getD ((Int.tmod (w64 ((w64 ((w64 ((w64 (x1 + 1)) - 1)) * 7)) + 3)) (x0.length : Int)).toNat) (0 : Int)))) * 1117)) := q31
        have e79 : sl a 79 = .int .i64 (w64 ((w64 ((w64 ((x0.getD ((Int.tmod (w64 ((w64 (x1 + 1)) - 1)) (x0.length : Int)).toNat) (0 : Int)))) * 131)) + (w64 ((w64 ((x0.getD ((Int.tmod (w64 ((w64 ((w64 ((w64 (x1 + 1)) - 1)) * 7)) + 3)) (x0.length : Int)).toNat) (0 : Int)))) * 1117)))) := q32
        have e80 : sl a 80 = .int .i64 (w64 ((w64 (x1 + 1)) - 1)) := q33
        have e81 : sl a 81 = .int .i64 (w64 ((w64 ((w64 (x1 + 1)) - 1)) * 29)) := q34
        have e82 : sl a 82 = .int .i64 (w64 ((w64 ((w64 ((w64 ((x0.getD ((Int.tmod (w64 ((w64 (x1 + 1)) - 1)) (x0.length : Int)).toNat) (0 : Int)))) * 131)) + (w64 ((w64 ((x0.getD ((Int.tmod (w64 ((w64 ((w64 ((w64 (x1 + 1)) - 1)) * 7)) + 3)) (x0.length : Int)).toNat) (0 : Int)))) * 1117)))) + (w64 ((w64 ((w64 (x1 + 1)) - 1)) * 29)))) := q35
        have e83 : sl a 83 = .int .i64 (w64 ((w64 (x1 + 1)) - 1)) := q36
        have e84 : sl a 84 = .pointer (some ⟨g0, 0, none⟩) := q37
        have e85 : sl a 85 = .pointer (some ⟨g0, 0, none⟩) := q38
        have e86 : sl a 86 = .pointer (some ⟨g0, 0, none⟩) := q39
        have e87 : sl a 87 = .slice A0 x0.length c0 := q40
        have e88 : sl a 88 = .int .i64 (x0.length : Int) := q41
        have e89 : sl a 89 = .int .i64 (w64 (Int.tdiv (w64 ((w64 (x1 + 1)) - 1)) (x0.length : Int))) := q42
        have e90 : sl a 90 = .int .i64 (w64 ((w64 (Int.tdiv (w64 ((w64 (x1 + 1)) - 1)) (x0.length : Int))) * 53)) := q43
        have e91 : sl a 91 = .int .i64 (w64 ((w64 ((w64 ((w64 ((w64 ((x0.getD ((Int.tmod (w64 ((w64 (x1 + 1)) - 1)) (x0.length : Int)).toNat) (0 : Int)))) * 131)) + (w64 ((w64 ((x0.getD ((Int.tmod (w64 ((w64 ((w64 ((w64 (x1 + 1)) - 1)) * 7)) + 3)) (x0.length : Int)).toNat) (0 : Int)))) * 1117)))) + (w64 ((w64 ((w64 (x1 + 1)) - 1)) * 29)))) + (w64 ((w64 (Int.tdiv (w64 ((w64 (x1 + 1)) - 1)) (x0.length : Int))) * 53)))) := q44
        have e6 : sl a 6 = .int .i64 (w64 ((w64 ((w64 ((w64 ((w64 ((x0.getD ((Int.tmod (w64 ((w64 (x1 + 1)) - 1)) (x0.length : Int)).toNat) (0 : Int)))) * 131)) + (w64 ((w64 ((x0.getD ((Int.tmod (w64 ((w64 ((w64 ((w64 (x1 + 1)) - 1)) * 7)) + 3)) (x0.length : Int)).toNat) (0 : Int)))) * 1117)))) + (w64 ((w64 ((w64 (x1 + 1)) - 1)) * 29)))) + (w64 ((w64 (Int.tdiv (w64 ((w64 (x1 + 1)) - 1)) (x0.length : Int))) * 53)))) := q45
        replace S : St w0 u (Asn.box g0 57 #[.slice A0 x0.length c0, .int .i64 (w64 (x1 + 1))] :: X) := S
        clear q0 q1 q2 q3 q4 q5 q6 q7 q8 q9 q10 q11 q12 q13 q14 q15 q16 q17 q18 q19 q20 q21 q22 q23 q24 q25 q26 q27 q28 q29 q30 q31 q32 q33 q34 q35 q36 q37 q38 q39 q40 q41 q42 q43 q44 q45
        have hF := hF.region hB [(47, .pointer (some ⟨g0, 0, none⟩)), (48, .pointer (some ⟨g0, 0, none⟩)), (49, .pointer (some ⟨g0, 0, none⟩)), (50, .slice A0 x0.length c0), (51, .int .i64 (w64 ((w64 (x1 + 1)) - 1))), (52, .pointer (some ⟨g0, 0, none⟩)), (53, .pointer (some ⟨g0, 0, none⟩)), (54, .pointer (some ⟨g0, 0, none⟩)), (55, .slice A0 x0.length c0), (56, .int .i64 (x0.length : Int)), (57, .int .i64 (Int.tmod (w64 ((w64 (x1 + 1)) - 1)) (x0.length : Int))), (58, .pointer (some ⟨adB A0, adO A0 + ((Int.tmod (w64 ((w64 (x1 + 1)) - 1)) (x0.length : Int)).toNat) * 1, none⟩)), (59, .int .u8 (x0.getD ((Int.tmod (w64 ((w64 (x1 + 1)) - 1)) (x0.length : Int)).toNat) (0 : Int))), (60, .int .i64 (w64 ((x0.getD ((Int.tmod (w64 ((w64 (x1 + 1)) - 1)) (x0.length : Int)).toNat) (0 : Int))))), (61, .int .i64 (w64 ((w64 ((x0.getD ((Int.tmod (w64 ((w64 (x1 + 1)) - 1)) (x0.length : Int)).toNat) (0 : Int)))) * 131))), (62, .pointer (some ⟨g0, 0, none⟩)), (63, .pointer (some ⟨g0, 0, none⟩)), (64, .pointer (some ⟨g0, 0, none⟩)), (65, .slice A0 x0.length c0), (66, .int .i64 (w64 ((w64 (x1 + 1)) - 1))), (67, .int .i64 (w64 ((w64 ((w64 (x1 + 1)) - 1)) * 7))), (68, .int .i64 (w64 ((w64 ((w64 ((w64 (x1 + 1)) - 1)) * 7)) + 3))), (69, .pointer (some ⟨g0, 0, none⟩)), (70, .pointer (some ⟨g0, 0, none⟩)), (71, .pointer (some ⟨g0, 0, none⟩)), (72, .slice A0 x0.length c0), (73, .int .i64 (x0.length : Int)), (74, .int .i64 (Int.tmod (w64 ((w64 ((w64 ((w64 (x1 + 1)) - 1)) * 7)) + 3)) (x0.length : Int))), (75, .pointer (some ⟨adB A0, adO A0 + ((Int.tmod (w64 ((w64 ((w64 ((w64 (x1 + 1)) - 1)) * 7)) + 3)) (x0.length : Int)).toNat) * 1, none⟩)), (76, .int .u8 (x0.getD ((Int.tmod (w64 ((w64 ((w64 ((w64 (x1 + 1)) - 1)) * 7)) + 3)) (x0.length : Int)).toNat) (0 : Int))), (77, .int .i64 (w64 ((x0.getD ((Int.tmod (w64 ((w64 ((w64 ((w64 (x1 + 1)) - 1)) * 7)) + 3)) (x0.length : Int)).toNat) (0 : Int))))), (78, .int .i64 (w64 ((w64 ((x0.getD ((Int.tmod (w64 ((w64 ((w64 ((w64 (x1 + 1)) - 1)) * 7)) + 3)) (x0.length : Int)).toNat) (0 : Int)))) * 1117))), (79, .int .i64 (w64 ((w64 ((w64 ((x0.getD ((Int.tmod (w64 ((w64 (x1 + 1)) - 1)) (x0.length : Int)).toNat) (0 : Int)))) * 131)) + (w64 ((w64 ((x0.getD ((Int.tmod (w64 ((w64 ((w64 ((w64 (x1 + 1)) - 1)) * 7)) + 3)) (x0.length : Int)).toNat) (0 : Int)))) * 1117))))), (80, .int .i64 (w64 ((w64 (x1 + 1)) - 1))), (81, .int .i64 (w64 ((w64 ((w64 (x1 + 1)) - 1)) * 29))), (82, .int .i64 (w64 ((w64 ((w64 ((w64 ((x0.getD ((Int.tmod (w64 ((w64 (x1 + 1)) - 1)) (x0.length : Int)).toNat) (0 : Int)))) * 131)) + (w64 ((w64 ((x0.getD ((Int.tmod (w64 ((w64 ((w64 ((w64 (x1 + 1)) - 1)) * 7)) + 3)) (x0.length : Int)).toNat) (0 : Int)))) * 1117)))) + (w64 ((w64 ((w64 (x1 + 1)) - 1)) * 29))))), (83, .int .i64 (w64 ((w64 (x1 + 1)) - 1))), (84, .pointer (some ⟨g0, 0, none⟩)), (85, .pointer (some ⟨g0, 0, none⟩)), (86, .pointer (some ⟨g0, 0, none⟩)), (87, .slice A0 x0.length c0), (88, .int .i64 (x0.length : Int)), (89, .int .i64 (w64 (Int.tdiv (w64 ((w64 (x1 + 1)) - 1)) (x0.length : Int)))), (90, .int .i64 (w64 ((w64 (Int.tdiv (w64 ((w64 (x1 + 1)) - 1)) (x0.length : Int))) * 53))), (91, .int .i64 (w64 ((w64 ((w64 ((w64 ((w64 ((x0.getD ((Int.tmod (w64 ((w64 (x1 + 1)) - 1)) (x0.length : Int)).toNat) (0 : Int)))) * 131)) + (w64 ((w64 ((x0.getD ((Int.tmod (w64 ((w64 ((w64 ((w64 (x1 + 1)) - 1)) * 7)) + 3)) (x0.length : Int)).toNat) (0 : Int)))) * 1117)))) + (w64 ((w64 ((w64 (x1 + 1)) - 1)) * 29)))) + (w64 ((w64 (Int.tdiv (w64 ((w64 (x1 + 1)) - 1)) (x0.length : Int))) * 53))))), (6, .int .i64 (w64 ((w64 ((w64 ((w64 ((w64 ((x0.getD ((Int.tmod (w64 ((w64 (x1 + 1)) - 1)) (x0.length : Int)).toNat) (0 : Int)))) * 131)) + (w64 ((w64 ((x0.getD ((Int.tmod (w64 ((w64 ((w64 ((w64 (x1 + 1)) - 1)) * 7)) + 3)) (x0.length : Int)).toNat) (0 : Int)))) * 1117)))) + (w64 ((w64 ((w64 (x1 + 1)) - 1)) * 29)))) + (w64 ((w64 (Int.tdiv (w64 ((w64 (x1 + 1)) - 1)) (x0.length : Int))) * 53)))))] (allSl_mem ⟨e47, e48, e49, e50, e51, e52, e53, e54, e55, e56, e57, e58, e59, e60, e61, e62, e63, e64, e65, e66, e67, e68, e69, e70, e71, e72, e73, e74, e75, e76, e77, e78, e79, e80, e81, e82, e83, e84, e85, e86, e87, e88, e89, e90, e91, e6, trivial⟩) rfl
        clear hB e47 e48 e49 e50 e51 e52 e53 e54 e55 e56 e57 e58 e59 e60 e61 e62 e63 e64 e65 e66 e67 e68 e69 e70 e71 e72 e73 e74 e75 e76 e77 e78 e79 e80 e81 e82 e83 e84 e85 e86 e87 e88 e89 e90 e91 e6
        refine wp_seq ?_
        refine wp_region_lit ?_
        refine op_val (v := .int .i64 (w64 ((w64 ((w64 ((w64 ((w64 ((x0.getD ((Int.tmod (w64 ((w64 (x1 + 1)) - 1)) (x0.length : Int)).toNat) (0 : Int)))) * 131)) + (w64 ((w64 ((x0.getD ((Int.tmod (w64 ((w64 ((w64 ((w64 (x1 + 1)) - 1)) * 7)) + 3)) (x0.length : Int)).toNat) (0 : Int)))) * 1117)))) + (w64 ((w64 ((w64 (x1 + 1)) - 1)) * 29)))) + (w64 ((w64 (Int.tdiv (w64 ((w64 (x1 + 1)) - 1)) (x0.length : Int))) * 53))))) rfl rfl hF rfl (run_move rfl (hF.ev rfl)) ?_; clear hF; intro a hF
        refine op_val (v := .int .i64 (w64 ((w64 ((w64 ((w64 ((w64 ((x0.getD ((Int.tmod (w64 ((w64 (x1 + 1)) - 1)) (x0.length : Int)).toNat) (0 : Int)))) * 131)) + (w64 ((w64 ((x0.getD ((Int.tmod (w64 ((w64 ((w64 ((w64 (x1 + 1)) - 1)) * 7)) + 3)) (x0.length : Int)).toNat) (0 : Int)))) * 1117)))) + (w64 ((w64 ((w64 (x1 + 1)) - 1)) * 29)))) + (w64 ((w64 (Int.tdiv (w64 ((w64 (x1 + 1)) - 1)) (x0.length : Int))) * 53))))) rfl rfl hF rfl (run_move rfl (hF.ev rfl)) ?_; clear hF; intro a hF
        refine op_val (v := .int .i64 (w64 (Int.tdiv (w64 ((w64 ((w64 ((w64 ((w64 ((x0.getD ((Int.tmod (w64 ((w64 (x1 + 1)) - 1)) (x0.length : Int)).toNat) (0 : Int)))) * 131)) + (w64 ((w64 ((x0.getD ((Int.tmod (w64 ((w64 ((w64 ((w64 (x1 + 1)) - 1)) * 7)) + 3)) (x0.length : Int)).toNat) (0 : Int)))) * 1117)))) + (w64 ((w64 ((w64 (x1 + 1)) - 1)) * 29)))) + (w64 ((w64 (Int.tdiv (w64 ((w64 (x1 + 1)) - 1)) (x0.length : Int))) * 53)))) 64))) rfl rfl hF rfl (run_quo (z := w64 (Int.tdiv (w64 ((w64 ((w64 ((w64 ((w64 ((x0.getD ((Int.tmod (w64 ((w64 (x1 + 1)) - 1)) (x0.length : Int)).toNat) (0 : Int)))) * 131)) + (w64 ((w64 ((x0.getD ((Int.tmod (w64 ((w64 ((w64 ((w64 (x1 + 1)) - 1)) * 7)) + 3)) (x0.length : Int)).toNat) (0 : Int)))) * 1117)))) + (w64 ((w64 ((w64 (x1 + 1)) - 1)) * 29)))) + (w64 ((w64 (Int.tdiv (w64 ((w64 (x1 + 1)) - 1)) (x0.length : Int))) * 53)))) 64)) (hF.ev rfl) rfl rfl (by decide) rfl) ?_; clear hF; intro a hF
        refine op_val (v := .int .i64 (bitsXor .i64 (w64 ((w64 ((w64 ((w64 ((w64 ((x0.getD ((Int.tmod (w64 ((w64 (x1 + 1)) - 1)) (x0.length : Int)).toNat) (0 : Int)))) * 131)) + (w64 ((w64 ((x0.getD ((Int.tmod (w64 ((w64 ((w64 ((w64 (x1 + 1)) - 1)) * 7)) + 3)) (x0.length : Int)).toNat) (0 : Int)))) * 1117)))) + (w64 ((w64 ((w64 (x1 + 1)) - 1)) * 29)))) + (w64 ((w64 (Int.tdiv (w64 ((w64 (x1 + 1)) - 1)) (x0.length : Int))) * 53)))) (w64 (Int.tdiv (w64 ((w64 ((w64 ((w64 ((w64 ((x0.getD ((Int.tmod (w64 ((w64 (x1 + 1)) - 1)) (x0.length : Int)).toNat) (0 : Int)))) * 131)) + (w64 ((w64 ((x0.getD ((Int.tmod (w64 ((w64 ((w64 ((w64 (x1 + 1)) - 1)) * 7)) + 3)) (x0.length : Int)).toNat) (0 : Int)))) * 1117)))) + (w64 ((w64 ((w64 (x1 + 1)) - 1)) * 29)))) + (w64 ((w64 (Int.tdiv (w64 ((w64 (x1 + 1)) - 1)) (x0.length : Int))) * 53)))) 64)))) rfl rfl hF rfl (run_bxor (hF.ev rfl) (hF.ev rfl) rfl) ?_; clear hF; intro a hF
        refine op_val (v := .int .i64 (bitsXor .i64 (w64 ((w64 ((w64 ((w64 ((w64 ((x0.getD ((Int.tmod (w64 ((w64 (x1 + 1)) - 1)) (x0.length : Int)).toNat) (0 : Int)))) * 131)) + (w64 ((w64 ((x0.getD ((Int.tmod (w64 ((w64 ((w64 ((w64 (x1 + 1)) - 1)) * 7)) + 3)) (x0.length : Int)).toNat) (0 : Int)))) * 1117)))) + (w64 ((w64 ((w64 (x1 + 1)) - 1)) * 29)))) + (w64 ((w64 (Int.tdiv (w64 ((w64 (x1 + 1)) - 1)) (x0.length : Int))) * 53)))) (w64 (Int.tdiv (w64 ((w64 ((w64 ((w64 ((w64 ((x0.getD ((Int.tmod (w64 ((w64 (x1 + 1)) - 1)) (x0.length : Int)).toNat) (0 : Int)))) * 131)) + (w64 ((w64 ((x0.getD ((Int.tmod (w64 ((w64 ((w64 ((w64 (x1 + 1)) - 1)) * 7)) + 3)) (x0.length : Int)).toNat) (0 : Int)))) * 1117)))) + (w64 ((w64 ((w64 (x1 + 1)) - 1)) * 29)))) + (w64 ((w64 (Int.tdiv (w64 ((w64 (x1 + 1)) - 1)) (x0.length : Int))) * 53)))) 64)))) rfl rfl hF rfl (run_assign rfl (hF.ev rfl)) ?_; clear hF; intro a hF
        refine wpList_nil ?_
        refine wp_seq ?_
        refine wp_region_lit ?_
        refine op_val (v := .int .i64 (bitsXor .i64 (w64 ((w64 ((w64 ((w64 ((w64 ((x0.getD ((Int.tmod (w64 ((w64 (x1 + 1)) - 1)) (x0.length : Int)).toNat) (0 : Int)))) * 131)) + (w64 ((w64 ((x0.getD ((Int.tmod (w64 ((w64 ((w64 ((w64 (x1 + 1)) - 1)) * 7)) + 3)) (x0.length : Int)).toNat) (0 : Int)))) * 1117)))) + (w64 ((w64 ((w64 (x1 + 1)) - 1)) * 29)))) + (w64 ((w64 (Int.tdiv (w64 ((w64 (x1 + 1)) - 1)) (x0.length : Int))) * 53)))) (w64 (Int.tdiv (w64 ((w64 ((w64 ((w64 ((w64 ((x0.getD ((Int.tmod (w64 ((w64 (x1 + 1)) - 1)) (x0.length : Int)).toNat) (0 : Int)))) * 131)) + (w64 ((w64 ((x0.getD ((Int.tmod (w64 ((w64 ((w64 ((w64 (x1 + 1)) - 1)) * 7)) + 3)) (x0.length : Int)).toNat) (0 : Int)))) * 1117)))) + (w64 ((w64 ((w64 (x1 + 1)) - 1)) * 29)))) + (w64 ((w64 (Int.tdiv (w64 ((w64 (x1 + 1)) - 1)) (x0.length : Int))) * 53)))) 64)))) rfl rfl hF rfl (run_move rfl (hF.ev rfl)) ?_; clear hF; intro a hF
        refine op_val (v := .int .i64 x2) rfl rfl hF rfl (run_move rfl (hF.ev rfl)) ?_; clear hF; intro a hF
        obtain ⟨hk108, hM⟩ := chk_ex hM
        replace hk108 := nzB_t hk108
        refine op_val (v := .int .i64 (Int.tmod (bitsXor .i64 (w64 ((w64 ((w64 ((w64 ((w64 ((x0.getD ((Int.tmod (w64 ((w64 (x1 + 1)) - 1)) (x0.length : Int)).toNat) (0 : Int)))) * 131)) + (w64 ((w64 ((x0.getD ((Int.tmod (w64 ((w64 ((w64 ((w64 (x1 + 1)) - 1)) * 7)) + 3)) (x0.length : Int)).toNat) (0 : Int)))) * 1117)))) + (w64 ((w64 ((w64 (x1 + 1)) - 1)) * 29)))) + (w64 ((w64 (Int.tdiv (w64 ((w64 (x1 + 1)) - 1)) (x0.length : Int))) * 53)))) (w64 (Int.tdiv (w64 ((w64 ((w64 ((w64 ((w64 ((x0.getD ((Int.tmod (w64 ((w64 (x1 + 1)) - 1)) (x0.length : Int)).toNat) (0 : Int)))) * 131)) + (w64 ((w64 ((x0.getD ((Int.tmod (w64 ((w64 ((w64 ((w64 (x1 + 1)) - 1)) * 7)) + 3)) (x0.length : Int)).toNat) (0 : Int)))) * 1117)))) + (w64 ((w64 ((w64 (x1 + 1)) - 1)) * 29)))) + (w64 ((w64 (Int.tdiv (w64 ((w64 (x1 + 1)) - 1)) (x0.length : Int))) * 53)))) 64))) x2)) rfl rfl hF rfl (run_rem (z := Int.tmod (bitsXor .i64 (w64 ((w64 ((w64 ((w64 ((w64 ((x0.getD ((Int.tmod (w64 ((w64 (x1 + 1)) - 1)) (x0.length : Int)).toNat) (0 : Int)))) * 131)) + (w64 ((w64 ((x0.getD ((Int.tmod (w64 ((w64 ((w64 ((w64 (x1 + 1)) - 1)) * 7)) + 3)) (x0.length : Int)).toNat) (0 : Int)))) * 1117)))) + (w64 ((w64 ((w64 (x1 + 1)) - 1)) * 29)))) + (w64 ((w64 (Int.tdiv (w64 ((w64 (x1 + 1)) - 1)) (x0.length : Int))) * 53)))) (w64 (Int.tdiv (w64 ((w64 ((w64 ((w64 ((w64 ((x0.getD ((Int.tmod (w64 ((w64 (x1 + 1)) - 1)) (x0.length : Int)).toNat) (0 : Int)))) * 131)) + (w64 ((w64 ((x0.getD ((Int.tmod (w64 ((w64 ((w64 ((w64 (x1 + 1)) - 1)) * 7)) + 3)) (x0.length : Int)).toNat) (0 : Int)))) * 1117)))) + (w64 ((w64 ((w64 (x1 + 1)) - 1)) * 29)))) + (w64 ((w64 (Int.tdiv (w64 ((w64 (x1 + 1)) - 1)) (x0.length : Int))) * 53)))) 64))) x2) (hF.ev rfl) (hF.ev rfl) rfl hk108 rfl) ?_; clear hF; intro a hF
        refine op_val (v := .int .i64 (Int.tmod (bitsXor .i64 (w64 ((w64 ((w64 ((w64 ((w64 ((x0.getD ((Int.tmod (w64 ((w64 (x1 + 1)) - 1)) (x0.length : Int)).toNat) (0 : Int)))) * 131)) + (w64 ((w64 ((x0.getD ((Int.tmod (w64 ((w64 ((w64 ((w64 (x1 + 1)) - 1)) * 7)) + 3)) (x0.length : Int)).toNat) (0 : Int)))) * 1117)))) + (w64 ((w64 ((w64 (x1 + 1)) - 1)) * 29)))) + (w64 ((w64 (Int.tdiv (w64 ((w64 (x1 + 1)) - 1)) (x0.length : Int))) * 53)))) (w64 (Int.tdiv (w64 ((w64 ((w64 ((w64 ((w64 ((x0.getD ((Int.tmod (w64 ((w64 (x1 + 1)) - 1)) (x0.length : Int)).toNat) (0 : Int)))) * 131)) + (w64 ((w64 ((x0.getD ((Int.tmod (w64 ((w64 ((w64 ((w64 (x1 + 1)) - 1)) * 7)) + 3)) (x0.length : Int)).toNat) (0 : Int)))) * 1117)))) + (w64 ((w64 ((w64 (x1 + 1)) - 1)) * 29)))) + (w64 ((w64 (Int.tdiv (w64 ((w64 (x1 + 1)) - 1)) (x0.length : Int))) * 53)))) 64))) x2)) rfl rfl hF rfl (run_assign rfl (hF.ev rfl)) ?_; clear hF; intro a hF
        refine wpList_nil ?_
        refine wp_ret ?_
        repeat with_reducible (first | refine then_ret ?_ | refine in_ret ?_ | refine in_nrm ?_)
        refine ret1_gw (.inl rfl) hF rfl (res_tmp (hF.ev rfl)) ?_
        obtain rfl := Option.some.inj hM
        exact ⟨rfl, S.selT (M := [.box g0 57 #[.slice A0 x0.length c0, .int .i64 (w64 (x1 + 1))]]) 1 [0] rfl rfl rfl⟩
    · replace hM := bif_t hc102 hM
      refine cond_t hF rfl hc102 ?_
      refine wp_seq ?_
      refine wp_region_lit ?_
      refine op_val (v := .pointer (some ⟨g0, 0, none⟩)) rfl rfl hF rfl (run_move rfl (hF.ev rfl)) ?_; clear hF; intro a hF
      refine op_val (v := .pointer (some ⟨g0, 0, none⟩)) rfl rfl hF rfl (run_nilCheck rfl (hF.ev rfl)) ?_; clear hF; intro a hF
      refine op_val (v := .pointer (some ⟨g0, 0, none⟩)) rfl rfl hF rfl (run_fieldAddr rfl fl57_0 (hF.ev rfl) rfl) ?_; clear hF; intro a hF
      refine op_val (v := .slice A0 x0.length c0) rfl rfl hF rfl (run_load1 rfl one22 (hF.ev rfl) ((S.free 0 rfl).cell rfl)) ?_; clear hF; intro a hF
      refine op_val (v := .int .i64 (w64 ((w64 (x1 + 1)) - 1))) rfl rfl hF rfl (run_move rfl (hF.ev rfl)) ?_; clear hF; intro a hF
      obtain ⟨hk109, hM⟩ := chk_ex hM
      replace hk109 := ixB_t hk109
      refine op_val (v := .pointer (some ⟨adB A0, adO A0 + ((w64 ((w64 (x1 + 1)) - 1)).toNat) * 1, none⟩)) rfl rfl hF rfl (run_indexAddr (b := adB A0) (off := adO A0) rfl Tryd.underlying22 sz5 ((hF.ev rfl).trans (congrArg (fun A => Value.slice A x0.length c0) ((S.rc0 h0.rc).rd.ad (ix_pos hk109)))) (hF.ev rfl) hk109.1 hk109.2 (k' := adO A0 + ((w64 ((w64 (x1 + 1)) - 1)).toNat) * 1) rfl) ?_; clear hF; intro a hF
      refine op_val (v := .int .u8 (x0.getD ((w64 ((w64 (x1 + 1)) - 1)).toNat) (0 : Int))) rfl rfl hF rfl (run_load1 rfl one5 (hF.ev rfl) (rd_el0 (l := x0) (S.rc0 h0.rc).rd rfl eU_len (0 : Int) (ix_ltn hk109 rfl) rfl)) ?_; clear hF; intro a hF
      refine op_val (v := .int .i64 (w64 ((x0.getD ((w64 ((w64 (x1 + 1)) - 1)).toNat) (0 : Int))))) rfl rfl hF rfl (run_convI rfl Tryd.underlying5 Tryd.underlying3 (hF.ev rfl)) ?_; clear hF; intro a hF
      refine op_val (v := .int .i64 x2) rfl rfl hF rfl (run_move rfl (hF.ev rfl)) ?_; clear hF; intro a hF
      obtain ⟨hk110, hM⟩ := chk_ex hM
      replace hk110 := nzB_t hk110
      refine op_val (v := .int .i64 (Int.tmod (w64 ((x0.getD ((w64 ((w64 (x1 + 1)) - 1)).toNat) (0 : Int)))) x2)) rfl rfl hF rfl (run_rem (z := Int.tmod (w64 ((x0.getD ((w64 ((w64 (x1 + 1)) - 1)).toNat) (0 : Int)))) x2) (hF.ev rfl) (hF.ev rfl) rfl hk110 rfl) ?_; clear hF; intro a hF
      refine op_val (v := .int .i64 (Int.tmod (w64 ((x0.getD ((w64 ((w64 (x1 + 1)) - 1)).toNat) (0 : Int)))) x2)) rfl rfl hF rfl (run_assign rfl (hF.ev rfl)) ?_; clear hF; intro a hF
      refine wpList_nil ?_
      refine wp_ret ?_
      repeat with_reducible (first | refine then_ret ?_ | refine in_ret ?_ | refine in_nrm ?_)
      refine ret1_gw (.inl rfl) hF rfl (res_tmp (hF.ev rfl)) ?_
      obtain rfl := Option.some.inj hM
      exact ⟨rfl, S.selT (M := [.box g0 57 #[.slice A0 x0.length c0, .int .i64 (w64 (x1 + 1))]]) 1 [0] rfl rfl rfl⟩
  · replace hM := bif_t hc101 hM
    refine cond_t hF rfl hc101 ?_
    refine wp_seq ?_
    refine wp_region_lit ?_
    refine op_val (v := .int .i64 0) rfl rfl hF rfl (run_assign rfl rfl) ?_; clear hF; intro a hF
    refine wpList_nil ?_
    refine wp_ret ?_
    repeat with_reducible (first | refine then_ret ?_ | refine in_ret ?_ | refine in_nrm ?_)
    refine ret1_gw (.inl rfl) hF rfl (res_tmp (hF.ev rfl)) ?_
    obtain rfl := Option.some.inj hM
    exact ⟨rfl, S.selT (M := [.box g0 57 #[.slice A0 x0.length c0, .int .i64 (w64 (x1 + 1))]]) 1 [0] rfl rfl rfl⟩

set_option maxHeartbeats 4000000 in
theorem c_spec_l20Rd_odd {x0 : List Int} {x1 : Int} {x2 : Int} {A0 : Option Addr} {n0 c0 : Nat} {g0 : Nat} {w : World} {r : Bool × Int} {w0 : World} {X : List Asn} (h0 : Rt w0 1 eU A0 n0 c0 x0) (S : St w0 w (Asn.box g0 57 #[.slice A0 n0 c0, .int .i64 x1] :: X)) (hM : m_spec_l20Rd_odd x0 x1 x2 = some r) :
    Calls Tryd.prog 20 #[.pointer (some ⟨g0, 0, none⟩), .int .i64 x2] w (fun e w' => e = .returned (.bool r.1) ∧ St w0 w' (Asn.box g0 57 #[.slice A0 n0 c0, .int .i64 r.2] :: X)) := by
  obtain rfl := h0.len
  unfold m_spec_l20Rd_odd at hM
  refine calls_gw Tryd.func20 Tryd.ntmps20 rfl [(0, .pointer (some ⟨g0, 0, none⟩)), (1, .int .i64 x2)] ⟨rfl, rfl, trivial⟩ rfl ?_
  intro a hF
  refine wp_seq ?_
  refine wp_region_lit ?_
  refine op_val (v := .bool false) rfl rfl hF rfl (run_assign rfl rfl) ?_; clear hF; intro a hF
  refine wpList_nil ?_
  refine wp_seq ?_
  obtain ⟨o102, hM103, hM⟩ := bind_ex hM
  refine wp_cut (fun a u => ∃ (p101 : Bool × Int), p101 = o102 ∧ Fr a 15 [(4, .bool p101.1)] ∧ St w0 u (Asn.box g0 57 #[.slice A0 x0.length c0, .int .i64 p101.2] :: X)) ?_ ?_
  · have _ := trivial
    refine wp_region_lit ?_
    refine op_val (v := .int .i64 x2) rfl rfl hF rfl (run_move rfl (hF.ev rfl)) ?_; clear hF; intro a hF
    refine op_val (v := .bool (ltB 0 x2)) rfl rfl hF rfl (run_gtr (hF.ev rfl) rfl rfl) ?_; clear hF; intro a hF
    refine op_val (v := .bool (ltB 0 x2)) rfl rfl hF rfl (run_move rfl (hF.ev rfl)) ?_; clear hF; intro a hF
    refine op_gv (v := .pointer (some ⟨g0, 0, none⟩)) rfl rfl hF rfl (yt (gw_yield hF rfl rfl rfl)) (fun hg => (run_move rfl (hF.ev rfl))) ?_; clear hF; intro a hF
    refine op_gv (v := .int .i64 x2) rfl rfl hF rfl (yt (gw_yield hF rfl rfl rfl)) (fun hg => (run_move rfl (hF.ev rfl))) ?_; clear hF; intro a hF
    cases hc104 : (ltB 0 x2)
    · replace hM103 := bif_f hc104 hM103
      refine op_skipped rfl ((gw_yield hF rfl rfl rfl).trans (congrArg some hc104)) rfl rfl hF rfl ?_; clear hF; intro a hF
      refine op_skipped rfl ((gw_yield hF rfl rfl rfl).trans (congrArg some hc104)) rfl rfl hF rfl ?_; clear hF; intro a hF
      refine op_skipped rfl ((gw_yield hF rfl rfl rfl).trans (congrArg some hc104)) rfl rfl hF rfl ?_; clear hF; intro a hF
      refine op_skipped rfl ((gw_yield hF rfl rfl rfl).trans (congrArg some hc104)) rfl rfl hF rfl ?_; clear hF; intro a hF
      refine op_val (v := .bool false) rfl rfl hF rfl (run_pick_f rfl (hF.ev rfl) hc104 rfl) ?_; clear hF; intro a hF
      refine op_val (v := .bool false) rfl rfl hF rfl (run_assign rfl (hF.ev rfl)) ?_; clear hF; intro a hF
      refine wpList_nil ?_
      obtain rfl := Option.some.inj hM103
      exact ⟨(false, x1), rfl, hF.keep _ ⟨rfl, trivial⟩, S.selT (M := [.box g0 57 #[.slice A0 x0.length c0, .int .i64 x1]]) 1 [0] rfl rfl rfl⟩
    · replace hM103 := bif_t hc104 hM103
      refine op_guarded rfl ((gw_yield hF rfl rfl rfl).trans (congrArg some hc104)) ?_
      obtain ⟨p105, h105, hM103⟩ := bind_ex hM103
      refine op_call rfl rfl hF rfl (run_call (vs := [.pointer (some ⟨g0, 0, none⟩), .int .i64 x2]) rfl rfl co19 ⟨((hF.ev rfl).trans (gv_t hc104)), ((hF.ev rfl).trans (gv_t hc104)), trivial⟩) (c_spec_l20Rd_pick (x0 := x0) (x1 := x1) (x2 := x2) ⟨h0.rc, rfl⟩ (show St w0 _ (Asn.box g0 57 #[.slice A0 x0.length c0, .int .i64 x1] :: X) from S.selT (M := [.box g0 57 #[.slice A0 x0.length c0, .int .i64 x1]]) 1 [0] rfl rfl rfl) h105) ?_
      rintro e u ⟨rfl, T⟩
      refine ⟨_, rfl, ?_⟩
      clear hF; intro a hF
      clear S; have S := T; clear T
      refine op_guarded rfl ((gw_yield hF rfl rfl rfl).trans (congrArg some hc104)) ?_
      refine op_val (v := .int .i64 x2) rfl rfl hF rfl (run_move rfl (hF.ev rfl)) ?_; clear hF; intro a hF
      refine op_guarded rfl ((gw_yield hF rfl rfl rfl).trans (congrArg some hc104)) ?_
      refine op_val (v := .int .i64 (w64 (x2 - 1))) rfl rfl hF rfl (run_sub (z := w64 (x2 - 1)) (hF.ev rfl) rfl rfl rfl) ?_; clear hF; intro a hF
      refine op_guarded rfl ((gw_yield hF rfl rfl rfl).trans (congrArg some hc104)) ?_
      refine op_val (v := .bool (p105.1 == (w64 (x2 - 1)))) rfl rfl hF rfl (run_eql (hF.ev rfl) (hF.ev rfl) rfl) ?_; clear hF; intro a hF
      refine op_val (v := .bool (p105.1 == (w64 (x2 - 1)))) rfl rfl hF rfl (run_pick_t rfl (hF.ev rfl) hc104 (hF.ev rfl)) ?_; clear hF; intro a hF
      refine op_val (v := .bool (p105.1 == (w64 (x2 - 1)))) rfl rfl hF rfl (run_assign rfl (hF.ev rfl)) ?_; clear hF; intro a hF
      refine wpList_nil ?_
      obtain rfl := Option.some.inj hM103
      exact ⟨(p105.1 == (w64 (x2 - 1)), p105.2), rfl, hF.keep _ ⟨rfl, trivial⟩, S.selT (M := [.box g0 57 #[.slice A0 x0.length c0, .int .i64 p105.2]]) 1 [0] rfl rfl rfl⟩
  · rintro a u ⟨p101, rfl, hF, S⟩
    refine wp_ret ?_
    repeat with_reducible (first | refine then_ret ?_ | refine in_ret ?_ | refine in_nrm ?_)
    refine ret1_gw (.inl rfl) hF rfl (res_tmp (hF.ev rfl)) ?_
    obtain rfl := Option.some.inj hM
    exact ⟨rfl, S.selT (M := [.box g0 57 #[.slice A0 x0.length c0, .int .i64 p101.2]]) 1 [0] rfl rfl rfl⟩

set_option maxHeartbeats 4000000 in
theorem c_spec_l20Net {x0 : List Int} {x1 : Int} {x2 : Int} {A0 : Option Addr} {n0 c0 : Nat} {g0 : Nat} {w : World} {r : Int × List (Int × Int × Int) × Int} {w0 : World} {X : List Asn} (h0 : Rt w0 1 eU A0 n0 c0 x0) (S : St w0 w (Asn.box g0 57 #[.slice A0 n0 c0, .int .i64 x1] :: X)) (hM : m_spec_l20Net x0 x1 x2 = some r) :
    Calls Tryd.prog 18 #[.pointer (some ⟨g0, 0, none⟩), .int .i64 x2] w (fun e w' => ∃ (B0 : Option Addr) (N0 D0 : Nat), e = .returned (.agg #[.int .i64 r.1, .slice B0 N0 D0]) ∧ N0 = r.2.1.length ∧ St w0 w' (Asn.row 34 3 (.slice B0 N0 D0) N0 (r.2.1.flatMap eLine) :: Asn.box g0 57 #[.slice A0 n0 c0, .int .i64 r.2.2] :: X)) := by
  obtain rfl := h0.len
  unfold m_spec_l20Net at hM
  refine calls_gw Tryd.func18 Tryd.ntmps18 rfl [(0, .pointer (some ⟨g0, 0, none⟩)), (1, .int .i64 x2)] ⟨rfl, rfl, trivial⟩ rfl ?_
  intro a hF
  refine wp_seq ?_
  refine wp_region_lit ?_
  refine op_new (cs := #[.int .i64 0, .slice none 0 0]) rfl rfl hF rfl S (run_allocZ rfl zr37) ?_; clear hF S; intro a g101 u hF S
  refine wpList_nil ?_
  refine wp_seq ?_
  refine wp_region_lit ?_
  refine op_val (v := .pointer (some ⟨g0, 0, none⟩)) rfl rfl hF rfl (run_move rfl (hF.ev rfl)) ?_; clear hF; intro a hF
  obtain ⟨p102, h102, hM⟩ := bind_ex hM
  refine op_call rfl rfl hF rfl (run_call (vs := [.pointer (some ⟨g0, 0, none⟩), .int .i64 8]) rfl rfl co19 ⟨(hF.ev rfl), rfl, trivial⟩) (c_spec_l20Rd_pick (x0 := x0) (x1 := x1) (x2 := 8) ⟨h0.rc, rfl⟩ (show St w0 _ (Asn.box g0 57 #[.slice A0 x0.length c0, .int .i64 x1] :: Asn.box g101 37 #[.int .i64 0, .slice none 0 0] :: X) from S.selT (M := [.box g0 57 #[.slice A0 x0.length c0, .int .i64 x1], .box g101 37 #[.int .i64 0, .slice none 0 0]]) 2 [1, 0] rfl rfl rfl) h102) ?_
  rintro e u ⟨rfl, T⟩
  refine ⟨_, rfl, ?_⟩
  clear hF; intro a hF
  clear S; have S := T; clear T
  refine op_val (v := .int .i64 (w64 (1 + p102.1))) rfl rfl hF rfl (run_add (z := w64 (1 + p102.1)) rfl (hF.ev rfl) rfl rfl) ?_; clear hF; intro a hF
  refine op_val (v := .agg #[.int .i64 (w64 (1 + p102.1)), .slice none 0 0]) rfl rfl hF rfl (run_build (vs := [(0, .int .i64 (w64 (1 + p102.1)))]) rfl ⟨⟨rfl, (hF.ev rfl)⟩, trivial⟩ (bd37_0 rfl)) ?_; clear hF; intro a hF
  refine op_new (cs := #[.int .i64 0, .slice none 0 0]) rfl rfl hF rfl S (run_allocZ rfl zr37) ?_; clear hF S; intro a g103 u hF S
  refine op_do rfl rfl (run_store (cs' := #[.int .i64 (w64 (1 + p102.1)), .slice none 0 0]) rfl sz37 (hF.ev rfl) (hF.ev rfl) rfl rfl rfl (S.free 0 rfl) rfl rfl) ?_; replace S := S.put 0 rfl (#[.int .i64 (w64 (1 + p102.1)), .slice none 0 0])
  generalize World.setRow _ _ _ = u at S ⊢
  refine wpList_nil ?_
  refine wp_seq ?_
  refine wp_seq ?_
  refine wp_region_lit ?_
  refine op_val (v := .pointer (some ⟨g0, 0, none⟩)) rfl rfl hF rfl (run_move rfl (hF.ev rfl)) ?_; clear hF; intro a hF
  obtain ⟨p104, h104, hM⟩ := bind_ex hM
  refine op_call rfl rfl hF rfl (run_call (vs := [.pointer (some ⟨g0, 0, none⟩), .int .i64 3]) rfl rfl co19 ⟨(hF.ev rfl), rfl, trivial⟩) (c_spec_l20Rd_pick (x0 := x0) (x1 := p102.2) (x2 := 3) ⟨h0.rc, rfl⟩ (show St w0 _ (Asn.box g0 57 #[.slice A0 x0.length c0, .int .i64 p102.2] :: Asn.box g103 37 #[.int .i64 (w64 (1 + p102.1)), .slice none 0 0] :: Asn.box g101 37 #[.int .i64 0, .slice none 0 0] :: X) from S.selT (M := [.box g0 57 #[.slice A0 x0.length c0, .int .i64 p102.2], .box g103 37 #[.int .i64 (w64 (1 + p102.1)), .slice none 0 0], .box g101 37 #[.int .i64 0, .slice none 0 0]]) 3 [1, 0, 2] rfl rfl rfl) h104) ?_
  rintro e u ⟨rfl, T⟩
  refine ⟨_, rfl, ?_⟩
  clear hF; intro a hF
  clear S; have S := T; clear T
  refine op_val (v := .bool (ltB 0 p104.1)) rfl rfl hF rfl (run_gtr (hF.ev rfl) rfl rfl) ?_; clear hF; intro a hF
  refine wpList_nil ?_
  obtain ⟨o106, hM107, hM⟩ := bind_ex hM
  refine wp_cut (fun a u => ∃ (p105 : Int × Int), p105 = o106 ∧ Fr a 104 [(0, .pointer (some ⟨g0, 0, none⟩)), (1, .int .i64 x2), (4, .pointer (some ⟨g101, 0, none⟩)), (5, .pointer (some ⟨g103, 0, none⟩))] ∧ St w0 u (Asn.box g0 57 #[.slice A0 x0.length c0, .int .i64 p105.1] :: Asn.box g103 37 #[.int .i64 p105.2, .slice none 0 0] :: Asn.box g101 37 #[.int .i64 0, .slice none 0 0] :: X)) ?_ ?_
  · have _ := trivial
    cases hc108 : (ltB 0 p104.1)
    · replace hM107 := bif_f hc108 hM107
      refine cond_f hF rfl hc108 ?_
      refine wp_skip ?_
      obtain rfl := Option.some.inj hM107
      exact ⟨(p104.2, w64 (1 + p102.1)), rfl, hF.keep _ ⟨rfl, rfl, rfl, rfl, trivial⟩, S.selT (M := [.box g0 57 #[.slice A0 x0.length c0, .int .i64 p104.2], .box g103 37 #[.int .i64 (w64 (1 + p102.1)), .slice none 0 0], .box g101 37 #[.int .i64 0, .slice none 0 0]]) 3 [0, 1, 2] rfl rfl rfl⟩
    · replace hM107 := bif_t hc108 hM107
      refine cond_t hF rfl hc108 ?_
      refine wp_region_lit ?_
      refine op_val (v := .pointer (some ⟨g0, 0, none⟩)) rfl rfl hF rfl (run_move rfl (hF.ev rfl)) ?_; clear hF; intro a hF
      obtain ⟨p109, h109, hM107⟩ := bind_ex hM107
      refine op_call rfl rfl hF rfl (run_call (vs := [.pointer (some ⟨g0, 0, none⟩), .int .i64 4]) rfl rfl co19 ⟨(hF.ev rfl), rfl, trivial⟩) (c_spec_l20Rd_pick (x0 := x0) (x1 := p104.2) (x2 := 4) ⟨h0.rc, rfl⟩ (show St w0 _ (Asn.box g0 57 #[.slice A0 x0.length c0, .int .i64 p104.2] :: Asn.box g103 37 #[.int .i64 (w64 (1 + p102.1)), .slice none 0 0] :: Asn.box g101 37 #[.int .i64 0, .slice none 0 0] :: X) from S.selT (M := [.box g0 57 #[.slice A0 x0.length c0, .int .i64 p104.2], .box g103 37 #[.int .i64 (w64 (1 + p102.1)), .slice none 0 0], .box g101 37 #[.int .i64 0, .slice none 0 0]]) 3 [0, 1, 2] rfl rfl rfl) h109) ?_
      rintro e u ⟨rfl, T⟩
      refine ⟨_, rfl, ?_⟩
      clear hF; intro a hF
      clear S; have S := T; clear T
      refine op_val (v := .int .i64 (w64 (4 + p109.1))) rfl rfl hF rfl (run_add (z := w64 (4 + p109.1)) rfl (hF.ev rfl) rfl rfl) ?_; clear hF; intro a hF
      refine op_val (v := .pointer (some ⟨g103, 0, none⟩)) rfl rfl hF rfl (run_fieldAddr rfl fl37_0 (hF.ev rfl) rfl) ?_; clear hF; intro a hF
      refine op_do rfl rfl (run_store (cs' := #[.int .i64 (w64 (4 + p109.1)), .slice none 0 0]) rfl sz3 (hF.ev rfl) (hF.ev rfl) rfl rfl rfl (S.free 1 rfl) rfl rfl) ?_; replace S := S.put 1 rfl (#[.int .i64 (w64 (4 + p109.1)), .slice none 0 0])
      generalize World.setRow _ _ _ = u at S ⊢
      refine wpList_nil ?_
      obtain rfl := Option.some.inj hM107
      exact ⟨(p109.2, w64 (4 + p109.1)), rfl, hF.keep _ ⟨rfl, rfl, rfl, rfl, trivial⟩, S.selT (M := [.box g0 57 #[.slice A0 x0.length c0, .int .i64 p109.2], .box g103 37 #[.int .i64 (w64 (4 + p109.1)), .slice none 0 0], .box g101 37 #[.int .i64 0, .slice none 0 0]]) 3 [0, 1, 2] rfl rfl rfl⟩
  · rintro a u ⟨p105, rfl, hF, S⟩
    refine wp_seq ?_
    refine wp_seq ?_
    refine wp_region_lit ?_
    refine op_val (v := .pointer (some ⟨g0, 0, none⟩)) rfl rfl hF rfl (run_move rfl (hF.ev rfl)) ?_; clear hF; intro a hF
    obtain ⟨p110, h110, hM⟩ := bind_ex hM
    refine op_call rfl rfl hF rfl (run_call (vs := [.pointer (some ⟨g0, 0, none⟩), .int .i64 11]) rfl rfl co19 ⟨(hF.ev rfl), rfl, trivial⟩) (c_spec_l20Rd_pick (x0 := x0) (x1 := p105.1) (x2 := 11) ⟨h0.rc, rfl⟩ (show St w0 _ (Asn.box g0 57 #[.slice A0 x0.length c0, .int .i64 p105.1] :: Asn.box g103 37 #[.int .i64 p105.2, .slice none 0 0] :: Asn.box g101 37 #[.int .i64 0, .slice none 0 0] :: X) from S.selT (M := [.box g0 57 #[.slice A0 x0.length c0, .int .i64 p105.1], .box g103 37 #[.int .i64 p105.2, .slice none 0 0], .box g101 37 #[.int .i64 0, .slice none 0 0]]) 3 [0, 1, 2] rfl rfl rfl) h110) ?_
    rintro e u ⟨rfl, T⟩
    refine ⟨_, rfl, ?_⟩
    clear hF; intro a hF
    clear S; have S := T; clear T
    refine op_val (v := .int .i64 p110.1) rfl rfl hF rfl (run_assign rfl (hF.ev rfl)) ?_; clear hF; intro a hF
    refine wpList_nil ?_
    obtain ⟨o112, hM115, hM⟩ := bind_ex hM
    refine wp_cut (fun a u => ∃ (p111 : Int × List (Int × Int × Int)) (B113 : Option Addr) (d114 : Nat), p111 = o112 ∧ Fr a 104 [(0, .pointer (some ⟨g0, 0, none⟩)), (1, .int .i64 x2), (4, .pointer (some ⟨g101, 0, none⟩)), (5, .pointer (some ⟨g103, 0, none⟩))] ∧ St w0 u (Asn.box g0 57 #[.slice A0 x0.length c0, .int .i64 p111.1] :: Asn.box g103 37 #[.int .i64 p105.2, .slice B113 p111.2.length d114] :: Asn.box g101 37 #[.int .i64 0, .slice none 0 0] :: Asn.row 34 3 (.slice B113 p111.2.length d114) p111.2.length (p111.2.flatMap eLine) :: X)) ?_ ?_
    · have _ := trivial
      refine wp_block ?_
      replace S := S.nilrow 34 3
      refine loop_gw (fun m a u => ∃ (p116 : Int × Int × List (Int × Int × Int)) (B117 : Option Addr) (d118 : Nat), m_spec_l20Net_l1 x0 p105 m p116 = some _ ∧ Fr a 104 [(0, .pointer (some ⟨g0, 0, none⟩)), (1, .int .i64 x2), (4, .pointer (some ⟨g101, 0, none⟩)), (5, .pointer (some ⟨g103, 0, none⟩)), (6, .int .i64 p116.1)] ∧ St w0 u (Asn.box g0 57 #[.slice A0 x0.length c0, .int .i64 p116.2.1] :: Asn.box g103 37 #[.int .i64 p105.2, .slice B117 p116.2.2.length d118] :: Asn.box g101 37 #[.int .i64 0, .slice none 0 0] :: Asn.row 34 3 (.slice B117 p116.2.2.length d118) p116.2.2.length (p116.2.2.flatMap eLine) :: X)) FUEL ⟨(p110.1, p110.2, ([] : List (Int × Int × Int))), none, 0, hM115, hF.keep _ ⟨rfl, rfl, rfl, rfl, rfl, trivial⟩, S.selT (M := [.box g0 57 #[.slice A0 x0.length c0, .int .i64 p110.2], .box g103 37 #[.int .i64 p105.2, .slice none 0 0], .box g101 37 #[.int .i64 0, .slice none 0 0], .row 34 3 (.slice none 0 0) 0 (([] : List (Int × Int × Int)).flatMap eLine)]) 4 [1, 2, 3, 0] rfl rfl rfl⟩ ?_
      clear hF S hM115; rintro m a u ⟨p116, B117, d118, hM115, hF, S⟩
      rcases m with _ | f1
      · exact none_some hM115
      rw [m_spec_l20Net_l1.eq_2] at hM115
      refine wp_seq ?_
      refine wp_seq ?_
      refine wp_region_lit ?_
      refine op_val (v := .int .i64 p116.1) rfl rfl hF rfl (run_move rfl (hF.ev rfl)) ?_; clear hF; intro a hF
      refine op_val (v := .bool (ltB 0 p116.1)) rfl rfl hF rfl (run_gtr (hF.ev rfl) rfl rfl) ?_; clear hF; intro a hF
      refine op_val (v := .bool (ltB 0 p116.1)) rfl rfl hF rfl (run_move rfl (hF.ev rfl)) ?_; clear hF; intro a hF
      refine op_gv (v := .pointer (some ⟨g103, 0, none⟩)) rfl rfl hF rfl (yt (gw_yield hF rfl rfl rfl)) (fun hg => (run_fieldAddr rfl fl37_0 (hF.ev rfl) rfl)) ?_; clear hF; intro a hF
      refine op_gv (v := .int .i64 p105.2) rfl rfl hF rfl (yt (gw_yield hF rfl rfl rfl)) (fun hg => (run_load1 rfl one3 ((hF.ev rfl).trans (gv_t hg)) ((S.free 1 rfl).cell rfl))) ?_; clear hF; intro a hF
      refine op_gv (v := .bool (ltB 1 p105.2)) rfl rfl hF rfl (yt (gw_yield hF rfl rfl rfl)) (fun hg => (run_gtr ((hF.ev rfl).trans (gv_t hg)) rfl rfl)) ?_; clear hF; intro a hF
      refine op_val (v := .bool ((ltB 0 p116.1) && (ltB 1 p105.2))) rfl rfl hF rfl (run_pick_and rfl (hF.ev rfl) (fun hp => ((hF.ev rfl).trans (gv_t hp))) rfl) ?_; clear hF; intro a hF
      refine wpList_nil ?_
      cases hc119 : ((ltB 0 p116.1) && (ltB 1 p105.2))
      · replace hM115 := bif_f hc119 hM115
        refine cond_f hF rfl hc119 ?_
        refine wp_exit ?_
        repeat with_reducible (first | refine then_exit ?_ | refine in_hit ?_ | refine in_miss rfl ?_)
        obtain rfl := Option.some.inj hM115
        exact ⟨(p116.2.1, p116.2.2), B117, d118, rfl, hF.keep _ ⟨rfl, rfl, rfl, rfl, trivial⟩, S.selT (M := [.box g0 57 #[.slice A0 x0.length c0, .int .i64 p116.2.1], .box g103 37 #[.int .i64 p105.2, .slice B117 p116.2.2.length d118], .box g101 37 #[.int .i64 0, .slice none 0 0], .row 34 3 (.slice B117 p116.2.2.length d118) p116.2.2.length (p116.2.2.flatMap eLine)]) 4 [0, 1, 2, 3] rfl rfl rfl⟩
      · replace hM115 := bif_t hc119 hM115
        refine cond_t hF rfl hc119 ?_
        refine wp_skip ?_
        refine wp_seq ?_
        refine wp_block ?_
        refine wp_seq ?_
        refine wp_region_lit ?_
        refine op_val (v := .pointer (some ⟨g0, 0, none⟩)) rfl rfl hF rfl (run_move rfl (hF.ev rfl)) ?_; clear hF; intro a hF
        refine op_val (v := .pointer (some ⟨g103, 0, none⟩)) rfl rfl hF rfl (run_fieldAddr rfl fl37_0 (hF.ev rfl) rfl) ?_; clear hF; intro a hF
        refine op_val (v := .int .i64 p105.2) rfl rfl hF rfl (run_load1 rfl one3 (hF.ev rfl) ((S.free 1 rfl).cell rfl)) ?_; clear hF; intro a hF
        obtain ⟨p120, h120, hM115⟩ := bind_ex hM115
        refine op_call rfl rfl hF rfl (run_call (vs := [.pointer (some ⟨g0, 0, none⟩), .int .i64 p105.2]) rfl rfl co19 ⟨(hF.ev rfl), (hF.ev rfl), trivial⟩) (c_spec_l20Rd_pick (x0 := x0) (x1 := p116.2.1) (x2 := p105.2) ⟨h0.rc, rfl⟩ (show St w0 _ (Asn.box g0 57 #[.slice A0 x0.length c0, .int .i64 p116.2.1] :: Asn.box g103 37 #[.int .i64 p105.2, .slice B117 p116.2.2.length d118] :: Asn.box g101 37 #[.int .i64 0, .slice none 0 0] :: Asn.row 34 3 (.slice B117 p116.2.2.length d118) p116.2.2.length (p116.2.2.flatMap eLine) :: X) from S.selT (M := [.box g0 57 #[.slice A0 x0.length c0, .int .i64 p116.2.1], .box g103 37 #[.int .i64 p105.2, .slice B117 p116.2.2.length d118], .box g101 37 #[.int .i64 0, .slice none 0 0], .row 34 3 (.slice B117 p116.2.2.length d118) p116.2.2.length (p116.2.2.flatMap eLine)]) 4 [0, 1, 2, 3] rfl rfl rfl) h120) ?_
        rintro e u ⟨rfl, T⟩
        refine ⟨_, rfl, ?_⟩
        clear hF; intro a hF
        clear S; have S := T; clear T
        refine op_val (v := .int .i64 p120.1) rfl rfl hF rfl (run_assign rfl (hF.ev rfl)) ?_; clear hF; intro a hF
        refine wpList_nil ?_
        refine wp_seq ?_
        obtain ⟨p121, h121, hM115⟩ := bind_ex hM115
        obtain ⟨hk122, hM115⟩ := chk_ex hM115
        replace hk122 := nzB_t hk122
        refine region_gw (D := [35, 36, 37, 38, 39, 40, 41, 42, 43, 44, 45, 8]) (Lr := (Asn.box g103 37 #[.int .i64 p105.2, .slice B117 p116.2.2.length d118] :: Asn.box g101 37 #[.int .i64 0, .slice none 0 0] :: Asn.row 34 3 (.slice B117 p116.2.2.length d118) p116.2.2.length (p116.2.2.flatMap eLine) :: X)) (deps := (fun | 0 => [35] | 1 => [36] | 2 => [37] | 3 => [38] | 4 => [39] | 5 => [40] | 6 => [41] | 7 => [42] | 8 => [43] | 9 => [44] | 10 => [45] | 11 => [8] | _ => [])) (rd := (fun _ => [])) (zr := (fun _ => []))
          (φ := fun i vs => match i, vs with | 0, [v35] => v35 = .int .i64 p120.1 | 1, [v36] => v36 = .int .i64 (w64 (p120.1 + 1)) | 2, [v37] => v37 = .pointer (some ⟨g0, 0, none⟩) | 3, [v38] => v38 = .pointer (some ⟨g103, 0, none⟩) | 4, [v39] => v39 = .int .i64 p105.2 | 5, [v40] => v40 = .int .i64 (w64 (p105.2 - 1)) | 6, [v41] => v41 = .int .i64 p121.1 | 7, [v42] => v42 = .int .i64 (w64 ((w64 (p120.1 + 1)) + p121.1)) | 8, [v43] => v43 = .pointer (some ⟨g103, 0, none⟩) | 9, [v44] => v44 = .int .i64 p105.2 | 10, [v45] => v45 = .int .i64 (Int.tmod (w64 ((w64 (p120.1 + 1)) + p121.1)) p105.2) | 11, [v8] => v8 = .int .i64 (Int.tmod (w64 ((w64 (p120.1 + 1)) + p121.1)) p105.2) | _, _ => True)
          (C := fun i vs => match i, vs with | 6, [v41] => [.box g0 57 #[.slice A0 x0.length c0, .int .i64 p121.2]] | _, _ => [])
          (κ := (fun _ => none)) (Z := (fun | 6 => [.box g0 57 #[.slice A0 x0.length c0, .int .i64 p120.2]] | _ => [])) mixed hF (by kernel_rfl) (show St w0 _ (Asn.box g0 57 #[.slice A0 x0.length c0, .int .i64 p120.2] :: Asn.box g103 37 #[.int .i64 p105.2, .slice B117 p116.2.2.length d118] :: Asn.box g101 37 #[.int .i64 0, .slice none 0 0] :: Asn.row 34 3 (.slice B117 p116.2.2.length d118) p116.2.2.length (p116.2.2.flatMap eLine) :: X) from S.selT (M := [.box g0 57 #[.slice A0 x0.length c0, .int .i64 p120.2], .box g103 37 #[.int .i64 p105.2, .slice B117 p116.2.2.length d118], .box g101 37 #[.int .i64 0, .slice none 0 0], .row 34 3 (.slice B117 p116.2.2.length d118) p116.2.2.length (p116.2.2.flatMap eLine)]) 4 [0, 1, 2, 3] rfl rfl rfl) ?_ ?_
        · refine ⟨?_, ?_, ?_, ?_, ?_, ?_, ?_, ?_, ?_, ?_, ?_, ?_, trivial⟩
          · intro a u X' hB hu hp hr hz hl S
            replace S : St w0 u ([] ++ X') := S
            exact .inl ⟨rfl, .int .i64 p120.1, u, (run_move rfl (hF.evB hB rfl rfl)), rfl, S⟩
          · intro a u X' hB hu hp hr hz hl S
            replace S : St w0 u ([] ++ X') := S
            have e35 : sl a 35 = .int .i64 p120.1 := hp 0 rfl
            exact .inl ⟨rfl, .int .i64 (w64 (p120.1 + 1)), u, (run_add (z := w64 (p120.1 + 1)) (ev_sl e35) (ev_const _ _) rfl rfl), rfl, S⟩
          · intro a u X' hB hu hp hr hz hl S
            replace S : St w0 u ([] ++ X') := S
            exact .inl ⟨rfl, .pointer (some ⟨g0, 0, none⟩), u, (run_move rfl (hF.evB hB rfl rfl)), rfl, S⟩
          · intro a u X' hB hu hp hr hz hl S
            replace S : St w0 u ([] ++ X') := S
            exact .inl ⟨rfl, .pointer (some ⟨g103, 0, none⟩), u, (run_fieldAddr rfl fl37_0 (hF.evB hB rfl rfl) rfl), rfl, S⟩
          · intro a u X' hB hu hp hr hz hl S
            replace S : St w0 u ([] ++ X') := S
            have e38 : sl a 38 = .pointer (some ⟨g103, 0, none⟩) := hp 3 rfl
            exact .inl ⟨rfl, .int .i64 p105.2, u, (run_load1 rfl one3 (ev_sl e38) ((gr_box S hl 0 rfl).cell rfl)), rfl, S⟩
          · intro a u X' hB hu hp hr hz hl S
            replace S : St w0 u ([] ++ X') := S
            have e39 : sl a 39 = .int .i64 p105.2 := hp 4 rfl
            exact .inl ⟨rfl, .int .i64 (w64 (p105.2 - 1)), u, (run_sub (z := w64 (p105.2 - 1)) (ev_sl e39) (ev_const _ _) rfl rfl), rfl, S⟩
          · intro a u X' hB hu hp hr hz hl S
            replace S : St w0 u ([.box g0 57 #[.slice A0 x0.length c0, .int .i64 p120.2]] ++ X') := S
            have e37 : sl a 37 = .pointer (some ⟨g0, 0, none⟩) := hp 2 rfl
            have e40 : sl a 40 = .int .i64 (w64 (p105.2 - 1)) := hp 5 rfl
            refine .inr (.inr (.inl ⟨rfl, _, _, (run_call (vs := [.pointer (some ⟨g0, 0, none⟩), .int .i64 (w64 (p105.2 - 1))]) rfl rfl co19 ⟨(ev_sl e37), (ev_sl e40), trivial⟩), ?_⟩))
            refine Calls.mono (c_spec_l20Rd_pick (x0 := x0) (x1 := p120.2) (x2 := w64 (p105.2 - 1)) ⟨h0.rc, rfl⟩ S h121) ?_
            rintro e w1 ⟨rfl, T⟩
            exact ⟨_, rfl, rfl, T⟩
          · intro a u X' hB hu hp hr hz hl S
            replace S : St w0 u ([] ++ X') := S
            have e36 : sl a 36 = .int .i64 (w64 (p120.1 + 1)) := hp 1 rfl
            have e41 : sl a 41 = .int .i64 p121.1 := hp 6 rfl
            exact .inl ⟨rfl, .int .i64 (w64 ((w64 (p120.1 + 1)) + p121.1)), u, (run_add (z := w64 ((w64 (p120.1 + 1)) + p121.1)) (ev_sl e36) (ev_sl e41) rfl rfl), rfl, S⟩
          · intro a u X' hB hu hp hr hz hl S
            replace S : St w0 u ([] ++ X') := S
            exact .inl ⟨rfl, .pointer (some ⟨g103, 0, none⟩), u, (run_fieldAddr rfl fl37_0 (hF.evB hB rfl rfl) rfl), rfl, S⟩
          · intro a u X' hB hu hp hr hz hl S
            replace S : St w0 u ([] ++ X') := S
            have e43 : sl a 43 = .pointer (some ⟨g103, 0, none⟩) := hp 8 rfl
            exact .inl ⟨rfl, .int .i64 p105.2, u, (run_load1 rfl one3 (ev_sl e43) ((gr_box S hl 0 rfl).cell rfl)), rfl, S⟩
          · intro a u X' hB hu hp hr hz hl S
            replace S : St w0 u ([] ++ X') := S
            have e42 : sl a 42 = .int .i64 (w64 ((w64 (p120.1 + 1)) + p121.1)) := hp 7 rfl
            have e44 : sl a 44 = .int .i64 p105.2 := hp 9 rfl
            exact .inl ⟨rfl, .int .i64 (Int.tmod (w64 ((w64 (p120.1 + 1)) + p121.1)) p105.2), u, (run_rem (z := Int.tmod (w64 ((w64 (p120.1 + 1)) + p121.1)) p105.2) (ev_sl e42) (ev_sl e44) rfl hk122 rfl), rfl, S⟩
          · intro a u X' hB hu hp hr hz hl S
            replace S : St w0 u ([] ++ X') := S
            have e45 : sl a 45 = .int .i64 (Int.tmod (w64 ((w64 (p120.1 + 1)) + p121.1)) p105.2) := hp 10 rfl
            exact .inl ⟨rfl, .int .i64 (Int.tmod (w64 ((w64 (p120.1 + 1)) + p121.1)) p105.2), u, (run_assign rfl (ev_sl e45)), rfl, S⟩
        · intro a u hB hp S
          obtain ⟨q0, q1, q2, q3, q4, q5, q6, q7, q8, q9, q10, q11, _⟩ := hp
          have e35 : sl a 35 = .int .i64 p120.1 := q0
          have e36 : sl a 36 = .int .i64 (w64 (p120.1 + 1)) := q1
          have e37 : sl a 37 = .pointer (some ⟨g0, 0, none⟩) := q2
          have e38 : sl a 38 = .pointer (some ⟨g103, 0, none⟩) := q3
          have e39 : sl a 39 = .int .i64 p105.2 := q4
          have e40 : sl a 40 = .int .i64 (w64 (p105.2 - 1)) := q5
          have e41 : sl a 41 = .int .i64 p121.1 := q6
          have e42 : sl a 42 = .int .i64 (w64 ((w64 (p120.1 + 1)) + p121.1)) := q7
          have e43 : sl a 43 = .pointer (some ⟨g103, 0, none⟩) := q8
          have e44 : sl a 44 = .int .i64 p105.2 := q9
          have e45 : sl a 45 = .int .i64 (Int.tmod (w64 ((w64 (p120.1 + 1)) + p121.1)) p105.2) := q10
          have e8 : sl a 8 = .int .i64 (Int.tmod (w64 ((w64 (p120.1 + 1)) + p121.1)) p105.2) := q11
          replace S : St w0 u (Asn.box g0 57 #[.slice A0 x0.length c0, .int .i64 p121.2] :: Asn.box g103 37 #[.int .i64 p105.2, .slice B117 p116.2.2.length d118] :: Asn.box g101 37 #[.int .i64 0, .slice none 0 0] :: Asn.row 34 3 (.slice B117 p116.2.2.length d118) p116.2.2.length (p116.2.2.flatMap eLine) :: X) := S
          clear q0 q1 q2 q3 q4 q5 q6 q7 q8 q9 q10 q11
          have hF := hF.region hB [(35, .int .i64 p120.1), (36, .int .i64 (w64 (p120.1 + 1))), (37, .pointer (some ⟨g0, 0, none⟩)), (38, .pointer (some ⟨g103, 0, none⟩)), (39, .int .i64 p105.2), (40, .int .i64 (w64 (p105.2 - 1))), (41, .int .i64 p121.1), (42, .int .i64 (w64 ((w64 (p120.1 + 1)) + p121.1))), (43, .pointer (some ⟨g103, 0, none⟩)), (44, .int .i64 p105.2), (45, .int .i64 (Int.tmod (w64 ((w64 (p120.1 + 1)) + p121.1)) p105.2)), (8, .int .i64 (Int.tmod (w64 ((w64 (p120.1 + 1)) + p121.1)) p105.2))] (allSl_mem ⟨e35, e36, e37, e38, e39, e40, e41, e42, e43, e44, e45, e8, trivial⟩) rfl
          clear hB e35 e36 e37 e38 e39 e40 e41 e42 e43 e44 e45 e8
          obtain ⟨p123, h123, hM115⟩ := bind_ex hM115
          obtain ⟨hk124, hM115⟩ := chk_ex hM115
          replace hk124 := apB_t hk124
          refine region_gw (D := [46, 47, 48, 49, 50, 51, 52, 53, 54, 55, 56]) (Lr := (Asn.box g101 37 #[.int .i64 0, .slice none 0 0] :: X)) (deps := (fun | 0 => [46] | 1 => [47] | 2 => [48] | 3 => [49] | 4 => [50] | 5 => [51] | 6 => [52] | 7 => [53] | 8 => [54] | 9 => [55] | 10 => [56] | 11 => [56, 55] | _ => [])) (rd := (fun | 9 => [8] | _ => [])) (zr := (fun | 1 => [11] | _ => []))
            (φ := fun i vs => match i, vs with | 0, [v46] => v46 = .pointer (some ⟨g103, 1, none⟩) | 1, [v47] => v47 = .slice B117 p116.2.2.length d118 | 2, [v48] => v48 = .int .i64 p120.1 | 3, [v49] => v49 = .int .i64 (Int.tmod (w64 ((w64 (p120.1 + 1)) + p121.1)) p105.2) | 4, [v50] => v50 = .pointer (some ⟨g0, 0, none⟩) | 5, [v51] => v51 = .int .i64 p123.1 | 6, [v52] => v52 = .int .i64 (w64 (1 + p123.1)) | 7, [v53] => v53 = .agg #[.int .i64 p120.1, .int .i64 (Int.tmod (w64 ((w64 (p120.1 + 1)) + p121.1)) p105.2), .int .i64 (w64 (1 + p123.1))] | 8, [v54] => v54 = .slice (slA v54) ((([(p120.1, Int.tmod (w64 ((w64 (p120.1 + 1)) + p121.1)) p105.2, w64 (1 + p123.1))] : List (Int × Int × Int)) : List (Int × Int × Int)).length) ((([(p120.1, Int.tmod (w64 ((w64 (p120.1 + 1)) + p121.1)) p105.2, w64 (1 + p123.1))] : List (Int × Int × Int)) : List (Int × Int × Int)).length) | 9, [v55] => v55 = .slice (slA v55) ((p116.2.2 ++ ([(p120.1, Int.tmod (w64 ((w64 (p120.1 + 1)) + p121.1)) p105.2, w64 (1 + p123.1))] : List (Int × Int × Int))).length) (slC v55) | 10, [v56] => v56 = .pointer (some ⟨g103, 1, none⟩) | _, _ => True)
            (C := fun i vs => match i, vs with | 5, [v51] => [.box g0 57 #[.slice A0 x0.length c0, .int .i64 p123.2]] | 8, [v54] => [.row 34 3 (.slice (slA v54) ((([(p120.1, Int.tmod (w64 ((w64 (p120.1 + 1)) + p121.1)) p105.2, w64 (1 + p123.1))] : List (Int × Int × Int)) : List (Int × Int × Int)).length) ((([(p120.1, Int.tmod (w64 ((w64 (p120.1 + 1)) + p121.1)) p105.2, w64 (1 + p123.1))] : List (Int × Int × Int)) : List (Int × Int × Int)).length)) ((([(p120.1, Int.tmod (w64 ((w64 (p120.1 + 1)) + p121.1)) p105.2, w64 (1 + p123.1))] : List (Int × Int × Int)) : List (Int × Int × Int)).length) (([(p120.1, Int.tmod (w64 ((w64 (p120.1 + 1)) + p121.1)) p105.2, w64 (1 + p123.1))] : List (Int × Int × Int)).flatMap eLine)] | 9, [v55] => [.row 34 3 (.slice (slA v55) ((p116.2.2 ++ ([(p120.1, Int.tmod (w64 ((w64 (p120.1 + 1)) + p121.1)) p105.2, w64 (1 + p123.1))] : List (Int × Int × Int))).length) (slC v55)) ((p116.2.2 ++ ([(p120.1, Int.tmod (w64 ((w64 (p120.1 + 1)) + p121.1)) p105.2, w64 (1 + p123.1))] : List (Int × Int × Int))).length) ((p116.2.2 ++ ([(p120.1, Int.tmod (w64 ((w64 (p120.1 + 1)) + p121.1)) p105.2, w64 (1 + p123.1))] : List (Int × Int × Int))).flatMap eLine)] | 11, [v56, v55] => [.box g103 37 #[.int .i64 p105.2, .slice (slA v55) ((p116.2.2 ++ ([(p120.1, Int.tmod (w64 ((w64 (p120.1 + 1)) + p121.1)) p105.2, w64 (1 + p123.1))] : List (Int × Int × Int))).length) (slC v55)]] | _, _ => [])
            (κ := (fun _ => none)) (Z := (fun | 5 => [.box g0 57 #[.slice A0 x0.length c0, .int .i64 p121.2]] | 9 => [.row 34 3 (.slice B117 p116.2.2.length d118) p116.2.2.length (p116.2.2.flatMap eLine)] | 11 => [.box g103 37 #[.int .i64 p105.2, .slice B117 p116.2.2.length d118]] | _ => [])) mixed hF (by kernel_rfl) (show St w0 _ (Asn.box g0 57 #[.slice A0 x0.length c0, .int .i64 p121.2] :: Asn.row 34 3 (.slice B117 p116.2.2.length d118) p116.2.2.length (p116.2.2.flatMap eLine) :: Asn.box g103 37 #[.int .i64 p105.2, .slice B117 p116.2.2.length d118] :: Asn.box g101 37 #[.int .i64 0, .slice none 0 0] :: X) from S.selT (M := [.box g0 57 #[.slice A0 x0.length c0, .int .i64 p121.2], .row 34 3 (.slice B117 p116.2.2.length d118) p116.2.2.length (p116.2.2.flatMap eLine), .box g103 37 #[.int .i64 p105.2, .slice B117 p116.2.2.length d118], .box g101 37 #[.int .i64 0, .slice none 0 0]]) 4 [0, 3, 1, 2] rfl rfl rfl) ?_ ?_
          · refine ⟨?_, ?_, ?_, ?_, ?_, ?_, ?_, ?_, ?_, ?_, ?_, ?_, trivial⟩
            · intro a u X' hB hu hp hr hz hl S
              replace S : St w0 u ([] ++ X') := S
              exact .inl ⟨rfl, .pointer (some ⟨g103, 1, none⟩), u, (run_fieldAddr rfl fl37_1 (hF.evB hB rfl rfl) rfl), rfl, S⟩
            · intro a u X' hB hu hp hr hz hl S
              replace S : St w0 u ([] ++ X') := S
              have e46 : sl a 46 = .pointer (some ⟨g103, 1, none⟩) := hp 0 rfl
              exact .inl ⟨rfl, .slice B117 p116.2.2.length d118, u, (run_load1 rfl one35 (ev_sl e46) ((show Bk _ _ _ _ from S.mem (List.mem_append_right _ (hz 11 (List.mem_of_getElem? (i := 0) rfl) _ (List.mem_of_getElem? (i := 0) rfl)))).cell rfl)), rfl, S⟩
            · intro a u X' hB hu hp hr hz hl S
              replace S : St w0 u ([] ++ X') := S
              exact .inl ⟨rfl, .int .i64 p120.1, u, (run_move rfl (hF.evB hB rfl rfl)), rfl, S⟩
            · intro a u X' hB hu hp hr hz hl S
              replace S : St w0 u ([] ++ X') := S
              exact .inl ⟨rfl, .int .i64 (Int.tmod (w64 ((w64 (p120.1 + 1)) + p121.1)) p105.2), u, (run_move rfl (hF.evB hB rfl rfl)), rfl, S⟩
            · intro a u X' hB hu hp hr hz hl S
              replace S : St w0 u ([] ++ X') := S
              exact .inl ⟨rfl, .pointer (some ⟨g0, 0, none⟩), u, (run_move rfl (hF.evB hB rfl rfl)), rfl, S⟩
            · intro a u X' hB hu hp hr hz hl S
              replace S : St w0 u ([.box g0 57 #[.slice A0 x0.length c0, .int .i64 p121.2]] ++ X') := S
              have e50 : sl a 50 = .pointer (some ⟨g0, 0, none⟩) := hp 4 rfl
              refine .inr (.inr (.inl ⟨rfl, _, _, (run_call (vs := [.pointer (some ⟨g0, 0, none⟩), .int .i64 40]) rfl rfl co19 ⟨(ev_sl e50), (ev_const _ _), trivial⟩), ?_⟩))
              refine Calls.mono (c_spec_l20Rd_pick (x0 := x0) (x1 := p121.2) (x2 := 40) ⟨h0.rc, rfl⟩ S h123) ?_
              rintro e w1 ⟨rfl, T⟩
              exact ⟨_, rfl, rfl, T⟩
            · intro a u X' hB hu hp hr hz hl S
              replace S : St w0 u ([] ++ X') := S
              have e51 : sl a 51 = .int .i64 p123.1 := hp 5 rfl
              exact .inl ⟨rfl, .int .i64 (w64 (1 + p123.1)), u, (run_add (z := w64 (1 + p123.1)) (ev_const _ _) (ev_sl e51) rfl rfl), rfl, S⟩
            · intro a u X' hB hu hp hr hz hl S
              replace S : St w0 u ([] ++ X') := S
              have e48 : sl a 48 = .int .i64 p120.1 := hp 2 rfl
              have e49 : sl a 49 = .int .i64 (Int.tmod (w64 ((w64 (p120.1 + 1)) + p121.1)) p105.2) := hp 3 rfl
              have e52 : sl a 52 = .int .i64 (w64 (1 + p123.1)) := hp 6 rfl
              exact .inl ⟨rfl, .agg #[.int .i64 p120.1, .int .i64 (Int.tmod (w64 ((w64 (p120.1 + 1)) + p121.1)) p105.2), .int .i64 (w64 (1 + p123.1))], u, (run_build (vs := [(0, .int .i64 p120.1), (1, .int .i64 (Int.tmod (w64 ((w64 (p120.1 + 1)) + p121.1)) p105.2)), (2, .int .i64 (w64 (1 + p123.1)))]) rfl ⟨⟨rfl, (ev_sl e48)⟩, ⟨rfl, (ev_sl e49)⟩, ⟨rfl, (ev_sl e52)⟩, trivial⟩ (bd34_0_1_2 rfl rfl rfl)), rfl, S⟩
            · intro a u X' hB hu hp hr hz hl S
              replace S : St w0 u ([] ++ X') := S
              have e53 : sl a 53 = .agg #[.int .i64 p120.1, .int .i64 (Int.tmod (w64 ((w64 (p120.1 + 1)) + p121.1)) p105.2), .int .i64 (w64 (1 + p123.1))] := hp 7 rfl
              exact .inl ⟨rfl, _, _, run_buildS (vs := [(0, .agg #[.int .i64 p120.1, .int .i64 (Int.tmod (w64 ((w64 (p120.1 + 1)) + p121.1)) p105.2), .int .i64 (w64 (1 + p123.1))])]) rfl ⟨⟨rfl, (ev_sl e53)⟩, trivial⟩ (bs35_1_3 ), rfl, S.newrowL (e := eLine) (ls := ([(p120.1, Int.tmod (w64 ((w64 (p120.1 + 1)) + p121.1)) p105.2, w64 (1 + p123.1))] : List (Int × Int × Int))) rfl eLine_len (Nat.le_of_ble_eq_true rfl)⟩
            · intro a u X' hB hu hp hr hz hl S
              replace S : St w0 u ([.row 34 3 (.slice B117 p116.2.2.length d118) p116.2.2.length (p116.2.2.flatMap eLine)] ++ X') := S
              have e47 : sl a 47 = .slice B117 p116.2.2.length d118 := hp 1 rfl
              have e54 : sl a 54 = .slice (slA (sl a 54)) ((([(p120.1, Int.tmod (w64 ((w64 (p120.1 + 1)) + p121.1)) p105.2, w64 (1 + p123.1))] : List (Int × Int × Int)) : List (Int × Int × Int)).length) ((([(p120.1, Int.tmod (w64 ((w64 (p120.1 + 1)) + p121.1)) p105.2, w64 (1 + p123.1))] : List (Int × Int × Int)) : List (Int × Int × Int)).length) := hp 8 rfl
              obtain ⟨B, d, w', hrun, S'⟩ := S.appendL (i := 0) (P := Tryd.prog) (ty := 35) (lx := p116.2.2) (ly := ([(p120.1, Int.tmod (w64 ((w64 (p120.1 + 1)) + p121.1)) p105.2, w64 (1 + p123.1))] : List (Int × Int × Int))) (c' := ((([(p120.1, Int.tmod (w64 ((w64 (p120.1 + 1)) + p121.1)) p105.2, w64 (1 + p123.1))] : List (Int × Int × Int)) : List (Int × Int × Int)).length)) rfl rfl Tryd.underlying35 inf34 rfl (by decide) (own_rc (show Ow _ _ _ _ _ _ from S.mem (List.mem_append_right _ (hr 8 (List.mem_of_getElem? (i := 0) rfl) _ (List.mem_of_getElem? (i := 0) rfl))))).rd rfl eLine_one hk124 (by decide)
              exact .inl ⟨rfl, _, w', run_append rfl (ev_sl e47) (ev_sl e54) hrun, rfl, S'⟩
            · intro a u X' hB hu hp hr hz hl S
              replace S : St w0 u ([] ++ X') := S
              exact .inl ⟨rfl, .pointer (some ⟨g103, 1, none⟩), u, (run_fieldAddr rfl fl37_1 (hF.evB hB rfl rfl) rfl), rfl, S⟩
            · intro a u X' hB hu hp hr hz hl S
              replace S : St w0 u ([.box g103 37 #[.int .i64 p105.2, .slice B117 p116.2.2.length d118]] ++ X') := S
              have e55 : sl a 55 = .slice (slA (sl a 55)) ((p116.2.2 ++ ([(p120.1, Int.tmod (w64 ((w64 (p120.1 + 1)) + p121.1)) p105.2, w64 (1 + p123.1))] : List (Int × Int × Int))).length) (slC (sl a 55)) := hp 9 rfl
              have e56 : sl a 56 = .pointer (some ⟨g103, 1, none⟩) := hp 10 rfl
              exact .inr (.inl ⟨rfl, _, run_store (cs' := #[.int .i64 p105.2, .slice (slA (sl a 55)) ((p116.2.2 ++ ([(p120.1, Int.tmod (w64 ((w64 (p120.1 + 1)) + p121.1)) p105.2, w64 (1 + p123.1))] : List (Int × Int × Int))).length) (slC (sl a 55))]) rfl sz35 (ev_sl e56) (ev_sl e55) rfl rfl rfl (S.free 0 rfl) rfl rfl, trivial, S.put 0 rfl (#[.int .i64 p105.2, .slice (slA (sl a 55)) ((p116.2.2 ++ ([(p120.1, Int.tmod (w64 ((w64 (p120.1 + 1)) + p121.1)) p105.2, w64 (1 + p123.1))] : List (Int × Int × Int))).length) (slC (sl a 55))])⟩)
          · intro a u hB hp S
            obtain ⟨q0, q1, q2, q3, q4, q5, q6, q7, q8, q9, q10, q11, _⟩ := hp
            have e46 : sl a 46 = .pointer (some ⟨g103, 1, none⟩) := q0
            have e47 : sl a 47 = .slice B117 p116.2.2.length d118 := q1
            have e48 : sl a 48 = .int .i64 p120.1 := q2
            have e49 : sl a 49 = .int .i64 (Int.tmod (w64 ((w64 (p120.1 + 1)) + p121.1)) p105.2) := q3
            have e50 : sl a 50 = .pointer (some ⟨g0, 0, none⟩) := q4
            have e51 : sl a 51 = .int .i64 p123.1 := q5
            have e52 : sl a 52 = .int .i64 (w64 (1 + p123.1)) := q6
            have e53 : sl a 53 = .agg #[.int .i64 p120.1, .int .i64 (Int.tmod (w64 ((w64 (p120.1 + 1)) + p121.1)) p105.2), .int .i64 (w64 (1 + p123.1))] := q7
            have e54 : sl a 54 = .slice (slA (sl a 54)) ((([(p120.1, Int.tmod (w64 ((w64 (p120.1 + 1)) + p121.1)) p105.2, w64 (1 + p123.1))] : List (Int × Int × Int)) : List (Int × Int × Int)).length) ((([(p120.1, Int.tmod (w64 ((w64 (p120.1 + 1)) + p121.1)) p105.2, w64 (1 + p123.1))] : List (Int × Int × Int)) : List (Int × Int × Int)).length) := q8
            have e55 : sl a 55 = .slice (slA (sl a 55)) ((p116.2.2 ++ ([(p120.1, Int.tmod (w64 ((w64 (p120.1 + 1)) + p121.1)) p105.2, w64 (1 + p123.1))] : List (Int × Int × Int))).length) (slC (sl a 55)) := q9
            have e56 : sl a 56 = .pointer (some ⟨g103, 1, none⟩) := q10
            replace S : St w0 u (Asn.box g0 57 #[.slice A0 x0.length c0, .int .i64 p123.2] :: Asn.row 34 3 (.slice (slA (sl a 54)) ((([(p120.1, Int.tmod (w64 ((w64 (p120.1 + 1)) + p121.1)) p105.2, w64 (1 + p123.1))] : List (Int × Int × Int)) : List (Int × Int × Int)).length) ((([(p120.1, Int.tmod (w64 ((w64 (p120.1 + 1)) + p121.1)) p105.2, w64 (1 + p123.1))] : List (Int × Int × Int)) : List (Int × Int × Int)).length)) ((([(p120.1, Int.tmod (w64 ((w64 (p120.1 + 1)) + p121.1)) p105.2, w64 (1 + p123.1))] : List (Int × Int × Int)) : List (Int × Int × Int)).length) (([(p120.1, Int.tmod (w64 ((w64 (p120.1 + 1)) + p121.1)) p105.2, w64 (1 + p123.1))] : List (Int × Int × Int)).flatMap eLine) :: Asn.row 34 3 (.slice (slA (sl a 55)) ((p116.2.2 ++ ([(p120.1, Int.tmod (w64 ((w64 (p120.1 + 1)) + p121.1)) p105.2, w64 (1 + p123.1))] : List (Int × Int × Int))).length) (slC (sl a 55))) ((p116.2.2 ++ ([(p120.1, Int.tmod (w64 ((w64 (p120.1 + 1)) + p121.1)) p105.2, w64 (1 + p123.1))] : List (Int × Int × Int))).length) ((p116.2.2 ++ ([(p120.1, Int.tmod (w64 ((w64 (p120.1 + 1)) + p121.1)) p105.2, w64 (1 + p123.1))] : List (Int × Int × Int))).flatMap eLine) :: Asn.box g103 37 #[.int .i64 p105.2, .slice (slA (sl a 55)) ((p116.2.2 ++ ([(p120.1, Int.tmod (w64 ((w64 (p120.1 + 1)) + p121.1)) p105.2, w64 (1 + p123.1))] : List (Int × Int × Int))).length) (slC (sl a 55))] :: Asn.box g101 37 #[.int .i64 0, .slice none 0 0] :: X) := S
            clear q0 q1 q2 q3 q4 q5 q6 q7 q8 q9 q10 q11
            generalize slA (sl a 54) = B125 at *
            generalize slA (sl a 55) = B126 at *
            generalize slC (sl a 55) = d127 at *
            have hF := hF.region hB [(46, .pointer (some ⟨g103, 1, none⟩)), (47, .slice B117 p116.2.2.length d118), (48, .int .i64 p120.1), (49, .int .i64 (Int.tmod (w64 ((w64 (p120.1 + 1)) + p121.1)) p105.2)), (50, .pointer (some ⟨g0, 0, none⟩)), (51, .int .i64 p123.1), (52, .int .i64 (w64 (1 + p123.1))), (53, .agg #[.int .i64 p120.1, .int .i64 (Int.tmod (w64 ((w64 (p120.1 + 1)) + p121.1)) p105.2), .int .i64 (w64 (1 + p123.1))]), (54, .slice B125 ((([(p120.1, Int.tmod (w64 ((w64 (p120.1 + 1)) + p121.1)) p105.2, w64 (1 + p123.1))] : List (Int × Int × Int)) : List (Int × Int × Int)).length) ((([(p120.1, Int.tmod (w64 ((w64 (p120.1 + 1)) + p121.1)) p105.2, w64 (1 + p123.1))] : List (Int × Int × Int)) : List (Int × Int × Int)).length)), (55, .slice B126 ((p116.2.2 ++ ([(p120.1, Int.tmod (w64 ((w64 (p120.1 + 1)) + p121.1)) p105.2, w64 (1 + p123.1))] : List (Int × Int × Int))).length) d127), (56, .pointer (some ⟨g103, 1, none⟩))] (allSl_mem ⟨e46, e47, e48, e49, e50, e51, e52, e53, e54, e55, e56, trivial⟩) rfl
            clear hB e46 e47 e48 e49 e50 e51 e52 e53 e54 e55 e56
            refine wp_region_lit ?_
            refine op_val (v := .int .i64 p116.1) rfl rfl hF rfl (run_move rfl (hF.ev rfl)) ?_; clear hF; intro a hF
            refine op_val (v := .int .i64 (w64 (p116.1 - 1))) rfl rfl hF rfl (run_sub (z := w64 (p116.1 - 1)) (hF.ev rfl) rfl rfl rfl) ?_; clear hF; intro a hF
            refine op_val (v := .int .i64 (w64 (p116.1 - 1))) rfl rfl hF rfl (run_assign rfl (hF.ev rfl)) ?_; clear hF; intro a hF
            refine wpList_nil ?_
            exact ⟨f1, Nat.lt_succ_self _, (w64 (p116.1 - 1), p123.2, p116.2.2 ++ ([(p120.1, Int.tmod (w64 ((w64 (p120.1 + 1)) + p121.1)) p105.2, w64 (1 + p123.1))] : List (Int × Int × Int))), B126, d127, hM115, hF.keep _ ⟨rfl, rfl, rfl, rfl, rfl, trivial⟩, S.selT (M := [.box g0 57 #[.slice A0 x0.length c0, .int .i64 p123.2], .box g103 37 #[.int .i64 p105.2, .slice B126 ((p116.2.2 ++ ([(p120.1, Int.tmod (w64 ((w64 (p120.1 + 1)) + p121.1)) p105.2, w64 (1 + p123.1))] : List (Int × Int × Int))).length) d127], .box g101 37 #[.int .i64 0, .slice none 0 0], .row 34 3 (.slice B126 ((p116.2.2 ++ ([(p120.1, Int.tmod (w64 ((w64 (p120.1 + 1)) + p121.1)) p105.2, w64 (1 + p123.1))] : List (Int × Int × Int))).length) d127) ((p116.2.2 ++ ([(p120.1, Int.tmod (w64 ((w64 (p120.1 + 1)) + p121.1)) p105.2, w64 (1 + p123.1))] : List (Int × Int × Int))).length) ((p116.2.2 ++ ([(p120.1, Int.tmod (w64 ((w64 (p120.1 + 1)) + p121.1)) p105.2, w64 (1 + p123.1))] : List (Int × Int × Int))).flatMap eLine)]) 5 [0, 3, 4, 2] rfl rfl rfl⟩
    · rintro a u ⟨p111, B113, d114, rfl, hF, S⟩
      refine wp_seq ?_
      refine wp_seq ?_
      refine wp_region_lit ?_
      refine op_val (v := .pointer (some ⟨g0, 0, none⟩)) rfl rfl hF rfl (run_move rfl (hF.ev rfl)) ?_; clear hF; intro a hF
      refine op_val (v := .int .i64 x2) rfl rfl hF rfl (run_move rfl (hF.ev rfl)) ?_; clear hF; intro a hF
      obtain ⟨p128, h128, hM⟩ := bind_ex hM
      refine op_call rfl rfl hF rfl (run_call (vs := [.pointer (some ⟨g0, 0, none⟩), .int .i64 x2]) rfl rfl co20 ⟨(hF.ev rfl), (hF.ev rfl), trivial⟩) (c_spec_l20Rd_odd (x0 := x0) (x1 := p111.1) (x2 := x2) ⟨h0.rc, rfl⟩ (show St w0 _ (Asn.box g0 57 #[.slice A0 x0.length c0, .int .i64 p111.1] :: Asn.box g103 37 #[.int .i64 p105.2, .slice B113 p111.2.length d114] :: Asn.box g101 37 #[.int .i64 0, .slice none 0 0] :: Asn.row 34 3 (.slice B113 p111.2.length d114) p111.2.length (p111.2.flatMap eLine) :: X) from S.selT (M := [.box g0 57 #[.slice A0 x0.length c0, .int .i64 p111.1], .box g103 37 #[.int .i64 p105.2, .slice B113 p111.2.length d114], .box g101 37 #[.int .i64 0, .slice none 0 0], .row 34 3 (.slice B113 p111.2.length d114) p111.2.length (p111.2.flatMap eLine)]) 4 [0, 1, 2, 3] rfl rfl rfl) h128) ?_
      rintro e u ⟨rfl, T⟩
      refine ⟨_, rfl, ?_⟩
      clear hF; intro a hF
      clear S; have S := T; clear T
      refine wpList_nil ?_
      obtain ⟨o130, hM133, hM⟩ := bind_ex hM
      refine wp_cut (fun a u => ∃ (p129 : Int × Int × List (Int × Int × Int)) (B131 : Option Addr) (d132 : Nat), p129 = o130 ∧ Fr a 104 [(4, .pointer (some ⟨g101, 0, none⟩)), (5, .pointer (some ⟨g103, 0, none⟩))] ∧ St w0 u (Asn.box g0 57 #[.slice A0 x0.length c0, .int .i64 p129.1] :: Asn.box g103 37 #[.int .i64 p129.2.1, .slice B131 p129.2.2.length d132] :: Asn.box g101 37 #[.int .i64 0, .slice none 0 0] :: Asn.row 34 3 (.slice B131 p129.2.2.length d132) p129.2.2.length (p129.2.2.flatMap eLine) :: X)) ?_ ?_
      · have _ := trivial
        cases hc134 : (p128.1)
        · replace hM133 := bif_f hc134 hM133
          refine cond_f hF rfl hc134 ?_
          refine wp_skip ?_
          obtain rfl := Option.some.inj hM133
          exact ⟨(p128.2, p105.2, p111.2), B113, d114, rfl, hF.keep _ ⟨rfl, rfl, trivial⟩, S.selT (M := [.box g0 57 #[.slice A0 x0.length c0, .int .i64 p128.2], .box g103 37 #[.int .i64 p105.2, .slice B113 p111.2.length d114], .box g101 37 #[.int .i64 0, .slice none 0 0], .row 34 3 (.slice B113 p111.2.length d114) p111.2.length (p111.2.flatMap eLine)]) 4 [0, 1, 2, 3] rfl rfl rfl⟩
        · replace hM133 := bif_t hc134 hM133
          refine cond_t hF rfl hc134 ?_
          refine wp_seq ?_
          refine wp_region_lit ?_
          refine op_val (v := .pointer (some ⟨g0, 0, none⟩)) rfl rfl hF rfl (run_move rfl (hF.ev rfl)) ?_; clear hF; intro a hF
          obtain ⟨p135, h135, hM133⟩ := bind_ex hM133
          refine op_call rfl rfl hF rfl (run_call (vs := [.pointer (some ⟨g0, 0, none⟩), .int .i64 5]) rfl rfl co19 ⟨(hF.ev rfl), rfl, trivial⟩) (c_spec_l20Rd_pick (x0 := x0) (x1 := p128.2) (x2 := 5) ⟨h0.rc, rfl⟩ (show St w0 _ (Asn.box g0 57 #[.slice A0 x0.length c0, .int .i64 p128.2] :: Asn.box g103 37 #[.int .i64 p105.2, .slice B113 p111.2.length d114] :: Asn.box g101 37 #[.int .i64 0, .slice none 0 0] :: Asn.row 34 3 (.slice B113 p111.2.length d114) p111.2.length (p111.2.flatMap eLine) :: X) from S.selT (M := [.box g0 57 #[.slice A0 x0.length c0, .int .i64 p128.2], .box g103 37 #[.int .i64 p105.2, .slice B113 p111.2.length d114], .box g101 37 #[.int .i64 0, .slice none 0 0], .row 34 3 (.slice B113 p111.2.length d114) p111.2.length (p111.2.flatMap eLine)]) 4 [0, 1, 2, 3] rfl rfl rfl) h135) ?_
          rintro e u ⟨rfl, T⟩
          refine ⟨_, rfl, ?_⟩
          clear hF; intro a hF
          clear S; have S := T; clear T
          refine wpList_nil ?_
          refine wp_block ?_
          refine wp_seq ?_
          refine wp_region_lit ?_
          refine op_val (v := .bool (p135.1 == 0)) rfl rfl hF rfl (run_eql (hF.ev rfl) rfl rfl) ?_; clear hF; intro a hF
          refine op_val (v := .bool (p135.1 == 0)) rfl rfl hF rfl (run_assign rfl (hF.ev rfl)) ?_; clear hF; intro a hF
          refine wpList_nil ?_
          obtain ⟨o137, hM140, hM133⟩ := bind_ex hM133
          refine wp_cut (fun a u => ∃ (p136 : Int × Int × List (Int × Int × Int)) (B138 : Option Addr) (d139 : Nat), p136 = o137 ∧ Fr a 104 [(4, .pointer (some ⟨g101, 0, none⟩)), (5, .pointer (some ⟨g103, 0, none⟩))] ∧ St w0 u (Asn.box g0 57 #[.slice A0 x0.length c0, .int .i64 p136.1] :: Asn.box g103 37 #[.int .i64 p136.2.1, .slice B138 p136.2.2.length d139] :: Asn.box g101 37 #[.int .i64 0, .slice none 0 0] :: Asn.row 34 3 (.slice B138 p136.2.2.length d139) p136.2.2.length (p136.2.2.flatMap eLine) :: X)) ?_ ?_
          · have _ := trivial
            cases hc141 : (p135.1 == 0)
            · replace hM140 := bif_f hc141 hM140
              refine cond_f hF rfl hc141 ?_
              refine wp_seq ?_
              refine wp_region_lit ?_
              refine op_val (v := .bool (p135.1 == 1)) rfl rfl hF rfl (run_eql (hF.ev rfl) rfl rfl) ?_; clear hF; intro a hF
              refine op_val (v := .bool (p135.1 == 1)) rfl rfl hF rfl (run_assign rfl (hF.ev rfl)) ?_; clear hF; intro a hF
              refine wpList_nil ?_
              obtain ⟨o143, hM146, hM140⟩ := bind_ex hM140
              refine wp_cut (fun a u => ∃ (p142 : Int × List (Int × Int × Int)) (B144 : Option Addr) (d145 : Nat), p142 = o143 ∧ Fr a 104 [(4, .pointer (some ⟨g101, 0, none⟩)), (5, .pointer (some ⟨g103, 0, none⟩))] ∧ St w0 u (Asn.box g0 57 #[.slice A0 x0.length c0, .int .i64 p142.1] :: Asn.box g103 37 #[.int .i64 p105.2, .slice B144 p142.2.length d145] :: Asn.box g101 37 #[.int .i64 0, .slice none 0 0] :: Asn.row 34 3 (.slice B144 p142.2.length d145) p142.2.length (p142.2.flatMap eLine) :: X)) ?_ ?_
              · have _ := trivial
                cases hc147 : (p135.1 == 1)
                · replace hM146 := bif_f hc147 hM146
                  refine cond_f hF rfl hc147 ?_
                  refine wp_seq ?_
                  refine wp_region_lit ?_
                  refine op_val (v := .bool (p135.1 == 2)) rfl rfl hF rfl (run_eql (hF.ev rfl) rfl rfl) ?_; clear hF; intro a hF
                  refine op_val (v := .bool (p135.1 == 2)) rfl rfl hF rfl (run_assign rfl (hF.ev rfl)) ?_; clear hF; intro a hF
                  refine wpList_nil ?_
                  obtain ⟨o149, hM152, hM146⟩ := bind_ex hM146
                  refine wp_cut (fun a u => ∃ (p148 : Int × List (Int × Int × Int)) (B150 : Option Addr) (d151 : Nat), p148 = o149 ∧ Fr a 104 [(4, .pointer (some ⟨g101, 0, none⟩)), (5, .pointer (some ⟨g103, 0, none⟩))] ∧ St w0 u (Asn.box g0 57 #[.slice A0 x0.length c0, .int .i64 p148.1] :: Asn.box g103 37 #[.int .i64 p105.2, .slice B150 p148.2.length d151] :: Asn.box g101 37 #[.int .i64 0, .slice none 0 0] :: Asn.row 34 3 (.slice B150 p148.2.length d151) p148.2.length (p148.2.flatMap eLine) :: X)) ?_ ?_
                  · have _ := trivial
                    cases hc153 : (p135.1 == 2)
                    · replace hM152 := bif_f hc153 hM152
                      refine cond_f hF rfl hc153 ?_
                      refine wp_seq ?_
                      refine wp_region_lit ?_
                      refine op_val (v := .bool (p135.1 == 3)) rfl rfl hF rfl (run_eql (hF.ev rfl) rfl rfl) ?_; clear hF; intro a hF
                      refine op_val (v := .bool (p135.1 == 3)) rfl rfl hF rfl (run_assign rfl (hF.ev rfl)) ?_; clear hF; intro a hF
                      refine wpList_nil ?_
                      obtain ⟨o155, hM158, hM152⟩ := bind_ex hM152
                      refine wp_cut (fun a u => ∃ (p154 : Int × List (Int × Int × Int)) (B156 : Option Addr) (d157 : Nat), p154 = o155 ∧ Fr a 104 [(4, .pointer (some ⟨g101, 0, none⟩)), (5, .pointer (some ⟨g103, 0, none⟩))] ∧ St w0 u (Asn.box g0 57 #[.slice A0 x0.length c0, .int .i64 p154.1] :: Asn.box g103 37 #[.int .i64 p105.2, .slice B156 p154.2.length d157] :: Asn.box g101 37 #[.int .i64 0, .slice none 0 0] :: Asn.row 34 3 (.slice B156 p154.2.length d157) p154.2.length (p154.2.flatMap eLine) :: X)) ?_ ?_
                      · have _ := trivial
                        cases hc159 : (p135.1 == 3)
                        · replace hM158 := bif_f hc159 hM158
                          refine cond_f hF rfl hc159 ?_
                          refine wp_region_lit ?_
                          obtain ⟨hk161, hM158⟩ := chk_ex hM158
                          replace hk161 := mkB_t hk161
                          refine op_newrowL (m := (11 : Int).toNat) (ls := List.replicate ((11 : Int).toNat) ((0, 0, 0) : Int × Int × Int)) (e := eLine) rfl rfl hF rfl S (run_makeL rfl rfl rfl Tryd.underlying35 inf34 eLine_len rfl (by decide) hk161) List.length_replicate eLine_len (by rw [List.length_replicate]; omega) ?_; clear hF S; intro a g160 u hF S
                          refine op_val (v := .pointer (some ⟨g103, 1, none⟩)) rfl rfl hF rfl (run_fieldAddr rfl fl37_1 (hF.ev rfl) rfl) ?_; clear hF; intro a hF
                          refine op_do rfl rfl (run_store (cs' := #[.int .i64 p105.2, .slice (some ⟨g160, 0, none⟩) ((11 : Int).toNat) ((11 : Int).toNat)]) rfl sz35 (hF.ev rfl) (hF.ev rfl) rfl rfl rfl (S.free 2 rfl) rfl rfl) ?_; replace S := S.put 2 rfl (#[.int .i64 p105.2, .slice (some ⟨g160, 0, none⟩) ((11 : Int).toNat) ((11 : Int).toNat)])
                          generalize World.setRow _ _ _ = u at S ⊢
                          refine wpList_nil ?_
                          obtain rfl := Option.some.inj hM158
                          try rw [show (11 : Int).toNat = (List.replicate ((11 : Int).toNat) ((0, 0, 0) : Int × Int × Int)).length from List.length_replicate.symm] at hF
                          try rw [show (11 : Int).toNat = (List.replicate ((11 : Int).toNat) ((0, 0, 0) : Int × Int × Int)).length from List.length_replicate.symm] at S
                          exact ⟨(p135.2, List.replicate ((11 : Int).toNat) ((0, 0, 0) : Int × Int × Int)), (some ⟨g160, 0, none⟩), ((11 : Int).toNat), rfl, hF.keep _ ⟨rfl, rfl, trivial⟩, S.selT (M := [.box g0 57 #[.slice A0 x0.length c0, .int .i64 p135.2], .box g103 37 #[.int .i64 p105.2, .slice (some ⟨g160, 0, none⟩) ((List.replicate ((11 : Int).toNat) ((0, 0, 0) : Int × Int × Int)).length) ((11 : Int).toNat)], .box g101 37 #[.int .i64 0, .slice none 0 0], .row 34 3 (.slice (some ⟨g160, 0, none⟩) ((List.replicate ((11 : Int).toNat) ((0, 0, 0) : Int × Int × Int)).length) ((11 : Int).toNat)) ((List.replicate ((11 : Int).toNat) ((0, 0, 0) : Int × Int × Int)).length) ((List.replicate ((11 : Int).toNat) ((0, 0, 0) : Int × Int × Int)).flatMap eLine)]) 5 [1, 2, 3, 0] rfl rfl rfl⟩
                        · replace hM158 := bif_t hc159 hM158
                          refine cond_t hF rfl hc159 ?_
                          obtain ⟨p162, h162, hM158⟩ := bind_ex hM158
                          obtain ⟨hk163, hM158⟩ := chk_ex hM158
                          replace hk163 := ixB_t hk163
                          obtain ⟨hk164, hM158⟩ := chk_ex hM158
                          replace hk164 := apB_t hk164
                          refine region_gw (D := [92, 93, 94, 95, 96, 97, 98, 99, 100, 101, 102]) (Lr := (Asn.box g101 37 #[.int .i64 0, .slice none 0 0] :: X)) (deps := (fun | 0 => [92] | 1 => [93] | 2 => [94] | 3 => [95] | 4 => [96] | 5 => [97, 94] | 6 => [98] | 7 => [99] | 8 => [100] | 9 => [101] | 10 => [102] | 11 => [102, 101] | _ => [])) (rd := (fun | 5 => [2] | 6 => [2] | 9 => [8] | _ => [])) (zr := (fun | 1 => [11] | _ => []))
                            (φ := fun i vs => match i, vs with | 0, [v92] => v92 = .pointer (some ⟨g103, 1, none⟩) | 1, [v93] => v93 = .slice B113 p111.2.length d114 | 2, [v94] => v94 = .slice (slA v94) ((([0, 1000] : List Int) : List Int).length) ((([0, 1000] : List Int) : List Int).length) | 3, [v95] => v95 = .pointer (some ⟨g0, 0, none⟩) | 4, [v96] => v96 = .int .i64 p162.1 | 5, [v97, v94] => v97 = .pointer (some ⟨adB (slA v94), adO (slA v94) + p162.1.toNat * 1, none⟩) | 6, [v98] => v98 = .int .i64 (([0, 1000] : List Int).getD p162.1.toNat (0 : Int)) | 7, [v99] => v99 = .agg #[.int .i64 0, .int .i64 1, .int .i64 (([0, 1000] : List Int).getD p162.1.toNat (0 : Int))] | 8, [v100] => v100 = .slice (slA v100) ((([(0, 1, (([0, 1000] : List Int).getD p162.1.toNat (0 : Int)))] : List (Int × Int × Int)) : List (Int × Int × Int)).length) ((([(0, 1, (([0, 1000] : List Int).getD p162.1.toNat (0 : Int)))] : List (Int × Int × Int)) : List (Int × Int × Int)).length) | 9, [v101] => v101 = .slice (slA v101) ((p111.2 ++ ([(0, 1, (([0, 1000] : List Int).getD p162.1.toNat (0 : Int)))] : List (Int × Int × Int))).length) (slC v101) | 10, [v102] => v102 = .pointer (some ⟨g103, 1, none⟩) | _, _ => True)
                            (C := fun i vs => match i, vs with | 2, [v94] => [.row 3 1 (.slice (slA v94) ((([0, 1000] : List Int) : List Int).length) ((([0, 1000] : List Int) : List Int).length)) ((([0, 1000] : List Int) : List Int).length) (([0, 1000] : List Int).flatMap eI)] | 4, [v96] => [.box g0 57 #[.slice A0 x0.length c0, .int .i64 p162.2]] | 8, [v100] => [.row 34 3 (.slice (slA v100) ((([(0, 1, (([0, 1000] : List Int).getD p162.1.toNat (0 : Int)))] : List (Int × Int × Int)) : List (Int × Int × Int)).length) ((([(0, 1, (([0, 1000] : List Int).getD p162.1.toNat (0 : Int)))] : List (Int × Int × Int)) : List (Int × Int × Int)).length)) ((([(0, 1, (([0, 1000] : List Int).getD p162.1.toNat (0 : Int)))] : List (Int × Int × Int)) : List (Int × Int × Int)).length) (([(0, 1, (([0, 1000] : List Int).getD p162.1.toNat (0 : Int)))] : List (Int × Int × Int)).flatMap eLine)] | 9, [v101] => [.row 34 3 (.slice (slA v101) ((p111.2 ++ ([(0, 1, (([0, 1000] : List Int).getD p162.1.toNat (0 : Int)))] : List (Int × Int × Int))).length) (slC v101)) ((p111.2 ++ ([(0, 1, (([0, 1000] : List Int).getD p162.1.toNat (0 : Int)))] : List (Int × Int × Int))).length) ((p111.2 ++ ([(0, 1, (([0, 1000] : List Int).getD p162.1.toNat (0 : Int)))] : List (Int × Int × Int))).flatMap eLine)] | 11, [v102, v101] => [.box g103 37 #[.int .i64 p105.2, .slice (slA v101) ((p111.2 ++ ([(0, 1, (([0, 1000] : List Int).getD p162.1.toNat (0 : Int)))] : List (Int × Int × Int))).length) (slC v101)]] | _, _ => [])
                            (κ := (fun _ => none)) (Z := (fun | 4 => [.box g0 57 #[.slice A0 x0.length c0, .int .i64 p135.2]] | 9 => [.row 34 3 (.slice B113 p111.2.length d114) p111.2.length (p111.2.flatMap eLine)] | 11 => [.box g103 37 #[.int .i64 p105.2, .slice B113 p111.2.length d114]] | _ => [])) mixed hF (by kernel_rfl) (show St w0 _ (Asn.box g0 57 #[.slice A0 x0.length c0, .int .i64 p135.2] :: Asn.row 34 3 (.slice B113 p111.2.length d114) p111.2.length (p111.2.flatMap eLine) :: Asn.box g103 37 #[.int .i64 p105.2, .slice B113 p111.2.length d114] :: Asn.box g101 37 #[.int .i64 0, .slice none 0 0] :: X) from S.selT (M := [.box g0 57 #[.slice A0 x0.length c0, .int .i64 p135.2], .row 34 3 (.slice B113 p111.2.length d114) p111.2.length (p111.2.flatMap eLine), .box g103 37 #[.int .i64 p105.2, .slice B113 p111.2.length d114], .box g101 37 #[.int .i64 0, .slice none 0 0]]) 4 [0, 3, 1, 2] rfl rfl rfl) ?_ ?_
                          · refine ⟨?_, ?_, ?_, ?_, ?_, ?_, ?_, ?_, ?_, ?_, ?_, ?_, trivial⟩
                            · intro a u X' hB hu hp hr hz hl S
                              replace S : St w0 u ([] ++ X') := S
                              exact .inl ⟨rfl, .pointer (some ⟨g103, 1, none⟩), u, (run_fieldAddr rfl fl37_1 (hF.evB hB rfl rfl) rfl), rfl, S⟩
                            · intro a u X' hB hu hp hr hz hl S
                              replace S : St w0 u ([] ++ X') := S
                              have e92 : sl a 92 = .pointer (some ⟨g103, 1, none⟩) := hp 0 rfl
                              exact .inl ⟨rfl, .slice B113 p111.2.length d114, u, (run_load1 rfl one35 (ev_sl e92) ((show Bk _ _ _ _ from S.mem (List.mem_append_right _ (hz 11 (List.mem_of_getElem? (i := 0) rfl) _ (List.mem_of_getElem? (i := 0) rfl)))).cell rfl)), rfl, S⟩
                            · intro a u X' hB hu hp hr hz hl S
                              replace S : St w0 u ([] ++ X') := S
                              exact .inl ⟨rfl, _, _, run_buildS (vs := [(0, .int .i64 0), (1, .int .i64 1000)]) rfl ⟨⟨rfl, (ev_const _ _)⟩, ⟨rfl, (ev_const _ _)⟩, trivial⟩ (bs58_2_0_0 rfl rfl), rfl, S.newrowL (e := eI) (ls := ([0, 1000] : List Int)) rfl eI_len (Nat.le_of_ble_eq_true rfl)⟩
                            · intro a u X' hB hu hp hr hz hl S
                              replace S : St w0 u ([] ++ X') := S
                              exact .inl ⟨rfl, .pointer (some ⟨g0, 0, none⟩), u, (run_move rfl (hF.evB hB rfl rfl)), rfl, S⟩
                            · intro a u X' hB hu hp hr hz hl S
                              replace S : St w0 u ([.box g0 57 #[.slice A0 x0.length c0, .int .i64 p135.2]] ++ X') := S
                              have e95 : sl a 95 = .pointer (some ⟨g0, 0, none⟩) := hp 3 rfl
                              refine .inr (.inr (.inl ⟨rfl, _, _, (run_call (vs := [.pointer (some ⟨g0, 0, none⟩), .int .i64 2]) rfl rfl co19 ⟨(ev_sl e95), (ev_const _ _), trivial⟩), ?_⟩))
                              refine Calls.mono (c_spec_l20Rd_pick (x0 := x0) (x1 := p135.2) (x2 := 2) ⟨h0.rc, rfl⟩ S h162) ?_
                              rintro e w1 ⟨rfl, T⟩
                              exact ⟨_, rfl, rfl, T⟩
                            · intro a u X' hB hu hp hr hz hl S
                              replace S : St w0 u ([] ++ X') := S
                              have e94 : sl a 94 = .slice (slA (sl a 94)) ((([0, 1000] : List Int) : List Int).length) ((([0, 1000] : List Int) : List Int).length) := hp 2 rfl
                              have e96 : sl a 96 = .int .i64 p162.1 := hp 4 rfl
                              exact .inl ⟨rfl, .pointer (some ⟨adB (slA (sl a 94)), adO (slA (sl a 94)) + p162.1.toNat * 1, none⟩), u, (run_indexAddr (b := adB (slA (sl a 94))) (off := adO (slA (sl a 94))) rfl Tryd.underlying58 sz3 ((ev_sl e94).trans (congrArg (fun A => Value.slice A ((([0, 1000] : List Int) : List Int).length) ((([0, 1000] : List Int) : List Int).length)) ((own_rc (show Ow _ _ _ _ _ _ from S.mem (List.mem_append_right _ (hr 2 (List.mem_of_getElem? (i := 0) rfl) _ (List.mem_of_getElem? (i := 0) rfl))))).rd.ad (ix_pos hk163)))) (ev_sl e96) hk163.1 hk163.2 (k' := adO (slA (sl a 94)) + p162.1.toNat * 1) rfl), rfl, S⟩
                            · intro a u X' hB hu hp hr hz hl S
                              replace S : St w0 u ([] ++ X') := S
                              have e97 : sl a 97 = .pointer (some ⟨adB (slA (sl a 94)), adO (slA (sl a 94)) + p162.1.toNat * 1, none⟩) := hp 5 rfl
                              exact .inl ⟨rfl, .int .i64 (([0, 1000] : List Int).getD p162.1.toNat (0 : Int)), u, (run_load1 rfl one3 (ev_sl e97) (rd_el0 (l := ([0, 1000] : List Int)) (own_rc (show Ow _ _ _ _ _ _ from S.mem (List.mem_append_right _ (hr 2 (List.mem_of_getElem? (i := 0) rfl) _ (List.mem_of_getElem? (i := 0) rfl))))).rd rfl eI_len (0 : Int) (ix_ltn hk163 rfl) rfl)), rfl, S⟩
                            · intro a u X' hB hu hp hr hz hl S
                              replace S : St w0 u ([] ++ X') := S
                              have e98 : sl a 98 = .int .i64 (([0, 1000] : List Int).getD p162.1.toNat (0 : Int)) := hp 6 rfl
                              exact .inl ⟨rfl, .agg #[.int .i64 0, .int .i64 1, .int .i64 (([0, 1000] : List Int).getD p162.1.toNat (0 : Int))], u, (run_build (vs := [(0, .int .i64 0), (1, .int .i64 1), (2, .int .i64 (([0, 1000] : List Int).getD p162.1.toNat (0 : Int)))]) rfl ⟨⟨rfl, (ev_const _ _)⟩, ⟨rfl, (ev_const _ _)⟩, ⟨rfl, (ev_sl e98)⟩, trivial⟩ (bd34_0_1_2 rfl rfl rfl)), rfl, S⟩
                            · intro a u X' hB hu hp hr hz hl S
                              replace S : St w0 u ([] ++ X') := S
                              have e99 : sl a 99 = .agg #[.int .i64 0, .int .i64 1, .int .i64 (([0, 1000] : List Int).getD p162.1.toNat (0 : Int))] := hp 7 rfl
                              exact .inl ⟨rfl, _, _, run_buildS (vs := [(0, .agg #[.int .i64 0, .int .i64 1, .int .i64 (([0, 1000] : List Int).getD p162.1.toNat (0 : Int))])]) rfl ⟨⟨rfl, (ev_sl e99)⟩, trivial⟩ (bs35_1_3 ), rfl, S.newrowL (e := eLine) (ls := ([(0, 1, (([0, 1000] : List Int).getD p162.1.toNat (0 : Int)))] : List (Int × Int × Int))) rfl eLine_len (Nat.le_of_ble_eq_true rfl)⟩
                            · intro a u X' hB hu hp hr hz hl S
                              replace S : St w0 u ([.row 34 3 (.slice B113 p111.2.length d114) p111.2.length (p111.2.flatMap eLine)] ++ X') := S
                              have e93 : sl a 93 = .slice B113 p111.2.length d114 := hp 1 rfl
                              have e100 : sl a 100 = .slice (slA (sl a 100)) ((([(0, 1, (([0, 1000] : List Int).getD p162.1.toNat (0 : Int)))] : List (Int × Int × Int)) : List (Int × Int × Int)).length) ((([(0, 1, (([0, 1000] : List Int).getD p162.1.toNat (0 : Int)))] : List (Int × Int × Int)) : List (Int × Int × Int)).length) := hp 8 rfl
                              obtain ⟨B, d, w', hrun, S'⟩ := S.appendL (i := 0) (P := Tryd.prog) (ty := 35) (lx := p111.2) (ly := ([(0, 1, (([0, 1000] : List Int).getD p162.1.toNat (0 : Int)))] : List (Int × Int × Int))) (c' := ((([(0, 1, (([0, 1000] : List Int).getD p162.1.toNat (0 : Int)))] : List (Int × Int × Int)) : List (Int × Int × Int)).length)) rfl rfl Tryd.underlying35 inf34 rfl (by decide) (own_rc (show Ow _ _ _ _ _ _ from S.mem (List.mem_append_right _ (hr 8 (List.mem_of_getElem? (i := 0) rfl) _ (List.mem_of_getElem? (i := 0) rfl))))).rd rfl eLine_one hk164 (by decide)
                              exact .inl ⟨rfl, _, w', run_append rfl (ev_sl e93) (ev_sl e100) hrun, rfl, S'⟩
                            · intro a u X' hB hu hp hr hz hl S
                              replace S : St w0 u ([] ++ X') := S
                              exact .inl ⟨rfl, .pointer (some ⟨g103, 1, none⟩), u, (run_fieldAddr rfl fl37_1 (hF.evB hB rfl rfl) rfl), rfl, S⟩
                            · intro a u X' hB hu hp hr hz hl S
                              replace S : St w0 u ([.box g103 37 #[.int .i64 p105.2, .slice B113 p111.2.length d114]] ++ X') := S
                              have e101 : sl a 101 = .slice (slA (sl a 101)) ((p111.2 ++ ([(0, 1, (([0, 1000] : List Int).getD p162.1.toNat (0 : Int)))] : List (Int × Int × Int))).length) (slC (sl a 101)) := hp 9 rfl
                              have e102 : sl a 102 = .pointer (some ⟨g103, 1, none⟩) := hp 10 rfl
                              exact .inr (.inl ⟨rfl, _, run_store (cs' := #[.int .i64 p105.2, .slice (slA (sl a 101)) ((p111.2 ++ ([(0, 1, (([0, 1000] : List Int).getD p162.1.toNat (0 : Int)))] : List (Int × Int × Int))).length) (slC (sl a 101))]) rfl sz35 (ev_sl e102) (ev_sl e101) rfl rfl rfl (S.free 0 rfl) rfl rfl, trivial, S.put 0 rfl (#[.int .i64 p105.2, .slice (slA (sl a 101)) ((p111.2 ++ ([(0, 1, (([0, 1000] : List Int).getD p162.1.toNat (0 : Int)))] : List (Int × Int × Int))).length) (slC (sl a 101))])⟩)
                          · intro a u hB hp S
                            obtain ⟨q0, q1, q2, q3, q4, q5, q6, q7, q8, q9, q10, q11, _⟩ := hp
                            have e92 : sl a 92 = .pointer (some ⟨g103, 1, none⟩) := q0
                            have e93 : sl a 93 = .slice B113 p111.2.length d114 := q1
                            have e94 : sl a 94 = .slice (slA (sl a 94)) ((([0, 1000] : List Int) : List Int).length) ((([0, 1000] : List Int) : List Int).length) := q2
                            have e95 : sl a 95 = .pointer (some ⟨g0, 0, none⟩) := q3
                            have e96 : sl a 96 = .int .i64 p162.1 := q4
                            have e97 : sl a 97 = .pointer (some ⟨adB (slA (sl a 94)), adO (slA (sl a 94)) + p162.1.toNat * 1, none⟩) := q5
                            have e98 : sl a 98 = .int .i64 (([0, 1000] : List Int).getD p162.1.toNat (0 : Int)) := q6
                            have e99 : sl a 99 = .agg #[.int .i64 0, .int .i64 1, .int .i64 (([0, 1000] : List Int).getD p162.1.toNat (0 : Int))] := q7
                            have e100 : sl a 100 = .slice (slA (sl a 100)) ((([(0, 1, (([0, 1000] : List Int).getD p162.1.toNat (0 : Int)))] : List (Int × Int × Int)) : List (Int × Int × Int)).length) ((([(0, 1, (([0, 1000] : List Int).getD p162.1.toNat (0 : Int)))] : List (Int × Int × Int)) : List (Int × Int × Int)).length) := q8
                            have e101 : sl a 101 = .slice (slA (sl a 101)) ((p111.2 ++ ([(0, 1, (([0, 1000] : List Int).getD p162.1.toNat (0 : Int)))] : List (Int × Int × Int))).length) (slC (sl a 101)) := q9
                            have e102 : sl a 102 = .pointer (some ⟨g103, 1, none⟩) := q10
                            replace S : St w0 u (Asn.row 3 1 (.slice (slA (sl a 94)) ((([0, 1000] : List Int) : List Int).length) ((([0, 1000] : List Int) : List Int).length)) ((([0, 1000] : List Int) : List Int).length) (([0, 1000] : List Int).flatMap eI) :: Asn.box g0 57 #[.slice A0 x0.length c0, .int .i64 p162.2] :: Asn.row 34 3 (.slice (slA (sl a 100)) ((([(0, 1, (([0, 1000] : List Int).getD p162.1.toNat (0 : Int)))] : List (Int × Int × Int)) : List (Int × Int × Int)).length) ((([(0, 1, (([0, 1000] : List Int).getD p162.1.toNat (0 : Int)))] : List (Int × Int × Int)) : List (Int × Int × Int)).length)) ((([(0, 1, (([0, 1000] : List Int).getD p162.1.toNat (0 : Int)))] : List (Int × Int × Int)) : List (Int × Int × Int)).length) (([(0, 1, (([0, 1000] : List Int).getD p162.1.toNat (0 : Int)))] : List (Int × Int × Int)).flatMap eLine) :: Asn.row 34 3 (.slice (slA (sl a 101)) ((p111.2 ++ ([(0, 1, (([0, 1000] : List Int).getD p162.1.toNat (0 : Int)))] : List (Int × Int × Int))).length) (slC (sl a 101))) ((p111.2 ++ ([(0, 1, (([0, 1000] : List Int).getD p162.1.toNat (0 : Int)))] : List (Int × Int × Int))).length) ((p111.2 ++ ([(0, 1, (([0, 1000] : List Int).getD p162.1.toNat (0 : Int)))] : List (Int × Int × Int))).flatMap eLine) :: Asn.box g103 37 #[.int .i64 p105.2, .slice (slA (sl a 101)) ((p111.2 ++ ([(0, 1, (([0, 1000] : List Int).getD p162.1.toNat (0 : Int)))] : List (Int × Int × Int))).length) (slC (sl a 101))] :: Asn.box g101 37 #[.int .i64 0, .slice none 0 0] :: X) := S
                            clear q0 q1 q2 q3 q4 q5 q6 q7 q8 q9 q10 q11
                            generalize slA (sl a 94) = B165 at *
                            generalize slA (sl a 100) = B166 at *
                            generalize slA (sl a 101) = B167 at *
                            generalize slC (sl a 101) = d168 at *
                            have hF := hF.region hB [(92, .pointer (some ⟨g103, 1, none⟩)), (93, .slice B113 p111.2.length d114), (94, .slice B165 ((([0, 1000] : List Int) : List Int).length) ((([0, 1000] : List Int) : List Int).length)), (95, .pointer (some ⟨g0, 0, none⟩)), (96, .int .i64 p162.1), (97, .pointer (some ⟨adB B165, adO B165 + p162.1.toNat * 1, none⟩)), (98, .int .i64 (([0, 1000] : List Int).getD p162.1.toNat (0 : Int))), (99, .agg #[.int .i64 0, .int .i64 1, .int .i64 (([0, 1000] : List Int).getD p162.1.toNat (0 : Int))]), (100, .slice B166 ((([(0, 1, (([0, 1000] : List Int).getD p162.1.toNat (0 : Int)))] : List (Int × Int × Int)) : List (Int × Int × Int)).length) ((([(0, 1, (([0, 1000] : List Int).getD p162.1.toNat (0 : Int)))] : List (Int × Int × Int)) : List (Int × Int × Int)).length)), (101, .slice B167 ((p111.2 ++ ([(0, 1, (([0, 1000] : List Int).getD p162.1.toNat (0 : Int)))] : List (Int × Int × Int))).length) d168), (102, .pointer (some ⟨g103, 1, none⟩))] (allSl_mem ⟨e92, e93, e94, e95, e96, e97, e98, e99, e100, e101, e102, trivial⟩) rfl
                            clear hB e92 e93 e94 e95 e96 e97 e98 e99 e100 e101 e102
                            obtain rfl := Option.some.inj hM158
                            exact ⟨(p162.2, p111.2 ++ ([(0, 1, (([0, 1000] : List Int).getD p162.1.toNat (0 : Int)))] : List (Int × Int × Int))), B167, d168, rfl, hF.keep _ ⟨rfl, rfl, trivial⟩, S.selT (M := [.box g0 57 #[.slice A0 x0.length c0, .int .i64 p162.2], .box g103 37 #[.int .i64 p105.2, .slice B167 ((p111.2 ++ ([(0, 1, (([0, 1000] : List Int).getD p162.1.toNat (0 : Int)))] : List (Int × Int × Int))).length) d168], .box g101 37 #[.int .i64 0, .slice none 0 0], .row 34 3 (.slice B167 ((p111.2 ++ ([(0, 1, (([0, 1000] : List Int).getD p162.1.toNat (0 : Int)))] : List (Int × Int × Int))).length) d168) ((p111.2 ++ ([(0, 1, (([0, 1000] : List Int).getD p162.1.toNat (0 : Int)))] : List (Int × Int × Int))).length) ((p111.2 ++ ([(0, 1, (([0, 1000] : List Int).getD p162.1.toNat (0 : Int)))] : List (Int × Int × Int))).flatMap eLine)]) 6 [1, 4, 5, 3] rfl rfl rfl⟩
                      · rintro a u ⟨p154, B156, d157, rfl, hF, S⟩
                        obtain rfl := Option.some.inj hM152
                        exact ⟨(p154.1, p154.2), B156, d157, rfl, hF.keep _ ⟨rfl, rfl, trivial⟩, S.selT (M := [.box g0 57 #[.slice A0 x0.length c0, .int .i64 p154.1], .box g103 37 #[.int .i64 p105.2, .slice B156 p154.2.length d157], .box g101 37 #[.int .i64 0, .slice none 0 0], .row 34 3 (.slice B156 p154.2.length d157) p154.2.length (p154.2.flatMap eLine)]) 4 [0, 1, 2, 3] rfl rfl rfl⟩
                    · replace hM152 := bif_t hc153 hM152
                      refine cond_t hF rfl hc153 ?_
                      refine wp_region_lit ?_
                      refine op_val (v := .pointer (some ⟨g103, 1, none⟩)) rfl rfl hF rfl (run_fieldAddr rfl fl37_1 (hF.ev rfl) rfl) ?_; clear hF; intro a hF
                      refine op_val (v := .slice B113 p111.2.length d114) rfl rfl hF rfl (run_load1 rfl one35 (hF.ev rfl) ((S.free 1 rfl).cell rfl)) ?_; clear hF; intro a hF
                      refine op_val (v := .agg #[.int .i64 0, .int .i64 0, .int .i64 5]) rfl rfl hF rfl (run_build (vs := [(0, .int .i64 0), (1, .int .i64 0), (2, .int .i64 5)]) rfl ⟨⟨rfl, rfl⟩, ⟨rfl, rfl⟩, ⟨rfl, rfl⟩, trivial⟩ (bd34_0_1_2 rfl rfl rfl)) ?_; clear hF; intro a hF
                      refine op_newrowL (ls := (([(0, 0, 5)] : List (Int × Int × Int)) : List (Int × Int × Int))) (e := eLine) rfl rfl hF rfl S (run_buildS (vs := [(0, .agg #[.int .i64 0, .int .i64 0, .int .i64 5])]) rfl ⟨⟨rfl, (hF.ev rfl)⟩, trivial⟩ (bs35_1_3 )) rfl eLine_len (Nat.le_of_ble_eq_true rfl) ?_; clear hF S; intro a g169 u hF S
                      obtain ⟨hk172, hM152⟩ := chk_ex hM152
                      replace hk172 := apB_t hk172
                      refine op_appendL (lx := p111.2) (ly := ([(0, 0, 5)] : List (Int × Int × Int))) rfl rfl hF rfl S rfl (hF.ev rfl) (hF.ev rfl) (i := 4) rfl rfl Tryd.underlying35 inf34 rfl (by decide) (S.rc 0 rfl).rd rfl eLine_one hk172 (by decide) ?_; clear hF S; intro a B170 d171 u hF S
                      refine op_val (v := .pointer (some ⟨g103, 1, none⟩)) rfl rfl hF rfl (run_fieldAddr rfl fl37_1 (hF.ev rfl) rfl) ?_; clear hF; intro a hF
                      refine op_do rfl rfl (run_store (cs' := #[.int .i64 p105.2, .slice B170 ((p111.2 ++ ([(0, 0, 5)] : List (Int × Int × Int))).length) d171]) rfl sz35 (hF.ev rfl) (hF.ev rfl) rfl rfl rfl (S.free 2 rfl) rfl rfl) ?_; replace S := S.put 2 rfl (#[.int .i64 p105.2, .slice B170 ((p111.2 ++ ([(0, 0, 5)] : List (Int × Int × Int))).length) d171])
                      generalize World.setRow _ _ _ = u at S ⊢
                      refine wpList_nil ?_
                      obtain rfl := Option.some.inj hM152
                      exact ⟨(p135.2, p111.2 ++ ([(0, 0, 5)] : List (Int × Int × Int))), B170, d171, rfl, hF.keep _ ⟨rfl, rfl, trivial⟩, S.selT (M := [.box g0 57 #[.slice A0 x0.length c0, .int .i64 p135.2], .box g103 37 #[.int .i64 p105.2, .slice B170 ((p111.2 ++ ([(0, 0, 5)] : List (Int × Int × Int))).length) d171], .box g101 37 #[.int .i64 0, .slice none 0 0], .row 34 3 (.slice B170 ((p111.2 ++ ([(0, 0, 5)] : List (Int × Int × Int))).length) d171) ((p111.2 ++ ([(0, 0, 5)] : List (Int × Int × Int))).length) ((p111.2 ++ ([(0, 0, 5)] : List (Int × Int × Int))).flatMap eLine)]) 5 [1, 2, 3, 4] rfl rfl rfl⟩
                  · rintro a u ⟨p148, B150, d151, rfl, hF, S⟩
                    obtain rfl := Option.some.inj hM146
                    exact ⟨(p148.1, p148.2), B150, d151, rfl, hF.keep _ ⟨rfl, rfl, trivial⟩, S.selT (M := [.box g0 57 #[.slice A0 x0.length c0, .int .i64 p148.1], .box g103 37 #[.int .i64 p105.2, .slice B150 p148.2.length d151], .box g101 37 #[.int .i64 0, .slice none 0 0], .row 34 3 (.slice B150 p148.2.length d151) p148.2.length (p148.2.flatMap eLine)]) 4 [0, 1, 2, 3] rfl rfl rfl⟩
                · replace hM146 := bif_t hc147 hM146
                  refine cond_t hF rfl hc147 ?_
                  refine wp_region_lit ?_
                  refine op_val (v := .pointer (some ⟨g103, 1, none⟩)) rfl rfl hF rfl (run_fieldAddr rfl fl37_1 (hF.ev rfl) rfl) ?_; clear hF; intro a hF
                  refine op_val (v := .slice B113 p111.2.length d114) rfl rfl hF rfl (run_load1 rfl one35 (hF.ev rfl) ((S.free 1 rfl).cell rfl)) ?_; clear hF; intro a hF
                  refine op_val (v := .pointer (some ⟨g103, 0, none⟩)) rfl rfl hF rfl (run_fieldAddr rfl fl37_0 (hF.ev rfl) rfl) ?_; clear hF; intro a hF
                  refine op_val (v := .int .i64 p105.2) rfl rfl hF rfl (run_load1 rfl one3 (hF.ev rfl) ((S.free 1 rfl).cell rfl)) ?_; clear hF; intro a hF
                  refine op_val (v := .agg #[.int .i64 0, .int .i64 p105.2, .int .i64 5]) rfl rfl hF rfl (run_build (vs := [(0, .int .i64 0), (1, .int .i64 p105.2), (2, .int .i64 5)]) rfl ⟨⟨rfl, rfl⟩, ⟨rfl, (hF.ev rfl)⟩, ⟨rfl, rfl⟩, trivial⟩ (bd34_0_1_2 rfl rfl rfl)) ?_; clear hF; intro a hF
                  refine op_newrowL (ls := (([(0, p105.2, 5)] : List (Int × Int × Int)) : List (Int × Int × Int))) (e := eLine) rfl rfl hF rfl S (run_buildS (vs := [(0, .agg #[.int .i64 0, .int .i64 p105.2, .int .i64 5])]) rfl ⟨⟨rfl, (hF.ev rfl)⟩, trivial⟩ (bs35_1_3 )) rfl eLine_len (Nat.le_of_ble_eq_true rfl) ?_; clear hF S; intro a g173 u hF S
                  obtain ⟨hk176, hM146⟩ := chk_ex hM146
                  replace hk176 := apB_t hk176
                  refine op_appendL (lx := p111.2) (ly := ([(0, p105.2, 5)] : List (Int × Int × Int))) rfl rfl hF rfl S rfl (hF.ev rfl) (hF.ev rfl) (i := 4) rfl rfl Tryd.underlying35 inf34 rfl (by decide) (S.rc 0 rfl).rd rfl eLine_one hk176 (by decide) ?_; clear hF S; intro a B174 d175 u hF S
                  refine op_val (v := .pointer (some ⟨g103, 1, none⟩)) rfl rfl hF rfl (run_fieldAddr rfl fl37_1 (hF.ev rfl) rfl) ?_; clear hF; intro a hF
                  refine op_do rfl rfl (run_store (cs' := #[.int .i64 p105.2, .slice B174 ((p111.2 ++ ([(0, p105.2, 5)] : List (Int × Int × Int))).length) d175]) rfl sz35 (hF.ev rfl) (hF.ev rfl) rfl rfl rfl (S.free 2 rfl) rfl rfl) ?_; replace S := S.put 2 rfl (#[.int .i64 p105.2, .slice B174 ((p111.2 ++ ([(0, p105.2, 5)] : List (Int × Int × Int))).length) d175])
                  generalize World.setRow _ _ _ = u at S ⊢
                  refine wpList_nil ?_
                  obtain rfl := Option.some.inj hM146
                  exact ⟨(p135.2, p111.2 ++ ([(0, p105.2, 5)] : List (Int × Int × Int))), B174, d175, rfl, hF.keep _ ⟨rfl, rfl, trivial⟩, S.selT (M := [.box g0 57 #[.slice A0 x0.length c0, .int .i64 p135.2], .box g103 37 #[.int .i64 p105.2, .slice B174 ((p111.2 ++ ([(0, p105.2, 5)] : List (Int × Int × Int))).length) d175], .box g101 37 #[.int .i64 0, .slice none 0 0], .row 34 3 (.slice B174 ((p111.2 ++ ([(0, p105.2, 5)] : List (Int × Int × Int))).length) d175) ((p111.2 ++ ([(0, p105.2, 5)] : List (Int × Int × Int))).length) ((p111.2 ++ ([(0, p105.2, 5)] : List (Int × Int × Int))).flatMap eLine)]) 5 [1, 2, 3, 4] rfl rfl rfl⟩
              · rintro a u ⟨p142, B144, d145, rfl, hF, S⟩
                obtain rfl := Option.some.inj hM140
                exact ⟨(p142.1, p105.2, p142.2), B144, d145, rfl, hF.keep _ ⟨rfl, rfl, trivial⟩, S.selT (M := [.box g0 57 #[.slice A0 x0.length c0, .int .i64 p142.1], .box g103 37 #[.int .i64 p105.2, .slice B144 p142.2.length d145], .box g101 37 #[.int .i64 0, .slice none 0 0], .row 34 3 (.slice B144 p142.2.length d145) p142.2.length (p142.2.flatMap eLine)]) 4 [0, 1, 2, 3] rfl rfl rfl⟩
            · replace hM140 := bif_t hc141 hM140
              refine cond_t hF rfl hc141 ?_
              refine wp_region_lit ?_
              refine op_newrowL (ls := (([0, -1, 9] : List Int) : List Int)) (e := eI) rfl rfl hF rfl S (run_buildS (vs := [(0, .int .i64 0), (1, .int .i64 (-1)), (2, .int .i64 9)]) rfl ⟨⟨rfl, rfl⟩, ⟨rfl, rfl⟩, ⟨rfl, rfl⟩, trivial⟩ (bs58_3_0_0_0 rfl rfl rfl)) rfl eI_len (Nat.le_of_ble_eq_true rfl) ?_; clear hF S; intro a g177 u hF S
              refine op_val (v := .pointer (some ⟨g0, 0, none⟩)) rfl rfl hF rfl (run_move rfl (hF.ev rfl)) ?_; clear hF; intro a hF
              obtain ⟨p178, h178, hM140⟩ := bind_ex hM140
              refine op_call rfl rfl hF rfl (run_call (vs := [.pointer (some ⟨g0, 0, none⟩), .int .i64 3]) rfl rfl co19 ⟨(hF.ev rfl), rfl, trivial⟩) (c_spec_l20Rd_pick (x0 := x0) (x1 := p135.2) (x2 := 3) ⟨h0.rc, rfl⟩ (show St w0 _ (Asn.box g0 57 #[.slice A0 x0.length c0, .int .i64 p135.2] :: Asn.row 3 1 (.slice (some ⟨g177, 0, none⟩) (([0, -1, 9] : List Int).length) (([0, -1, 9] : List Int).length)) (([0, -1, 9] : List Int).length) (([0, -1, 9] : List Int).flatMap eI) :: Asn.box g103 37 #[.int .i64 p105.2, .slice B113 p111.2.length d114] :: Asn.box g101 37 #[.int .i64 0, .slice none 0 0] :: Asn.row 34 3 (.slice B113 p111.2.length d114) p111.2.length (p111.2.flatMap eLine) :: X) from S.selT (M := [.box g0 57 #[.slice A0 x0.length c0, .int .i64 p135.2], .row 3 1 (.slice (some ⟨g177, 0, none⟩) (([0, -1, 9] : List Int).length) (([0, -1, 9] : List Int).length)) (([0, -1, 9] : List Int).length) (([0, -1, 9] : List Int).flatMap eI), .box g103 37 #[.int .i64 p105.2, .slice B113 p111.2.length d114], .box g101 37 #[.int .i64 0, .slice none 0 0], .row 34 3 (.slice B113 p111.2.length d114) p111.2.length (p111.2.flatMap eLine)]) 5 [1, 0, 2, 3, 4] rfl rfl rfl) h178) ?_
              rintro e u ⟨rfl, T⟩
              refine ⟨_, rfl, ?_⟩
              clear hF; intro a hF
              clear S; have S := T; clear T
              obtain ⟨hk179, hM140⟩ := chk_ex hM140
              replace hk179 := ixB_t hk179
              refine op_val (v := .pointer (some ⟨adB (some ⟨g177, 0, none⟩), adO (some ⟨g177, 0, none⟩) + p178.1.toNat * 1, none⟩)) rfl rfl hF rfl (run_indexAddr (b := adB (some ⟨g177, 0, none⟩)) (off := adO (some ⟨g177, 0, none⟩)) rfl Tryd.underlying58 sz3 ((hF.ev rfl).trans (congrArg (fun A => Value.slice A (([0, -1, 9] : List Int).length) (([0, -1, 9] : List Int).length)) ((S.rc 1 rfl).rd.ad (ix_pos hk179)))) (hF.ev rfl) hk179.1 hk179.2 (k' := adO (some ⟨g177, 0, none⟩) + p178.1.toNat * 1) rfl) ?_; clear hF; intro a hF
              refine op_val (v := .int .i64 (([0, -1, 9] : List Int).getD p178.1.toNat (0 : Int))) rfl rfl hF rfl (run_load1 rfl one3 (hF.ev rfl) (rd_el0 (l := ([0, -1, 9] : List Int)) (S.rc 1 rfl).rd rfl eI_len (0 : Int) (ix_ltn hk179 rfl) rfl)) ?_; clear hF; intro a hF
              refine op_val (v := .pointer (some ⟨g103, 0, none⟩)) rfl rfl hF rfl (run_fieldAddr rfl fl37_0 (hF.ev rfl) rfl) ?_; clear hF; intro a hF
              refine op_do rfl rfl (run_store (cs' := #[.int .i64 (([0, -1, 9] : List Int).getD p178.1.toNat (0 : Int)), .slice B113 p111.2.length d114]) rfl sz3 (hF.ev rfl) (hF.ev rfl) rfl rfl rfl (S.free 2 rfl) rfl rfl) ?_; replace S := S.put 2 rfl (#[.int .i64 (([0, -1, 9] : List Int).getD p178.1.toNat (0 : Int)), .slice B113 p111.2.length d114])
              generalize World.setRow _ _ _ = u at S ⊢
              refine wpList_nil ?_
              obtain rfl := Option.some.inj hM140
              exact ⟨(p178.2, (([0, -1, 9] : List Int).getD p178.1.toNat (0 : Int)), p111.2), B113, d114, rfl, hF.keep _ ⟨rfl, rfl, trivial⟩, S.selT (M := [.box g0 57 #[.slice A0 x0.length c0, .int .i64 p178.2], .box g103 37 #[.int .i64 (([0, -1, 9] : List Int).getD p178.1.toNat (0 : Int)), .slice B113 p111.2.length d114], .box g101 37 #[.int .i64 0, .slice none 0 0], .row 34 3 (.slice B113 p111.2.length d114) p111.2.length (p111.2.flatMap eLine)]) 5 [0, 2, 3, 4] rfl rfl rfl⟩
          · rintro a u ⟨p136, B138, d139, rfl, hF, S⟩
            obtain rfl := Option.some.inj hM133
            exact ⟨(p136.1, p136.2.1, p136.2.2), B138, d139, rfl, hF.keep _ ⟨rfl, rfl, trivial⟩, S.selT (M := [.box g0 57 #[.slice A0 x0.length c0, .int .i64 p136.1], .box g103 37 #[.int .i64 p136.2.1, .slice B138 p136.2.2.length d139], .box g101 37 #[.int .i64 0, .slice none 0 0], .row 34 3 (.slice B138 p136.2.2.length d139) p136.2.2.length (p136.2.2.flatMap eLine)]) 4 [0, 1, 2, 3] rfl rfl rfl⟩
      · rintro a u ⟨p129, B131, d132, rfl, hF, S⟩
        refine wp_seq ?_
        refine wp_region_lit ?_
        refine op_val (v := .agg #[.int .i64 p129.2.1, .slice B131 p129.2.2.length d132]) rfl rfl hF rfl (run_loadN rfl ag37 (hF.ev rfl) rfl ((S.free 1 rfl).cells 0 #[.int .i64 p129.2.1, .slice B131 p129.2.2.length d132] rfl)) ?_; clear hF; intro a hF
        refine op_do rfl rfl (run_store (cs' := #[.int .i64 p129.2.1, .slice B131 p129.2.2.length d132]) rfl sz37 (hF.ev rfl) (hF.ev rfl) rfl rfl rfl (S.free 2 rfl) rfl rfl) ?_; replace S := S.put 2 rfl (#[.int .i64 p129.2.1, .slice B131 p129.2.2.length d132])
        generalize World.setRow _ _ _ = u at S ⊢
        refine wpList_nil ?_
        refine wp_ret ?_
        repeat with_reducible (first | refine then_ret ?_ | refine in_ret ?_ | refine in_nrm ?_)
        refine ret1_gw (.inl rfl) hF rfl (res_cell (hF.ev rfl) (res_loadN ag37 rfl (S.cells 2 rfl 0 #[.int .i64 p129.2.1, .slice B131 p129.2.2.length d132] rfl))) ?_
        obtain rfl := Option.some.inj hM
        exact ⟨B131, p129.2.2.length, d132, rfl, rfl, S.selT (M := [.row 34 3 (.slice B131 p129.2.2.length d132) p129.2.2.length (p129.2.2.flatMap eLine), .box g0 57 #[.slice A0 x0.length c0, .int .i64 p129.1]]) 4 [3, 0] rfl rfl rfl⟩

set_option maxHeartbeats 4000000 in
theorem c_spec_l20State {x0 : List Int} {x1 : Int} {x2 : Int} {x3 : List (Int × Int × Int)} {x4 : Int} {A0 : Option Addr} {n0 c0 : Nat} {g0 : Nat} {A3 : Option Addr} {n3 c3 : Nat} {Y3 : Asn} {w : World} {r : List Bool × Int} {w0 : World} {X : List Asn} (h0 : Rt w0 1 eU A0 n0 c0 x0) (h3 : n3 = x3.length) (hY3 : ∀ u, Y3.holds u → Rc u 3 A3 n3 c3 (x3.flatMap eLine)) (S : St w0 w (Asn.box g0 57 #[.slice A0 n0 c0, .int .i64 x1] :: Y3 :: X)) (hM : m_spec_l20State x0 x1 x2 x3 x4 = some r) :
    Calls Tryd.prog 17 #[.pointer (some ⟨g0, 0, none⟩), .agg #[.int .i64 x2, .slice A3 n3 c3], .int .i64 x4] w (fun e w' => ∃ (B0 : Option Addr) (N0 D0 : Nat), e = .returned (.slice B0 N0 D0) ∧ N0 = r.1.length ∧ St w0 w' (Asn.row 4 1 (.slice B0 N0 D0) N0 (r.1.flatMap eB) :: Asn.box g0 57 #[.slice A0 n0 c0, .int .i64 r.2] :: Y3 :: X)) := by
  obtain rfl := h0.len
  obtain rfl := h3
  unfold m_spec_l20State at hM
  refine calls_gw Tryd.func17 Tryd.ntmps17 rfl [(0, .pointer (some ⟨g0, 0, none⟩)), (1, .agg #[.int .i64 x2, .slice A3 x3.length c3]), (2, .int .i64 x4)] ⟨rfl, rfl, rfl, trivial⟩ rfl ?_
  intro a hF
  refine wp_seq ?_
  refine wp_region_lit ?_
  refine op_new (cs := #[.int .i64 x2, .slice A3 x3.length c3]) rfl rfl hF rfl S (run_box rfl (hF.ev rfl) rfl) ?_; clear hF S; intro a g101 u hF S
  refine op_val (v := .slice none 0 0) rfl rfl hF rfl (run_assign rfl rfl) ?_; clear hF; intro a hF
  refine wpList_nil ?_
  refine wp_seq ?_
  refine wp_region_lit ?_
  refine op_newrow (cs := #[]) (size := 1) rfl rfl hF rfl S (run_buildSlice0 rfl Tryd.underlying23 (congrArg Option.isSome sz4)) rfl (Nat.zero_le _) ?_; clear hF S; intro a g102 u hF S
  refine op_val (v := .slice (some ⟨g102, 0, none⟩) 0 0) rfl rfl hF rfl (run_assign rfl (hF.ev rfl)) ?_; clear hF; intro a hF
  refine wpList_nil ?_
  refine wp_seq ?_
  refine wp_region_lit ?_
  refine op_val (v := .pointer (some ⟨g0, 0, none⟩)) rfl rfl hF rfl (run_move rfl (hF.ev rfl)) ?_; clear hF; intro a hF
  obtain ⟨p103, h103, hM⟩ := bind_ex hM
  refine op_call rfl rfl hF rfl (run_call (vs := [.pointer (some ⟨g0, 0, none⟩), .int .i64 4]) rfl rfl co19 ⟨(hF.ev rfl), rfl, trivial⟩) (c_spec_l20Rd_pick (x0 := x0) (x1 := x1) (x2 := 4) ⟨h0.rc, rfl⟩ (show St w0 _ (Asn.box g0 57 #[.slice A0 x0.length c0, .int .i64 x1] :: Asn.row 4 1 (.slice (some ⟨g102, 0, none⟩) 0 0) 0 (([] : List Bool).flatMap eB) :: Asn.box g101 37 #[.int .i64 x2, .slice A3 x3.length c3] :: Y3 :: X) from S.selT (M := [.box g0 57 #[.slice A0 x0.length c0, .int .i64 x1], .row 4 1 (.slice (some ⟨g102, 0, none⟩) 0 0) 0 (([] : List Bool).flatMap eB), .box g101 37 #[.int .i64 x2, .slice A3 x3.length c3], Y3]) 4 [2, 0, 1, 3] rfl rfl rfl) h103) ?_
  rintro e u ⟨rfl, T⟩
  refine ⟨_, rfl, ?_⟩
  clear hF; intro a hF
  clear S; have S := T; clear T
  refine op_val (v := .int .i64 (w64 (1 + p103.1))) rfl rfl hF rfl (run_add (z := w64 (1 + p103.1)) rfl (hF.ev rfl) rfl rfl) ?_; clear hF; intro a hF
  refine op_val (v := .int .i64 (w64 (1 + p103.1))) rfl rfl hF rfl (run_assign rfl (hF.ev rfl)) ?_; clear hF; intro a hF
  refine wpList_nil ?_
  refine wp_seq ?_
  refine wp_seq ?_
  refine wp_region_lit ?_
  refine op_val (v := .int .i64 0) rfl rfl hF rfl (run_assign rfl rfl) ?_; clear hF; intro a hF
  refine wpList_nil ?_
  obtain ⟨o105, hM108, hM⟩ := bind_ex hM
  refine wp_cut (fun a u => ∃ (p104 : List Bool × Int) (B106 : Option Addr) (d107 : Nat), p104 = o105 ∧ Fr a 35 [(0, .pointer (some ⟨g0, 0, none⟩)), (2, .int .i64 x4), (6, .slice none 0 0), (7, .slice B106 p104.1.length d107)] ∧ St w0 u (Asn.box g0 57 #[.slice A0 x0.length c0, .int .i64 p104.2] :: Asn.row 4 1 (.slice B106 p104.1.length d107) p104.1.length (p104.1.flatMap eB) :: Y3 :: X)) ?_ ?_
  · have _ := trivial
    refine wp_block ?_
    refine loop_gw (fun m a u => ∃ (p109 : List Bool × Int × Int) (B110 : Option Addr) (d111 : Nat), m_spec_l20State_l1 x0 x3 p103 m p109 = some _ ∧ Fr a 35 [(0, .pointer (some ⟨g0, 0, none⟩)), (2, .int .i64 x4), (4, .pointer (some ⟨g101, 0, none⟩)), (6, .slice none 0 0), (7, .slice B110 p109.1.length d111), (8, .int .i64 (w64 (1 + p103.1))), (9, .int .i64 p109.2.1)] ∧ St w0 u (Asn.box g0 57 #[.slice A0 x0.length c0, .int .i64 p109.2.2] :: Asn.box g101 37 #[.int .i64 x2, .slice A3 x3.length c3] :: Asn.row 4 1 (.slice B110 p109.1.length d111) p109.1.length (p109.1.flatMap eB) :: Y3 :: X)) FUEL ⟨(([] : List Bool), 0, p103.2), (some ⟨g102, 0, none⟩), 0, hM108, hF.keep _ ⟨rfl, rfl, rfl, rfl, rfl, rfl, rfl, trivial⟩, S.selT (M := [.box g0 57 #[.slice A0 x0.length c0, .int .i64 p103.2], .box g101 37 #[.int .i64 x2, .slice A3 x3.length c3], .row 4 1 (.slice (some ⟨g102, 0, none⟩) 0 0) 0 (([] : List Bool).flatMap eB), Y3]) 4 [0, 2, 1, 3] rfl rfl rfl⟩ ?_
    clear hF S hM108; rintro m a u ⟨p109, B110, d111, hM108, hF, S⟩
    rcases m with _ | f1
    · exact none_some hM108
    rw [m_spec_l20State_l1.eq_2] at hM108
    refine wp_seq ?_
    refine wp_seq ?_
    refine wp_region_lit ?_
    refine op_val (v := .int .i64 p109.2.1) rfl rfl hF rfl (run_move rfl (hF.ev rfl)) ?_; clear hF; intro a hF
    refine op_val (v := .pointer (some ⟨g101, 1, none⟩)) rfl rfl hF rfl (run_fieldAddr rfl fl37_1 (hF.ev rfl) rfl) ?_; clear hF; intro a hF
    refine op_val (v := .slice A3 x3.length c3) rfl rfl hF rfl (run_load1 rfl one35 (hF.ev rfl) ((S.free 1 rfl).cell rfl)) ?_; clear hF; intro a hF
    refine op_val (v := .int .i64 (x3.length : Int)) rfl rfl hF rfl (run_lenL rfl rfl Tryd.underlying35 (hF.ev rfl)) ?_; clear hF; intro a hF
    refine op_val (v := .bool (ltB p109.2.1 (x3.length : Int))) rfl rfl hF rfl (run_lss (hF.ev rfl) (hF.ev rfl) rfl) ?_; clear hF; intro a hF
    refine wpList_nil ?_
    cases hc112 : (ltB p109.2.1 (x3.length : Int))
    · replace hM108 := bif_f hc112 hM108
      refine cond_f hF rfl hc112 ?_
      refine wp_exit ?_
      repeat with_reducible (first | refine then_exit ?_ | refine in_hit ?_ | refine in_miss rfl ?_)
      obtain rfl := Option.some.inj hM108
      exact ⟨(p109.1, p109.2.2), B110, d111, rfl, hF.keep _ ⟨rfl, rfl, rfl, rfl, trivial⟩, S.selT (M := [.box g0 57 #[.slice A0 x0.length c0, .int .i64 p109.2.2], .row 4 1 (.slice B110 p109.1.length d111) p109.1.length (p109.1.flatMap eB), Y3]) 4 [0, 2, 3] rfl rfl rfl⟩
    · replace hM108 := bif_t hc112 hM108
      refine cond_t hF rfl hc112 ?_
      refine wp_skip ?_
      refine wp_seq ?_
      refine wp_block ?_
      refine wp_region_lit ?_
      refine op_val (v := .slice B110 p109.1.length d111) rfl rfl hF rfl (run_move rfl (hF.ev rfl)) ?_; clear hF; intro a hF
      refine op_val (v := .pointer (some ⟨g0, 0, none⟩)) rfl rfl hF rfl (run_move rfl (hF.ev rfl)) ?_; clear hF; intro a hF
      obtain ⟨p113, h113, hM108⟩ := bind_ex hM108
      refine op_call rfl rfl hF rfl (run_call (vs := [.pointer (some ⟨g0, 0, none⟩), .int .i64 4]) rfl rfl co19 ⟨(hF.ev rfl), rfl, trivial⟩) (c_spec_l20Rd_pick (x0 := x0) (x1 := p109.2.2) (x2 := 4) ⟨h0.rc, rfl⟩ (show St w0 _ (Asn.box g0 57 #[.slice A0 x0.length c0, .int .i64 p109.2.2] :: Asn.box g101 37 #[.int .i64 x2, .slice A3 x3.length c3] :: Asn.row 4 1 (.slice B110 p109.1.length d111) p109.1.length (p109.1.flatMap eB) :: Y3 :: X) from S.selT (M := [.box g0 57 #[.slice A0 x0.length c0, .int .i64 p109.2.2], .box g101 37 #[.int .i64 x2, .slice A3 x3.length c3], .row 4 1 (.slice B110 p109.1.length d111) p109.1.length (p109.1.flatMap eB), Y3]) 4 [0, 1, 2, 3] rfl rfl rfl) h113) ?_
      rintro e u ⟨rfl, T⟩
      refine ⟨_, rfl, ?_⟩
      clear hF; intro a hF
      clear S; have S := T; clear T
      refine op_val (v := .int .i64 (w64 (1 + p103.1))) rfl rfl hF rfl (run_move rfl (hF.ev rfl)) ?_; clear hF; intro a hF
      refine op_val (v := .bool (ltB p113.1 (w64 (1 + p103.1)))) rfl rfl hF rfl (run_lss (hF.ev rfl) (hF.ev rfl) rfl) ?_; clear hF; intro a hF
      refine op_newrowL (ls := (([ltB p113.1 (w64 (1 + p103.1))] : List Bool) : List Bool)) (e := eB) rfl rfl hF rfl S (run_buildS (vs := [(0, .bool (ltB p113.1 (w64 (1 + p103.1))))]) rfl ⟨⟨rfl, (hF.ev rfl)⟩, trivial⟩ (bs23_1_0 rfl)) rfl eB_len (Nat.le_of_ble_eq_true rfl) ?_; clear hF S; intro a g114 u hF S
      obtain ⟨hk117, hM108⟩ := chk_ex hM108
      replace hk117 := apB_t hk117
      refine op_appendL (lx := p109.1) (ly := ([ltB p113.1 (w64 (1 + p103.1))] : List Bool)) rfl rfl hF rfl S rfl (hF.ev rfl) (hF.ev rfl) (i := 3) rfl rfl Tryd.underlying23 inf4 rfl (by decide) (S.rc 0 rfl).rd rfl eB_one hk117 (by decide) ?_; clear hF S; intro a B115 d116 u hF S
      refine op_val (v := .slice B115 ((p109.1 ++ ([ltB p113.1 (w64 (1 + p103.1))] : List Bool)).length) d116) rfl rfl hF rfl (run_assign rfl (hF.ev rfl)) ?_; clear hF; intro a hF
      refine wpList_nil ?_
      refine wp_region_lit ?_
      refine op_val (v := .int .i64 p109.2.1) rfl rfl hF rfl (run_move rfl (hF.ev rfl)) ?_; clear hF; intro a hF
      refine op_val (v := .int .i64 (w64 (p109.2.1 + 1))) rfl rfl hF rfl (run_add (z := w64 (p109.2.1 + 1)) (hF.ev rfl) rfl rfl rfl) ?_; clear hF; intro a hF
      refine op_val (v := .int .i64 (w64 (p109.2.1 + 1))) rfl rfl hF rfl (run_assign rfl (hF.ev rfl)) ?_; clear hF; intro a hF
      refine wpList_nil ?_
      exact ⟨f1, Nat.lt_succ_self _, (p109.1 ++ ([ltB p113.1 (w64 (1 + p103.1))] : List Bool), w64 (p109.2.1 + 1), p113.2), B115, d116, hM108, hF.keep _ ⟨rfl, rfl, rfl, rfl, rfl, rfl, rfl, trivial⟩, S.selT (M := [.box g0 57 #[.slice A0 x0.length c0, .int .i64 p113.2], .box g101 37 #[.int .i64 x2, .slice A3 x3.length c3], .row 4 1 (.slice B115 ((p109.1 ++ ([ltB p113.1 (w64 (1 + p103.1))] : List Bool)).length) d116) ((p109.1 ++ ([ltB p113.1 (w64 (1 + p103.1))] : List Bool)).length) ((p109.1 ++ ([ltB p113.1 (w64 (1 + p103.1))] : List Bool)).flatMap eB), Y3]) 5 [1, 2, 3, 4] rfl rfl rfl⟩
  · rintro a u ⟨p104, B106, d107, rfl, hF, S⟩
    refine wp_seq ?_
    refine wp_seq ?_
    refine wp_region_lit ?_
    refine op_val (v := .pointer (some ⟨g0, 0, none⟩)) rfl rfl hF rfl (run_move rfl (hF.ev rfl)) ?_; clear hF; intro a hF
    refine op_val (v := .int .i64 x4) rfl rfl hF rfl (run_move rfl (hF.ev rfl)) ?_; clear hF; intro a hF
    obtain ⟨p118, h118, hM⟩ := bind_ex hM
    refine op_call rfl rfl hF rfl (run_call (vs := [.pointer (some ⟨g0, 0, none⟩), .int .i64 x4]) rfl rfl co20 ⟨(hF.ev rfl), (hF.ev rfl), trivial⟩) (c_spec_l20Rd_odd (x0 := x0) (x1 := p104.2) (x2 := x4) ⟨h0.rc, rfl⟩ (show St w0 _ (Asn.box g0 57 #[.slice A0 x0.length c0, .int .i64 p104.2] :: Asn.row 4 1 (.slice B106 p104.1.length d107) p104.1.length (p104.1.flatMap eB) :: Y3 :: X) from S.selT (M := [.box g0 57 #[.slice A0 x0.length c0, .int .i64 p104.2], .row 4 1 (.slice B106 p104.1.length d107) p104.1.length (p104.1.flatMap eB), Y3]) 3 [0, 1, 2] rfl rfl rfl) h118) ?_
    rintro e u ⟨rfl, T⟩
    refine ⟨_, rfl, ?_⟩
    clear hF; intro a hF
    clear S; have S := T; clear T
    refine wpList_nil ?_
    cases hc119 : (p118.1)
    · replace hM := bif_f hc119 hM
      refine cond_f hF rfl hc119 ?_
      refine wp_skip ?_
      refine wp_seq ?_
      refine wp_region_lit ?_
      refine op_val (v := .slice B106 p104.1.length d107) rfl rfl hF rfl (run_move rfl (hF.ev rfl)) ?_; clear hF; intro a hF
      refine op_val (v := .slice B106 p104.1.length d107) rfl rfl hF rfl (run_assign rfl (hF.ev rfl)) ?_; clear hF; intro a hF
      refine wpList_nil ?_
      refine wp_ret ?_
      repeat with_reducible (first | refine then_ret ?_ | refine in_ret ?_ | refine in_nrm ?_)
      refine ret1_gw (.inl rfl) hF rfl (res_tmp (hF.ev rfl)) ?_
      obtain rfl := Option.some.inj hM
      exact ⟨B106, p104.1.length, d107, rfl, rfl, S.selT (M := [.row 4 1 (.slice B106 p104.1.length d107) p104.1.length (p104.1.flatMap eB), .box g0 57 #[.slice A0 x0.length c0, .int .i64 p118.2], Y3]) 3 [1, 0, 2] rfl rfl rfl⟩
    · replace hM := bif_t hc119 hM
      refine cond_t hF rfl hc119 ?_
      refine wp_seq ?_
      refine wp_region_lit ?_
      refine op_val (v := .slice B106 p104.1.length d107) rfl rfl hF rfl (run_move rfl (hF.ev rfl)) ?_; clear hF; intro a hF
      refine op_newrowL (ls := (([true] : List Bool) : List Bool)) (e := eB) rfl rfl hF rfl S (run_buildS (vs := [(0, .bool true)]) rfl ⟨⟨rfl, rfl⟩, trivial⟩ (bs23_1_0 rfl)) rfl eB_len (Nat.le_of_ble_eq_true rfl) ?_; clear hF S; intro a g120 u hF S
      obtain ⟨hk123, hM⟩ := chk_ex hM
      replace hk123 := apB_t hk123
      refine op_appendL (lx := p104.1) (ly := ([true] : List Bool)) rfl rfl hF rfl S rfl (hF.ev rfl) (hF.ev rfl) (i := 2) rfl rfl Tryd.underlying23 inf4 rfl (by decide) (S.rc 0 rfl).rd rfl eB_one hk123 (by decide) ?_; clear hF S; intro a B121 d122 u hF S
      refine op_val (v := .slice B121 ((p104.1 ++ ([true] : List Bool)).length) d122) rfl rfl hF rfl (run_assign rfl (hF.ev rfl)) ?_; clear hF; intro a hF
      refine wpList_nil ?_
      refine wp_ret ?_
      repeat with_reducible (first | refine then_ret ?_ | refine in_ret ?_ | refine in_nrm ?_)
      refine ret1_gw (.inl rfl) hF rfl (res_tmp (hF.ev rfl)) ?_
      obtain rfl := Option.some.inj hM
      exact ⟨B121, ((p104.1 ++ ([true] : List Bool)).length), d122, rfl, rfl, S.selT (M := [.row 4 1 (.slice B121 ((p104.1 ++ ([true] : List Bool)).length) d122) ((p104.1 ++ ([true] : List Bool)).length) ((p104.1 ++ ([true] : List Bool)).flatMap eB), .box g0 57 #[.slice A0 x0.length c0, .int .i64 p118.2], Y3]) 4 [2, 1, 3] rfl rfl rfl⟩

set_option maxHeartbeats 4000000 in
theorem c_spec_DrawStateNumber {x0 : List Int} {A0 : Option Addr} {n0 c0 : Nat} {w : World} {r : List Bool} (h0 : Rt w 1 eU A0 n0 c0 x0) (hM : m_spec_DrawStateNumber x0 = some r) :
    Calls Tryd.prog 13 #[.slice A0 n0 c0] w (fun e w' => ∃ (B0 : Option Addr) (N0 D0 : Nat), e = .returned (.slice B0 N0 D0) ∧ N0 = r.length ∧ St w w' [.row 4 1 (.slice B0 N0 D0) N0 (r.flatMap eB)]) := by
  obtain rfl := h0.len
  unfold m_spec_DrawStateNumber at hM
  refine calls_gw Tryd.func13 Tryd.ntmps13 rfl [(0, .slice A0 x0.length c0)] ⟨rfl, trivial⟩ rfl ?_
  intro a hF
  have S := St.nil w
  refine wp_seq ?_
  refine wp_region_lit ?_
  refine op_val (v := .slice none 0 0) rfl rfl hF rfl (run_assign rfl rfl) ?_; clear hF; intro a hF
  refine wpList_nil ?_
  refine wp_seq ?_
  refine wp_region_lit ?_
  refine op_val (v := .slice A0 x0.length c0) rfl rfl hF rfl (run_move rfl (hF.ev rfl)) ?_; clear hF; intro a hF
  refine op_call rfl rfl hF rfl (run_call (vs := [.slice A0 x0.length c0]) rfl rfl co16 ⟨(hF.ev rfl), trivial⟩) (c_spec_l20Open ⟨(S.rc0 h0.rc), rfl⟩) ?_
  rintro e u ⟨g101, rfl, T⟩
  refine ⟨_, rfl, ?_⟩
  clear hF; intro a hF
  replace S := S.call1 T; clear T
  refine op_val (v := .pointer (some ⟨g101, 0, none⟩)) rfl rfl hF rfl (run_assign rfl (hF.ev rfl)) ?_; clear hF; intro a hF
  refine wpList_nil ?_
  refine wp_seq ?_
  refine wp_region_lit ?_
  refine op_val (v := .pointer (some ⟨g101, 0, none⟩)) rfl rfl hF rfl (run_move rfl (hF.ev rfl)) ?_; clear hF; intro a hF
  refine op_val (v := .pointer (some ⟨g101, 0, none⟩)) rfl rfl hF rfl (run_move rfl (hF.ev rfl)) ?_; clear hF; intro a hF
  obtain ⟨p102, h102, hM⟩ := bind_ex hM
  refine op_call rfl rfl hF rfl (run_call (vs := [.pointer (some ⟨g101, 0, none⟩), .int .i64 0]) rfl rfl co18 ⟨(hF.ev rfl), rfl, trivial⟩) (c_spec_l20Net (x0 := x0.take 2000) (x1 := 0) (x2 := 0) ⟨(op_rc h0.rc rfl), rfl⟩ (show St w _ [.box g101 57 #[.slice (opA c0 x0.length A0) ((x0.take 2000).length) c0, .int .i64 0]] from S.sel [0] rfl rfl) h102) ?_
  rintro e u ⟨B103, n104, d105, rfl, rfl, T⟩
  refine ⟨_, rfl, ?_⟩
  clear hF; intro a hF
  clear S; have S := T; clear T
  obtain ⟨p106, h106, hM⟩ := bind_ex hM
  refine op_call rfl rfl hF rfl (run_call (vs := [.pointer (some ⟨g101, 0, none⟩), .agg #[.int .i64 p102.1, .slice B103 p102.2.1.length d105], .int .i64 0]) rfl rfl co17 ⟨(hF.ev rfl), (hF.ev rfl), rfl, trivial⟩) (c_spec_l20State (x0 := x0.take 2000) (x1 := p102.2.2) (x2 := p102.1) (x3 := p102.2.1) (Y3 := .row 34 3 (.slice B103 p102.2.1.length d105) p102.2.1.length (p102.2.1.flatMap eLine)) (x4 := 0) ⟨(op_rc h0.rc rfl), rfl⟩ rfl (fun u h => (own_rc (show Ow u _ _ _ _ _ from h))) (show St w _ [.box g101 57 #[.slice (opA c0 x0.length A0) ((x0.take 2000).length) c0, .int .i64 p102.2.2], .row 34 3 (.slice B103 p102.2.1.length d105) p102.2.1.length (p102.2.1.flatMap eLine)] from S.sel [1, 0] rfl rfl) h106) ?_
  rintro e u ⟨B107, n108, d109, rfl, rfl, T⟩
  refine ⟨_, rfl, ?_⟩
  clear hF; intro a hF
  clear S; have S := T; clear T
  refine op_val (v := .slice B107 p106.1.length d109) rfl rfl hF rfl (run_assign rfl (hF.ev rfl)) ?_; clear hF; intro a hF
  refine wpList_nil ?_
  refine wp_seq ?_
  refine wp_seq ?_
  refine wp_region_lit ?_
  refine op_val (v := .pointer (some ⟨g101, 0, none⟩)) rfl rfl hF rfl (run_move rfl (hF.ev rfl)) ?_; clear hF; intro a hF
  obtain ⟨p110, h110, hM⟩ := bind_ex hM
  refine op_call rfl rfl hF rfl (run_call (vs := [.pointer (some ⟨g101, 0, none⟩), .int .i64 9]) rfl rfl co20 ⟨(hF.ev rfl), rfl, trivial⟩) (c_spec_l20Rd_odd (x0 := x0.take 2000) (x1 := p106.2) (x2 := 9) ⟨(op_rc h0.rc rfl), rfl⟩ (show St w _ [.box g101 57 #[.slice (opA c0 x0.length A0) ((x0.take 2000).length) c0, .int .i64 p106.2], .row 4 1 (.slice B107 p106.1.length d109) p106.1.length (p106.1.flatMap eB), .row 34 3 (.slice B103 p102.2.1.length d105) p102.2.1.length (p102.2.1.flatMap eLine)] from S.sel [1, 0, 2] rfl rfl) h110) ?_
  rintro e u ⟨rfl, T⟩
  refine ⟨_, rfl, ?_⟩
  clear hF; intro a hF
  clear S; have S := T; clear T
  refine wpList_nil ?_
  cases hc111 : (p110.1)
  · replace hM := bif_f hc111 hM
    refine cond_f hF rfl hc111 ?_
    refine wp_skip ?_
    refine wp_seq ?_
    refine wp_region_lit ?_
    refine op_val (v := .slice B107 p106.1.length d109) rfl rfl hF rfl (run_move rfl (hF.ev rfl)) ?_; clear hF; intro a hF
    refine op_val (v := .slice B107 p106.1.length d109) rfl rfl hF rfl (run_assign rfl (hF.ev rfl)) ?_; clear hF; intro a hF
    refine wpList_nil ?_
    refine wp_ret ?_
    repeat with_reducible (first | refine then_ret ?_ | refine in_ret ?_ | refine in_nrm ?_)
    refine ret1_gw (.inl rfl) hF rfl (res_tmp (hF.ev rfl)) ?_
    obtain rfl := Option.some.inj hM
    exact ⟨B107, p106.1.length, d109, rfl, rfl, S.sel [1] rfl rfl⟩
  · replace hM := bif_t hc111 hM
    refine cond_t hF rfl hc111 ?_
    refine wp_seq ?_
    refine wp_region_lit ?_
    obtain ⟨hk113, hM⟩ := chk_ex hM
    replace hk113 := mkB_t hk113
    refine op_newrowL (m := (11 : Int).toNat) (ls := List.replicate ((11 : Int).toNat) false) (e := eB) rfl rfl hF rfl S (run_makeL rfl rfl rfl Tryd.underlying23 inf4 eB_len rfl (by decide) hk113) List.length_replicate eB_len (by rw [List.length_replicate]; omega) ?_; clear hF S; intro a g112 u hF S
    refine op_val (v := .slice (some ⟨g112, 0, none⟩) ((11 : Int).toNat) ((11 : Int).toNat)) rfl rfl hF rfl (run_assign rfl (hF.ev rfl)) ?_; clear hF; intro a hF
    refine wpList_nil ?_
    refine wp_ret ?_
    repeat with_reducible (first | refine then_ret ?_ | refine in_ret ?_ | refine in_nrm ?_)
    refine ret1_gw (.inl rfl) hF rfl (res_tmp (hF.ev rfl)) ?_
    obtain rfl := Option.some.inj hM
    exact ⟨(some ⟨g112, 0, none⟩), ((11 : Int).toNat), ((11 : Int).toNat), rfl, List.length_replicate.symm, S.sel [0] rfl rfl⟩

set_option maxHeartbeats 4000000 in
theorem c_spec_DrawStateText {x0 : List Int} {A0 : Option Addr} {n0 c0 : Nat} {w : World} {r : List Bool} (h0 : Rt w 1 eU A0 n0 c0 x0) (hM : m_spec_DrawStateText x0 = some r) :
    Calls Tryd.prog 5 #[.slice A0 n0 c0] w (fun e w' => ∃ (B0 : Option Addr) (N0 D0 : Nat), e = .returned (.slice B0 N0 D0) ∧ N0 = r.length ∧ St w w' [.row 4 1 (.slice B0 N0 D0) N0 (r.flatMap eB)]) := by
  obtain rfl := h0.len
  unfold m_spec_DrawStateText at hM
  refine calls_gw Tryd.func5 Tryd.ntmps5 rfl [(0, .slice A0 x0.length c0)] ⟨rfl, trivial⟩ rfl ?_
  intro a hF
  have S := St.nil w
  refine wp_seq ?_
  refine wp_region_lit ?_
  refine op_val (v := .slice none 0 0) rfl rfl hF rfl (run_assign rfl rfl) ?_; clear hF; intro a hF
  refine wpList_nil ?_
  refine wp_seq ?_
  refine wp_region_lit ?_
  refine op_val (v := .slice A0 x0.length c0) rfl rfl hF rfl (run_move rfl (hF.ev rfl)) ?_; clear hF; intro a hF
  obtain ⟨p101, h101, hM⟩ := bind_ex hM
  refine op_call rfl rfl hF rfl (run_call (vs := [.slice A0 x0.length c0]) rfl rfl co13 ⟨(hF.ev rfl), trivial⟩) (c_spec_DrawStateNumber (x0 := x0) ⟨(S.rc0 h0.rc), rfl⟩ h101) ?_
  rintro e u ⟨B102, n103, d104, rfl, rfl, T⟩
  refine ⟨_, rfl, ?_⟩
  clear hF; intro a hF
  replace S := S.call1 T; clear T
  refine op_val (v := .slice B102 p101.length d104) rfl rfl hF rfl (run_assign rfl (hF.ev rfl)) ?_; clear hF; intro a hF
  refine wpList_nil ?_
  refine wp_ret ?_
  repeat with_reducible (first | refine then_ret ?_ | refine in_ret ?_ | refine in_nrm ?_)
  refine ret1_gw (.inl rfl) hF rfl (res_tmp (hF.ev rfl)) ?_
  obtain rfl := Option.some.inj hM
  exact ⟨B102, p101.length, d104, rfl, rfl, S.sel [0] rfl rfl⟩

set_option maxHeartbeats 4000000 in
theorem c_impl_StateText {x0 : List Bool} {A0 : Option Addr} {n0 c0 : Nat} {w : World} {r : ByteArray} (h0 : Rt w 1 eB A0 n0 c0 x0) (hM : m_impl_StateText x0 = some r) :
    Calls Tryd.prog 6 #[.slice A0 n0 c0] w (fun e w' => e = .returned (.string r) ∧ St w w' []) := by
  obtain rfl := h0.len
  unfold m_impl_StateText at hM
  refine calls_gw Tryd.func6 Tryd.ntmps6 rfl [(0, .slice A0 x0.length c0)] ⟨rfl, trivial⟩ rfl ?_
  intro a hF
  have S := St.nil w
  refine wp_seq ?_
  refine wp_region_lit ?_
  refine op_val (v := .string ({ data := #[] } : ByteArray)) rfl rfl hF rfl (run_assign rfl rfl) ?_; clear hF; intro a hF
  refine wpList_nil ?_
  refine wp_seq ?_
  refine wp_seq ?_
  refine wp_region_lit ?_
  refine op_val (v := .slice A0 x0.length c0) rfl rfl hF rfl (run_move rfl (hF.ev rfl)) ?_; clear hF; intro a hF
  refine op_val (v := .int .i64 (x0.length : Int)) rfl rfl hF rfl (run_lenL rfl rfl Tryd.underlying23 (hF.ev rfl)) ?_; clear hF; intro a hF
  refine op_val (v := .bool (ltB 10 (x0.length : Int))) rfl rfl hF rfl (run_gtr (hF.ev rfl) rfl rfl) ?_; clear hF; intro a hF
  refine wpList_nil ?_
  cases hc101 : (ltB 10 (x0.length : Int))
  · replace hM := bif_f hc101 hM
    refine cond_f hF rfl hc101 ?_
    refine wp_skip ?_
    refine wp_seq ?_
    refine wp_region_lit ?_
    refine op_val (v := .slice A0 x0.length c0) rfl rfl hF rfl (run_move rfl (hF.ev rfl)) ?_; clear hF; intro a hF
    refine op_val (v := .int .i64 (x0.length : Int)) rfl rfl hF rfl (run_lenL rfl rfl Tryd.underlying23 (hF.ev rfl)) ?_; clear hF; intro a hF
    obtain ⟨hk103, hM⟩ := chk_ex hM
    replace hk103 := mkB_t hk103
    refine op_newrowL (m := x0.length) (ls := List.replicate x0.length (0 : Int)) (e := eU) rfl rfl hF rfl S (run_makeL rfl (hF.ev rfl) (hF.ev rfl) Tryd.underlying22 inf5 eU_len rfl (by decide) hk103) List.length_replicate eU_len (by rw [List.length_replicate]; omega) ?_; clear hF S; intro a g102 u hF S
    refine op_val (v := .slice (some ⟨g102, 0, none⟩) x0.length x0.length) rfl rfl hF rfl (run_assign rfl (hF.ev rfl)) ?_; clear hF; intro a hF
    refine wpList_nil ?_
    refine wp_seq ?_
    refine wp_seq ?_
    refine wp_region_lit ?_
    refine op_val (v := .slice A0 x0.length c0) rfl rfl hF rfl (run_move rfl (hF.ev rfl)) ?_; clear hF; intro a hF
    refine op_val (v := .int .i64 (x0.length : Int)) rfl rfl hF rfl (run_lenL rfl rfl Tryd.underlying23 (hF.ev rfl)) ?_; clear hF; intro a hF
    refine op_val (v := .int .i64 0) rfl rfl hF rfl (run_move rfl rfl) ?_; clear hF; intro a hF
    refine wpList_nil ?_
    obtain ⟨o105, hM107, hM⟩ := bind_ex hM
    refine wp_cut (fun a u => ∃ (p104 : List Int), p104 = o105 ∧ x0.length = p104.length ∧ Fr a 29 [(2, .string ({ data := #[] } : ByteArray)), (3, .slice (some ⟨g102, 0, none⟩) x0.length x0.length)] ∧ St w u [.row 5 1 (.slice (some ⟨g102, 0, none⟩) x0.length x0.length) x0.length (p104.flatMap eU)]) ?_ ?_
    · have _ := trivial
      refine wp_block ?_
      refine loop_gw (fun m a u => ∃ (p108 : List Int × Int), m_impl_StateText_l1 x0 m p108 = some _ ∧ x0.length = p108.1.length ∧ Fr a 29 [(2, .string ({ data := #[] } : ByteArray)), (3, .slice (some ⟨g102, 0, none⟩) x0.length x0.length), (12, .slice A0 x0.length c0), (13, .int .i64 (x0.length : Int)), (14, .int .i64 p108.2)] ∧ St w u [.row 5 1 (.slice (some ⟨g102, 0, none⟩) x0.length x0.length) x0.length (p108.1.flatMap eU)]) FUEL ⟨(List.replicate x0.length (0 : Int), 0), hM107, List.length_replicate.symm, hF.keep _ ⟨rfl, rfl, rfl, rfl, rfl, trivial⟩, S.sel [0] rfl rfl⟩ ?_
      clear hF S hM107; rintro m a u ⟨p108, hM107, hn109, hF, S⟩
      rcases m with _ | f1
      · exact none_some hM107
      rw [m_impl_StateText_l1.eq_2] at hM107
      refine wp_seq ?_
      refine wp_region_lit ?_
      refine op_val (v := .bool (ltB p108.2 (x0.length : Int))) rfl rfl hF rfl (run_lss (hF.ev rfl) (hF.ev rfl) rfl) ?_; clear hF; intro a hF
      refine wpList_nil ?_
      refine wp_seq ?_
      cases hc110 : (ltB p108.2 (x0.length : Int))
      · replace hM107 := bif_f hc110 hM107
        refine cond_f hF rfl hc110 ?_
        refine wp_exit ?_
        repeat with_reducible (first | refine then_exit ?_ | refine in_hit ?_ | refine in_miss rfl ?_)
        obtain rfl := Option.some.inj hM107
        exact ⟨p108.1, rfl, hn109, hF.keep _ ⟨rfl, rfl, trivial⟩, S.sel [0] rfl rfl⟩
      · replace hM107 := bif_t hc110 hM107
        refine cond_t hF rfl hc110 ?_
        refine wp_skip ?_
        refine wp_seq ?_
        refine wp_block ?_
        refine wp_seq ?_
        refine wp_region_lit ?_
        refine op_val (v := .int .i64 p108.2) rfl rfl hF rfl (run_move rfl (hF.ev rfl)) ?_; clear hF; intro a hF
        obtain ⟨hk111, hM107⟩ := chk_ex hM107
        replace hk111 := ixB_t hk111
        refine op_val (v := .pointer (some ⟨adB A0, adO A0 + p108.2.toNat * 1, none⟩)) rfl rfl hF rfl (run_indexAddr (b := adB A0) (off := adO A0) rfl Tryd.underlying23 sz4 ((hF.ev rfl).trans (congrArg (fun A => Value.slice A x0.length c0) ((S.rc0 h0.rc).rd.ad (ix_pos hk111)))) (hF.ev rfl) hk111.1 hk111.2 (k' := adO A0 + p108.2.toNat * 1) rfl) ?_; clear hF; intro a hF
        refine op_val (v := .bool (x0.getD p108.2.toNat false)) rfl rfl hF rfl (run_load1 rfl one4 (hF.ev rfl) (rd_el0 (l := x0) (S.rc0 h0.rc).rd rfl eB_len false (ix_ltn hk111 rfl) rfl)) ?_; clear hF; intro a hF
        refine op_val (v := .int .i64 p108.2) rfl rfl hF rfl (run_assign rfl (hF.ev rfl)) ?_; clear hF; intro a hF
        refine op_val (v := .bool (x0.getD p108.2.toNat false)) rfl rfl hF rfl (run_assign rfl (hF.ev rfl)) ?_; clear hF; intro a hF
        refine wpList_nil ?_
        refine wp_seq ?_
        refine wp_region_lit ?_
        refine op_val (v := .slice (some ⟨g102, 0, none⟩) x0.length x0.length) rfl rfl hF rfl (run_move rfl (hF.ev rfl)) ?_; clear hF; intro a hF
        refine op_val (v := .int .i64 p108.2) rfl rfl hF rfl (run_move rfl (hF.ev rfl)) ?_; clear hF; intro a hF
        obtain ⟨hk112, hM107⟩ := chk_ex hM107
        replace hk112 := ixB_t hk112
        refine op_val (v := .pointer (some ⟨adB (some ⟨g102, 0, none⟩), adO (some ⟨g102, 0, none⟩) + p108.2.toNat * 1, none⟩)) rfl rfl hF rfl (run_indexAddr (b := adB (some ⟨g102, 0, none⟩)) (off := adO (some ⟨g102, 0, none⟩)) rfl Tryd.underlying22 sz5 ((hF.ev rfl).trans (congrArg (fun A => Value.slice A x0.length x0.length) ((S.rc 0 rfl).rd.ad (ix_pos hk112)))) (hF.ev rfl) hk112.1 hk112.2 (k' := adO (some ⟨g102, 0, none⟩) + p108.2.toNat * 1) rfl) ?_; clear hF; intro a hF
        obtain ⟨w', hrun, S'⟩ := run_storeElN (P := Tryd.prog) (ρ := a.eval) (y0 := 48) (off := 0) S 5 (.tmp 21) (.const (.int .u8 48)) (i := 0) sz5 (hF.ev rfl) rfl rfl rfl rfl rfl hn109 eU_len (0 : Int) (ix_ltn hk112 hn109) rfl rfl
        refine op_do rfl rfl (hrun _ rfl) ?_; clear hrun S; have S := S'; clear S'; generalize w' = u at S ⊢
        refine wpList_nil ?_
        refine wp_seq ?_
        refine wp_region_lit ?_
        refine op_val (v := .bool (x0.getD p108.2.toNat false)) rfl rfl hF rfl (run_move rfl (hF.ev rfl)) ?_; clear hF; intro a hF
        refine wpList_nil ?_
        obtain ⟨o114, hM116, hM107⟩ := bind_ex hM107
        refine wp_cut (fun a u => ∃ (p113 : List Int), p113 = o114 ∧ x0.length = p113.length ∧ Fr a 29 [(2, .string ({ data := #[] } : ByteArray)), (3, .slice (some ⟨g102, 0, none⟩) x0.length x0.length), (12, .slice A0 x0.length c0), (13, .int .i64 (x0.length : Int)), (14, .int .i64 p108.2)] ∧ St w u [.row 5 1 (.slice (some ⟨g102, 0, none⟩) x0.length x0.length) x0.length (p113.flatMap eU)]) ?_ ?_
        · have _ := trivial
          cases hc117 : (x0.getD p108.2.toNat false)
          · replace hM116 := bif_f hc117 hM116
            refine cond_f hF rfl hc117 ?_
            refine wp_skip ?_
            obtain rfl := Option.some.inj hM116
            exact ⟨p108.1.set p108.2.toNat 48, rfl, (len_set hn109), hF.keep _ ⟨rfl, rfl, rfl, rfl, rfl, trivial⟩, S.sel [0] rfl rfl⟩
          · replace hM116 := bif_t hc117 hM116
            refine cond_t hF rfl hc117 ?_
            refine wp_region_lit ?_
            refine op_val (v := .slice (some ⟨g102, 0, none⟩) x0.length x0.length) rfl rfl hF rfl (run_move rfl (hF.ev rfl)) ?_; clear hF; intro a hF
            refine op_val (v := .int .i64 p108.2) rfl rfl hF rfl (run_move rfl (hF.ev rfl)) ?_; clear hF; intro a hF
            obtain ⟨hk118, hM116⟩ := chk_ex hM116
            replace hk118 := ixB_t hk118
            refine op_val (v := .pointer (some ⟨adB (some ⟨g102, 0, none⟩), adO (some ⟨g102, 0, none⟩) + p108.2.toNat * 1, none⟩)) rfl rfl hF rfl (run_indexAddr (b := adB (some ⟨g102, 0, none⟩)) (off := adO (some ⟨g102, 0, none⟩)) rfl Tryd.underlying22 sz5 ((hF.ev rfl).trans (congrArg (fun A => Value.slice A x0.length x0.length) ((S.rc 0 rfl).rd.ad (ix_pos hk118)))) (hF.ev rfl) hk118.1 hk118.2 (k' := adO (some ⟨g102, 0, none⟩) + p108.2.toNat * 1) rfl) ?_; clear hF; intro a hF
            obtain ⟨w', hrun, S'⟩ := run_storeEl2 (P := Tryd.prog) (ρ := a.eval) (l := p108.1) (y0 := 48) (y1 := 49) (off := 0) S 5 (.tmp 25) (.const (.int .u8 49)) (i := 0) sz5 (hF.ev rfl) rfl rfl rfl rfl rfl hn109 eU_len (ix_ltn hk118 hn109) rfl rfl
            refine op_do rfl rfl (hrun _ rfl) ?_; clear hrun S; have S := S'; clear S'; generalize w' = u at S ⊢
            refine wpList_nil ?_
            obtain rfl := Option.some.inj hM116
            exact ⟨p108.1.set p108.2.toNat 49, rfl, (len_set hn109), hF.keep _ ⟨rfl, rfl, rfl, rfl, rfl, trivial⟩, S.sel [0] rfl rfl⟩
        · rintro a u ⟨p113, rfl, hn115, hF, S⟩
          refine wp_region_lit ?_
          refine op_val (v := .int .i64 (w64 (p108.2 + 1))) rfl rfl hF rfl (run_add (z := w64 (p108.2 + 1)) (hF.ev rfl) rfl rfl rfl) ?_; clear hF; intro a hF
          refine op_val (v := .int .i64 (w64 (p108.2 + 1))) rfl rfl hF rfl (run_move rfl (hF.ev rfl)) ?_; clear hF; intro a hF
          refine wpList_nil ?_
          exact ⟨f1, Nat.lt_succ_self _, (p113, w64 (p108.2 + 1)), hM107, hn115, hF.keep _ ⟨rfl, rfl, rfl, rfl, rfl, trivial⟩, S.sel [0] rfl rfl⟩
    · rintro a u ⟨p104, rfl, hn106, hF, S⟩
      refine wp_seq ?_
      refine wp_region_lit ?_
      refine op_val (v := .slice (some ⟨g102, 0, none⟩) x0.length x0.length) rfl rfl hF rfl (run_move rfl (hF.ev rfl)) ?_; clear hF; intro a hF
      refine op_val (v := .string (strOfNums p104)) rfl rfl hF rfl (run_convS rfl Tryd.underlying22 Tryd.underlying5 Tryd.underlying9 (hF.ev rfl) (S.rc 0 rfl).rd hn106) ?_; clear hF; intro a hF
      refine op_val (v := .string (strOfNums p104)) rfl rfl hF rfl (run_assign rfl (hF.ev rfl)) ?_; clear hF; intro a hF
      refine wpList_nil ?_
      refine wp_ret ?_
      repeat with_reducible (first | refine then_ret ?_ | refine in_ret ?_ | refine in_nrm ?_)
      refine ret1_gw (.inl rfl) hF rfl (res_tmp (hF.ev rfl)) ?_
      obtain rfl := Option.some.inj hM
      exact ⟨rfl, S.sel [] rfl rfl⟩
  · replace hM := bif_t hc101 hM
    refine cond_t hF rfl hc101 ?_
    refine wp_seq ?_
    refine wp_region_lit ?_
    refine op_val (v := .string ({ data := #[] } : ByteArray)) rfl rfl hF rfl (run_assign rfl rfl) ?_; clear hF; intro a hF
    refine wpList_nil ?_
    refine wp_ret ?_
    repeat with_reducible (first | refine then_ret ?_ | refine in_ret ?_ | refine in_nrm ?_)
    refine ret1_gw (.inl rfl) hF rfl (res_tmp (hF.ev rfl)) ?_
    obtain rfl := Option.some.inj hM
    exact ⟨rfl, S.sel [] rfl rfl⟩

set_option maxHeartbeats 4000000 in
theorem c_spec_StateText {x0 : List Bool} {A0 : Option Addr} {n0 c0 : Nat} {w : World} {r : ByteArray} (h0 : Rt w 1 eB A0 n0 c0 x0) (hM : m_spec_StateText x0 = some r) :
    Calls Tryd.prog 7 #[.slice A0 n0 c0] w (fun e w' => e = .returned (.string r) ∧ St w w' []) := by
  obtain rfl := h0.len
  unfold m_spec_StateText at hM
  refine calls_gw Tryd.func7 Tryd.ntmps7 rfl [(0, .slice A0 x0.length c0)] ⟨rfl, trivial⟩ rfl ?_
  intro a hF
  have S := St.nil w
  refine wp_seq ?_
  refine wp_region_lit ?_
  refine op_val (v := .string ({ data := #[] } : ByteArray)) rfl rfl hF rfl (run_assign rfl rfl) ?_; clear hF; intro a hF
  refine wpList_nil ?_
  refine wp_seq ?_
  refine wp_region_lit ?_
  refine op_val (v := .string ({ data := #[] } : ByteArray)) rfl rfl hF rfl (run_assign rfl rfl) ?_; clear hF; intro a hF
  refine wpList_nil ?_
  refine wp_seq ?_
  refine wp_seq ?_
  refine wp_region_lit ?_
  refine op_val (v := .int .i64 0) rfl rfl hF rfl (run_assign rfl rfl) ?_; clear hF; intro a hF
  refine wpList_nil ?_
  obtain ⟨o102, hM103, hM⟩ := bind_ex hM
  refine wp_cut (fun a u => ∃ (p101 : ByteArray), p101 = o102 ∧ Fr a 25 [(2, .string ({ data := #[] } : ByteArray)), (3, .string p101)] ∧ St w u []) ?_ ?_
  · have _ := trivial
    refine wp_block ?_
    refine loop_gw (fun m a u => ∃ (p104 : ByteArray × Int), m_spec_StateText_l1 x0 m p104 = some _ ∧ Fr a 25 [(0, .slice A0 x0.length c0), (2, .string ({ data := #[] } : ByteArray)), (3, .string p104.1), (4, .int .i64 p104.2)] ∧ St w u []) FUEL ⟨(({ data := #[] } : ByteArray), 0), hM103, hF.keep _ ⟨rfl, rfl, rfl, rfl, trivial⟩, S.sel [] rfl rfl⟩ ?_
    clear hF S hM103; rintro m a u ⟨p104, hM103, hF, S⟩
    rcases m with _ | f1
    · exact none_some hM103
    rw [m_spec_StateText_l1.eq_2] at hM103
    refine wp_seq ?_
    refine wp_seq ?_
    refine wp_region_lit ?_
    refine op_val (v := .int .i64 p104.2) rfl rfl hF rfl (run_move rfl (hF.ev rfl)) ?_; clear hF; intro a hF
    refine op_val (v := .slice A0 x0.length c0) rfl rfl hF rfl (run_move rfl (hF.ev rfl)) ?_; clear hF; intro a hF
    refine op_val (v := .int .i64 (x0.length : Int)) rfl rfl hF rfl (run_lenL rfl rfl Tryd.underlying23 (hF.ev rfl)) ?_; clear hF; intro a hF
    refine op_val (v := .bool (ltB p104.2 (x0.length : Int))) rfl rfl hF rfl (run_lss (hF.ev rfl) (hF.ev rfl) rfl) ?_; clear hF; intro a hF
    refine op_val (v := .bool (ltB p104.2 (x0.length : Int))) rfl rfl hF rfl (run_move rfl (hF.ev rfl)) ?_; clear hF; intro a hF
    refine op_gv (v := .slice A0 x0.length c0) rfl rfl hF rfl (yt (gw_yield hF rfl rfl rfl)) (fun hg => (run_move rfl (hF.ev rfl))) ?_; clear hF; intro a hF
    refine op_gv (v := .int .i64 (x0.length : Int)) rfl rfl hF rfl (yt (gw_yield hF rfl rfl rfl)) (fun hg => (run_lenL rfl rfl Tryd.underlying23 ((hF.ev rfl).trans (gv_t hg)))) ?_; clear hF; intro a hF
    refine op_gv (v := .bool (leB (x0.length : Int) 10)) rfl rfl hF rfl (yt (gw_yield hF rfl rfl rfl)) (fun hg => (run_leq ((hF.ev rfl).trans (gv_t hg)) rfl rfl)) ?_; clear hF; intro a hF
    refine op_val (v := .bool ((ltB p104.2 (x0.length : Int)) && (leB (x0.length : Int) 10))) rfl rfl hF rfl (run_pick_and rfl (hF.ev rfl) (fun hp => ((hF.ev rfl).trans (gv_t hp))) rfl) ?_; clear hF; intro a hF
    refine wpList_nil ?_
    cases hc105 : ((ltB p104.2 (x0.length : Int)) && (leB (x0.length : Int) 10))
    · replace hM103 := bif_f hc105 hM103
      refine cond_f hF rfl hc105 ?_
      refine wp_exit ?_
      repeat with_reducible (first | refine then_exit ?_ | refine in_hit ?_ | refine in_miss rfl ?_)
      obtain rfl := Option.some.inj hM103
      exact ⟨p104.1, rfl, hF.keep _ ⟨rfl, rfl, trivial⟩, S.sel [] rfl rfl⟩
    · replace hM103 := bif_t hc105 hM103
      refine cond_t hF rfl hc105 ?_
      refine wp_skip ?_
      refine wp_seq ?_
      refine wp_block ?_
      refine wp_seq ?_
      refine wp_region_lit ?_
      refine op_val (v := .slice A0 x0.length c0) rfl rfl hF rfl (run_move rfl (hF.ev rfl)) ?_; clear hF; intro a hF
      refine op_val (v := .int .i64 p104.2) rfl rfl hF rfl (run_move rfl (hF.ev rfl)) ?_; clear hF; intro a hF
      obtain ⟨hk106, hM103⟩ := chk_ex hM103
      replace hk106 := ixB_t hk106
      refine op_val (v := .pointer (some ⟨adB A0, adO A0 + p104.2.toNat * 1, none⟩)) rfl rfl hF rfl (run_indexAddr (b := adB A0) (off := adO A0) rfl Tryd.underlying23 sz4 ((hF.ev rfl).trans (congrArg (fun A => Value.slice A x0.length c0) ((S.rc0 h0.rc).rd.ad (ix_pos hk106)))) (hF.ev rfl) hk106.1 hk106.2 (k' := adO A0 + p104.2.toNat * 1) rfl) ?_; clear hF; intro a hF
      refine op_val (v := .bool (x0.getD p104.2.toNat false)) rfl rfl hF rfl (run_load1 rfl one4 (hF.ev rfl) (rd_el0 (l := x0) (S.rc0 h0.rc).rd rfl eB_len false (ix_ltn hk106 rfl) rfl)) ?_; clear hF; intro a hF
      refine wpList_nil ?_
      obtain ⟨o108, hM109, hM103⟩ := bind_ex hM103
      refine wp_cut (fun a u => ∃ (p107 : ByteArray), p107 = o108 ∧ Fr a 25 [(0, .slice A0 x0.length c0), (2, .string ({ data := #[] } : ByteArray)), (3, .string p107), (4, .int .i64 p104.2)] ∧ St w u []) ?_ ?_
      · have _ := trivial
        cases hc110 : (x0.getD p104.2.toNat false)
        · replace hM109 := bif_f hc110 hM109
          refine cond_f hF rfl hc110 ?_
          refine wp_region_lit ?_
          refine op_val (v := .string p104.1) rfl rfl hF rfl (run_move rfl (hF.ev rfl)) ?_; clear hF; intro a hF
          obtain ⟨hk111, hM109⟩ := chk_ex hM109
          replace hk111 := stB_t hk111
          refine op_val (v := .string (p104.1 ++ ({ data := #[48] } : ByteArray))) rfl rfl hF rfl (run_addS rfl (hF.ev rfl) rfl hk111) ?_; clear hF; intro a hF
          refine op_val (v := .string (p104.1 ++ ({ data := #[48] } : ByteArray))) rfl rfl hF rfl (run_assign rfl (hF.ev rfl)) ?_; clear hF; intro a hF
          refine wpList_nil ?_
          obtain rfl := Option.some.inj hM109
          exact ⟨p104.1 ++ ({ data := #[48] } : ByteArray), rfl, hF.keep _ ⟨rfl, rfl, rfl, rfl, trivial⟩, S.sel [] rfl rfl⟩
        · replace hM109 := bif_t hc110 hM109
          refine cond_t hF rfl hc110 ?_
          refine wp_region_lit ?_
          refine op_val (v := .string p104.1) rfl rfl hF rfl (run_move rfl (hF.ev rfl)) ?_; clear hF; intro a hF
          obtain ⟨hk112, hM109⟩ := chk_ex hM109
          replace hk112 := stB_t hk112
          refine op_val (v := .string (p104.1 ++ ({ data := #[49] } : ByteArray))) rfl rfl hF rfl (run_addS rfl (hF.ev rfl) rfl hk112) ?_; clear hF; intro a hF
          refine op_val (v := .string (p104.1 ++ ({ data := #[49] } : ByteArray))) rfl rfl hF rfl (run_assign rfl (hF.ev rfl)) ?_; clear hF; intro a hF
          refine wpList_nil ?_
          obtain rfl := Option.some.inj hM109
          exact ⟨p104.1 ++ ({ data := #[49] } : ByteArray), rfl, hF.keep _ ⟨rfl, rfl, rfl, rfl, trivial⟩, S.sel [] rfl rfl⟩
      · rintro a u ⟨p107, rfl, hF, S⟩
        refine wp_region_lit ?_
        refine op_val (v := .int .i64 p104.2) rfl rfl hF rfl (run_move rfl (hF.ev rfl)) ?_; clear hF; intro a hF
        refine op_val (v := .int .i64 (w64 (p104.2 + 1))) rfl rfl hF rfl (run_add (z := w64 (p104.2 + 1)) (hF.ev rfl) rfl rfl rfl) ?_; clear hF; intro a hF
        refine op_val (v := .int .i64 (w64 (p104.2 + 1))) rfl rfl hF rfl (run_assign rfl (hF.ev rfl)) ?_; clear hF; intro a hF
        refine wpList_nil ?_
        exact ⟨f1, Nat.lt_succ_self _, (p107, w64 (p104.2 + 1)), hM103, hF.keep _ ⟨rfl, rfl, rfl, rfl, trivial⟩, S.sel [] rfl rfl⟩
  · rintro a u ⟨p101, rfl, hF, S⟩
    refine wp_seq ?_
    refine wp_region_lit ?_
    refine op_val (v := .string p101) rfl rfl hF rfl (run_move rfl (hF.ev rfl)) ?_; clear hF; intro a hF
    refine op_val (v := .string p101) rfl rfl hF rfl (run_assign rfl (hF.ev rfl)) ?_; clear hF; intro a hF
    refine wpList_nil ?_
    refine wp_ret ?_
    repeat with_reducible (first | refine then_ret ?_ | refine in_ret ?_ | refine in_nrm ?_)
    refine ret1_gw (.inl rfl) hF rfl (res_tmp (hF.ev rfl)) ?_
    obtain rfl := Option.some.inj hM
    exact ⟨rfl, S.sel [] rfl rfl⟩

set_option maxHeartbeats 4000000 in
theorem c_impl_ReadState {x0 : ByteArray} {w : World} {r : List Bool × Bool}  (hM : m_impl_ReadState x0 = some r) :
    Calls Tryd.prog 8 #[.string x0] w (fun e w' => ∃ (B0 : Option Addr) (N0 D0 : Nat), e = .returned (.tuple #[.slice B0 N0 D0, .bool r.2]) ∧ N0 = r.1.length ∧ St w w' [.row 4 1 (.slice B0 N0 D0) N0 (r.1.flatMap eB)]) := by
  unfold m_impl_ReadState at hM
  refine calls_gw Tryd.func8 Tryd.ntmps8 rfl [(0, .string x0)] ⟨rfl, trivial⟩ rfl ?_
  intro a hF
  have S := St.nil w
  refine wp_seq ?_
  refine wp_region_lit ?_
  refine op_val (v := .slice none 0 0) rfl rfl hF rfl (run_assign rfl rfl) ?_; clear hF; intro a hF
  refine op_val (v := .bool false) rfl rfl hF rfl (run_assign rfl rfl) ?_; clear hF; intro a hF
  refine wpList_nil ?_
  refine wp_seq ?_
  refine wp_seq ?_
  refine wp_region_lit ?_
  refine op_val (v := .string x0) rfl rfl hF rfl (run_move rfl (hF.ev rfl)) ?_; clear hF; intro a hF
  refine op_val (v := .int .i64 (x0.size : Int)) rfl rfl hF rfl (run_lenS rfl rfl Tryd.underlying9 (hF.ev rfl)) ?_; clear hF; intro a hF
  refine op_val (v := .bool (ltB 10 (x0.size : Int))) rfl rfl hF rfl (run_gtr (hF.ev rfl) rfl rfl) ?_; clear hF; intro a hF
  refine wpList_nil ?_
  cases hc101 : (ltB 10 (x0.size : Int))
  · replace hM := bif_f hc101 hM
    refine cond_f hF rfl hc101 ?_
    refine wp_skip ?_
    refine wp_seq ?_
    refine wp_region_lit ?_
    refine op_val (v := .string x0) rfl rfl hF rfl (run_move rfl (hF.ev rfl)) ?_; clear hF; intro a hF
    refine op_val (v := .int .i64 (x0.size : Int)) rfl rfl hF rfl (run_lenS rfl rfl Tryd.underlying9 (hF.ev rfl)) ?_; clear hF; intro a hF
    obtain ⟨hk103, hM⟩ := chk_ex hM
    replace hk103 := mkB_t hk103
    refine op_newrowL (m := x0.size) (ls := List.replicate x0.size false) (e := eB) rfl rfl hF rfl S (run_makeL rfl (hF.ev rfl) (hF.ev rfl) Tryd.underlying23 inf4 eB_len rfl (by decide) hk103) List.length_replicate eB_len (by rw [List.length_replicate]; omega) ?_; clear hF S; intro a g102 u hF S
    refine op_val (v := .slice (some ⟨g102, 0, none⟩) x0.size x0.size) rfl rfl hF rfl (run_assign rfl (hF.ev rfl)) ?_; clear hF; intro a hF
    refine wpList_nil ?_
    refine wp_seq ?_
    refine wp_seq ?_
    refine wp_region_lit ?_
    refine op_val (v := .slice (some ⟨g102, 0, none⟩) x0.size x0.size) rfl rfl hF rfl (run_move rfl (hF.ev rfl)) ?_; clear hF; intro a hF
    refine op_val (v := .int .i64 (x0.size : Int)) rfl rfl hF rfl (run_lenL rfl rfl Tryd.underlying23 (hF.ev rfl)) ?_; clear hF; intro a hF
    refine op_val (v := .int .i64 0) rfl rfl hF rfl (run_move rfl rfl) ?_; clear hF; intro a hF
    refine wpList_nil ?_
    obtain ⟨o105, hM107, hM⟩ := bind_ex hM
    refine wp_cut (fun a u => ∃ (p104 : List Bool), p104 = o105 ∧ x0.size = p104.length ∧ Fr a 30 [(0, .string x0), (2, .slice none 0 0), (3, .bool false), (4, .slice (some ⟨g102, 0, none⟩) x0.size x0.size)] ∧ St w u [.row 4 1 (.slice (some ⟨g102, 0, none⟩) x0.size x0.size) x0.size (p104.flatMap eB)]) ?_ ?_
    · have _ := trivial
      refine wp_block ?_
      refine loop_gw (fun m a u => ∃ (p108 : List Bool × Int), m_impl_ReadState_l1 x0 m p108 = some _ ∧ x0.size = p108.1.length ∧ Fr a 30 [(0, .string x0), (2, .slice none 0 0), (3, .bool false), (4, .slice (some ⟨g102, 0, none⟩) x0.size x0.size), (13, .int .i64 (x0.size : Int)), (14, .int .i64 p108.2)] ∧ St w u [.row 4 1 (.slice (some ⟨g102, 0, none⟩) x0.size x0.size) x0.size (p108.1.flatMap eB)]) FUEL ⟨(List.replicate x0.size false, 0), hM107, List.length_replicate.symm, hF.keep _ ⟨rfl, rfl, rfl, rfl, rfl, rfl, trivial⟩, S.sel [0] rfl rfl⟩ ?_
      clear hF S hM107; rintro m a u ⟨p108, hM107, hn109, hF, S⟩
      rcases m with _ | f1
      · exact none_some hM107
      rw [m_impl_ReadState_l1.eq_2] at hM107
      refine wp_seq ?_
      refine wp_region_lit ?_
      refine op_val (v := .bool (ltB p108.2 (x0.size : Int))) rfl rfl hF rfl (run_lss (hF.ev rfl) (hF.ev rfl) rfl) ?_; clear hF; intro a hF
      refine wpList_nil ?_
      refine wp_seq ?_
      cases hc110 : (ltB p108.2 (x0.size : Int))
      · replace hM107 := bif_f hc110 hM107
        refine cond_f hF rfl hc110 ?_
        refine wp_exit ?_
        repeat with_reducible (first | refine then_exit ?_ | refine in_hit ?_ | refine in_miss rfl ?_)
        obtain rfl := Option.some.inj hM107
        exact ⟨p108.1, rfl, hn109, hF.keep _ ⟨rfl, rfl, rfl, rfl, trivial⟩, S.sel [0] rfl rfl⟩
      · replace hM107 := bif_t hc110 hM107
        refine cond_t hF rfl hc110 ?_
        refine wp_skip ?_
        refine wp_seq ?_
        refine wp_block ?_
        refine wp_seq ?_
        refine wp_region_lit ?_
        refine op_val (v := .int .i64 p108.2) rfl rfl hF rfl (run_move rfl (hF.ev rfl)) ?_; clear hF; intro a hF
        refine op_val (v := .int .i64 p108.2) rfl rfl hF rfl (run_assign rfl (hF.ev rfl)) ?_; clear hF; intro a hF
        refine wpList_nil ?_
        refine wp_region_lit ?_
        refine op_val (v := .slice (some ⟨g102, 0, none⟩) x0.size x0.size) rfl rfl hF rfl (run_move rfl (hF.ev rfl)) ?_; clear hF; intro a hF
        refine op_val (v := .int .i64 p108.2) rfl rfl hF rfl (run_move rfl (hF.ev rfl)) ?_; clear hF; intro a hF
        refine op_val (v := .string x0) rfl rfl hF rfl (run_move rfl (hF.ev rfl)) ?_; clear hF; intro a hF
        refine op_val (v := .int .i64 p108.2) rfl rfl hF rfl (run_move rfl (hF.ev rfl)) ?_; clear hF; intro a hF
        obtain ⟨hk111, hM107⟩ := chk_ex hM107
        replace hk111 := ixB_t hk111
        refine op_val (v := .int .u8 (byteAt x0 p108.2)) rfl rfl hF rfl (run_indexS rfl Tryd.underlying9 (hF.ev rfl) (hF.ev rfl) hk111) ?_; clear hF; intro a hF
        refine op_val (v := .bool ((byteAt x0 p108.2) == 49)) rfl rfl hF rfl (run_eql (hF.ev rfl) rfl rfl) ?_; clear hF; intro a hF
        obtain ⟨hk112, hM107⟩ := chk_ex hM107
        replace hk112 := ixB_t hk112
        refine op_val (v := .pointer (some ⟨adB (some ⟨g102, 0, none⟩), adO (some ⟨g102, 0, none⟩) + p108.2.toNat * 1, none⟩)) rfl rfl hF rfl (run_indexAddr (b := adB (some ⟨g102, 0, none⟩)) (off := adO (some ⟨g102, 0, none⟩)) rfl Tryd.underlying23 sz4 ((hF.ev rfl).trans (congrArg (fun A => Value.slice A x0.size x0.size) ((S.rc 0 rfl).rd.ad (ix_pos hk112)))) (hF.ev rfl) hk112.1 hk112.2 (k' := adO (some ⟨g102, 0, none⟩) + p108.2.toNat * 1) rfl) ?_; clear hF; intro a hF
        obtain ⟨w', hrun, S'⟩ := run_storeElN (P := Tryd.prog) (ρ := a.eval) (y0 := (byteAt x0 p108.2) == 49) (off := 0) S 4 (.tmp 23) (.tmp 22) (i := 0) sz4 (hF.ev rfl) (hF.ev rfl) rfl rfl rfl rfl hn109 eB_len false (ix_ltn hk112 hn109) rfl rfl
        refine op_do rfl rfl (hrun _ rfl) ?_; clear hrun S; have S := S'; clear S'; generalize w' = u at S ⊢
        refine wpList_nil ?_
        refine wp_region_lit ?_
        refine op_val (v := .int .i64 (w64 (p108.2 + 1))) rfl rfl hF rfl (run_add (z := w64 (p108.2 + 1)) (hF.ev rfl) rfl rfl rfl) ?_; clear hF; intro a hF
        refine op_val (v := .int .i64 (w64 (p108.2 + 1))) rfl rfl hF rfl (run_move rfl (hF.ev rfl)) ?_; clear hF; intro a hF
        refine wpList_nil ?_
        exact ⟨f1, Nat.lt_succ_self _, (p108.1.set p108.2.toNat ((byteAt x0 p108.2) == 49), w64 (p108.2 + 1)), hM107, (len_set hn109), hF.keep _ ⟨rfl, rfl, rfl, rfl, rfl, rfl, trivial⟩, S.sel [0] rfl rfl⟩
    · rintro a u ⟨p104, rfl, hn106, hF, S⟩
      refine wp_seq ?_
      refine wp_seq ?_
      refine wp_region_lit ?_
      refine op_val (v := .slice (some ⟨g102, 0, none⟩) x0.size x0.size) rfl rfl hF rfl (run_move rfl (hF.ev rfl)) ?_; clear hF; intro a hF
      obtain ⟨p113, h113, hM⟩ := bind_ex hM
      refine op_call rfl rfl hF rfl (run_call (vs := [.slice (some ⟨g102, 0, none⟩) x0.size x0.size]) rfl rfl co6 ⟨(hF.ev rfl), trivial⟩) (c_impl_StateText (x0 := p104) ⟨(S.rc 0 rfl), hn106⟩ h113) ?_
      rintro e u ⟨rfl, T⟩
      refine ⟨_, rfl, ?_⟩
      clear hF; intro a hF
      replace S := S.call0 T; clear T
      refine op_val (v := .string x0) rfl rfl hF rfl (run_move rfl (hF.ev rfl)) ?_; clear hF; intro a hF
      refine op_val (v := .bool (!(p113.toList == x0.toList))) rfl rfl hF rfl (run_neqS (hF.ev rfl) (hF.ev rfl) rfl) ?_; clear hF; intro a hF
      refine wpList_nil ?_
      cases hc114 : (p113.toList == x0.toList)
      · replace hM := bif_f hc114 hM
        refine cond_t hF rfl (not_t hc114) ?_
        refine wp_seq ?_
        refine wp_region_lit ?_
        refine op_val (v := .slice none 0 0) rfl rfl hF rfl (run_assign rfl rfl) ?_; clear hF; intro a hF
        refine op_val (v := .bool false) rfl rfl hF rfl (run_assign rfl rfl) ?_; clear hF; intro a hF
        refine wpList_nil ?_
        refine wp_ret ?_
        repeat with_reducible (first | refine then_ret ?_ | refine in_ret ?_ | refine in_nrm ?_)
        refine ret2_gw (.inl rfl) hF rfl (res_tmp (hF.ev rfl)) (res_tmp (hF.ev rfl)) ?_
        obtain rfl := Option.some.inj hM
        replace S := S.nilrow 4 1
        exact ⟨none, 0, 0, rfl, rfl, S.sel [0] rfl rfl⟩
      · replace hM := bif_t hc114 hM
        refine cond_f hF rfl (not_f hc114) ?_
        refine wp_skip ?_
        refine wp_seq ?_
        refine wp_region_lit ?_
        refine op_val (v := .slice (some ⟨g102, 0, none⟩) x0.size x0.size) rfl rfl hF rfl (run_move rfl (hF.ev rfl)) ?_; clear hF; intro a hF
        refine op_val (v := .slice (some ⟨g102, 0, none⟩) x0.size x0.size) rfl rfl hF rfl (run_assign rfl (hF.ev rfl)) ?_; clear hF; intro a hF
        refine op_val (v := .bool true) rfl rfl hF rfl (run_assign rfl rfl) ?_; clear hF; intro a hF
        refine wpList_nil ?_
        refine wp_ret ?_
        repeat with_reducible (first | refine then_ret ?_ | refine in_ret ?_ | refine in_nrm ?_)
        refine ret2_gw (.inl rfl) hF rfl (res_tmp (hF.ev rfl)) (res_tmp (hF.ev rfl)) ?_
        obtain rfl := Option.some.inj hM
        exact ⟨(some ⟨g102, 0, none⟩), x0.size, x0.size, rfl, hn106, S.sel [0] rfl rfl⟩
  · replace hM := bif_t hc101 hM
    refine cond_t hF rfl hc101 ?_
    refine wp_seq ?_
    refine wp_region_lit ?_
    refine op_val (v := .slice none 0 0) rfl rfl hF rfl (run_assign rfl rfl) ?_; clear hF; intro a hF
    refine op_val (v := .bool false) rfl rfl hF rfl (run_assign rfl rfl) ?_; clear hF; intro a hF
    refine wpList_nil ?_
    refine wp_ret ?_
    repeat with_reducible (first | refine then_ret ?_ | refine in_ret ?_ | refine in_nrm ?_)
    refine ret2_gw (.inl rfl) hF rfl (res_tmp (hF.ev rfl)) (res_tmp (hF.ev rfl)) ?_
    obtain rfl := Option.some.inj hM
    replace S := S.nilrow 4 1
    exact ⟨none, 0, 0, rfl, rfl, S.sel [0] rfl rfl⟩

set_option maxHeartbeats 4000000 in
theorem c_laws_sameBools {x0 : List Bool} {x1 : List Bool} {A0 : Option Addr} {n0 c0 : Nat} {A1 : Option Addr} {n1 c1 : Nat} {w : World} {r : Bool} (h0 : Rt w 1 eB A0 n0 c0 x0) (h1 : Rt w 1 eB A1 n1 c1 x1) (hM : m_laws_sameBools x0 x1 = some r) :
    Calls Tryd.prog 9 #[.slice A0 n0 c0, .slice A1 n1 c1] w (fun e w' => e = .returned (.bool r) ∧ St w w' []) := by
  obtain rfl := h0.len
  obtain rfl := h1.len
  unfold m_laws_sameBools at hM
  refine calls_gw Tryd.func9 Tryd.ntmps9 rfl [(0, .slice A0 x0.length c0), (1, .slice A1 x1.length c1)] ⟨rfl, rfl, trivial⟩ rfl ?_
  intro a hF
  have S := St.nil w
  refine wp_seq ?_
  refine wp_region_lit ?_
  refine op_val (v := .bool false) rfl rfl hF rfl (run_assign rfl rfl) ?_; clear hF; intro a hF
  refine wpList_nil ?_
  refine wp_seq ?_
  refine wp_seq ?_
  refine wp_region_lit ?_
  refine op_val (v := .slice A0 x0.length c0) rfl rfl hF rfl (run_move rfl (hF.ev rfl)) ?_; clear hF; intro a hF
  refine op_val (v := .int .i64 (x0.length : Int)) rfl rfl hF rfl (run_lenL rfl rfl Tryd.underlying23 (hF.ev rfl)) ?_; clear hF; intro a hF
  refine op_val (v := .slice A1 x1.length c1) rfl rfl hF rfl (run_move rfl (hF.ev rfl)) ?_; clear hF; intro a hF
  refine op_val (v := .int .i64 (x1.length : Int)) rfl rfl hF rfl (run_lenL rfl rfl Tryd.underlying23 (hF.ev rfl)) ?_; clear hF; intro a hF
  refine op_val (v := .bool ((x0.length : Int) != (x1.length : Int))) rfl rfl hF rfl (run_neq (hF.ev rfl) (hF.ev rfl) rfl) ?_; clear hF; intro a hF
  refine wpList_nil ?_
  cases hc101 : ((x0.length : Int) != (x1.length : Int))
  · replace hM := bif_f hc101 hM
    refine cond_f hF rfl hc101 ?_
    refine wp_skip ?_
    refine wp_seq ?_
    refine wp_seq ?_
    refine wp_region_lit ?_
    refine op_val (v := .int .i64 0) rfl rfl hF rfl (run_assign rfl rfl) ?_; clear hF; intro a hF
    refine wpList_nil ?_
    obtain ⟨o103, hM104, hM⟩ := bind_ex hM
    refine wp_cut (fun a u => ∃ (p102 : Unit), (Sum.inl p102) = o103 ∧ Fr a 26 [(4, .bool false)] ∧ St w u []) ?_ ?_
    · have _ := trivial
      refine wp_block ?_
      refine loop_gw (fun m a u => ∃ (p105 : Int), m_laws_sameBools_l1 x0 x1 m p105 = some _ ∧ Fr a 26 [(0, .slice A0 x0.length c0), (1, .slice A1 x1.length c1), (4, .bool false), (5, .int .i64 p105)] ∧ St w u []) FUEL ⟨0, hM104, hF.keep _ ⟨rfl, rfl, rfl, rfl, trivial⟩, S.sel [] rfl rfl⟩ ?_
      clear hF S hM104; rintro m a u ⟨p105, hM104, hF, S⟩
      rcases m with _ | f1
      · exact none_some hM104
      rw [m_laws_sameBools_l1.eq_2] at hM104
      refine wp_seq ?_
      refine wp_seq ?_
      refine wp_region_lit ?_
      refine op_val (v := .int .i64 p105) rfl rfl hF rfl (run_move rfl (hF.ev rfl)) ?_; clear hF; intro a hF
      refine op_val (v := .slice A0 x0.length c0) rfl rfl hF rfl (run_move rfl (hF.ev rfl)) ?_; clear hF; intro a hF
      refine op_val (v := .int .i64 (x0.length : Int)) rfl rfl hF rfl (run_lenL rfl rfl Tryd.underlying23 (hF.ev rfl)) ?_; clear hF; intro a hF
      refine op_val (v := .bool (ltB p105 (x0.length : Int))) rfl rfl hF rfl (run_lss (hF.ev rfl) (hF.ev rfl) rfl) ?_; clear hF; intro a hF
      refine wpList_nil ?_
      cases hc106 : (ltB p105 (x0.length : Int))
      · replace hM104 := bif_f hc106 hM104
        refine cond_f hF rfl hc106 ?_
        refine wp_exit ?_
        repeat with_reducible (first | refine then_exit ?_ | refine in_hit ?_ | refine in_miss rfl ?_)
        obtain rfl := Option.some.inj hM104
        exact ⟨(), rfl, hF.keep _ ⟨rfl, trivial⟩, S.sel [] rfl rfl⟩
      · replace hM104 := bif_t hc106 hM104
        refine cond_t hF rfl hc106 ?_
        refine wp_skip ?_
        refine wp_seq ?_
        refine wp_block ?_
        refine wp_seq ?_
        obtain ⟨hk107, hM104⟩ := chk_ex hM104
        replace hk107 := ixB_t hk107
        obtain ⟨hk108, hM104⟩ := chk_ex hM104
        replace hk108 := ixB_t hk108
        refine region_gw (D := [17, 18, 19, 20, 21, 22, 23, 24, 25]) (Lr := []) (deps := (fun | 0 => [17] | 1 => [18] | 2 => [19] | 3 => [20] | 4 => [21] | 5 => [22] | 6 => [23] | 7 => [24] | 8 => [25] | _ => [])) (rd := (fun _ => [])) (zr := (fun _ => []))
          (φ := fun i vs => match i, vs with | 0, [v17] => v17 = .slice A0 x0.length c0 | 1, [v18] => v18 = .int .i64 p105 | 2, [v19] => v19 = .pointer (some ⟨adB A0, adO A0 + p105.toNat * 1, none⟩) | 3, [v20] => v20 = .bool (x0.getD p105.toNat false) | 4, [v21] => v21 = .slice A1 x1.length c1 | 5, [v22] => v22 = .int .i64 p105 | 6, [v23] => v23 = .pointer (some ⟨adB A1, adO A1 + p105.toNat * 1, none⟩) | 7, [v24] => v24 = .bool (x1.getD p105.toNat false) | 8, [v25] => v25 = .bool ((x0.getD p105.toNat false) != (x1.getD p105.toNat false)) | _, _ => True)
          (C := fun _ _ => [])
          (κ := (fun _ => none)) (Z := (fun _ => [])) mixed hF (by kernel_rfl) S ?_ ?_
        · refine ⟨?_, ?_, ?_, ?_, ?_, ?_, ?_, ?_, ?_, trivial⟩
          · intro a u X hB hu hp hr hz hl S
            replace S : St w u ([] ++ X) := S
            exact .inl ⟨rfl, .slice A0 x0.length c0, u, (run_move rfl (hF.evB hB rfl rfl)), rfl, S⟩
          · intro a u X hB hu hp hr hz hl S
            replace S : St w u ([] ++ X) := S
            exact .inl ⟨rfl, .int .i64 p105, u, (run_move rfl (hF.evB hB rfl rfl)), rfl, S⟩
          · intro a u X hB hu hp hr hz hl S
            replace S : St w u ([] ++ X) := S
            have e17 : sl a 17 = .slice A0 x0.length c0 := hp 0 rfl
            have e18 : sl a 18 = .int .i64 p105 := hp 1 rfl
            exact .inl ⟨rfl, .pointer (some ⟨adB A0, adO A0 + p105.toNat * 1, none⟩), u, (run_indexAddr (b := adB A0) (off := adO A0) rfl Tryd.underlying23 sz4 ((ev_sl e17).trans (congrArg (fun A => Value.slice A x0.length c0) ((S.rc0 h0.rc).rd.ad (ix_pos hk107)))) (ev_sl e18) hk107.1 hk107.2 (k' := adO A0 + p105.toNat * 1) rfl), rfl, S⟩
          · intro a u X hB hu hp hr hz hl S
            replace S : St w u ([] ++ X) := S
            have e19 : sl a 19 = .pointer (some ⟨adB A0, adO A0 + p105.toNat * 1, none⟩) := hp 2 rfl
            exact .inl ⟨rfl, .bool (x0.getD p105.toNat false), u, (run_load1 rfl one4 (ev_sl e19) (rd_el0 (l := x0) (S.rc0 h0.rc).rd rfl eB_len false (ix_ltn hk107 rfl) rfl)), rfl, S⟩
          · intro a u X hB hu hp hr hz hl S
            replace S : St w u ([] ++ X) := S
            exact .inl ⟨rfl, .slice A1 x1.length c1, u, (run_move rfl (hF.evB hB rfl rfl)), rfl, S⟩
          · intro a u X hB hu hp hr hz hl S
            replace S : St w u ([] ++ X) := S
            exact .inl ⟨rfl, .int .i64 p105, u, (run_move rfl (hF.evB hB rfl rfl)), rfl, S⟩
          · intro a u X hB hu hp hr hz hl S
            replace S : St w u ([] ++ X) := S
            have e21 : sl a 21 = .slice A1 x1.length c1 := hp 4 rfl
            have e22 : sl a 22 = .int .i64 p105 := hp 5 rfl
            exact .inl ⟨rfl, .pointer (some ⟨adB A1, adO A1 + p105.toNat * 1, none⟩), u, (run_indexAddr (b := adB A1) (off := adO A1) rfl Tryd.underlying23 sz4 ((ev_sl e21).trans (congrArg (fun A => Value.slice A x1.length c1) ((S.rc0 h1.rc).rd.ad (ix_pos hk108)))) (ev_sl e22) hk108.1 hk108.2 (k' := adO A1 + p105.toNat * 1) rfl), rfl, S⟩
          · intro a u X hB hu hp hr hz hl S
            replace S : St w u ([] ++ X) := S
            have e23 : sl a 23 = .pointer (some ⟨adB A1, adO A1 + p105.toNat * 1, none⟩) := hp 6 rfl
            exact .inl ⟨rfl, .bool (x1.getD p105.toNat false), u, (run_load1 rfl one4 (ev_sl e23) (rd_el0 (l := x1) (S.rc0 h1.rc).rd rfl eB_len false (ix_ltn hk108 rfl) rfl)), rfl, S⟩
          · intro a u X hB hu hp hr hz hl S
            replace S : St w u ([] ++ X) := S
            have e20 : sl a 20 = .bool (x0.getD p105.toNat false) := hp 3 rfl
            have e24 : sl a 24 = .bool (x1.getD p105.toNat false) := hp 7 rfl
            exact .inl ⟨rfl, .bool ((x0.getD p105.toNat false) != (x1.getD p105.toNat false)), u, (run_neqB (ev_sl e20) (ev_sl e24) Tryd.underlying4 rfl), rfl, S⟩
        · intro a u hB hp S
          obtain ⟨q0, q1, q2, q3, q4, q5, q6, q7, q8, _⟩ := hp
          have e17 : sl a 17 = .slice A0 x0.length c0 := q0
          have e18 : sl a 18 = .int .i64 p105 := q1
          have e19 : sl a 19 = .pointer (some ⟨adB A0, adO A0 + p105.toNat * 1, none⟩) := q2
          have e20 : sl a 20 = .bool (x0.getD p105.toNat false) := q3
          have e21 : sl a 21 = .slice A1 x1.length c1 := q4
          have e22 : sl a 22 = .int .i64 p105 := q5
          have e23 : sl a 23 = .pointer (some ⟨adB A1, adO A1 + p105.toNat * 1, none⟩) := q6
          have e24 : sl a 24 = .bool (x1.getD p105.toNat false) := q7
          have e25 : sl a 25 = .bool ((x0.getD p105.toNat false) != (x1.getD p105.toNat false)) := q8
          replace S : St w u [] := S
          clear q0 q1 q2 q3 q4 q5 q6 q7 q8
          have hF := hF.region hB [(17, .slice A0 x0.length c0), (18, .int .i64 p105), (19, .pointer (some ⟨adB A0, adO A0 + p105.toNat * 1, none⟩)), (20, .bool (x0.getD p105.toNat false)), (21, .slice A1 x1.length c1), (22, .int .i64 p105), (23, .pointer (some ⟨adB A1, adO A1 + p105.toNat * 1, none⟩)), (24, .bool (x1.getD p105.toNat false)), (25, .bool ((x0.getD p105.toNat false) != (x1.getD p105.toNat false)))] (allSl_mem ⟨e17, e18, e19, e20, e21, e22, e23, e24, e25, trivial⟩) rfl
          clear hB e17 e18 e19 e20 e21 e22 e23 e24 e25
          cases hc109 : ((x0.getD p105.toNat false) != (x1.getD p105.toNat false))
          · replace hM104 := bif_f hc109 hM104
            refine cond_f hF rfl hc109 ?_
            refine wp_skip ?_
            refine wp_region_lit ?_
            refine op_val (v := .int .i64 p105) rfl rfl hF rfl (run_move rfl (hF.ev rfl)) ?_; clear hF; intro a hF
            refine op_val (v := .int .i64 (w64 (p105 + 1))) rfl rfl hF rfl (run_add (z := w64 (p105 + 1)) (hF.ev rfl) rfl rfl rfl) ?_; clear hF; intro a hF
            refine op_val (v := .int .i64 (w64 (p105 + 1))) rfl rfl hF rfl (run_assign rfl (hF.ev rfl)) ?_; clear hF; intro a hF
            refine wpList_nil ?_
            exact ⟨f1, Nat.lt_succ_self _, w64 (p105 + 1), hM104, hF.keep _ ⟨rfl, rfl, rfl, rfl, trivial⟩, S.sel [] rfl rfl⟩
          · replace hM104 := bif_t hc109 hM104
            refine cond_t hF rfl hc109 ?_
            refine wp_seq ?_
            refine wp_region_lit ?_
            refine op_val (v := .bool false) rfl rfl hF rfl (run_assign rfl rfl) ?_; clear hF; intro a hF
            refine wpList_nil ?_
            refine wp_ret ?_
            repeat with_reducible (first | refine then_ret ?_ | refine in_ret ?_ | refine in_nrm ?_)
            refine ret1_gw (.inl rfl) hF rfl (res_tmp (hF.ev rfl)) ?_
            obtain rfl := Option.some.inj hM104
            obtain rfl := Option.some.inj hM
            exact ⟨rfl, S.sel [] rfl rfl⟩
    · rintro a u ⟨p102, rfl, hF, S⟩
      replace hM := elim_l hM
      refine wp_seq ?_
      refine wp_region_lit ?_
      refine op_val (v := .bool true) rfl rfl hF rfl (run_assign rfl rfl) ?_; clear hF; intro a hF
      refine wpList_nil ?_
      refine wp_ret ?_
      repeat with_reducible (first | refine then_ret ?_ | refine in_ret ?_ | refine in_nrm ?_)
      refine ret1_gw (.inl rfl) hF rfl (res_tmp (hF.ev rfl)) ?_
      obtain rfl := Option.some.inj hM
      exact ⟨rfl, S.sel [] rfl rfl⟩
  · replace hM := bif_t hc101 hM
    refine cond_t hF rfl hc101 ?_
    refine wp_seq ?_
    refine wp_region_lit ?_
    refine op_val (v := .bool false) rfl rfl hF rfl (run_assign rfl rfl) ?_; clear hF; intro a hF
    refine wpList_nil ?_
    refine wp_ret ?_
    repeat with_reducible (first | refine then_ret ?_ | refine in_ret ?_ | refine in_nrm ?_)
    refine ret1_gw (.inl rfl) hF rfl (res_tmp (hF.ev rfl)) ?_
    obtain rfl := Option.some.inj hM
    exact ⟨rfl, S.sel [] rfl rfl⟩

set_option maxHeartbeats 4000000 in
theorem c_impl_Net_hasLine {x0 : Int} {x1 : List (Int × Int × Int)} {x2 : Int} {A1 : Option Addr} {n1 c1 : Nat} {w : World} {r : Bool} (h1 : Rt w 3 eLine A1 n1 c1 x1) (hM : m_impl_Net_hasLine x0 x1 x2 = some r) :
    Calls Tryd.prog 22 #[.agg #[.int .i64 x0, .slice A1 n1 c1], .int .i64 x2] w (fun e w' => e = .returned (.bool r) ∧ St w w' []) := by
  obtain rfl := h1.len
  unfold m_impl_Net_hasLine at hM
  refine calls_gw Tryd.func22 Tryd.ntmps22 rfl [(0, .agg #[.int .i64 x0, .slice A1 x1.length c1]), (1, .int .i64 x2)] ⟨rfl, rfl, trivial⟩ rfl ?_
  intro a hF
  have S := St.nil w
  refine wp_seq ?_
  refine wp_region_lit ?_
  refine op_new (cs := #[.int .i64 x0, .slice A1 x1.length c1]) rfl rfl hF rfl S (run_box rfl (hF.ev rfl) rfl) ?_; clear hF S; intro a g101 u hF S
  refine op_val (v := .bool false) rfl rfl hF rfl (run_assign rfl rfl) ?_; clear hF; intro a hF
  refine wpList_nil ?_
  refine wp_seq ?_
  refine wp_region_lit ?_
  refine op_val (v := .int .i64 x2) rfl rfl hF rfl (run_move rfl (hF.ev rfl)) ?_; clear hF; intro a hF
  refine op_val (v := .bool (leB 0 x2)) rfl rfl hF rfl (run_geq (hF.ev rfl) rfl rfl) ?_; clear hF; intro a hF
  refine op_val (v := .bool (leB 0 x2)) rfl rfl hF rfl (run_move rfl (hF.ev rfl)) ?_; clear hF; intro a hF
  refine op_gv (v := .int .i64 x2) rfl rfl hF rfl (yt (gw_yield hF rfl rfl rfl)) (fun hg => (run_move rfl (hF.ev rfl))) ?_; clear hF; intro a hF
  refine op_gv (v := .pointer (some ⟨g101, 1, none⟩)) rfl rfl hF rfl (yt (gw_yield hF rfl rfl rfl)) (fun hg => (run_fieldAddr rfl fl37_1 (hF.ev rfl) rfl)) ?_; clear hF; intro a hF
  refine op_gv (v := .slice A1 x1.length c1) rfl rfl hF rfl (yt (gw_yield hF rfl rfl rfl)) (fun hg => (run_load1 rfl one35 ((hF.ev rfl).trans (gv_t hg)) ((S.free 0 rfl).cell rfl))) ?_; clear hF; intro a hF
  refine op_gv (v := .int .i64 (x1.length : Int)) rfl rfl hF rfl (yt (gw_yield hF rfl rfl rfl)) (fun hg => (run_lenL rfl rfl Tryd.underlying35 ((hF.ev rfl).trans (gv_t hg)))) ?_; clear hF; intro a hF
  refine op_gv (v := .bool (ltB x2 (x1.length : Int))) rfl rfl hF rfl (yt (gw_yield hF rfl rfl rfl)) (fun hg => (run_lss ((hF.ev rfl).trans (gv_t hg)) ((hF.ev rfl).trans (gv_t hg)) rfl)) ?_; clear hF; intro a hF
  refine op_val (v := .bool ((leB 0 x2) && (ltB x2 (x1.length : Int)))) rfl rfl hF rfl (run_pick_and rfl (hF.ev rfl) (fun hp => ((hF.ev rfl).trans (gv_t hp))) rfl) ?_; clear hF; intro a hF
  refine op_val (v := .bool ((leB 0 x2) && (ltB x2 (x1.length : Int)))) rfl rfl hF rfl (run_assign rfl (hF.ev rfl)) ?_; clear hF; intro a hF
  refine wpList_nil ?_
  refine wp_ret ?_
  repeat with_reducible (first | refine then_ret ?_ | refine in_ret ?_ | refine in_nrm ?_)
  refine ret1_gw (.inl rfl) hF rfl (res_tmp (hF.ev rfl)) ?_
  obtain rfl := Option.some.inj hM
  exact ⟨rfl, S.sel [] rfl rfl⟩

set_option maxHeartbeats 4000000 in
theorem c_impl_Line_other {x0 : Int} {x1 : Int} {x2 : Int} {x3 : Int} {w : World} {r : Int}  (hM : m_impl_Line_other x0 x1 x2 x3 = some r) :
    Calls Tryd.prog 23 #[.agg #[.int .i64 x0, .int .i64 x1, .int .i64 x2], .int .i64 x3] w (fun e w' => e = .returned (.int .i64 r) ∧ St w w' []) := by
  unfold m_impl_Line_other at hM
  refine calls_gw Tryd.func23 Tryd.ntmps23 rfl [(0, .agg #[.int .i64 x0, .int .i64 x1, .int .i64 x2]), (1, .int .i64 x3)] ⟨rfl, rfl, trivial⟩ rfl ?_
  intro a hF
  have S := St.nil w
  refine wp_seq ?_
  refine wp_region_lit ?_
  refine op_new (cs := #[.int .i64 x0, .int .i64 x1, .int .i64 x2]) rfl rfl hF rfl S (run_box rfl (hF.ev rfl) rfl) ?_; clear hF S; intro a g101 u hF S
  refine op_val (v := .int .i64 0) rfl rfl hF rfl (run_assign rfl rfl) ?_; clear hF; intro a hF
  refine wpList_nil ?_
  refine wp_seq ?_
  refine wp_seq ?_
  refine wp_region_lit ?_
  refine op_val (v := .int .i64 x3) rfl rfl hF rfl (run_move rfl (hF.ev rfl)) ?_; clear hF; intro a hF
  refine wpList_nil ?_
  refine wp_block ?_
  refine wp_seq ?_
  refine wp_region_lit ?_
  refine op_val (v := .pointer (some ⟨g101, 0, none⟩)) rfl rfl hF rfl (run_fieldAddr rfl fl34_0 (hF.ev rfl) rfl) ?_; clear hF; intro a hF
  refine op_val (v := .int .i64 x0) rfl rfl hF rfl (run_load1 rfl one3 (hF.ev rfl) ((S.free 0 rfl).cell rfl)) ?_; clear hF; intro a hF
  refine op_val (v := .bool (x3 == x0)) rfl rfl hF rfl (run_eql (hF.ev rfl) (hF.ev rfl) rfl) ?_; clear hF; intro a hF
  refine op_val (v := .bool (x3 == x0)) rfl rfl hF rfl (run_assign rfl (hF.ev rfl)) ?_; clear hF; intro a hF
  refine wpList_nil ?_
  cases hc102 : (x3 == x0)
  · replace hM := bif_f hc102 hM
    refine cond_f hF rfl hc102 ?_
    refine wp_seq ?_
    refine wp_region_lit ?_
    refine op_val (v := .pointer (some ⟨g101, 1, none⟩)) rfl rfl hF rfl (run_fieldAddr rfl fl34_1 (hF.ev rfl) rfl) ?_; clear hF; intro a hF
    refine op_val (v := .int .i64 x1) rfl rfl hF rfl (run_load1 rfl one3 (hF.ev rfl) ((S.free 0 rfl).cell rfl)) ?_; clear hF; intro a hF
    refine op_val (v := .bool (x3 == x1)) rfl rfl hF rfl (run_eql (hF.ev rfl) (hF.ev rfl) rfl) ?_; clear hF; intro a hF
    refine op_val (v := .bool (x3 == x1)) rfl rfl hF rfl (run_assign rfl (hF.ev rfl)) ?_; clear hF; intro a hF
    refine wpList_nil ?_
    cases hc103 : (x3 == x1)
    · replace hM := bif_f hc103 hM
      refine cond_f hF rfl hc103 ?_
      refine wp_skip ?_
      refine wp_seq ?_
      refine wp_region_lit ?_
      refine op_val (v := .int .i64 (-1)) rfl rfl hF rfl (run_assign rfl rfl) ?_; clear hF; intro a hF
      refine wpList_nil ?_
      refine wp_ret ?_
      repeat with_reducible (first | refine then_ret ?_ | refine in_ret ?_ | refine in_nrm ?_)
      refine ret1_gw (.inl rfl) hF rfl (res_tmp (hF.ev rfl)) ?_
      obtain rfl := Option.some.inj hM
      exact ⟨rfl, S.sel [] rfl rfl⟩
    · replace hM := bif_t hc103 hM
      refine cond_t hF rfl hc103 ?_
      refine wp_seq ?_
      refine wp_region_lit ?_
      refine op_val (v := .pointer (some ⟨g101, 0, none⟩)) rfl rfl hF rfl (run_fieldAddr rfl fl34_0 (hF.ev rfl) rfl) ?_; clear hF; intro a hF
      refine op_val (v := .int .i64 x0) rfl rfl hF rfl (run_load1 rfl one3 (hF.ev rfl) ((S.free 0 rfl).cell rfl)) ?_; clear hF; intro a hF
      refine op_val (v := .int .i64 x0) rfl rfl hF rfl (run_assign rfl (hF.ev rfl)) ?_; clear hF; intro a hF
      refine wpList_nil ?_
      refine wp_ret ?_
      repeat with_reducible (first | refine then_ret ?_ | refine in_ret ?_ | refine in_nrm ?_)
      refine ret1_gw (.inl rfl) hF rfl (res_tmp (hF.ev rfl)) ?_
      obtain rfl := Option.some.inj hM
      exact ⟨rfl, S.sel [] rfl rfl⟩
  · replace hM := bif_t hc102 hM
    refine cond_t hF rfl hc102 ?_
    refine wp_seq ?_
    refine wp_region_lit ?_
    refine op_val (v := .pointer (some ⟨g101, 1, none⟩)) rfl rfl hF rfl (run_fieldAddr rfl fl34_1 (hF.ev rfl) rfl) ?_; clear hF; intro a hF
    refine op_val (v := .int .i64 x1) rfl rfl hF rfl (run_load1 rfl one3 (hF.ev rfl) ((S.free 0 rfl).cell rfl)) ?_; clear hF; intro a hF
    refine op_val (v := .int .i64 x1) rfl rfl hF rfl (run_assign rfl (hF.ev rfl)) ?_; clear hF; intro a hF
    refine wpList_nil ?_
    refine wp_ret ?_
    repeat with_reducible (first | refine then_ret ?_ | refine in_ret ?_ | refine in_nrm ?_)
    refine ret1_gw (.inl rfl) hF rfl (res_tmp (hF.ev rfl)) ?_
    obtain rfl := Option.some.inj hM
    exact ⟨rfl, S.sel [] rfl rfl⟩

end Go.Proofs.YtccacgplfcnpkaaDoor
