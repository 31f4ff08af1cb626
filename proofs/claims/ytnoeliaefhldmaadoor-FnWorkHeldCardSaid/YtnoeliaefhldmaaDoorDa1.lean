/- Calls return what the models say. -/
import Derived.Test.YtnoeliaefhldmaaDoorDaT
namespace Go.Proofs.YtnoeliaefhldmaaDoor
open Go.ChangeShapes Go.WideShapes Go.ChangeAt Go.RowKit
set_option linter.unusedVariables false
set_option linter.unusedSimpArgs false

theorem c_spec_l20Open {x0 : List Int} {A0 : Option Addr} {n0 c0 : Nat} {w : World} (h0 : Rt w 1 eU A0 n0 c0 x0) :
    Calls Tryd.prog 27 #[.slice A0 n0 c0] w (fun e w' => ∃ G0, e = .returned (.pointer (some ⟨G0, 0, none⟩)) ∧ St w w' [.box G0 78 #[.slice (opA c0 n0 A0) (x0.take 2000).length c0, .int .i64 0]]) := by
  obtain rfl := h0.len
  refine calls_gw Tryd.func27 Tryd.ntmps27 rfl [(0, .slice A0 x0.length c0)] ⟨rfl, trivial⟩ rfl ?_
  intro a hF
  have S := St.nil w
  refine wp_seq ?_
  refine wp_region_lit ?_
  refine op_val (v := .pointer none) rfl rfl hF rfl (run_assign rfl rfl) ?_; clear hF; intro a hF
  refine wpList_nil ?_
  refine wp_seq ?_
  refine wp_seq ?_
  refine wp_region_lit ?_
  refine op_val (v := .slice A0 x0.length c0) rfl rfl hF rfl (run_move rfl (hF.ev rfl)) ?_; clear hF; intro a hF
  refine op_val (v := .int .i64 (x0.length : Int)) rfl rfl hF rfl (run_lenL rfl rfl Tryd.underlying22 (hF.ev rfl)) ?_; clear hF; intro a hF
  refine op_val (v := .bool (ltB 2000 (x0.length : Int))) rfl rfl hF rfl (run_gtr (hF.ev rfl) rfl rfl) ?_; clear hF; intro a hF
  refine wpList_nil ?_
  cases hc101 : (ltB 2000 (x0.length : Int))
  · have hc101_ := hc101
    refine cond_f hF rfl hc101 ?_
    refine wp_skip ?_
    refine wp_seq ?_
    refine wp_region_lit ?_
    refine op_val (v := .slice A0 x0.length c0) rfl rfl hF rfl (run_move rfl (hF.ev rfl)) ?_; clear hF; intro a hF
    refine op_val (v := .agg #[.slice A0 x0.length c0, .int .i64 0]) rfl rfl hF rfl (run_build (vs := [(0, .slice A0 x0.length c0)]) rfl ⟨⟨rfl, (hF.ev rfl)⟩, trivial⟩ (bd78_0 rfl)) ?_; clear hF; intro a hF
    refine op_new (cs := #[.slice A0 x0.length c0, .int .i64 0]) rfl rfl hF rfl S (run_box rfl (hF.ev rfl) rfl) ?_; clear hF S; intro a g102 u hF S
    refine op_val (v := .pointer (some ⟨g102, 0, none⟩)) rfl rfl hF rfl (run_assign rfl (hF.ev rfl)) ?_; clear hF; intro a hF
    refine wpList_nil ?_
    refine wp_ret ?_
    repeat with_reducible (first | refine then_ret ?_ | refine in_ret ?_ | refine in_nrm ?_)
    refine ret1_gw (.inl rfl) hF rfl (res_tmp (hF.ev rfl)) ?_
    have q1 := ltB_f hc101
    rw [opA, if_neg (by omega), List.take_of_length_le (by omega)]
    exact ⟨g102, rfl, S.sel [0] rfl rfl⟩
  · have hc101_ := hc101
    refine cond_t hF rfl hc101 ?_
    refine wp_region_lit ?_
    refine op_val (v := .slice A0 x0.length c0) rfl rfl hF rfl (run_move rfl (hF.ev rfl)) ?_; clear hF; intro a hF
    have hk103 := slB_t (show slB 0 2000 x0.length = true by have := ltB_t hc101; simp [slB]; omega)
    refine op_val (v := .slice (subA c0 ((0 : Int).toNat) 1 A0) ((subL x0 0 2000).length) (c0 - (0 : Int).toNat)) rfl rfl hF rfl (run_sliceH (l := x0) rfl Tryd.underlying22 sz5 (hF.ev rfl) rfl hk103 rfl (S.rc0 h0.rc).cap) ?_; clear hF; intro a hF
    refine op_val (v := .slice (subA c0 ((0 : Int).toNat) 1 A0) ((subL x0 0 2000).length) (c0 - (0 : Int).toNat)) rfl rfl hF rfl (run_assign rfl (hF.ev rfl)) ?_; clear hF; intro a hF
    refine wpList_nil ?_
    refine wp_seq ?_
    refine wp_region_lit ?_
    refine op_val (v := .slice (subA c0 ((0 : Int).toNat) 1 A0) ((subL x0 0 2000).length) (c0 - (0 : Int).toNat)) rfl rfl hF rfl (run_move rfl (hF.ev rfl)) ?_; clear hF; intro a hF
    refine op_val (v := .agg #[.slice (subA c0 ((0 : Int).toNat) 1 A0) ((subL x0 0 2000).length) (c0 - (0 : Int).toNat), .int .i64 0]) rfl rfl hF rfl (run_build (vs := [(0, .slice (subA c0 ((0 : Int).toNat) 1 A0) ((subL x0 0 2000).length) (c0 - (0 : Int).toNat))]) rfl ⟨⟨rfl, (hF.ev rfl)⟩, trivial⟩ (bd78_0 rfl)) ?_; clear hF; intro a hF
    refine op_new (cs := #[.slice (subA c0 ((0 : Int).toNat) 1 A0) ((subL x0 0 2000).length) (c0 - (0 : Int).toNat), .int .i64 0]) rfl rfl hF rfl S (run_box rfl (hF.ev rfl) rfl) ?_; clear hF S; intro a g104 u hF S
    refine op_val (v := .pointer (some ⟨g104, 0, none⟩)) rfl rfl hF rfl (run_assign rfl (hF.ev rfl)) ?_; clear hF; intro a hF
    refine wpList_nil ?_
    refine wp_ret ?_
    repeat with_reducible (first | refine then_ret ?_ | refine in_ret ?_ | refine in_nrm ?_)
    refine ret1_gw (.inl rfl) hF rfl (res_tmp (hF.ev rfl)) ?_
    have q1 := ltB_t hc101
    rw [opA, if_pos (by omega), take_sub]
    exact ⟨g104, rfl, S.sel [0] rfl rfl⟩

set_option maxHeartbeats 4000000 in
theorem c_impl_Net_hasBus {x0 : Int} {x1 : List (Int × Int × Int)} {x2 : Int} {A1 : Option Addr} {n1 c1 : Nat} {w : World} {r : Bool} (h1 : Rt w 3 eLine A1 n1 c1 x1) (hM : m_impl_Net_hasBus x0 x1 x2 = some r) :
    Calls Tryd.prog 56 #[.agg #[.int .i64 x0, .slice A1 n1 c1], .int .i64 x2] w (fun e w' => e = .returned (.bool r) ∧ St w w' []) := by
  obtain rfl := h1.len
  unfold m_impl_Net_hasBus at hM
  refine calls_gw Tryd.func56 Tryd.ntmps56 rfl [(0, .agg #[.int .i64 x0, .slice A1 x1.length c1]), (1, .int .i64 x2)] ⟨rfl, rfl, trivial⟩ rfl ?_
  intro a hF
  have S := St.nil w
  refine wp_seq ?_
  refine wp_region_lit ?_
  refine op_new (cs := #[.int .i64 x0, .slice A1 x1.length c1]) rfl rfl hF rfl S (run_box rfl (hF.ev rfl) rfl) ?_; clear hF S; intro a g101 u hF S
  refine op_val (v := .bool false) rfl rfl hF rfl (run_assign rfl rfl) ?_; clear hF; intro a hF
  refine wpList_nil ?_
  refine wp_seq ?_
  refine wp_region_lit ?_
  refine op_val (v := .int .i64 x2) rfl rfl hF rfl (run_move rfl (hF.ev rfl)) ?_; clear hF; intro a hF
  refine op_val (v := .bool (leB 0 x2)) rfl rfl hF rfl (run_geq (hF.ev rfl) rfl rfl) ?_; clear hF; intro a hF
  refine op_val (v := .bool (leB 0 x2)) rfl rfl hF rfl (run_move rfl (hF.ev rfl)) ?_; clear hF; intro a hF
  refine op_gv (v := .int .i64 x2) rfl rfl hF rfl (yt (gw_yield hF rfl rfl rfl)) (fun hg => (run_move rfl (hF.ev rfl))) ?_; clear hF; intro a hF
  refine op_gv (v := .pointer (some ⟨g101, 0, none⟩)) rfl rfl hF rfl (yt (gw_yield hF rfl rfl rfl)) (fun hg => (run_fieldAddr rfl fl66_0 (hF.ev rfl) rfl)) ?_; clear hF; intro a hF
  refine op_gv (v := .int .i64 x0) rfl rfl hF rfl (yt (gw_yield hF rfl rfl rfl)) (fun hg => (run_load1 rfl one3 ((hF.ev rfl).trans (gv_t hg)) ((S.free 0 rfl).cell rfl))) ?_; clear hF; intro a hF
  refine op_gv (v := .bool (ltB x2 x0)) rfl rfl hF rfl (yt (gw_yield hF rfl rfl rfl)) (fun hg => (run_lss ((hF.ev rfl).trans (gv_t hg)) ((hF.ev rfl).trans (gv_t hg)) rfl)) ?_; clear hF; intro a hF
  refine op_val (v := .bool ((leB 0 x2) && (ltB x2 x0))) rfl rfl hF rfl (run_pick_and rfl (hF.ev rfl) (fun hp => ((hF.ev rfl).trans (gv_t hp))) rfl) ?_; clear hF; intro a hF
  refine op_val (v := .bool ((leB 0 x2) && (ltB x2 x0))) rfl rfl hF rfl (run_assign rfl (hF.ev rfl)) ?_; clear hF; intro a hF
  refine wpList_nil ?_
  refine wp_ret ?_
  repeat with_reducible (first | refine then_ret ?_ | refine in_ret ?_ | refine in_nrm ?_)
  refine ret1_gw (.inl rfl) hF rfl (res_tmp (hF.ev rfl)) ?_
  obtain rfl := Option.some.inj hM
  exact ⟨rfl, S.sel [] rfl rfl⟩

set_option maxHeartbeats 4000000 in
theorem c_impl_NetValid {x0 : Int} {x1 : List (Int × Int × Int)} {A1 : Option Addr} {n1 c1 : Nat} {w : World} {r : Bool} (h1 : Rt w 3 eLine A1 n1 c1 x1) (hM : m_impl_NetValid x0 x1 = some r) :
    Calls Tryd.prog 49 #[.agg #[.int .i64 x0, .slice A1 n1 c1]] w (fun e w' => e = .returned (.bool r) ∧ St w w' []) := by
  obtain rfl := h1.len
  unfold m_impl_NetValid at hM
  refine calls_gw Tryd.func49 Tryd.ntmps49 rfl [(0, .agg #[.int .i64 x0, .slice A1 x1.length c1])] ⟨rfl, trivial⟩ rfl ?_
  intro a hF
  have S := St.nil w
  refine wp_seq ?_
  refine wp_region_lit ?_
  refine op_new (cs := #[.int .i64 x0, .slice A1 x1.length c1]) rfl rfl hF rfl S (run_box rfl (hF.ev rfl) rfl) ?_; clear hF S; intro a g101 u hF S
  refine op_val (v := .bool false) rfl rfl hF rfl (run_assign rfl rfl) ?_; clear hF; intro a hF
  refine wpList_nil ?_
  refine wp_seq ?_
  refine wp_seq ?_
  refine wp_region_lit ?_
  refine op_val (v := .pointer (some ⟨g101, 0, none⟩)) rfl rfl hF rfl (run_fieldAddr rfl fl66_0 (hF.ev rfl) rfl) ?_; clear hF; intro a hF
  refine op_val (v := .int .i64 x0) rfl rfl hF rfl (run_load1 rfl one3 (hF.ev rfl) ((S.free 0 rfl).cell rfl)) ?_; clear hF; intro a hF
  refine op_val (v := .bool (ltB x0 1)) rfl rfl hF rfl (run_lss (hF.ev rfl) rfl rfl) ?_; clear hF; intro a hF
  refine op_val (v := .bool (ltB x0 1)) rfl rfl hF rfl (run_move rfl (hF.ev rfl)) ?_; clear hF; intro a hF
  refine op_gv (v := .pointer (some ⟨g101, 0, none⟩)) rfl rfl hF rfl (yf (gw_yield hF rfl rfl rfl)) (fun hg => (run_fieldAddr rfl fl66_0 (hF.ev rfl) rfl)) ?_; clear hF; intro a hF
  refine op_gv (v := .int .i64 x0) rfl rfl hF rfl (yf (gw_yield hF rfl rfl rfl)) (fun hg => (run_load1 rfl one3 ((hF.ev rfl).trans (gv_t hg)) ((S.free 0 rfl).cell rfl))) ?_; clear hF; intro a hF
  refine op_gv (v := .bool (ltB 8 x0)) rfl rfl hF rfl (yf (gw_yield hF rfl rfl rfl)) (fun hg => (run_gtr ((hF.ev rfl).trans (gv_t hg)) rfl rfl)) ?_; clear hF; intro a hF
  refine op_val (v := .bool ((ltB x0 1) || (ltB 8 x0))) rfl rfl hF rfl (run_pick_or rfl (hF.ev rfl) rfl (fun hp => ((hF.ev rfl).trans (gv_t (not_t hp))))) ?_; clear hF; intro a hF
  refine op_val (v := .bool ((ltB x0 1) || (ltB 8 x0))) rfl rfl hF rfl (run_move rfl (hF.ev rfl)) ?_; clear hF; intro a hF
  refine op_gv (v := .pointer (some ⟨g101, 1, none⟩)) rfl rfl hF rfl (yf (gw_yield hF rfl rfl rfl)) (fun hg => (run_fieldAddr rfl fl66_1 (hF.ev rfl) rfl)) ?_; clear hF; intro a hF
  refine op_gv (v := .slice A1 x1.length c1) rfl rfl hF rfl (yf (gw_yield hF rfl rfl rfl)) (fun hg => (run_load1 rfl one64 ((hF.ev rfl).trans (gv_t hg)) ((S.free 0 rfl).cell rfl))) ?_; clear hF; intro a hF
  refine op_gv (v := .int .i64 (x1.length : Int)) rfl rfl hF rfl (yf (gw_yield hF rfl rfl rfl)) (fun hg => (run_lenL rfl rfl Tryd.underlying64 ((hF.ev rfl).trans (gv_t hg)))) ?_; clear hF; intro a hF
  refine op_gv (v := .bool (ltB 10 (x1.length : Int))) rfl rfl hF rfl (yf (gw_yield hF rfl rfl rfl)) (fun hg => (run_gtr ((hF.ev rfl).trans (gv_t hg)) rfl rfl)) ?_; clear hF; intro a hF
  refine op_val (v := .bool (((ltB x0 1) || (ltB 8 x0)) || (ltB 10 (x1.length : Int)))) rfl rfl hF rfl (run_pick_or rfl (hF.ev rfl) rfl (fun hp => ((hF.ev rfl).trans (gv_t (not_t hp))))) ?_; clear hF; intro a hF
  refine wpList_nil ?_
  cases hc102 : (((ltB x0 1) || (ltB 8 x0)) || (ltB 10 (x1.length : Int)))
  · replace hM := bif_f hc102 hM
    refine cond_f hF rfl hc102 ?_
    refine wp_skip ?_
    refine wp_seq ?_
    refine wp_seq ?_
    refine wp_region_lit ?_
    refine op_val (v := .pointer (some ⟨g101, 1, none⟩)) rfl rfl hF rfl (run_fieldAddr rfl fl66_1 (hF.ev rfl) rfl) ?_; clear hF; intro a hF
    refine op_val (v := .slice A1 x1.length c1) rfl rfl hF rfl (run_load1 rfl one64 (hF.ev rfl) ((S.free 0 rfl).cell rfl)) ?_; clear hF; intro a hF
    refine op_val (v := .int .i64 (x1.length : Int)) rfl rfl hF rfl (run_lenL rfl rfl Tryd.underlying64 (hF.ev rfl)) ?_; clear hF; intro a hF
    refine op_val (v := .int .i64 0) rfl rfl hF rfl (run_move rfl rfl) ?_; clear hF; intro a hF
    refine wpList_nil ?_
    obtain ⟨o104, hM105, hM⟩ := bind_ex hM
    refine wp_cut (fun a u => ∃ (p103 : Unit), (Sum.inl p103) = o104 ∧ Fr a 56 [(2, .bool false)] ∧ St w u []) ?_ ?_
    · have _ := trivial
      refine wp_block ?_
      refine loop_gw (fun m a u => ∃ (p106 : Int), m_impl_NetValid_l1 x0 x1 m p106 = some _ ∧ Fr a 56 [(1, .pointer (some ⟨g101, 0, none⟩)), (2, .bool false), (20, .slice A1 x1.length c1), (21, .int .i64 (x1.length : Int)), (22, .int .i64 p106)] ∧ St w u [.box g101 66 #[.int .i64 x0, .slice A1 x1.length c1]]) FUEL ⟨0, hM105, hF.keep _ ⟨rfl, rfl, rfl, rfl, rfl, trivial⟩, S.sel [0] rfl rfl⟩ ?_
      clear hF S hM105; rintro m a u ⟨p106, hM105, hF, S⟩
      rcases m with _ | f1
      · exact none_some hM105
      rw [m_impl_NetValid_l1.eq_2] at hM105
      refine wp_seq ?_
      refine wp_region_lit ?_
      refine op_val (v := .bool (ltB p106 (x1.length : Int))) rfl rfl hF rfl (run_lss (hF.ev rfl) (hF.ev rfl) rfl) ?_; clear hF; intro a hF
      refine wpList_nil ?_
      refine wp_seq ?_
      cases hc107 : (ltB p106 (x1.length : Int))
      · replace hM105 := bif_f hc107 hM105
        refine cond_f hF rfl hc107 ?_
        refine wp_exit ?_
        repeat with_reducible (first | refine then_exit ?_ | refine in_hit ?_ | refine in_miss rfl ?_)
        obtain rfl := Option.some.inj hM105
        exact ⟨(), rfl, hF.keep _ ⟨rfl, trivial⟩, S.sel [] rfl rfl⟩
      · replace hM105 := bif_t hc107 hM105
        refine cond_t hF rfl hc107 ?_
        refine wp_skip ?_
        refine wp_seq ?_
        refine wp_block ?_
        refine wp_seq ?_
        refine wp_region_lit ?_
        obtain ⟨hk108, hM105⟩ := chk_ex hM105
        replace hk108 := ixB_t hk108
        refine op_val (v := .pointer (some ⟨adB A1, adO A1 + p106.toNat * 3, none⟩)) rfl rfl hF rfl (run_indexAddr (b := adB A1) (off := adO A1) rfl Tryd.underlying64 sz63 ((hF.ev rfl).trans (congrArg (fun A => Value.slice A x1.length c1) ((S.rc0 h1.rc).rd.ad (ix_pos hk108)))) (hF.ev rfl) hk108.1 hk108.2 (k' := adO A1 + p106.toNat * 3) rfl) ?_; clear hF; intro a hF
        refine op_val (v := .agg #[.int .i64 ((x1.getD p106.toNat ((0, 0, 0) : Int × Int × Int)).1), .int .i64 ((x1.getD p106.toNat ((0, 0, 0) : Int × Int × Int)).2.1), .int .i64 ((x1.getD p106.toNat ((0, 0, 0) : Int × Int × Int)).2.2)]) rfl rfl hF rfl (run_loadN (cs := #[.int .i64 ((x1.getD p106.toNat ((0, 0, 0) : Int × Int × Int)).1), .int .i64 ((x1.getD p106.toNat ((0, 0, 0) : Int × Int × Int)).2.1), .int .i64 ((x1.getD p106.toNat ((0, 0, 0) : Int × Int × Int)).2.2)]) rfl ag63 (hF.ev rfl) rfl (rd_elN (l := x1) (S.rc0 h1.rc).rd rfl eLine_len ((0, 0, 0) : Int × Int × Int) (ix_ltn hk108 rfl) rfl)) ?_; clear hF; intro a hF
        refine op_new (cs := #[.int .i64 0, .int .i64 0, .int .i64 0]) rfl rfl hF rfl S (run_allocZ rfl zr63) ?_; clear hF S; intro a g109 u hF S
        refine op_do rfl rfl (run_store (cs' := #[.int .i64 ((x1.getD p106.toNat ((0, 0, 0) : Int × Int × Int)).1), .int .i64 ((x1.getD p106.toNat ((0, 0, 0) : Int × Int × Int)).2.1), .int .i64 ((x1.getD p106.toNat ((0, 0, 0) : Int × Int × Int)).2.2)]) rfl sz63 (hF.ev rfl) (hF.ev rfl) rfl rfl rfl (S.free 0 rfl) rfl rfl) ?_; replace S := S.put 0 rfl (#[.int .i64 ((x1.getD p106.toNat ((0, 0, 0) : Int × Int × Int)).1), .int .i64 ((x1.getD p106.toNat ((0, 0, 0) : Int × Int × Int)).2.1), .int .i64 ((x1.getD p106.toNat ((0, 0, 0) : Int × Int × Int)).2.2)])
        generalize World.setRow _ _ _ = u at S ⊢
        refine wpList_nil ?_
        refine wp_seq ?_
        refine wp_region_lit ?_
        refine op_val (v := .agg #[.int .i64 x0, .slice A1 x1.length c1]) rfl rfl hF rfl (run_loadN rfl ag66 (hF.ev rfl) rfl ((S.free 1 rfl).cells 0 #[.int .i64 x0, .slice A1 x1.length c1] rfl)) ?_; clear hF; intro a hF
        refine op_val (v := .pointer (some ⟨g109, 0, none⟩)) rfl rfl hF rfl (run_fieldAddr rfl fl63_0 (hF.ev rfl) rfl) ?_; clear hF; intro a hF
        refine op_val (v := .int .i64 ((x1.getD p106.toNat ((0, 0, 0) : Int × Int × Int)).1)) rfl rfl hF rfl (run_load1 rfl one3 (hF.ev rfl) ((S.free 0 rfl).cell rfl)) ?_; clear hF; intro a hF
        obtain ⟨p110, h110, hM105⟩ := bind_ex hM105
        refine op_call rfl rfl hF rfl (run_call (vs := [.agg #[.int .i64 x0, .slice A1 x1.length c1], .int .i64 ((x1.getD p106.toNat ((0, 0, 0) : Int × Int × Int)).1)]) rfl rfl co56 ⟨(hF.ev rfl), (hF.ev rfl), trivial⟩) (c_impl_Net_hasBus (x0 := x0) (x1 := x1) (x2 := (x1.getD p106.toNat ((0, 0, 0) : Int × Int × Int)).1) ⟨(S.rc0 h1.rc), rfl⟩ h110) ?_
        rintro e u ⟨rfl, T⟩
        refine ⟨_, rfl, ?_⟩
        clear hF; intro a hF
        replace S := S.call0 T; clear T
        refine op_val (v := .bool (!p110)) rfl rfl hF rfl (run_not rfl (hF.ev rfl)) ?_; clear hF; intro a hF
        refine op_val (v := .bool (!p110)) rfl rfl hF rfl (run_move rfl (hF.ev rfl)) ?_; clear hF; intro a hF
        refine op_gv (v := .agg #[.int .i64 x0, .slice A1 x1.length c1]) rfl rfl hF rfl (yf (gw_yield hF rfl rfl rfl)) (fun hg => (run_loadN rfl ag66 (hF.ev rfl) rfl ((S.free 1 rfl).cells 0 #[.int .i64 x0, .slice A1 x1.length c1] rfl))) ?_; clear hF; intro a hF
        refine op_gv (v := .pointer (some ⟨g109, 1, none⟩)) rfl rfl hF rfl (yf (gw_yield hF rfl rfl rfl)) (fun hg => (run_fieldAddr rfl fl63_1 (hF.ev rfl) rfl)) ?_; clear hF; intro a hF
        refine op_gv (v := .int .i64 ((x1.getD p106.toNat ((0, 0, 0) : Int × Int × Int)).2.1)) rfl rfl hF rfl (yf (gw_yield hF rfl rfl rfl)) (fun hg => (run_load1 rfl one3 ((hF.ev rfl).trans (gv_t hg)) ((S.free 0 rfl).cell rfl))) ?_; clear hF; intro a hF
        obtain ⟨p111, h111, hM105⟩ := bind_ex hM105
        refine op_gcall (v := .bool p111) rfl rfl hF rfl S (yf (gw_yield hF rfl rfl rfl)) (fun hg => (run_call (vs := [.agg #[.int .i64 x0, .slice A1 x1.length c1], .int .i64 ((x1.getD p106.toNat ((0, 0, 0) : Int × Int × Int)).2.1)]) rfl rfl co56 ⟨((hF.ev rfl).trans (gv_t hg)), ((hF.ev rfl).trans (gv_t hg)), trivial⟩)) (fun hg => c_impl_Net_hasBus (x0 := x0) (x1 := x1) (x2 := (x1.getD p106.toNat ((0, 0, 0) : Int × Int × Int)).2.1) ⟨(S.rc0 h1.rc), rfl⟩ (gb_t h111 hg)) ?_; clear hF S; intro a u hF S
        refine op_gv (v := .bool (!p111)) rfl rfl hF rfl (yf (gw_yield hF rfl rfl rfl)) (fun hg => (run_not rfl ((hF.ev rfl).trans (gv_t hg)))) ?_; clear hF; intro a hF
        refine op_val (v := .bool ((!p110) || (!p111))) rfl rfl hF rfl (run_pick_or rfl (hF.ev rfl) rfl (fun hp => ((hF.ev rfl).trans (gv_t (not_t hp))))) ?_; clear hF; intro a hF
        refine op_val (v := .bool ((!p110) || (!p111))) rfl rfl hF rfl (run_move rfl (hF.ev rfl)) ?_; clear hF; intro a hF
        refine op_gv (v := .pointer (some ⟨g109, 0, none⟩)) rfl rfl hF rfl (yf (gw_yield hF rfl rfl rfl)) (fun hg => (run_fieldAddr rfl fl63_0 (hF.ev rfl) rfl)) ?_; clear hF; intro a hF
        refine op_gv (v := .int .i64 ((x1.getD p106.toNat ((0, 0, 0) : Int × Int × Int)).1)) rfl rfl hF rfl (yf (gw_yield hF rfl rfl rfl)) (fun hg => (run_load1 rfl one3 ((hF.ev rfl).trans (gv_t hg)) ((S.free 0 rfl).cell rfl))) ?_; clear hF; intro a hF
        refine op_gv (v := .pointer (some ⟨g109, 1, none⟩)) rfl rfl hF rfl (yf (gw_yield hF rfl rfl rfl)) (fun hg => (run_fieldAddr rfl fl63_1 (hF.ev rfl) rfl)) ?_; clear hF; intro a hF
        refine op_gv (v := .int .i64 ((x1.getD p106.toNat ((0, 0, 0) : Int × Int × Int)).2.1)) rfl rfl hF rfl (yf (gw_yield hF rfl rfl rfl)) (fun hg => (run_load1 rfl one3 ((hF.ev rfl).trans (gv_t hg)) ((S.free 0 rfl).cell rfl))) ?_; clear hF; intro a hF
        refine op_gv (v := .bool (((x1.getD p106.toNat ((0, 0, 0) : Int × Int × Int)).1) == ((x1.getD p106.toNat ((0, 0, 0) : Int × Int × Int)).2.1))) rfl rfl hF rfl (yf (gw_yield hF rfl rfl rfl)) (fun hg => (run_eql ((hF.ev rfl).trans (gv_t hg)) ((hF.ev rfl).trans (gv_t hg)) rfl)) ?_; clear hF; intro a hF
        refine op_val (v := .bool (((!p110) || (!p111)) || (((x1.getD p106.toNat ((0, 0, 0) : Int × Int × Int)).1) == ((x1.getD p106.toNat ((0, 0, 0) : Int × Int × Int)).2.1)))) rfl rfl hF rfl (run_pick_or rfl (hF.ev rfl) rfl (fun hp => ((hF.ev rfl).trans (gv_t (not_t hp))))) ?_; clear hF; intro a hF
        refine op_val (v := .bool (((!p110) || (!p111)) || (((x1.getD p106.toNat ((0, 0, 0) : Int × Int × Int)).1) == ((x1.getD p106.toNat ((0, 0, 0) : Int × Int × Int)).2.1)))) rfl rfl hF rfl (run_move rfl (hF.ev rfl)) ?_; clear hF; intro a hF
        refine op_gv (v := .pointer (some ⟨g109, 2, none⟩)) rfl rfl hF rfl (yf (gw_yield hF rfl rfl rfl)) (fun hg => (run_fieldAddr rfl fl63_2 (hF.ev rfl) rfl)) ?_; clear hF; intro a hF
        refine op_gv (v := .int .i64 ((x1.getD p106.toNat ((0, 0, 0) : Int × Int × Int)).2.2)) rfl rfl hF rfl (yf (gw_yield hF rfl rfl rfl)) (fun hg => (run_load1 rfl one3 ((hF.ev rfl).trans (gv_t hg)) ((S.free 0 rfl).cell rfl))) ?_; clear hF; intro a hF
        refine op_gv (v := .bool (ltB ((x1.getD p106.toNat ((0, 0, 0) : Int × Int × Int)).2.2) 1)) rfl rfl hF rfl (yf (gw_yield hF rfl rfl rfl)) (fun hg => (run_lss ((hF.ev rfl).trans (gv_t hg)) rfl rfl)) ?_; clear hF; intro a hF
        refine op_val (v := .bool ((((!p110) || (!p111)) || (((x1.getD p106.toNat ((0, 0, 0) : Int × Int × Int)).1) == ((x1.getD p106.toNat ((0, 0, 0) : Int × Int × Int)).2.1))) || (ltB ((x1.getD p106.toNat ((0, 0, 0) : Int × Int × Int)).2.2) 1))) rfl rfl hF rfl (run_pick_or rfl (hF.ev rfl) rfl (fun hp => ((hF.ev rfl).trans (gv_t (not_t hp))))) ?_; clear hF; intro a hF
        refine op_val (v := .bool ((((!p110) || (!p111)) || (((x1.getD p106.toNat ((0, 0, 0) : Int × Int × Int)).1) == ((x1.getD p106.toNat ((0, 0, 0) : Int × Int × Int)).2.1))) || (ltB ((x1.getD p106.toNat ((0, 0, 0) : Int × Int × Int)).2.2) 1))) rfl rfl hF rfl (run_move rfl (hF.ev rfl)) ?_; clear hF; intro a hF
        refine op_gv (v := .pointer (some ⟨g109, 2, none⟩)) rfl rfl hF rfl (yf (gw_yield hF rfl rfl rfl)) (fun hg => (run_fieldAddr rfl fl63_2 (hF.ev rfl) rfl)) ?_; clear hF; intro a hF
        refine op_gv (v := .int .i64 ((x1.getD p106.toNat ((0, 0, 0) : Int × Int × Int)).2.2)) rfl rfl hF rfl (yf (gw_yield hF rfl rfl rfl)) (fun hg => (run_load1 rfl one3 ((hF.ev rfl).trans (gv_t hg)) ((S.free 0 rfl).cell rfl))) ?_; clear hF; intro a hF
        refine op_gv (v := .bool (ltB 999 ((x1.getD p106.toNat ((0, 0, 0) : Int × Int × Int)).2.2))) rfl rfl hF rfl (yf (gw_yield hF rfl rfl rfl)) (fun hg => (run_gtr ((hF.ev rfl).trans (gv_t hg)) rfl rfl)) ?_; clear hF; intro a hF
        refine op_val (v := .bool (((((!p110) || (!p111)) || (((x1.getD p106.toNat ((0, 0, 0) : Int × Int × Int)).1) == ((x1.getD p106.toNat ((0, 0, 0) : Int × Int × Int)).2.1))) || (ltB ((x1.getD p106.toNat ((0, 0, 0) : Int × Int × Int)).2.2) 1)) || (ltB 999 ((x1.getD p106.toNat ((0, 0, 0) : Int × Int × Int)).2.2)))) rfl rfl hF rfl (run_pick_or rfl (hF.ev rfl) rfl (fun hp => ((hF.ev rfl).trans (gv_t (not_t hp))))) ?_; clear hF; intro a hF
        refine wpList_nil ?_
        cases hc112 : (((((!p110) || (!p111)) || (((x1.getD p106.toNat ((0, 0, 0) : Int × Int × Int)).1) == ((x1.getD p106.toNat ((0, 0, 0) : Int × Int × Int)).2.1))) || (ltB ((x1.getD p106.toNat ((0, 0, 0) : Int × Int × Int)).2.2) 1)) || (ltB 999 ((x1.getD p106.toNat ((0, 0, 0) : Int × Int × Int)).2.2)))
        · replace hM105 := bif_f hc112 hM105
          refine cond_f hF rfl hc112 ?_
          refine wp_skip ?_
          refine wp_region_lit ?_
          refine op_val (v := .int .i64 (w64 (p106 + 1))) rfl rfl hF rfl (run_add (z := w64 (p106 + 1)) (hF.ev rfl) rfl rfl rfl) ?_; clear hF; intro a hF
          refine op_val (v := .int .i64 (w64 (p106 + 1))) rfl rfl hF rfl (run_move rfl (hF.ev rfl)) ?_; clear hF; intro a hF
          refine wpList_nil ?_
          exact ⟨f1, Nat.lt_succ_self _, w64 (p106 + 1), hM105, hF.keep _ ⟨rfl, rfl, rfl, rfl, rfl, trivial⟩, S.sel [1] rfl rfl⟩
        · replace hM105 := bif_t hc112 hM105
          refine cond_t hF rfl hc112 ?_
          refine wp_seq ?_
          refine wp_region_lit ?_
          refine op_val (v := .bool false) rfl rfl hF rfl (run_assign rfl rfl) ?_; clear hF; intro a hF
          refine wpList_nil ?_
          refine wp_ret ?_
          repeat with_reducible (first | refine then_ret ?_ | refine in_ret ?_ | refine in_nrm ?_)
          refine ret1_gw (.inl rfl) hF rfl (res_tmp (hF.ev rfl)) ?_
          obtain rfl := Option.some.inj hM105
          obtain rfl := Option.some.inj hM
          exact ⟨rfl, S.sel [] rfl rfl⟩
    · rintro a u ⟨p103, rfl, hF, S⟩
      replace hM := elim_l hM
      refine wp_seq ?_
      refine wp_region_lit ?_
      refine op_val (v := .bool true) rfl rfl hF rfl (run_assign rfl rfl) ?_; clear hF; intro a hF
      refine wpList_nil ?_
      refine wp_ret ?_
      repeat with_reducible (first | refine then_ret ?_ | refine in_ret ?_ | refine in_nrm ?_)
      refine ret1_gw (.inl rfl) hF rfl (res_tmp (hF.ev rfl)) ?_
      obtain rfl := Option.some.inj hM
      exact ⟨rfl, S.sel [] rfl rfl⟩
  · replace hM := bif_t hc102 hM
    refine cond_t hF rfl hc102 ?_
    refine wp_seq ?_
    refine wp_region_lit ?_
    refine op_val (v := .bool false) rfl rfl hF rfl (run_assign rfl rfl) ?_; clear hF; intro a hF
    refine wpList_nil ?_
    refine wp_ret ?_
    repeat with_reducible (first | refine then_ret ?_ | refine in_ret ?_ | refine in_nrm ?_)
    refine ret1_gw (.inl rfl) hF rfl (res_tmp (hF.ev rfl)) ?_
    obtain rfl := Option.some.inj hM
    exact ⟨rfl, S.sel [] rfl rfl⟩

theorem c_impl_NetText_bad {x0 : Int} {x1 : List (Int × Int × Int)} {A1 : Option Addr} {n1 c1 : Nat} {w : World} (h1 : Rt w 3 eLine A1 n1 c1 x1) (hv : m_impl_NetValid x0 x1 = some false) :
    Calls Tryd.prog 35 #[.agg #[.int .i64 x0, .slice A1 n1 c1]] w (fun e w' => e = .returned (.string ({ data := #[] } : ByteArray)) ∧ St w w' []) := by
  obtain rfl := h1.len
  refine calls_gw Tryd.func35 Tryd.ntmps35 rfl [(0, .agg #[.int .i64 x0, .slice A1 x1.length c1])] ⟨rfl, trivial⟩ rfl ?_
  intro a hF
  have S := St.nil w
  refine wp_seq ?_
  refine wp_region_lit ?_
  refine op_new (cs := #[.int .i64 x0, .slice A1 x1.length c1]) rfl rfl hF rfl S (run_box rfl (hF.ev rfl) rfl) ?_; clear hF S; intro a g101 u hF S
  refine op_val (v := .string ({ data := #[] } : ByteArray)) rfl rfl hF rfl (run_assign rfl rfl) ?_; clear hF; intro a hF
  refine wpList_nil ?_
  refine wp_seq ?_
  refine wp_seq ?_
  refine wp_region_lit ?_
  refine op_val (v := .agg #[.int .i64 x0, .slice A1 x1.length c1]) rfl rfl hF rfl (run_loadN rfl ag66 (hF.ev rfl) rfl ((S.free 0 rfl).cells 0 #[.int .i64 x0, .slice A1 x1.length c1] rfl)) ?_; clear hF; intro a hF
  refine op_call rfl rfl hF rfl (run_call (vs := [.agg #[.int .i64 x0, .slice A1 x1.length c1]]) rfl rfl co49 ⟨(hF.ev rfl), trivial⟩) (c_impl_NetValid ⟨(S.rc0 h1.rc), rfl⟩ hv) ?_
  rintro e u ⟨rfl, T⟩
  refine ⟨_, rfl, ?_⟩
  clear hF; intro a hF
  replace S := S.call0 T; clear T
  refine op_val (v := .bool (!false)) rfl rfl hF rfl (run_not rfl (hF.ev rfl)) ?_; clear hF; intro a hF
  refine wpList_nil ?_
  refine cond_t hF rfl (not_t rfl) ?_
  refine wp_seq ?_
  refine wp_region_lit ?_
  refine op_val (v := .string ({ data := #[] } : ByteArray)) rfl rfl hF rfl (run_assign rfl rfl) ?_; clear hF; intro a hF
  refine wpList_nil ?_
  refine wp_ret ?_
  repeat with_reducible (first | refine then_ret ?_ | refine in_ret ?_ | refine in_nrm ?_)
  refine ret1_gw (.inl rfl) hF rfl (res_tmp (hF.ev rfl)) ?_
  exact ⟨rfl, S.sel [] rfl rfl⟩

set_option maxHeartbeats 4000000 in
theorem c_spec_l20Rd_pick {x0 : List Int} {x1 : Int} {x2 : Int} {A0 : Option Addr} {n0 c0 : Nat} {g0 : Nat} {w : World} {r : Int × Int} {w0 : World} {X : List Asn} (h0 : Rt w0 1 eU A0 n0 c0 x0) (S : St w0 w (Asn.box g0 78 #[.slice A0 n0 c0, .int .i64 x1] :: X)) (hM : m_spec_l20Rd_pick x0 x1 x2 = some r) :
    Calls Tryd.prog 29 #[.pointer (some ⟨g0, 0, none⟩), .int .i64 x2] w (fun e w' => e = .returned (.int .i64 r.1) ∧ St w0 w' (Asn.box g0 78 #[.slice A0 n0 c0, .int .i64 r.2] :: X)) := by
  obtain rfl := h0.len
  unfold m_spec_l20Rd_pick at hM
  refine calls_gw Tryd.func29 Tryd.ntmps29 rfl [(0, .pointer (some ⟨g0, 0, none⟩)), (1, .int .i64 x2)] ⟨rfl, rfl, trivial⟩ rfl ?_
  intro a hF
  refine wp_seq ?_
  refine wp_region_lit ?_
  refine op_val (v := .int .i64 0) rfl rfl hF rfl (run_assign rfl rfl) ?_; clear hF; intro a hF
  refine wpList_nil ?_
  refine wp_seq ?_
  refine wp_region_lit ?_
  refine op_val (v := .pointer (some ⟨g0, 0, none⟩)) rfl rfl hF rfl (run_move rfl (hF.ev rfl)) ?_; clear hF; intro a hF
  refine op_val (v := .pointer (some ⟨g0, 0, none⟩)) rfl rfl hF rfl (run_move rfl (hF.ev rfl)) ?_; clear hF; intro a hF
  refine op_val (v := .pointer (some ⟨g0, 0, none⟩)) rfl rfl hF rfl (run_nilCheck rfl (hF.ev rfl)) ?_; clear hF; intro a hF
  refine op_val (v := .pointer (some ⟨g0, 1, none⟩)) rfl rfl hF rfl (run_fieldAddr rfl fl78_1 (hF.ev rfl) rfl) ?_; clear hF; intro a hF
  refine op_val (v := .int .i64 x1) rfl rfl hF rfl (run_load1 rfl one3 (hF.ev rfl) ((S.free 0 rfl).cell rfl)) ?_; clear hF; intro a hF
  refine op_val (v := .int .i64 (w64 (x1 + 1))) rfl rfl hF rfl (run_add (z := w64 (x1 + 1)) (hF.ev rfl) rfl rfl rfl) ?_; clear hF; intro a hF
  refine op_val (v := .pointer (some ⟨g0, 0, none⟩)) rfl rfl hF rfl (run_nilCheck rfl (hF.ev rfl)) ?_; clear hF; intro a hF
  refine op_val (v := .pointer (some ⟨g0, 1, none⟩)) rfl rfl hF rfl (run_fieldAddr rfl fl78_1 (hF.ev rfl) rfl) ?_; clear hF; intro a hF
  refine op_do rfl rfl (run_store (cs' := #[.slice A0 x0.length c0, .int .i64 (w64 (x1 + 1))]) rfl sz3 (hF.ev rfl) (hF.ev rfl) rfl rfl rfl (S.free 0 rfl) rfl rfl) ?_; replace S := S.put 0 rfl (#[.slice A0 x0.length c0, .int .i64 (w64 (x1 + 1))])
  generalize World.setRow _ _ _ = u at S ⊢
  refine wpList_nil ?_
  refine wp_seq ?_
  refine wp_seq ?_
  refine wp_region_lit ?_
  refine op_val (v := .int .i64 x2) rfl rfl hF rfl (run_move rfl (hF.ev rfl)) ?_; clear hF; intro a hF
  refine op_val (v := .bool (ltB x2 1)) rfl rfl hF rfl (run_lss (hF.ev rfl) rfl rfl) ?_; clear hF; intro a hF
  refine op_val (v := .bool (ltB x2 1)) rfl rfl hF rfl (run_move rfl (hF.ev rfl)) ?_; clear hF; intro a hF
  refine op_gv (v := .pointer (some ⟨g0, 0, none⟩)) rfl rfl hF rfl (yf (gw_yield hF rfl rfl rfl)) (fun hg => (run_move rfl (hF.ev rfl))) ?_; clear hF; intro a hF
  refine op_gv (v := .pointer (some ⟨g0, 0, none⟩)) rfl rfl hF rfl (yf (gw_yield hF rfl rfl rfl)) (fun hg => (run_nilCheck rfl ((hF.ev rfl).trans (gv_t hg)))) ?_; clear hF; intro a hF
  refine op_gv (v := .pointer (some ⟨g0, 0, none⟩)) rfl rfl hF rfl (yf (gw_yield hF rfl rfl rfl)) (fun hg => (run_fieldAddr rfl fl78_0 ((hF.ev rfl).trans (gv_t hg)) rfl)) ?_; clear hF; intro a hF
  refine op_gv (v := .slice A0 x0.length c0) rfl rfl hF rfl (yf (gw_yield hF rfl rfl rfl)) (fun hg => (run_load1 rfl one22 ((hF.ev rfl).trans (gv_t hg)) ((S.free 0 rfl).cell rfl))) ?_; clear hF; intro a hF
  refine op_gv (v := .int .i64 (x0.length : Int)) rfl rfl hF rfl (yf (gw_yield hF rfl rfl rfl)) (fun hg => (run_lenL rfl rfl Tryd.underlying22 ((hF.ev rfl).trans (gv_t hg)))) ?_; clear hF; intro a hF
  refine op_gv (v := .bool ((x0.length : Int) == 0)) rfl rfl hF rfl (yf (gw_yield hF rfl rfl rfl)) (fun hg => (run_eql ((hF.ev rfl).trans (gv_t hg)) rfl rfl)) ?_; clear hF; intro a hF
  refine op_val (v := .bool ((ltB x2 1) || ((x0.length : Int) == 0))) rfl rfl hF rfl (run_pick_or rfl (hF.ev rfl) rfl (fun hp => ((hF.ev rfl).trans (gv_t (not_t hp))))) ?_; clear hF; intro a hF
  refine wpList_nil ?_
  cases hc101 : ((ltB x2 1) || ((x0.length : Int) == 0))
  · replace hM := bif_f hc101 hM
    refine cond_f hF rfl hc101 ?_
    refine wp_skip ?_
    refine wp_seq ?_
    refine wp_region_lit ?_
    refine op_val (v := .pointer (some ⟨g0, 0, none⟩)) rfl rfl hF rfl (run_move rfl (hF.ev rfl)) ?_; clear hF; intro a hF
    refine op_val (v := .pointer (some ⟨g0, 0, none⟩)) rfl rfl hF rfl (run_nilCheck rfl (hF.ev rfl)) ?_; clear hF; intro a hF
    refine op_val (v := .pointer (some ⟨g0, 1, none⟩)) rfl rfl hF rfl (run_fieldAddr rfl fl78_1 (hF.ev rfl) rfl) ?_; clear hF; intro a hF
    refine op_val (v := .int .i64 (w64 (x1 + 1))) rfl rfl hF rfl (run_load1 rfl one3 (hF.ev rfl) ((S.free 0 rfl).cell rfl)) ?_; clear hF; intro a hF
    refine op_val (v := .int .i64 (w64 ((w64 (x1 + 1)) - 1))) rfl rfl hF rfl (run_sub (z := w64 ((w64 (x1 + 1)) - 1)) (hF.ev rfl) rfl rfl rfl) ?_; clear hF; intro a hF
    refine op_val (v := .int .i64 (w64 ((w64 (x1 + 1)) - 1))) rfl rfl hF rfl (run_assign rfl (hF.ev rfl)) ?_; clear hF; intro a hF
    refine wpList_nil ?_
    refine wp_seq ?_
    refine wp_seq ?_
    refine wp_region_lit ?_
    refine op_val (v := .int .i64 (w64 ((w64 (x1 + 1)) - 1))) rfl rfl hF rfl (run_move rfl (hF.ev rfl)) ?_; clear hF; intro a hF
    refine op_val (v := .pointer (some ⟨g0, 0, none⟩)) rfl rfl hF rfl (run_move rfl (hF.ev rfl)) ?_; clear hF; intro a hF
    refine op_val (v := .pointer (some ⟨g0, 0, none⟩)) rfl rfl hF rfl (run_nilCheck rfl (hF.ev rfl)) ?_; clear hF; intro a hF
    refine op_val (v := .pointer (some ⟨g0, 0, none⟩)) rfl rfl hF rfl (run_fieldAddr rfl fl78_0 (hF.ev rfl) rfl) ?_; clear hF; intro a hF
    refine op_val (v := .slice A0 x0.length c0) rfl rfl hF rfl (run_load1 rfl one22 (hF.ev rfl) ((S.free 0 rfl).cell rfl)) ?_; clear hF; intro a hF
    refine op_val (v := .int .i64 (x0.length : Int)) rfl rfl hF rfl (run_lenL rfl rfl Tryd.underlying22 (hF.ev rfl)) ?_; clear hF; intro a hF
    refine op_val (v := .bool (ltB (w64 ((w64 (x1 + 1)) - 1)) (x0.length : Int))) rfl rfl hF rfl (run_lss (hF.ev rfl) (hF.ev rfl) rfl) ?_; clear hF; intro a hF
    refine wpList_nil ?_
    cases hc102 : (ltB (w64 ((w64 (x1 + 1)) - 1)) (x0.length : Int))
    · replace hM := bif_f hc102 hM
      refine cond_f hF rfl hc102 ?_
      refine wp_skip ?_
      refine wp_seq ?_
      obtain ⟨hk103, hM⟩ := chk_ex hM
      replace hk103 := nzB_t hk103
      obtain ⟨hk104, hM⟩ := chk_ex hM
      replace hk104 := ixB_t hk104
      obtain ⟨hk105, hM⟩ := chk_ex hM
      replace hk105 := nzB_t hk105
      obtain ⟨hk106, hM⟩ := chk_ex hM
      replace hk106 := ixB_t hk106
      obtain ⟨hk107, hM⟩ := chk_ex hM
      replace hk107 := nzB_t hk107
      refine region_gw (D := [47, 48, 49, 50, 51, 52, 53, 54, 55, 56, 57, 58, 59, 60, 61, 62, 63, 64, 65, 66, 67, 68, 69, 70, 71, 72, 73, 74, 75, 76, 77, 78, 79, 80, 81, 82, 83, 84, 85, 86, 87, 88, 89, 90, 91, 6]) (Lr := (Asn.box g0 78 #[.slice A0 x0.length c0, .int .i64 (w64 (x1 + 1))] :: X)) (deps := (fun | 0 => [47] | 1 => [48] | 2 => [49] | 3 => [50] | 4 => [51] | 5 => [52] | 6 => [53] | 7 => [54] | 8 => [55] | 9 => [56] | 10 => [57] | 11 => [58] | 12 => [59] | 13 => [60] | 14 => [61] | 15 => [62] | 16 => [63] | 17 => [64] | 18 => [65] | 19 => [66] | 20 => [67] | 21 => [68] | 22 => [69] | 23 => [70] | 24 => [71] | 25 => [72] | 26 => [73] | 27 => [74] | 28 => [75] | 29 => [76] | 30 => [77] | 31 => [78] | 32 => [79] | 33 => [80] | 34 => [81] | 35 => [82] | 36 => [83] | 37 => [84] | 38 => [85] | 39 => [86] | 40 => [87] | 41 => [88] | 42 => [89] | 43 => [90] | 44 => [91] | 45 => [6] | _ => [])) (rd := (fun _ => [])) (zr := (fun _ => []))
        (φ := fun i vs => match i, vs with | 0, [v47] => v47 = .pointer (some ⟨g0, 0, none⟩) | 1, [v48] => v48 = .pointer (some ⟨g0, 0, none⟩) | 2, [v49] => v49 = .pointer (some ⟨g0, 0, none⟩) | 3, [v50] => v50 = .slice A0 x0.length c0 | 4, [v51] => v51 = .int .i64 (w64 ((w64 (x1 + 1)) - 1)) | 5, [v52] => v52 = .pointer (some ⟨g0, 0, none⟩) | 6, [v53] => v53 = .pointer (some ⟨g0, 0, none⟩) | 7, [v54] => v54 = .pointer (some ⟨g0, 0, none⟩) | 8, [v55] => v55 = .slice A0 x0.length c0 | 9, [v56] => v56 = .int .i64 (x0.length : Int) | 10, [v57] => v57 = .int .i64 (Int.tmod (w64 ((w64 (x1 + 1)) - 1)) (x0.length : Int)) | 11, [v58] => v58 = .pointer (some ⟨adB A0, adO A0 + ((Int.tmod (w64 ((w64 (x1 + 1)) - 1)) (x0.length : Int)).toNat) * 1, none⟩) | 12, [v59] => v59 = .int .u8 (x0.getD ((Int.tmod (w64 ((w64 (x1 + 1)) - 1)) (x0.length : Int)).toNat) (0 : Int)) | 13, [v60] => v60 = .int .i64 (w64 ((x0.getD ((Int.tmod (w64 ((w64 (x1 + 1)) - 1)) (x0.length : Int)).toNat) (0 : Int)))) | 14, [v61] => v61 = .int .i64 (w64 ((w64 ((x0.getD ((Int.tmod (w64 ((w64 (x1 + 1)) - 1)) (x0.length : Int)).toNat) (0 : Int)))) * 131)) | 15, [v62] => v62 = .pointer (some ⟨g0, 0, none⟩) | 16, [v63] => v63 = .pointer (some ⟨g0, 0, none⟩) | 17, [v64] => v64 = .pointer (some ⟨g0, 0, none⟩) | 18, [v65] => v65 = .slice A0 x0.length c0 | 19, [v66] => v66 = .int .i64 (w64 ((w64 (x1 + 1)) - 1)) | 20, [v67] => v67 = .int .i64 (w64 ((w64 ((w64 (x1 + 1)) - 1)) * 7)) | 21, [v68] => v68 = .int .i64 (w64 ((w64 ((w64 ((w64 (x1 + 1)) - 1)) * 7)) + 3)) | 22, [v69] => v69 = .pointer (some ⟨g0, 0, none⟩) | 23, [v70] => v70 = .pointer (some ⟨g0, 0, none⟩) | 24, [v71] => v71 = .pointer (some ⟨g0, 0, none⟩) | 25, [v72] => v72 = .slice A0 x0.length c0 | 26, [v73] => v73 = .int .i64 (x0.length : Int) | 27, [v74] => v74 = .int .i64 (Int.tmod (w64 ((w64 ((w64 ((w64 (x1 + 1)) - 1)) * 7)) + 3)) (x0.length : Int)) | 28, [v75] => v75 = .pointer (some ⟨adB A0, adO A0 + ((Int.tmod (w64 ((w64 ((w64 ((w64 (x1 + 1)) - 1)) * 7)) + 3)) (x0.length : Int)).toNat) * 1, none⟩) | 29, [v76] => v76 = .int .u8 (x0.getD ((Int.tmod (w64 ((w64 ((w64 ((w64 (x1 + 1)) - 1)) * 7)) + 3)) (x0.length : Int)).toNat) (0 : Int)) | 30, [v77] => v77 = .int .i64 (w64 ((x0.getD ((Int.tmod (w64 ((w64 ((w64 ((w64 (x1 + 1)) - 1)) * 7)) + 3)) (x0.length : Int)).toNat) (0 : Int)))) | 31, [v78] => v78 = .int .i64 (w64 ((w64 ((x0.getD ((Int.tmod (w64 ((w64 ((w64 ((w64 (x1 + 1)) - 1)) * 7)) + 3)) (x0.length : Int)).toNat) (0 : Int)))) * 1117)) | 32, [v79] => v79 = .int .i64 (w64 ((w64 ((w64 ((x0.getD ((Int.tmod (w64 ((w64 (x1 + 1)) - 1)) (x0.length : Int)).toNat) (0 : Int)))) * 131)) + (w64 ((w64 ((x0.getD ((Int.tmod (w64 ((w64 ((w64 ((w64 (x1 + 1)) - 1)) * 7)) + 3)) (x0.length : Int)).toNat) (0 : Int)))) * 1117)))) | 33, [v80] => v80 = .int .i64 (w64 ((w64 (x1 + 1)) - 1)) | 34, [v81] => v81 = .int .i64 (w64 ((w64 ((w64 (x1 + 1)) - 1)) * 29)) | 35, [v82] => v82 = .int .i64 (w64 ((w64 ((w64 ((w64 ((x0.getD ((Int.tmod (w64 ((w64 (x1 + 1)) - 1)) (x0.length : Int)).toNat) (0 : Int)))) * 131)) + (w64 ((w64 ((x0.getD ((Int.tmod (w64 ((w64 ((w64 ((w64 (x1 + 1)) - 1)) * 7)) + 3)) (x0.length : Int)).toNat) (0 : Int)))) * 1117)))) + (w64 ((w64 ((w64 (x1 + 1)) - 1)) * 29)))) | 36, [v83] => v83 = .int .i64 (w64 ((w64 (x1 + 1)) - 1)) | 37, [v84] => v84 = .pointer (some ⟨g0, 0, none⟩) | 38, [v85] => v85 = .pointer (some ⟨g0, 0, none⟩) | 39, [v86] => v86 = .pointer (some ⟨g0, 0, none⟩) | 40, [v87] => v87 = .slice A0 x0.length c0 | 41, [v88] => v88 = .int .i64 (x0.length : Int) | 42, [v89] => v89 = .int .i64 (w64 (Int.tdiv (w64 ((w64 (x1 + 1)) - 1)) (x0.length : Int))) | 43, [v90] => v90 = .int .i64 (w64 ((w64 (Int.tdiv (w64 ((w64 (x1 + 1)) - 1)) (x0.length : Int))) * 53)) | 44, [v91] => v91 = .int .i64 (w64 ((w64 ((w64 ((w64 ((w64 ((x0.getD ((Int.tmod (w64 ((w64 (x1 + 1)) - 1)) (x0.length : Int)).toNat) (0 : Int)))) * 131)) + (w64 ((w64 ((x0.getD ((Int.tmod (w64 ((w64 ((w64 ((w64 (x1 + 1)) - 1)) * 7)) + 3)) (x0.length : Int)).toNat) (0 : Int)))) * 1117)))) + (w64 ((w64 ((w64 (x1 + 1)) - 1)) * 29)))) + (w64 ((w64 (Int.tdiv (w64 ((w64 (x1 + 1)) - 1)) (x0.length : Int))) * 53)))) | 45, [v6] => v6 = .int .i64 (w64 ((w64 ((w64 ((w64 ((w64 ((x0.getD ((Int.tmod (w64 ((w64 (x1 + 1)) - 1)) (x0.length : Int)).toNat) (0 : Int)))) * 131)) + (w64 ((w64 ((x0.getD ((Int.tmod (w64 ((w64 ((w64 ((w64 (x1 + 1)) - 1)) * 7)) + 3)) (x0.length : Int)).toNat) (0 : Int)))) * 1117)))) + (w64 ((w64 ((w64 (x1 + 1)) - 1)) * 29)))) + (w64 ((w64 (Int.tdiv (w64 ((w64 (x1 + 1)) - 1)) (x0.length : Int))) * 53)))) | _, _ => True)
        (C := fun _ _ => [])
        (κ := (fun _ => none)) (Z := (fun _ => [])) mixed hF (by kernel_rfl) S ?_ ?_
      · refine ⟨?_, ?_, ?_, ?_, ?_, ?_, ?_, ?_, ?_, ?_, ?_, ?_, ?_, ?_, ?_, ?_, ?_, ?_, ?_, ?_, ?_, ?_, ?_, ?_, ?_, ?_, ?_, ?_, ?_, ?_, ?_, ?_, ?_, ?_, ?_, ?_, ?_, ?_, ?_, ?_, ?_, ?_, ?_, ?_, ?_, ?_, trivial⟩
        · intro a u X' hB hu hp hr hz hl S
          replace S : St w0 u ([] ++ X') := S
          exact .inl ⟨rfl, .pointer (some ⟨g0, 0, none⟩), u, (run_move rfl (hF.evB hB rfl rfl)), rfl, S⟩
        · intro a u X' hB hu hp hr hz hl S
          replace S : St w0 u ([] ++ X') := S
          have e47 : sl a 47 = .pointer (some ⟨g0, 0, none⟩) := hp 0 rfl
          exact .inl ⟨rfl, .pointer (some ⟨g0, 0, none⟩), u, (run_nilCheck rfl (ev_sl e47)), rfl, S⟩
        · intro a u X' hB hu hp hr hz hl S
          replace S : St w0 u ([] ++ X') := S
          have e48 : sl a 48 = .pointer (some ⟨g0, 0, none⟩) := hp 1 rfl
          exact .inl ⟨rfl, .pointer (some ⟨g0, 0, none⟩), u, (run_fieldAddr rfl fl78_0 (ev_sl e48) rfl), rfl, S⟩
        · intro a u X' hB hu hp hr hz hl S
          replace S : St w0 u ([] ++ X') := S
          have e49 : sl a 49 = .pointer (some ⟨g0, 0, none⟩) := hp 2 rfl
          exact .inl ⟨rfl, .slice A0 x0.length c0, u, (run_load1 rfl one22 (ev_sl e49) ((gr_box S hl 0 rfl).cell rfl)), rfl, S⟩
        · intro a u X' hB hu hp hr hz hl S
          replace S : St w0 u ([] ++ X') := S
          exact .inl ⟨rfl, .int .i64 (w64 ((w64 (x1 + 1)) - 1)), u, (run_move rfl (hF.evB hB rfl rfl)), rfl, S⟩
        · intro a u X' hB hu hp hr hz hl S
          replace S : St w0 u ([] ++ X') := S
          exact .inl ⟨rfl, .pointer (some ⟨g0, 0, none⟩), u, (run_move rfl (hF.evB hB rfl rfl)), rfl, S⟩
        · intro a u X' hB hu hp hr hz hl S
          replace S : St w0 u ([] ++ X') := S
          have e52 : sl a 52 = .pointer (some ⟨g0, 0, none⟩) := hp 5 rfl
          exact .inl ⟨rfl, .pointer (some ⟨g0, 0, none⟩), u, (run_nilCheck rfl (ev_sl e52)), rfl, S⟩
        · intro a u X' hB hu hp hr hz hl S
          replace S : St w0 u ([] ++ X') := S
          have e53 : sl a 53 = .pointer (some ⟨g0, 0, none⟩) := hp 6 rfl
          exact .inl ⟨rfl, .pointer (some ⟨g0, 0, none⟩), u, (run_fieldAddr rfl fl78_0 (ev_sl e53) rfl), rfl, S⟩
        · intro a u X' hB hu hp hr hz hl S
          replace S : St w0 u ([] ++ X') := S
          have e54 : sl a 54 = .pointer (some ⟨g0, 0, none⟩) := hp 7 rfl
          exact .inl ⟨rfl, .slice A0 x0.length c0, u, (run_load1 rfl one22 (ev_sl e54) ((gr_box S hl 0 rfl).cell rfl)), rfl, S⟩
        · intro a u X' hB hu hp hr hz hl S
          replace S : St w0 u ([] ++ X') := S
          have e55 : sl a 55 = .slice A0 x0.length c0 := hp 8 rfl
          exact .inl ⟨rfl, .int .i64 (x0.length : Int), u, (run_lenL rfl rfl Tryd.underlying22 (ev_sl e55)), rfl, S⟩
        · intro a u X' hB hu hp hr hz hl S
          replace S : St w0 u ([] ++ X') := S
          have e51 : sl a 51 = .int .i64 (w64 ((w64 (x1 + 1)) - 1)) := hp 4 rfl
          have e56 : sl a 56 = .int .i64 (x0.length : Int) := hp 9 rfl
          exact .inl ⟨rfl, .int .i64 (Int.tmod (w64 ((w64 (x1 + 1)) - 1)) (x0.length : Int)), u, (run_rem (z := Int.tmod (w64 ((w64 (x1 + 1)) - 1)) (x0.length : Int)) (ev_sl e51) (ev_sl e56) rfl hk103 rfl), rfl, S⟩
        · intro a u X' hB hu hp hr hz hl S
          replace S : St w0 u ([] ++ X') := S
          have e50 : sl a 50 = .slice A0 x0.length c0 := hp 3 rfl
          have e57 : sl a 57 = .int .i64 (Int.tmod (w64 ((w64 (x1 + 1)) - 1)) (x0.length : Int)) := hp 10 rfl
          exact .inl ⟨rfl, .pointer (some ⟨adB A0, adO A0 + ((Int.tmod (w64 ((w64 (x1 + 1)) - 1)) (x0.length : Int)).toNat) * 1, none⟩), u, (run_indexAddr (b := adB A0) (off := adO A0) rfl Tryd.underlying22 sz5 ((ev_sl e50).trans (congrArg (fun A => Value.slice A x0.length c0) ((S.rc0 h0.rc).rd.ad (ix_pos hk104)))) (ev_sl e57) hk104.1 hk104.2 (k' := adO A0 + ((Int.tmod (w64 ((w64 (x1 + 1)) - 1)) (x0.length : Int)).toNat) * 1) rfl), rfl, S⟩
        · intro a u X' hB hu hp hr hz hl S
          replace S : St w0 u ([] ++ X') := S
          have e58 : sl a 58 = .pointer (some ⟨adB A0, adO A0 + ((Int.tmod (w64 ((w64 (x1 + 1)) - 1)) (x0.length : Int)).toNat) * 1, none⟩) := hp 11 rfl
          exact .inl ⟨rfl, .int .u8 (x0.getD ((Int.tmod (w64 ((w64 (x1 + 1)) - 1)) (x0.length : Int)).toNat) (0 : Int)), u, (run_load1 rfl one5 (ev_sl e58) (rd_el0 (l := x0) (S.rc0 h0.rc).rd rfl eU_len (0 : Int) (ix_ltn hk104 rfl) rfl)), rfl, S⟩
        · intro a u X' hB hu hp hr hz hl S
          replace S : St w0 u ([] ++ X') := S
          have e59 : sl a 59 = .int .u8 (x0.getD ((Int.tmod (w64 ((w64 (x1 + 1)) - 1)) (x0.length : Int)).toNat) (0 : Int)) := hp 12 rfl
          exact .inl ⟨rfl, .int .i64 (w64 ((x0.getD ((Int.tmod (w64 ((w64 (x1 + 1)) - 1)) (x0.length : Int)).toNat) (0 : Int)))), u, (run_convI rfl Tryd.underlying5 Tryd.underlying3 (ev_sl e59)), rfl, S⟩
        · intro a u X' hB hu hp hr hz hl S
          replace S : St w0 u ([] ++ X') := S
          have e60 : sl a 60 = .int .i64 (w64 ((x0.getD ((Int.tmod (w64 ((w64 (x1 + 1)) - 1)) (x0.length : Int)).toNat) (0 : Int)))) := hp 13 rfl
          exact .inl ⟨rfl, .int .i64 (w64 ((w64 ((x0.getD ((Int.tmod (w64 ((w64 (x1 + 1)) - 1)) (x0.length : Int)).toNat) (0 : Int)))) * 131)), u, (run_mul (z := w64 ((w64 ((x0.getD ((Int.tmod (w64 ((w64 (x1 + 1)) - 1)) (x0.length : Int)).toNat) (0 : Int)))) * 131)) (ev_sl e60) (ev_const _ _) rfl rfl), rfl, S⟩
        · intro a u X' hB hu hp hr hz hl S
          replace S : St w0 u ([] ++ X') := S
          exact .inl ⟨rfl, .pointer (some ⟨g0, 0, none⟩), u, (run_move rfl (hF.evB hB rfl rfl)), rfl, S⟩
        · intro a u X' hB hu hp hr hz hl S
          replace S : St w0 u ([] ++ X') := S
          have e62 : sl a 62 = .pointer (some ⟨g0, 0, none⟩) := hp 15 rfl
          exact .inl ⟨rfl, .pointer (some ⟨g0, 0, none⟩), u, (run_nilCheck rfl (ev_sl e62)), rfl, S⟩
        · intro a u X' hB hu hp hr hz hl S
          replace S : St w0 u ([] ++ X') := S
          have e63 : sl a 63 = .pointer (some ⟨g0, 0, none⟩) := hp 16 rfl
          exact .inl ⟨rfl, .pointer (some ⟨g0, 0, none⟩), u, (run_fieldAddr rfl fl78_0 (ev_sl e63) rfl), rfl, S⟩
        · intro a u X' hB hu hp hr hz hl S
          replace S : St w0 u ([] ++ X') := S
          have e64 : sl a 64 = .pointer (some ⟨g0, 0, none⟩) := hp 17 rfl
          exact .inl ⟨rfl, .slice A0 x0.length c0, u, (run_load1 rfl one22 (ev_sl e64) ((gr_box S hl 0 rfl).cell rfl)), rfl, S⟩
        · intro a u X' hB hu hp hr hz hl S
          replace S : St w0 u ([] ++ X') := S
          exact .inl ⟨rfl, .int .i64 (w64 ((w64 (x1 + 1)) - 1)), u, (run_move rfl (hF.evB hB rfl rfl)), rfl, S⟩
        · intro a u X' hB hu hp hr hz hl S
          replace S : St w0 u ([] ++ X') := S
          have e66 : sl a 66 = .int .i64 (w64 ((w64 (x1 + 1)) - 1)) := hp 19 rfl
          exact .inl ⟨rfl, .int .i64 (w64 ((w64 ((w64 (x1 + 1)) - 1)) * 7)), u, (run_mul (z := w64 ((w64 ((w64 (x1 + 1)) - 1)) * 7)) (ev_sl e66) (ev_const _ _) rfl rfl), rfl, S⟩
        · intro a u X' hB hu hp hr hz hl S
          replace S : St w0 u ([] ++ X') := S
          have e67 : sl a 67 = .int .i64 (w64 ((w64 ((w64 (x1 + 1)) - 1)) * 7)) := hp 20 rfl
          exact .inl ⟨rfl, .int .i64 (w64 ((w64 ((w64 ((w64 (x1 + 1)) - 1)) * 7)) + 3)), u, (run_add (z := w64 ((w64 ((w64 ((w64 (x1 + 1)) - 1)) * 7)) + 3)) (ev_sl e67) (ev_const _ _) rfl rfl), rfl, S⟩
        · intro a u X' hB hu hp hr hz hl S
          replace S : St w0 u ([] ++ X') := S
          exact .inl ⟨rfl, .pointer (some ⟨g0, 0, none⟩), u, (run_move rfl (hF.evB hB rfl rfl)), rfl, S⟩
        · intro a u X' hB hu hp hr hz hl S
          replace S : St w0 u ([] ++ X') := S
          have e69 : sl a 69 = .pointer (some ⟨g0, 0, none⟩) := hp 22 rfl
          exact .inl ⟨rfl, .pointer (some ⟨g0, 0, none⟩), u, (run_nilCheck rfl (ev_sl e69)), rfl, S⟩
        · intro a u X' hB hu hp hr hz hl S
          replace S : St w0 u ([] ++ X') := S
          have e70 : sl a 70 = .pointer (some ⟨g0, 0, none⟩) := hp 23 rfl
          exact .inl ⟨rfl, .pointer (some ⟨g0, 0, none⟩), u, (run_fieldAddr rfl fl78_0 (ev_sl e70) rfl), rfl, S⟩
        · intro a u X' hB hu hp hr hz hl S
          replace S : St w0 u ([] ++ X') := S
          have e71 : sl a 71 = .pointer (some ⟨g0, 0, none⟩) := hp 24 rfl
          exact .inl ⟨rfl, .slice A0 x0.length c0, u, (run_load1 rfl one22 (ev_sl e71) ((gr_box S hl 0 rfl).cell rfl)), rfl, S⟩
        · intro a u X' hB hu hp hr hz hl S
          replace S : St w0 u ([] ++ X') := S
          have e72 : sl a 72 = .slice A0 x0.length c0 := hp 25 rfl
          exact .inl ⟨rfl, .int .i64 (x0.length : Int), u, (run_lenL rfl rfl Tryd.underlying22 (ev_sl e72)), rfl, S⟩
        · intro a u X' hB hu hp hr hz hl S
          replace S : St w0 u ([] ++ X') := S
          have e68 : sl a 68 = .int .i64 (w64 ((w64 ((w64 ((w64 (x1 + 1)) - 1)) * 7)) + 3)) := hp 21 rfl
          have e73 : sl a 73 = .int .i64 (x0.length : Int) := hp 26 rfl
          exact .inl ⟨rfl, .int .i64 (Int.tmod (w64 ((w64 ((w64 ((w64 (x1 + 1)) - 1)) * 7)) + 3)) (x0.length : Int)), u, (run_rem (z := Int.tmod (w64 ((w64 ((w64 ((w64 (x1 + 1)) - 1)) * 7)) + 3)) (x0.length : Int)) (ev_sl e68) (ev_sl e73) rfl hk105 rfl), rfl, S⟩
        · intro a u X' hB hu hp hr hz hl S
          replace S : St w0 u ([] ++ X') := S
          have e65 : sl a 65 = .slice A0 x0.length c0 := hp 18 rfl
          have e74 : sl a 74 = .int .i64 (Int.tmod (w64 ((w64 ((w64 ((w64 (x1 + 1)) - 1)) * 7)) + 3)) (x0.length : Int)) := hp 27 rfl
          exact .inl ⟨rfl, .pointer (some ⟨adB A0, adO A0 + ((Int.tmod (w64 ((w64 ((w64 ((w64 (x1 + 1)) - 1)) * 7)) + 3)) (x0.length : Int)).toNat) * 1, none⟩), u, (run_indexAddr (b := adB A0) (off := adO A0) rfl Tryd.underlying22 sz5 ((ev_sl e65).trans (congrArg (fun A => Value.slice A x0.length c0) ((S.rc0 h0.rc).rd.ad (ix_pos hk106)))) (ev_sl e74) hk106.1 hk106.2 (k' := adO A0 + ((Int.tmod (w64 ((w64 ((w64 ((w64 (x1 + 1)) - 1)) * 7)) + 3)) (x0.length : Int)).toNat) * 1) rfl), rfl, S⟩
        · intro a u X' hB hu hp hr hz hl S
          replace S : St w0 u ([] ++ X') := S
          have e75 : sl a 75 = .pointer (some ⟨adB A0, adO A0 + ((Int.tmod (w64 ((w64 ((w64 ((w64 (x1 + 1)) - 1)) * 7)) + 3)) (x0.length : Int)).toNat) * 1, none⟩) := hp 28 rfl
          exact .inl ⟨rfl, .int .u8 (x0.getD ((Int.tmod (w64 ((w64 ((w64 ((w64 (x1 + 1)) - 1)) * 7)) + 3)) (x0.length : Int)).toNat) (0 : Int)), u, (run_load1 rfl one5 (ev_sl e75) (rd_el0 (l := x0) (S.rc0 h0.rc).rd rfl eU_len (0 : Int) (ix_ltn hk106 rfl) rfl)), rfl, S⟩
        · intro a u X' hB hu hp hr hz hl S
          replace S : St w0 u ([] ++ X') := S
          have e76 : sl a 76 = .int .u8 (x0.getD ((Int.tmod (w64 ((w64 ((w64 ((w64 (x1 + 1)) - 1)) * 7)) + 3)) (x0.length : Int)).toNat) (0 : Int)) := hp 29 rfl
          exact .inl ⟨rfl, .int .i64 (w64 ((x0.getD ((Int.tmod (w64 ((w64 ((w64 ((w64 (x1 + 1)) - 1)) * 7)) + 3)) (x0.length : Int)).toNat) (0 : Int)))), u, (run_convI rfl Tryd.underlying5 Tryd.underlying3 (ev_sl e76)), rfl, S⟩
        · intro a u X' hB hu hp hr hz hl S
          replace S : St w0 u ([] ++ X') := S
          have e77 : sl a 77 = .int .i64 (w64 ((x0.getD ((Int.tmod (w64 ((w64 ((w64 ((w64 (x1 + 1)) - 1)) * 7)) + 3)) (x0.length : Int)).toNat) (0 : Int)))) := hp 30 rfl
          exact .inl ⟨rfl, .int .i64 (w64 ((w64 ((x0.getD ((Int.tmod (w64 ((w64 ((w64 ((w64 (x1 + 1)) - 1)) * 7)) + 3)) (x0.length : Int)).toNat) (0 : Int)))) * 1117)), u, (run_mul (z := w64 ((w64 ((x0.getD ((Int.tmod (w64 ((w64 ((w64 ((w64 (x1 + 1)) - 1)) * 7)) + 3)) (x0.length : Int)).toNat) (0 : Int)))) * 1117)) (ev_sl e77) (ev_const _ _) rfl rfl), rfl, S⟩
        · intro a u X' hB hu hp hr hz hl S
          replace S : St w0 u ([] ++ X') := S
          have e61 : sl a 61 = .int .i64 (w64 ((w64 ((x0.getD ((Int.tmod (w64 ((w64 (x1 + 1)) - 1)) (x0.length : Int)).toNat) (0 : Int)))) * 131)) := hp 14 rfl
          have e78 : sl a 78 = .int .i64 (w64 ((w64 ((x0.getD ((Int.tmod (w64 ((w64 ((w64 ((w64 (x1 + 1)) - 1)) * 7)) + 3)) (x0.length : Int)).toNat) (0 : Int)))) * 1117)) := hp 31 rfl
          exact .inl ⟨rfl, .int .i64 (w64 ((w64 ((w64 ((x0.getD ((Int.tmod (w64 ((w64 (x1 + 1)) - 1)) (x0.length : Int)).toNat) (0 : Int)))) * 131)) + (w64 ((w64 ((x0.getD ((Int.tmod (w64 ((w64 ((w64 ((w64 (x1 + 1)) - 1)) * 7)) + 3)) (x0.length : Int)).toNat) (0 : Int)))) * 1117)))), u, (run_add (z := w64 ((w64 ((w64 ((x0.getD ((Int.tmod (w64 ((w64 (x1 + 1)) - 1)) (x0.length : Int)).toNat) (0 : Int)))) * 131)) + (w64 ((w64 ((x0.getD ((Int.tmod (w64 ((w64 ((w64 ((w64 (x1 + 1)) - 1)) * 7)) + 3)) (x0.length : Int)).toNat) (0 : Int)))) * 1117)))) (ev_sl e61) (ev_sl e78) rfl rfl), rfl, S⟩
        · intro a u X' hB hu hp hr hz hl S
          replace S : St w0 u ([] ++ X') := S
          exact .inl ⟨rfl, .int .i64 (w64 ((w64 (x1 + 1)) - 1)), u, (run_move rfl (hF.evB hB rfl rfl)), rfl, S⟩
        · intro a u X' hB hu hp hr hz hl S
          replace S : St w0 u ([] ++ X') := S
          have e80 : sl a 80 = .int .i64 (w64 ((w64 (x1 + 1)) - 1)) := hp 33 rfl
          exact .inl ⟨rfl, .int .i64 (w64 ((w64 ((w64 (x1 + 1)) - 1)) * 29)), u, (run_mul (z := w64 ((w64 ((w64 (x1 + 1)) - 1)) * 29)) (ev_sl e80) (ev_const _ _) rfl rfl), rfl, S⟩
        · intro a u X' hB hu hp hr hz hl S
          replace S : St w0 u ([] ++ X') := S
          have e79 : sl a 79 = .int .i64 (w64 ((w64 ((w64 ((x0.getD ((Int.tmod (w64 ((w64 (x1 + 1)) - 1)) (x0.length : Int)).toNat) (0 : Int)))) * 131)) + (w64 ((w64 ((x0.getD ((Int.tmod (w64 ((w64 ((w64 ((w64 (x1 + 1)) - 1)) * 7)) + 3)) (x0.length : Int)).toNat) (0 : Int)))) * 1117)))) := hp 32 rfl
          have e81 : sl a 81 = .int .i64 (w64 ((w64 ((w64 (x1 + 1)) - 1)) * 29)) := hp 34 rfl
          exact .inl ⟨rfl, .int .i64 (w64 ((w64 ((w64 ((w64 ((x0.getD ((Int.tmod (w64 ((w64 (x1 + 1)) - 1)) (x0.length : Int)).toNat) (0 : Int)))) * 131)) + (w64 ((w64 ((x0.getD ((Int.tmod (w64 ((w64 ((w64 ((w64 (x1 + 1)) - 1)) * 7)) + 3)) (x0.length : Int)).toNat) (0 : Int)))) * 1117)))) + (w64 ((w64 ((w64 (x1 + 1)) - 1)) * 29)))), u, (run_add (z := w64 ((w64 ((w64 ((w64 ((x0.getD ((Int.tmod (w64 ((w64 (x1 + 1)) - 1)) (x0.length : Int)).toNat) (0 : Int)))) * 131)) + (w64 ((w64 ((x0.getD ((Int.tmod (w64 ((w64 ((w64 ((w64 (x1 + 1)) - 1)) * 7)) + 3)) (x0.length : Int)).toNat) (0 : Int)))) * 1117)))) + (w64 ((w64 ((w64 (x1 + 1)) - 1)) * 29)))) (ev_sl e79) (ev_sl e81) rfl rfl), rfl, S⟩
        · intro a u X' hB hu hp hr hz hl S
          replace S : St w0 u ([] ++ X') := S
          exact .inl ⟨rfl, .int .i64 (w64 ((w64 (x1 + 1)) - 1)), u, (run_move rfl (hF.evB hB rfl rfl)), rfl, S⟩
        · intro a u X' hB hu hp hr hz hl S
          replace S : St w0 u ([] ++ X') := S
          exact .inl ⟨rfl, .pointer (some ⟨g0, 0, none⟩), u, (run_move rfl (hF.evB hB rfl rfl)), rfl, S⟩
        · intro a u X' hB hu hp hr hz hl S
          replace S : St w0 u ([] ++ X') := S
          have e84 : sl a 84 = .pointer (some ⟨g0, 0, none⟩) := hp 37 rfl
          exact .inl ⟨rfl, .pointer (some ⟨g0, 0, none⟩), u, (run_nilCheck rfl (ev_sl e84)), rfl, S⟩
        · intro a u X' hB hu hp hr hz hl S
          replace S : St w0 u ([] ++ X') := S
          have e85 : sl a 85 = .pointer (some ⟨g0, 0, none⟩) := hp 38 rfl
          exact .inl ⟨rfl, .pointer (some ⟨g0, 0, none⟩), u, (run_fieldAddr rfl fl78_0 (ev_sl e85) rfl), rfl, S⟩
        · intro a u X' hB hu hp hr hz hl S
          replace S : St w0 u ([] ++ X') := S
          have e86 : sl a 86 = .pointer (some ⟨g0, 0, none⟩) := hp 39 rfl
          exact .inl ⟨rfl, .slice A0 x0.length c0, u, (run_load1 rfl one22 (ev_sl e86) ((gr_box S hl 0 rfl).cell rfl)), rfl, S⟩
        · intro a u X' hB hu hp hr hz hl S
          replace S : St w0 u ([] ++ X') := S
          have e87 : sl a 87 = .slice A0 x0.length c0 := hp 40 rfl
          exact .inl ⟨rfl, .int .i64 (x0.length : Int), u, (run_lenL rfl rfl Tryd.underlying22 (ev_sl e87)), rfl, S⟩
        · intro a u X' hB hu hp hr hz hl S
          replace S : St w0 u ([] ++ X') := S
          have e83 : sl a 83 = .int .i64 (w64 ((w64 (x1 + 1)) - 1)) := hp 36 rfl
          have e88 : sl a 88 = .int .i64 (x0.length : Int) := hp 41 rfl
          exact .inl ⟨rfl, .int .i64 (w64 (Int.tdiv (w64 ((w64 (x1 + 1)) - 1)) (x0.length : Int))), u, (run_quo (z := w64 (Int.tdiv (w64 ((w64 (x1 + 1)) - 1)) (x0.length : Int))) (ev_sl e83) (ev_sl e88) rfl hk107 rfl), rfl, S⟩
        · intro a u X' hB hu hp hr hz hl S
          replace S : St w0 u ([] ++ X') := S
          have e89 : sl a 89 = .int .i64 (w64 (Int.tdiv (w64 ((w64 (x1 + 1)) - 1)) (x0.length : Int))) := hp 42 rfl
          exact .inl ⟨rfl, .int .i64 (w64 ((w64 (Int.tdiv (w64 ((w64 (x1 + 1)) - 1)) (x0.length : Int))) * 53)), u, (run_mul (z := w64 ((w64 (Int.tdiv (w64 ((w64 (x1 + 1)) - 1)) (x0.length : Int))) * 53)) (ev_sl e89) (ev_const _ _) rfl rfl), rfl, S⟩
        · intro a u X' hB hu hp hr hz hl S
          replace S : St w0 u ([] ++ X') := S
          have e82 : sl a 82 = .int .i64 (w64 ((w64 ((w64 ((w64 ((x0.getD ((Int.tmod (w64 ((w64 (x1 + 1)) - 1)) (x0.length : Int)).toNat) (0 : Int)))) * 131)) + (w64 ((w64 ((x0.getD ((Int.tmod (w64 ((w64 ((w64 ((w64 (x1 + 1)) - 1)) * 7)) + 3)) (x0.length : Int)).toNat) (0 : Int)))) * 1117)))) + (w64 ((w64 ((w64 (x1 + 1)) - 1)) * 29)))) := hp 35 rfl
          have e90 : sl a 90 = .int .i64 (w64 ((w64 (Int.tdiv (w64 ((w64 (x1 + 1)) - 1)) (x0.length : Int))) * 53)) := hp 43 rfl
          exact .inl ⟨rfl, .int .i64 (w64 ((w64 ((w64 ((w64 ((w64 ((x0.getD ((Int.tmod (w64 ((w64 (x1 + 1)) - 1)) (x0.length : Int)).toNat) (0 : Int)))) * 131)) + (w64 ((w64 ((x0.getD ((Int.tmod (w64 ((w64 ((w64 ((w64 (x1 + 1)) - 1)) * 7)) + 3)) (x0.length : Int)).toNat) (0 : Int)))) * 1117)))) + (w64 ((w64 ((w64 (x1 + 1)) - 1)) * 29)))) + (w64 ((w64 (Int.tdiv (w64 ((w64 (x1 + 1)) - 1)) (x0.length : Int))) * 53)))), u, (run_add (z := w64 ((w64 ((w64 ((w64 ((w64 ((x0.getD ((Int.tmod (w64 ((w64 (x1 + 1)) - 1)) (x0.length : Int)).toNat) (0 : Int)))) * 131)) + (w64 ((w64 ((x0.getD ((Int.tmod (w64 ((w64 ((w64 ((w64 (x1 + 1)) - 1)) * 7)) + 3)) (x0.length : Int)).toNat) (0 : Int)))) * 1117)))) + (w64 ((w64 ((w64 (x1 + 1)) - 1)) * 29)))) + (w64 ((w64 (Int.tdiv (w64 ((w64 (x1 + 1)) - 1)) (x0.length : Int))) * 53)))) (ev_sl e82) (ev_sl e90) rfl rfl), rfl, S⟩
        · intro a u X' hB hu hp hr hz hl S
          replace S : St w0 u ([] ++ X') := S
          have e91 : sl a 91 = .int .i64 (w64 ((w64 ((w64 ((w64 ((w64 ((x0.getD ((Int.tmod (w64 ((w64 (x1 + 1)) - 1)) (x0.length : Int)).toNat) (0 : Int)))) * 131)) + (w64 ((w64 ((x0.getD ((Int.tmod (w64 ((w64 ((w64 ((w64 (x1 + 1)) - 1)) * 7)) + 3)) (x0.length : Int)).toNat) (0 : Int)))) * 1117)))) + (w64 ((w64 ((w64 (x1 + 1)) - 1)) * 29)))) + (w64 ((w64 (Int.tdiv (w64 ((w64 (x1 + 1)) - 1)) (x0.length : Int))) * 53)))) := hp 44 rfl
          exact .inl ⟨rfl, .int .i64 (w64 ((w64 ((w64 ((w64 ((w64 ((x0.getD ((Int.tmod (w64 ((w64 (x1 + 1)) - 1)) (x0.length : Int)).toNat) (0 : Int)))) * 131)) + (w64 ((w64 ((x0.getD ((Int.tmod (w64 ((w64 ((w64 ((w64 (x1 + 1)) - 1)) * 7)) + 3)) (x0.length : Int)).toNat) (0 : Int)))) * 1117)))) + (w64 ((w64 ((w64 (x1 + 1)) - 1)) * 29)))) + (w64 ((w64 (Int.tdiv (w64 ((w64 (x1 + 1)) - 1)) (x0.length : Int))) * 53)))), u, (run_assign rfl (ev_sl e91)), rfl, S⟩
      · intro a u hB hp S
        obtain ⟨q0, q1, q2, q3, q4, q5, q6, q7, q8, q9, q10, q11, q12, q13, q14, q15, q16, q17, q18, q19, q20, q21, q22, q23, q24, q25, q26, q27, q28, q29, q30, q31, q32, q33, q34, q35, q36, q37, q38, q39, q40, q41, q42, q43, q44, q45, _⟩ := hp
        have e47 : sl a 47 = .pointer (some ⟨g0, 0, none⟩) := q0
        have e48 : sl a 48 = .pointer (some ⟨g0, 0, none⟩) := q1
        have e49 : sl a 49 = .pointer (some ⟨g0, 0, none⟩) := q2
        have e50 : sl a 50 = .slice A0 x0.length c0 := q3
        have e51 : sl a 51 = .int .i64 (w64 ((w64 (x1 + 1)) - 1)) := q4
        have e52 : sl a 52 = .pointer (some ⟨g0, 0, none⟩) := q5
        have e53 : sl a 53 = .pointer (some ⟨g0, 0, none⟩) := q6
        have e54 : sl a 54 = .pointer (some ⟨g0, 0, none⟩) := q7
        have e55 : sl a 55 = .slice A0 x0.length c0 := q8
        have e56 : sl a 56 = .int .i64 (x0.length : Int) := q9
        have e57 : sl a 57 = .int .i64 (Int.tmod (w64 ((w64 (x1 + 1)) - 1)) (x0.length : Int)) := q10
        have e58 : sl a 58 = .pointer (some ⟨adB A0, adO A0 + ((Int.tmod (w64 ((w64 (x1 + 1)) - 1)) (x0.length : Int)).toNat) * 1, none⟩) := q11
        have e59 : sl a 59 = .int .u8 (x0.getD ((Int.tmod (w64 ((w64 (x1 + 1)) - 1)) (x0.length : Int)).toNat) (0 : Int)) := q12
        have e60 : sl a 60 = .int .i64 (w64 ((x0.getD ((Int.tmod (w64 ((w64 (x1 + 1)) - 1)) (x0.length : Int)).toNat) (0 : Int)))) := q13
        have e61 : sl a 61 = .int .i64 (w64 ((w64 ((x0.getD ((Int.tmod (w64 ((w64 (x1 + 1)) - 1)) (x0.length : Int)).toNat) (0 : Int)))) * 131)) := q14
        have e62 : sl a 62 = .pointer (some ⟨g0, 0, none⟩) := q15
        have e63 : sl a 63 = .pointer (some ⟨g0, 0, none⟩) := q16
        have e64 : sl a 64 = .pointer (some ⟨g0, 0, none⟩) := q17
        have e65 : sl a 65 = .slice A0 x0.length c0 := q18
        have e66 : sl a 66 = .int .i64 (w64 ((w64 (x1 + 1)) - 1)) := q19
        have e67 : sl a 67 = .int .i64 (w64 ((w64 ((w64 (x1 + 1)) - 1)) * 7)) := q20
        have e68 : sl a 68 = .int .i64 (w64 ((w64 ((w64 ((w64 (x1 + 1)) - 1)) * 7)) + 3)) := q21
        have e69 : sl a 69 = .pointer (some ⟨g0, 0, none⟩) := q22
        have e70 : sl a 70 = .pointer (some ⟨g0, 0, none⟩) := q23
        have e71 : sl a 71 = .pointer (some ⟨g0, 0, none⟩) := q24
        have e72 : sl a 72 = .slice A0 x0.length c0 := q25
        have e73 : sl a 73 = .int .i64 (x0.length : Int) := q26
        have e74 : sl a 74 = .int .i64 (Int.tmod (w64 ((w64 ((w64 ((w64 (x1 + 1)) - 1)) * 7)) + 3)) (x0.length : Int)) := q27
        have e75 : sl a 75 = .pointer (some ⟨adB A0, adO A0 + ((Int.tmod (w64 ((w64 ((w64 ((w64 (x1 + 1)) - 1)) * 7)) + 3)) (x0.length : Int)).toNat) * 1, none⟩) := q28
        have e76 : sl a 76 = .int .u8 (x0.getD ((Int.tmod (w64 ((w64 ((w64 ((w64 (x1 + 1)) - 1)) * 7)) + 3)) (x0.length : Int)).toNat) (0 : Int)) := q29
        have e77 : sl a 77 = .int .i64 (w64 ((x0.getD ((Int.tmod (w64 ((w64 ((w64 ((w64 (x1 + 1)) - 1)) * 7)) + 3)) (x0.length : Int)).toNat) (0 : Int)))) := q30
        have e78 : sl a 78 = .int .i64 (w64 ((w64 ((x0.getD ((Int.tmod (w64 ((w64 ((w64 ((w64 (x1 + 1)) - 1)) * 7)) + 3)) (x0.length : Int)).toNat) (0 : Int)))) * 1117)) := q31
        have e79 : sl a 79 = .int .i64 (w64 ((w64 ((w64 ((x0.getD ((Int.tmod (w64 ((w64 (x1 + 1)) - 1)) (x0.length : Int)).toNat) (0 : Int)))) * 131)) + (w64 ((w64 ((x0.getD ((Int.tmod (w64 ((w64 ((w64 ((w64 (x1 + 1)) - 1)) * 7)) + 3)) (x0.length : Int)).toNat) (0 : Int)))) * 1117)))) := q32
        have e80 : sl a 80 = .int .i64 (w64 ((w64 (x1 + 1)) - 1)) := q33
        have e81 : sl a 81 = .int .i64 (w64 ((w64 ((w64 (x1 + 1)) - 1)) * 29)) := q34
        have e82 : sl a 82 = .int .i64 (w64 ((w64 ((w64 ((w64 ((x0.getD ((Int.tmod (w64 ((w64 (x1 + 1)) - 1)) (x0.length : Int)).toNat) (0 : Int)))) * 131)) + (w64 ((w64 ((x0.getD ((Int.tmod (w64 ((w64 ((w64 ((w64 (x1 + 1)) - 1)) * 7)) + 3)) (x0.length : Int)).toNat) (0 : Int)))) * 1117)))) + (w64 ((w64 ((w64 (x1 + 1)) - 1)) * 29)))) := q35
        have e83 : sl a 83 = .int .i64 (w64 ((w64 (x1 + 1)) - 1)) := q36
        have e84 : sl a 84 = .pointer (some ⟨g0, 0, none⟩) := q37
        have e85 : sl a 85 = .pointer (some ⟨g0, 0, none⟩) := q38
        have e86 : sl a 86 = .pointer (some ⟨g0, 0, none⟩) := q39
        have e87 : sl a 87 = .slice A0 x0.length c0 := q40
        have e88 : sl a 88 = .int .i64 (x0.length : Int) := q41
        have e89 : sl a 89 = .int .i64 (w64 (Int.tdiv (w64 ((w64 (x1 + 1)) - 1)) (x0.length : Int))) := q42
        have e90 : sl a 90 = .int .i64 (w64 ((w64 (Int.tdiv (w64 ((w64 (x1 + 1)) - 1)) (x0.length : Int))) * 53)) := q43
        have e91 : sl a 91 = .int .i64 (w64 ((w64 ((w64 ((w64 ((w64 ((x0.getD ((Int.tmod (w64 ((w64 (x1 + 1)) - 1)) (x0.length : Int)).toNat) (0 : Int)))) * 131)) + (w64 ((w64 ((x0.getD ((Int.tmod (w64 ((w64 ((w64 ((w64 (x1 + 1)) - 1)) * 7)) + 3)) (x0.length : Int)).toNat) (0 : Int)))) * 1117)))) + (w64 ((w64 ((w64 (x1 + 1)) - 1)) * 29)))) + (w64 ((w64 (Int.tdiv (w64 ((w64 (x1 + 1)) - 1)) (x0.length : Int))) * 53)))) := q44
        have e6 : sl a 6 = .int .i64 (w64 ((w64 ((w64 ((w64 ((w64 ((x0.getD ((Int.tmod (w64 ((w64 (x1 + 1)) - 1)) (x0.length : Int)).toNat) (0 : Int)))) * 131)) + (w64 ((w64 ((x0.getD ((Int.tmod (w64 ((w64 ((w64 ((w64 (x1 + 1)) - 1)) * 7)) + 3)) (x0.length : Int)).toNat) (0 : Int)))) * 1117)))) + (w64 ((w64 ((w64 (x1 + 1)) - 1)) * 29)))) + (w64 ((w64 (Int.tdiv (w64 ((w64 (x1 + 1)) - 1)) (x0.length : Int))) * 53)))) := q45
        replace S : St w0 u (Asn.box g0 78 #[.slice A0 x0.length c0, .int .i64 (w64 (x1 + 1))] :: X) := S
        clear q0 q1 q2 q3 q4 q5 q6 q7 q8 q9 q10 q11 q12 q13 q14 q15 q16 q17 q18 q19 q20 q21 q22 q23 q24 q25 q26 q27 q28 q29 q30 q31 q32 q33 q34 q35 q36 q37 q38 q39 q40 q41 q42 q43 q44 q45
        have hF := hF.region hB [(47, .pointer (some ⟨g0, 0, none⟩)), (48, .pointer (some ⟨g0, 0, none⟩)), (49, .pointer (some ⟨g0, 0, none⟩)), (50, .slice A0 x0.length c0), (51, .int .i64 (w64 ((w64 (x1 + 1)) - 1))), (52, .pointer (some ⟨g0, 0, none⟩)), (53, .pointer (some ⟨g0, 0, none⟩)), (54, .pointer (some ⟨g0, 0, none⟩)), (55, .slice A0 x0.length c0), (56, .int .i64 (x0.length : Int)), (57, .int .i64 (Int.tmod (w64 ((w64 (x1 + 1)) - 1)) (x0.length : Int))), (58, .pointer (some ⟨adB A0, adO A0 + ((Int.tmod (w64 ((w64 (x1 + 1)) - 1)) (x0.length : Int)).toNat) * 1, none⟩)), (59, .int .u8 (x0.getD ((Int.tmod (w64 ((w64 (x1 + 1)) - 1)) (x0.length : Int)).toNat) (0 : Int))), (60, .int .i64 (w64 ((x0.getD ((Int.tmod (w64 ((w64 (x1 + 1)) - 1)) (x0.length : Int)).toNat) (0 : Int))))), (61, .int .i64 (w64 ((w64 ((x0.getD ((Int.tmod (w64 ((w64 (x1 + 1)) - 1)) (x0.length : Int)).toNat) (0 : Int)))) * 131))), (62, .pointer (some ⟨g0, 0, none⟩)), (63, .pointer (some ⟨g0, 0, none⟩)), (64, .pointer (some ⟨g0, 0, none⟩)), (65, .slice A0 x0.length c0), (66, .int .i64 (w64 ((w64 (x1 + 1)) - 1))), (67, .int .i64 (w64 ((w64 ((w64 (x1 + 1)) - 1)) * 7))), (68, .int .i64 (w64 ((w64 ((w64 ((w64 (x1 + 1)) - 1)) * 7)) + 3))), (69, .pointer (some ⟨g0, 0, none⟩)), (70, .pointer (some ⟨g0, 0, none⟩)), (71, .pointer (some ⟨g0, 0, none⟩)), (72, .slice A0 x0.length c0), (73, .int .i64 (x0.length : Int)), (74, .int .i64 (Int.tmod (w64 ((w64 ((w64 ((w64 (x1 + 1)) - 1)) * 7)) + 3)) (x0.length : Int))), (75, .pointer (some ⟨adB A0, adO A0 + ((Int.tmod (w64 ((w64 ((w64 ((w64 (x1 + 1)) - 1)) * 7)) + 3)) (x0.length : Int)).toNat) * 1, none⟩)), (76, .int .u8 (x0.getD ((Int.tmod (w64 ((w64 ((w64 ((w64 (x1 + 1)) - 1)) * 7)) + 3)) (x0.length : Int)).toNat) (0 : Int))), (77, .int .i64 (w64 ((x0.getD ((Int.tmod (w64 ((w64 ((w64 ((w64 (x1 + 1)) - 1)) * 7)) + 3)) (x0.length : Int)).toNat) (0 : Int))))), (78, .int .i64 (w64 ((w64 ((x0.getD ((Int.tmod (w64 ((w64 ((w64 ((w64 (x1 + 1)) - 1)) * 7)) + 3)) (x0.length : Int)).toNat) (0 : Int)))) * 1117))), (79, .int .i64 (w64 ((w64 ((w64 ((x0.getD ((Int.tmod (w64 ((w64 (x1 + 1)) - 1)) (x0.length : Int)).toNat) (0 : Int)))) * 131)) + (w64 ((w64 ((x0.getD ((Int.tmod (w64 ((w64 ((w64 ((w64 (x1 + 1)) - 1)) * 7)) + 3)) (x0.length : Int)).toNat) (0 : Int)))) * 1117))))), (80, .int .i64 (w64 ((w64 (x1 + 1)) - 1))), (81, .int .i64 (w64 ((w64 ((w64 (x1 + 1)) - 1)) * 29))), (82, .int .i64 (w64 ((w64 ((w64 ((w64 ((x0.getD ((Int.tmod (w64 ((w64 (x1 + 1)) - 1)) (x0.length : Int)).toNat) (0 : Int)))) * 131)) + (w64 ((w64 ((x0.getD ((Int.tmod (w64 ((w64 ((w64 ((w64 (x1 + 1)) - 1)) * 7)) + 3)) (x0.length : Int)).toNat) (0 : Int)))) * 1117)))) + (w64 ((w64 ((w64 (x1 + 1)) - 1)) * 29))))), (83, .int .i64 (w64 ((w64 (x1 + 1)) - 1))), (84, .pointer (some ⟨g0, 0, none⟩)), (85, .pointer (some ⟨g0, 0, none⟩)), (86, .pointer (some ⟨g0, 0, none⟩)), (87, .slice A0 x0.length c0), (88, .int .i64 (x0.length : Int)), (89, .int .i64 (w64 (Int.tdiv (w64 ((w64 (x1 + 1)) - 1)) (x0.length : Int)))), (90, .int .i64 (w64 ((w64 (Int.tdiv (w64 ((w64 (x1 + 1)) - 1)) (x0.length : Int))) * 53))), (91, .int .i64 (w64 ((w64 ((w64 ((w64 ((w64 ((x0.getD ((Int.tmod (w64 ((w64 (x1 + 1)) - 1)) (x0.length : Int)).toNat) (0 : Int)))) * 131)) + (w64 ((w64 ((x0.getD ((Int.tmod (w64 ((w64 ((w64 ((w64 (x1 + 1)) - 1)) * 7)) + 3)) (x0.length : Int)).toNat) (0 : Int)))) * 1117)))) + (w64 ((w64 ((w64 (x1 + 1)) - 1)) * 29)))) + (w64 ((w64 (Int.tdiv (w64 ((w64 (x1 + 1)) - 1)) (x0.length : Int))) * 53))))), (6, .int .i64 (w64 ((w64 ((w64 ((w64 ((w64 ((x0.getD ((Int.tmod (w64 ((w64 (x1 + 1)) - 1)) (x0.length : Int)).toNat) (0 : Int)))) * 131)) + (w64 ((w64 ((x0.getD ((Int.tmod (w64 ((w64 ((w64 ((w64 (x1 + 1)) - 1)) * 7)) + 3)) (x0.length : Int)).toNat) (0 : Int)))) * 1117)))) + (w64 ((w64 ((w64 (x1 + 1)) - 1)) * 29)))) + (w64 ((w64 (Int.tdiv (w64 ((w64 (x1 + 1)) - 1)) (x0.length : Int))) * 53)))))] (allSl_mem ⟨e47, e48, e49, e50, e51, e52, e53, e54, e55, e56, e57, e58, e59, e60, e61, e62, e63, e64, e65, e66, e67, e68, e69, e70, e71, e72, e73, e74, e75, e76, e77, e78, e79, e80, e81, e82, e83, e84, e85, e86, e87, e88, e89, e90, e91, e6, trivial⟩) rfl
        clear hB e47 e48 e49 e50 e51 e52 e53 e54 e55 e56 e57 e58 e59 e60 e61 e62 e63 e64 e65 e66 e67 e68 e69 e70 e71 e72 e73 e74 e75 e76 e77 e78 e79 e80 e81 e82 e83 e84 e85 e86 e87 e88 e89 e90 e91 e6
        refine wp_seq ?_
        refine wp_region_lit ?_
        refine op_val (v := .int .i64 (w64 ((w64 ((w64 ((w64 ((w64 ((x0.getD ((Int.tmod (w64 ((w64 (x1 + 1)) - 1)) (x0.length : Int)).toNat) (0 : Int)))) * 131)) + (w64 ((w64 ((x0.getD ((Int.tmod (w64 ((w64 ((w64 ((w64 (x1 + 1)) - 1)) * 7)) + 3)) (x0.length : Int)).toNat) (0 : Int)))) * 1117)))) + (w64 ((w64 ((w64 (x1 + 1)) - 1)) * 29)))) + (w64 ((w64 (Int.tdiv (w64 ((w64 (x1 + 1)) - 1)) (x0.length : Int))) * 53))))) rfl rfl hF rfl (run_move rfl (hF.ev rfl)) ?_; clear hF; intro a hF
        refine op_val (v := .int .i64 (w64 ((w64 ((w64 ((w64 ((w64 ((x0.getD ((Int.tmod (w64 ((w64 (x1 + 1)) - 1)) (x0.length : Int)).toNat) (0 : Int)))) * 131)) + (w64 ((w64 ((x0.getD ((Int.tmod (w64 ((w64 ((w64 ((w64 (x1 + 1)) - 1)) * 7)) + 3)) (x0.length : Int)).toNat) (0 : Int)))) * 1117)))) + (w64 ((w64 ((w64 (x1 + 1)) - 1)) * 29)))) + (w64 ((w64 (Int.tdiv (w64 ((w64 (x1 + 1)) - 1)) (x0.length : Int))) * 53))))) rfl rfl hF rfl (run_move rfl (hF.ev rfl)) ?_; clear hF; intro a hF
        refine op_val (v := .int .i64 (w64 (Int.tdiv (w64 ((w64 ((w64 ((w64 ((w64 ((x0.getD ((Int.tmod (w64 ((w64 (x1 + 1)) - 1)) (x0.length : Int)).toNat) (0 : Int)))) * 131)) + (w64 ((w64 ((x0.getD ((Int.tmod (w64 ((w64 ((w64 ((w64 (x1 + 1)) - 1)) * 7)) + 3)) (x0.length : Int)).toNat) (0 : Int)))) * 1117)))) + (w64 ((w64 ((w64 (x1 + 1)) - 1)) * 29)))) + (w64 ((w64 (Int.tdiv (w64 ((w64 (x1 + 1)) - 1)) (x0.length : Int))) * 53)))) 64))) rfl rfl hF rfl (run_quo (z := w64 (Int.tdiv (w64 ((w64 ((w64 ((w64 ((w64 ((x0.getD ((Int.tmod (w64 ((w64 (x1 + 1)) - 1)) (x0.length : Int)).toNat) (0 : Int)))) * 131)) + (w64 ((w64 ((x0.getD ((Int.tmod (w64 ((w64 ((w64 ((w64 (x1 + 1)) - 1)) * 7)) + 3)) (x0.length : Int)).toNat) (0 : Int)))) * 1117)))) + (w64 ((w64 ((w64 (x1 + 1)) - 1)) * 29)))) + (w64 ((w64 (Int.tdiv (w64 ((w64 (x1 + 1)) - 1)) (x0.length : Int))) * 53)))) 64)) (hF.ev rfl) rfl rfl (by decide) rfl) ?_; clear hF; intro a hF
        refine op_val (v := .int .i64 (bitsXor .i64 (w64 ((w64 ((w64 ((w64 ((w64 ((x0.getD ((Int.tmod (w64 ((w64 (x1 + 1)) - 1)) (x0.length : Int)).toNat) (0 : Int)))) * 131)) + (w64 ((w64 ((x0.getD ((Int.tmod (w64 ((w64 ((w64 ((w64 (x1 + 1)) - 1)) * 7)) + 3)) (x0.length : Int)).toNat) (0 : Int)))) * 1117)))) + (w64 ((w64 ((w64 (x1 + 1)) - 1)) * 29)))) + (w64 ((w64 (Int.tdiv (w64 ((w64 (x1 + 1)) - 1)) (x0.length : Int))) * 53)))) (w64 (Int.tdiv (w64 ((w64 ((w64 ((w64 ((w64 ((x0.getD ((Int.tmod (w64 ((w64 (x1 + 1)) - 1)) (x0.length : Int)).toNat) (0 : Int)))) * 131)) + (w64 ((w64 ((x0.getD ((Int.tmod (w64 ((w64 ((w64 ((w64 (x1 + 1)) - 1)) * 7)) + 3)) (x0.length : Int)).toNat) (0 : Int)))) * 1117)))) + (w64 ((w64 ((w64 (x1 + 1)) - 1)) * 29)))) + (w64 ((w64 (Int.tdiv (w64 ((w64 (x1 + 1)) - 1)) (x0.length : Int))) * 53)))) 64)))) rfl rfl hF rfl (run_bxor (hF.ev rfl) (hF.ev rfl) rfl) ?_; clear hF; intro a hF
        refine op_val (v := .int .i64 (bitsXor .i64 (w64 ((w64 ((w64 ((w64 ((w64 ((x0.getD ((Int.tmod (w64 ((w64 (x1 + 1)) - 1)) (x0.length : Int)).toNat) (0 : Int)))) * 131)) + (w64 ((w64 ((x0.getD ((Int.tmod (w64 ((w64 ((w64 ((w64 (x1 + 1)) - 1)) * 7)) + 3)) (x0.length : Int)).toNat) (0 : Int)))) * 1117)))) + (w64 ((w64 ((w64 (x1 + 1)) - 1)) * 29)))) + (w64 ((w64 (Int.tdiv (w64 ((w64 (x1 + 1)) - 1)) (x0.length : Int))) * 53)))) (w64 (Int.tdiv (w64 ((w64 ((w64 ((w64 ((w64 ((x0.getD ((Int.tmod (w64 ((w64 (x1 + 1)) - 1)) (x0.length : Int)).toNat) (0 : Int)))) * 131)) + (w64 ((w64 ((x0.getD ((Int.tmod (w64 ((w64 ((w64 ((w64 (x1 + 1)) - 1)) * 7)) + 3)) (x0.length : Int)).toNat) (0 : Int)))) * 1117)))) + (w64 ((w64 ((w64 (x1 + 1)) - 1)) * 29)))) + (w64 ((w64 (Int.tdiv (w64 ((w64 (x1 + 1)) - 1)) (x0.length : Int))) * 53)))) 64)))) rfl rfl hF rfl (run_assign rfl (hF.ev rfl)) ?_; clear hF; intro a hF
        refine wpList_nil ?_
        refine wp_seq ?_
        refine wp_region_lit ?_
        refine op_val (v := .int .i64 (bitsXor .i64 (w64 ((w64 ((w64 ((w64 ((w64 ((x0.getD ((Int.tmod (w64 ((w64 (x1 + 1)) - 1)) (x0.length : Int)).toNat) (0 : Int)))) * 131)) + (w64 ((w64 ((x0.getD ((Int.tmod (w64 ((w64 ((w64 ((w64 (x1 + 1)) - 1)) * 7)) + 3)) (x0.length : Int)).toNat) (0 : Int)))) * 1117)))) + (w64 ((w64 ((w64 (x1 + 1)) - 1)) * 29)))) + (w64 ((w64 (Int.tdiv (w64 ((w64 (x1 + 1)) - 1)) (x0.length : Int))) * 53)))) (w64 (Int.tdiv (w64 ((w64 ((w64 ((w64 ((w64 ((x0.getD ((Int.tmod (w64 ((w64 (x1 + 1)) - 1)) (x0.length : Int)).toNat) (0 : Int)))) * 131)) + (w64 ((w64 ((x0.getD ((Int.tmod (w64 ((w64 ((w64 ((w64 (x1 + 1)) - 1)) * 7)) + 3)) (x0.length : Int)).toNat) (0 : Int)))) * 1117)))) + (w64 ((w64 ((w64 (x1 + 1)) - 1)) * 29)))) + (w64 ((w64 (Int.tdiv (w64 ((w64 (x1 + 1)) - 1)) (x0.length : Int))) * 53)))) 64)))) rfl rfl hF rfl (run_move rfl (hF.ev rfl)) ?_; clear hF; intro a hF
        refine op_val (v := .int .i64 x2) rfl rfl hF rfl (run_move rfl (hF.ev rfl)) ?_; clear hF; intro a hF
        obtain ⟨hk108, hM⟩ := chk_ex hM
        replace hk108 := nzB_t hk108
        refine op_val (v := .int .i64 (Int.tmod (bitsXor .i64 (w64 ((w64 ((w64 ((w64 ((w64 ((x0.getD ((Int.tmod (w64 ((w64 (x1 + 1)) - 1)) (x0.length : Int)).toNat) (0 : Int)))) * 131)) + (w64 ((w64 ((x0.getD ((Int.tmod (w64 ((w64 ((w64 ((w64 (x1 + 1)) - 1)) * 7)) + 3)) (x0.length : Int)).toNat) (0 : Int)))) * 1117)))) + (w64 ((w64 ((w64 (x1 + 1)) - 1)) * 29)))) + (w64 ((w64 (Int.tdiv (w64 ((w64 (x1 + 1)) - 1)) (x0.length : Int))) * 53)))) (w64 (Int.tdiv (w64 ((w64 ((w64 ((w64 ((w64 ((x0.getD ((Int.tmod (w64 ((w64 (x1 + 1)) - 1)) (x0.length : Int)).toNat) (0 : Int)))) * 131)) + (w64 ((w64 ((x0.getD ((Int.tmod (w64 ((w64 ((w64 ((w64 (x1 + 1)) - 1)) * 7)) + 3)) (x0.length : Int)).toNat) (0 : Int)))) * 1117)))) + (w64 ((w64 ((w64 (x1 + 1)) - 1)) * 29)))) + (w64 ((w64 (Int.tdiv (w64 ((w64 (x1 + 1)) - 1)) (x0.length : Int))) * 53)))) 64))) x2)) rfl rfl hF rfl (run_rem (z := Int.tmod (bitsXor .i64 (w64 ((w64 ((w64 ((w64 ((w64 ((x0.getD ((Int.tmod (w64 ((w64 (x1 + 1)) - 1)) (x0.length : Int)).toNat) (0 : Int)))) * 131)) + (w64 ((w64 ((x0.getD ((Int.tmod (w64 ((w64 ((w64 ((w64 (x1 + 1)) - 1)) * 7)) + 3)) (x0.length : Int)).toNat) (0 : Int)))) * 1117)))) + (w64 ((w64 ((w64 (x1 + 1)) - 1)) * 29)))) + (w64 ((w64 (Int.tdiv (w64 ((w64 (x1 + 1)) - 1)) (x0.length : Int))) * 53)))) (w64 (Int.tdiv (w64 ((w64 ((w64 ((w64 ((w64 ((x0.getD ((Int.tmod (w64 ((w64 (x1 + 1)) - 1)) (x0.length : Int)).toNat) (0 : Int)))) * 131)) + (w64 ((w64 ((x0.getD ((Int.tmod (w64 ((w64 ((w64 ((w64 (x1 + 1)) - 1)) * 7)) + 3)) (x0.length : Int)).toNat) (0 : Int)))) * 1117)))) + (w64 ((w64 ((w64 (x1 + 1)) - 1)) * 29)))) + (w64 ((w64 (Int.tdiv (w64 ((w64 (x1 + 1)) - 1)) (x0.length : Int))) * 53)))) 64))) x2) (hF.ev rfl) (hF.ev rfl) rfl hk108 rfl) ?_; clear hF; intro a hF
        refine op_val (v := .int .i64 (Int.tmod (bitsXor .i64 (w64 ((w64 ((w64 ((w64 ((w64 ((x0.getD ((Int.tmod (w64 ((w64 (x1 + 1)) - 1)) (x0.length : Int)).toNat) (0 : Int)))) * 131)) + (w64 ((w64 ((x0.getD ((Int.tmod (w64 ((w64 ((w64 ((w64 (x1 + 1)) - 1)) * 7)) + 3)) (x0.length : Int)).toNat) (0 : Int)))) * 1117)))) + (w64 ((w64 ((w64 (x1 + 1)) - 1)) * 29)))) + (w64 ((w64 (Int.tdiv (w64 ((w64 (x1 + 1)) - 1)) (x0.length : Int))) * 53)))) (w64 (Int.tdiv (w64 ((w64 ((w64 ((w64 ((w64 ((x0.getD ((Int.tmod (w64 ((w64 (x1 + 1)) - 1)) (x0.length : Int)).toNat) (0 : Int)))) * 131)) + (w64 ((w64 ((x0.getD ((Int.tmod (w64 ((w64 ((w64 ((w64 (x1 + 1)) - 1)) * 7)) + 3)) (x0.length : Int)).toNat) (0 : Int)))) * 1117)))) + (w64 ((w64 ((w64 (x1 + 1)) - 1)) * 29)))) + (w64 ((w64 (Int.tdiv (w64 ((w64 (x1 + 1)) - 1)) (x0.length : Int))) * 53)))) 64))) x2)) rfl rfl hF rfl (run_assign rfl (hF.ev rfl)) ?_; clear hF; intro a hF
        refine wpList_nil ?_
        refine wp_ret ?_
        repeat with_reducible (first | refine then_ret ?_ | refine in_ret ?_ | refine in_nrm ?_)
        refine ret1_gw (.inl rfl) hF rfl (res_tmp (hF.ev rfl)) ?_
        obtain rfl := Option.some.inj hM
        exact ⟨rfl, S.selT (M := [.box g0 78 #[.slice A0 x0.length c0, .int .i64 (w64 (x1 + 1))]]) 1 [0] rfl rfl rfl⟩
    · replace hM := bif_t hc102 hM
      refine cond_t hF rfl hc102 ?_
      refine wp_seq ?_
      refine wp_region_lit ?_
      refine op_val (v := .pointer (some ⟨g0, 0, none⟩)) rfl rfl hF rfl (run_move rfl (hF.ev rfl)) ?_; clear hF; intro a hF
      refine op_val (v := .pointer (some ⟨g0, 0, none⟩)) rfl rfl hF rfl (run_nilCheck rfl (hF.ev rfl)) ?_; clear hF; intro a hF
      refine op_val (v := .pointer (some ⟨g0, 0, none⟩)) rfl rfl hF rfl (run_fieldAddr rfl fl78_0 (hF.ev rfl) rfl) ?_; clear hF; intro a hF
      refine op_val (v := .slice A0 x0.length c0) rfl rfl hF rfl (run_load1 rfl one22 (hF.ev rfl) ((S.free 0 rfl).cell rfl)) ?_; clear hF; intro a hF
      refine op_val (v := .int .i64 (w64 ((w64 (x1 + 1)) - 1))) rfl rfl hF rfl (run_move rfl (hF.ev rfl)) ?_; clear hF; intro a hF
      obtain ⟨hk109, hM⟩ := chk_ex hM
      replace hk109 := ixB_t hk109
      refine op_val (v := .pointer (some ⟨adB A0, adO A0 + ((w64 ((w64 (x1 + 1)) - 1)).toNat) * 1, none⟩)) rfl rfl hF rfl (run_indexAddr (b := adB A0) (off := adO A0) rfl Tryd.underlying22 sz5 ((hF.ev rfl).trans (congrArg (fun A => Value.slice A x0.length c0) ((S.rc0 h0.rc).rd.ad (ix_pos hk109)))) (hF.ev rfl) hk109.1 hk109.2 (k' := adO A0 + ((w64 ((w64 (x1 + 1)) - 1)).toNat) * 1) rfl) ?_; clear hF; intro a hF
      refine op_val (v := .int .u8 (x0.getD ((w64 ((w64 (x1 + 1)) - 1)).toNat) (0 : Int))) rfl rfl hF rfl (run_load1 rfl one5 (hF.ev rfl) (rd_el0 (l := x0) (S.rc0 h0.rc).rd rfl eU_len (0 : Int) (ix_ltn hk109 rfl) rfl)) ?_; clear hF; intro a hF
      refine op_val (v := .int .i64 (w64 ((x0.getD ((w64 ((w64 (x1 + 1)) - 1)).toNat) (0 : Int))))) rfl rfl hF rfl (run_convI rfl Tryd.underlying5 Tryd.underlying3 (hF.ev rfl)) ?_; clear hF; intro a hF
      refine op_val (v := .int .i64 x2) rfl rfl hF rfl (run_move rfl (hF.ev rfl)) ?_; clear hF; intro a hF
      obtain ⟨hk110, hM⟩ := chk_ex hM
      replace hk110 := nzB_t hk110
      refine op_val (v := .int .i64 (Int.tmod (w64 ((x0.getD ((w64 ((w64 (x1 + 1)) - 1)).toNat) (0 : Int)))) x2)) rfl rfl hF rfl (run_rem (z := Int.tmod (w64 ((x0.getD ((w64 ((w64 (x1 + 1)) - 1)).toNat) (0 : Int)))) x2) (hF.ev rfl) (hF.ev rfl) rfl hk110 rfl) ?_; clear hF; intro a hF
      refine op_val (v := .int .i64 (Int.tmod (w64 ((x0.getD ((w64 ((w64 (x1 + 1)) - 1)).toNat) (0 : Int)))) x2)) rfl rfl hF rfl (run_assign rfl (hF.ev rfl)) ?_; clear hF; intro a hF
      refine wpList_nil ?_
      refine wp_ret ?_
      repeat with_reducible (first | refine then_ret ?_ | refine in_ret ?_ | refine in_nrm ?_)
      refine ret1_gw (.inl rfl) hF rfl (res_tmp (hF.ev rfl)) ?_
      obtain rfl := Option.some.inj hM
      exact ⟨rfl, S.selT (M := [.box g0 78 #[.slice A0 x0.length c0, .int .i64 (w64 (x1 + 1))]]) 1 [0] rfl rfl rfl⟩
  · replace hM := bif_t hc101 hM
    refine cond_t hF rfl hc101 ?_
    refine wp_seq ?_
    refine wp_region_lit ?_
    refine op_val (v := .int .i64 0) rfl rfl hF rfl (run_assign rfl rfl) ?_; clear hF; intro a hF
    refine wpList_nil ?_
    refine wp_ret ?_
    repeat with_reducible (first | refine then_ret ?_ | refine in_ret ?_ | refine in_nrm ?_)
    refine ret1_gw (.inl rfl) hF rfl (res_tmp (hF.ev rfl)) ?_
    obtain rfl := Option.some.inj hM
    exact ⟨rfl, S.selT (M := [.box g0 78 #[.slice A0 x0.length c0, .int .i64 (w64 (x1 + 1))]]) 1 [0] rfl rfl rfl⟩

set_option maxHeartbeats 4000000 in
theorem c_spec_l1In {x0 : Int} {x1 : Int} {x2 : Int} {w : World} {r : Bool}  (hM : m_spec_l1In x0 x1 x2 = some r) :
    Calls Tryd.prog 38 #[.int .i64 x0, .int .i64 x1, .int .i64 x2] w (fun e w' => e = .returned (.bool r) ∧ St w w' []) := by
  unfold m_spec_l1In at hM
  refine calls_gw Tryd.func38 Tryd.ntmps38 rfl [(0, .int .i64 x0), (1, .int .i64 x1), (2, .int .i64 x2)] ⟨rfl, rfl, rfl, trivial⟩ rfl ?_
  intro a hF
  have S := St.nil w
  refine wp_seq ?_
  refine wp_region_lit ?_
  refine op_val (v := .bool false) rfl rfl hF rfl (run_assign rfl rfl) ?_; clear hF; intro a hF
  refine wpList_nil ?_
  refine wp_seq ?_
  refine wp_region_lit ?_
  refine op_val (v := .int .i64 x0) rfl rfl hF rfl (run_move rfl (hF.ev rfl)) ?_; clear hF; intro a hF
  refine op_val (v := .int .i64 x1) rfl rfl hF rfl (run_move rfl (hF.ev rfl)) ?_; clear hF; intro a hF
  refine op_val (v := .bool (leB x1 x0)) rfl rfl hF rfl (run_geq (hF.ev rfl) (hF.ev rfl) rfl) ?_; clear hF; intro a hF
  refine op_val (v := .bool (leB x1 x0)) rfl rfl hF rfl (run_move rfl (hF.ev rfl)) ?_; clear hF; intro a hF
  refine op_gv (v := .int .i64 x0) rfl rfl hF rfl (yt (gw_yield hF rfl rfl rfl)) (fun hg => (run_move rfl (hF.ev rfl))) ?_; clear hF; intro a hF
  refine op_gv (v := .int .i64 x2) rfl rfl hF rfl (yt (gw_yield hF rfl rfl rfl)) (fun hg => (run_move rfl (hF.ev rfl))) ?_; clear hF; intro a hF
  refine op_gv (v := .bool (leB x0 x2)) rfl rfl hF rfl (yt (gw_yield hF rfl rfl rfl)) (fun hg => (run_leq ((hF.ev rfl).trans (gv_t hg)) ((hF.ev rfl).trans (gv_t hg)) rfl)) ?_; clear hF; intro a hF
  refine op_val (v := .bool ((leB x1 x0) && (leB x0 x2))) rfl rfl hF rfl (run_pick_and rfl (hF.ev rfl) (fun hp => ((hF.ev rfl).trans (gv_t hp))) rfl) ?_; clear hF; intro a hF
  refine op_val (v := .bool ((leB x1 x0) && (leB x0 x2))) rfl rfl hF rfl (run_assign rfl (hF.ev rfl)) ?_; clear hF; intro a hF
  refine wpList_nil ?_
  refine wp_ret ?_
  repeat with_reducible (first | refine then_ret ?_ | refine in_ret ?_ | refine in_nrm ?_)
  refine ret1_gw (.inl rfl) hF rfl (res_tmp (hF.ev rfl)) ?_
  obtain rfl := Option.some.inj hM
  exact ⟨rfl, S.sel [] rfl rfl⟩

set_option maxHeartbeats 4000000 in
theorem c_spec_l12Find {x0 : List (Int × Int)} {x1 : Int} {x2 : Int} {A0 : Option Addr} {n0 c0 : Nat} {w : World} {r : Int} (h0 : Rt w 2 ePermit A0 n0 c0 x0) (hM : m_spec_l12Find x0 x1 x2 = some r) :
    Calls Tryd.prog 40 #[.slice A0 n0 c0, .agg #[.int .i64 x1, .int .i64 x2]] w (fun e w' => e = .returned (.int .i64 r) ∧ St w w' []) := by
  obtain rfl := h0.len
  unfold m_spec_l12Find at hM
  refine calls_gw Tryd.func40 Tryd.ntmps40 rfl [(0, .slice A0 x0.length c0), (1, .agg #[.int .i64 x1, .int .i64 x2])] ⟨rfl, rfl, trivial⟩ rfl ?_
  intro a hF
  have S := St.nil w
  refine wp_seq ?_
  refine wp_region_lit ?_
  refine op_new (cs := #[.int .i64 x1, .int .i64 x2]) rfl rfl hF rfl S (run_box rfl (hF.ev rfl) rfl) ?_; clear hF S; intro a g101 u hF S
  refine op_val (v := .int .i64 0) rfl rfl hF rfl (run_assign rfl rfl) ?_; clear hF; intro a hF
  refine wpList_nil ?_
  refine wp_seq ?_
  refine wp_seq ?_
  refine wp_region_lit ?_
  refine op_val (v := .int .i64 0) rfl rfl hF rfl (run_assign rfl rfl) ?_; clear hF; intro a hF
  refine wpList_nil ?_
  obtain ⟨o103, hM104, hM⟩ := bind_ex hM
  refine wp_cut (fun a u => ∃ (p102 : Unit), (Sum.inl p102) = o103 ∧ Fr a 19 [(4, .int .i64 0)] ∧ St w u []) ?_ ?_
  · have _ := trivial
    refine wp_block ?_
    refine loop_gw (fun m a u => ∃ (p105 : Int), m_spec_l12Find_l1 x0 x1 x2 m p105 = some _ ∧ Fr a 19 [(0, .slice A0 x0.length c0), (3, .pointer (some ⟨g101, 0, none⟩)), (4, .int .i64 0), (5, .int .i64 p105)] ∧ St w u [.box g101 48 #[.int .i64 x1, .int .i64 x2]]) FUEL ⟨0, hM104, hF.keep _ ⟨rfl, rfl, rfl, rfl, trivial⟩, S.sel [0] rfl rfl⟩ ?_
    clear hF S hM104; rintro m a u ⟨p105, hM104, hF, S⟩
    rcases m with _ | f1
    · exact none_some hM104
    rw [m_spec_l12Find_l1.eq_2] at hM104
    refine wp_seq ?_
    refine wp_seq ?_
    refine wp_region_lit ?_
    refine op_val (v := .int .i64 p105) rfl rfl hF rfl (run_move rfl (hF.ev rfl)) ?_; clear hF; intro a hF
    refine op_val (v := .slice A0 x0.length c0) rfl rfl hF rfl (run_move rfl (hF.ev rfl)) ?_; clear hF; intro a hF
    refine op_val (v := .int .i64 (x0.length : Int)) rfl rfl hF rfl (run_lenL rfl rfl Tryd.underlying24 (hF.ev rfl)) ?_; clear hF; intro a hF
    refine op_val (v := .bool (ltB p105 (x0.length : Int))) rfl rfl hF rfl (run_lss (hF.ev rfl) (hF.ev rfl) rfl) ?_; clear hF; intro a hF
    refine wpList_nil ?_
    cases hc106 : (ltB p105 (x0.length : Int))
    · replace hM104 := bif_f hc106 hM104
      refine cond_f hF rfl hc106 ?_
      refine wp_exit ?_
      repeat with_reducible (first | refine then_exit ?_ | refine in_hit ?_ | refine in_miss rfl ?_)
      obtain rfl := Option.some.inj hM104
      exact ⟨(), rfl, hF.keep _ ⟨rfl, trivial⟩, S.sel [] rfl rfl⟩
    · replace hM104 := bif_t hc106 hM104
      refine cond_t hF rfl hc106 ?_
      refine wp_skip ?_
      refine wp_seq ?_
      refine wp_block ?_
      refine wp_seq ?_
      obtain ⟨hk107, hM104⟩ := chk_ex hM104
      replace hk107 := ixB_t hk107
      refine region_gw (D := [12, 13, 14, 15, 16, 17]) (Lr := [.box g101 48 #[.int .i64 x1, .int .i64 x2]]) (deps := (fun | 0 => [12] | 1 => [13] | 2 => [14] | 3 => [15] | 4 => [16] | 5 => [17] | _ => [])) (rd := (fun _ => [])) (zr := (fun _ => []))
        (φ := fun i vs => match i, vs with | 0, [v12] => v12 = .slice A0 x0.length c0 | 1, [v13] => v13 = .int .i64 p105 | 2, [v14] => v14 = .pointer (some ⟨adB A0, adO A0 + p105.toNat * 2, none⟩) | 3, [v15] => v15 = .agg #[.int .i64 ((x0.getD p105.toNat ((0, 0) : Int × Int)).1), .int .i64 ((x0.getD p105.toNat ((0, 0) : Int × Int)).2)] | 4, [v16] => v16 = .agg #[.int .i64 x1, .int .i64 x2] | 5, [v17] => v17 = .bool ((((x0.getD p105.toNat ((0, 0) : Int × Int)).1) == x1) && (((x0.getD p105.toNat ((0, 0) : Int × Int)).2) == x2)) | _, _ => True)
        (C := fun _ _ => [])
        (κ := (fun _ => none)) (Z := (fun _ => [])) mixed hF (by kernel_rfl) S ?_ ?_
      · refine ⟨?_, ?_, ?_, ?_, ?_, ?_, trivial⟩
        · intro a u X hB hu hp hr hz hl S
          replace S : St w u ([] ++ X) := S
          exact .inl ⟨rfl, .slice A0 x0.length c0, u, (run_move rfl (hF.evB hB rfl rfl)), rfl, S⟩
        · intro a u X hB hu hp hr hz hl S
          replace S : St w u ([] ++ X) := S
          exact .inl ⟨rfl, .int .i64 p105, u, (run_move rfl (hF.evB hB rfl rfl)), rfl, S⟩
        · intro a u X hB hu hp hr hz hl S
          replace S : St w u ([] ++ X) := S
          have e12 : sl a 12 = .slice A0 x0.length c0 := hp 0 rfl
          have e13 : sl a 13 = .int .i64 p105 := hp 1 rfl
          exact .inl ⟨rfl, .pointer (some ⟨adB A0, adO A0 + p105.toNat * 2, none⟩), u, (run_indexAddr (b := adB A0) (off := adO A0) rfl Tryd.underlying24 sz48 ((ev_sl e12).trans (congrArg (fun A => Value.slice A x0.length c0) ((S.rc0 h0.rc).rd.ad (ix_pos hk107)))) (ev_sl e13) hk107.1 hk107.2 (k' := adO A0 + p105.toNat * 2) rfl), rfl, S⟩
        · intro a u X hB hu hp hr hz hl S
          replace S : St w u ([] ++ X) := S
          have e14 : sl a 14 = .pointer (some ⟨adB A0, adO A0 + p105.toNat * 2, none⟩) := hp 2 rfl
          exact .inl ⟨rfl, .agg #[.int .i64 ((x0.getD p105.toNat ((0, 0) : Int × Int)).1), .int .i64 ((x0.getD p105.toNat ((0, 0) : Int × Int)).2)], u, (run_loadN (cs := #[.int .i64 ((x0.getD p105.toNat ((0, 0) : Int × Int)).1), .int .i64 ((x0.getD p105.toNat ((0, 0) : Int × Int)).2)]) rfl ag48 (ev_sl e14) rfl (rd_elN (l := x0) (S.rc0 h0.rc).rd rfl ePermit_len ((0, 0) : Int × Int) (ix_ltn hk107 rfl) rfl)), rfl, S⟩
        · intro a u X hB hu hp hr hz hl S
          replace S : St w u ([] ++ X) := S
          exact .inl ⟨rfl, .agg #[.int .i64 x1, .int .i64 x2], u, (run_loadN rfl ag48 (hF.evB hB rfl rfl) rfl ((gr_box S hl 0 rfl).cells 0 #[.int .i64 x1, .int .i64 x2] rfl)), rfl, S⟩
        · intro a u X hB hu hp hr hz hl S
          replace S : St w u ([] ++ X) := S
          have e15 : sl a 15 = .agg #[.int .i64 ((x0.getD p105.toNat ((0, 0) : Int × Int)).1), .int .i64 ((x0.getD p105.toNat ((0, 0) : Int × Int)).2)] := hp 3 rfl
          have e16 : sl a 16 = .agg #[.int .i64 x1, .int .i64 x2] := hp 4 rfl
          exact .inl ⟨rfl, .bool ((((x0.getD p105.toNat ((0, 0) : Int × Int)).1) == x1) && (((x0.getD p105.toNat ((0, 0) : Int × Int)).2) == x2)), u, (run_eqlA (ev_sl e15) (ev_sl e16) rfl eg48 eq48), rfl, S⟩
      · intro a u hB hp S
        obtain ⟨q0, q1, q2, q3, q4, q5, _⟩ := hp
        have e12 : sl a 12 = .slice A0 x0.length c0 := q0
        have e13 : sl a 13 = .int .i64 p105 := q1
        have e14 : sl a 14 = .pointer (some ⟨adB A0, adO A0 + p105.toNat * 2, none⟩) := q2
        have e15 : sl a 15 = .agg #[.int .i64 ((x0.getD p105.toNat ((0, 0) : Int × Int)).1), .int .i64 ((x0.getD p105.toNat ((0, 0) : Int × Int)).2)] := q3
        have e16 : sl a 16 = .agg #[.int .i64 x1, .int .i64 x2] := q4
        have e17 : sl a 17 = .bool ((((x0.getD p105.toNat ((0, 0) : Int × Int)).1) == x1) && (((x0.getD p105.toNat ((0, 0) : Int × Int)).2) == x2)) := q5
        replace S : St w u [.box g101 48 #[.int .i64 x1, .int .i64 x2]] := S
        clear q0 q1 q2 q3 q4 q5
        have hF := hF.region hB [(12, .slice A0 x0.length c0), (13, .int .i64 p105), (14, .pointer (some ⟨adB A0, adO A0 + p105.toNat * 2, none⟩)), (15, .agg #[.int .i64 ((x0.getD p105.toNat ((0, 0) : Int × Int)).1), .int .i64 ((x0.getD p105.toNat ((0, 0) : Int × Int)).2)]), (16, .agg #[.int .i64 x1, .int .i64 x2]), (17, .bool ((((x0.getD p105.toNat ((0, 0) : Int × Int)).1) == x1) && (((x0.getD p105.toNat ((0, 0) : Int × Int)).2) == x2)))] (allSl_mem ⟨e12, e13, e14, e15, e16, e17, trivial⟩) rfl
        clear hB e12 e13 e14 e15 e16 e17
        cases hc108 : ((((x0.getD p105.toNat ((0, 0) : Int × Int)).1) == x1) && (((x0.getD p105.toNat ((0, 0) : Int × Int)).2) == x2))
        · replace hM104 := bif_f hc108 hM104
          refine cond_f hF rfl hc108 ?_
          refine wp_skip ?_
          refine wp_region_lit ?_
          refine op_val (v := .int .i64 p105) rfl rfl hF rfl (run_move rfl (hF.ev rfl)) ?_; clear hF; intro a hF
          refine op_val (v := .int .i64 (w64 (p105 + 1))) rfl rfl hF rfl (run_add (z := w64 (p105 + 1)) (hF.ev rfl) rfl rfl rfl) ?_; clear hF; intro a hF
          refine op_val (v := .int .i64 (w64 (p105 + 1))) rfl rfl hF rfl (run_assign rfl (hF.ev rfl)) ?_; clear hF; intro a hF
          refine wpList_nil ?_
          exact ⟨f1, Nat.lt_succ_self _, w64 (p105 + 1), hM104, hF.keep _ ⟨rfl, rfl, rfl, rfl, trivial⟩, S.sel [0] rfl rfl⟩
        · replace hM104 := bif_t hc108 hM104
          refine cond_t hF rfl hc108 ?_
          refine wp_seq ?_
          refine wp_region_lit ?_
          refine op_val (v := .int .i64 p105) rfl rfl hF rfl (run_move rfl (hF.ev rfl)) ?_; clear hF; intro a hF
          refine op_val (v := .int .i64 p105) rfl rfl hF rfl (run_assign rfl (hF.ev rfl)) ?_; clear hF; intro a hF
          refine wpList_nil ?_
          refine wp_ret ?_
          repeat with_reducible (first | refine then_ret ?_ | refine in_ret ?_ | refine in_nrm ?_)
          refine ret1_gw (.inl rfl) hF rfl (res_tmp (hF.ev rfl)) ?_
          obtain rfl := Option.some.inj hM104
          obtain rfl := Option.some.inj hM
          exact ⟨rfl, S.sel [] rfl rfl⟩
  · rintro a u ⟨p102, rfl, hF, S⟩
    replace hM := elim_l hM
    refine wp_seq ?_
    refine wp_region_lit ?_
    refine op_val (v := .int .i64 (-1)) rfl rfl hF rfl (run_assign rfl rfl) ?_; clear hF; intro a hF
    refine wpList_nil ?_
    refine wp_ret ?_
    repeat with_reducible (first | refine then_ret ?_ | refine in_ret ?_ | refine in_nrm ?_)
    refine ret1_gw (.inl rfl) hF rfl (res_tmp (hF.ev rfl)) ?_
    obtain rfl := Option.some.inj hM
    exact ⟨rfl, S.sel [] rfl rfl⟩

set_option maxHeartbeats 4000000 in
theorem c_spec_WorkValid {x0 : List Bool} {x1 : List Bool} {x2 : List (Int × Int)} {A0 : Option Addr} {n0 c0 : Nat} {A1 : Option Addr} {n1 c1 : Nat} {A2 : Option Addr} {n2 c2 : Nat} {w : World} {r : Bool} (h0 : Rt w 1 eB A0 n0 c0 x0) (h1 : Rt w 1 eB A1 n1 c1 x1) (h2 : Rt w 2 ePermit A2 n2 c2 x2) (hM : m_spec_WorkValid x0 x1 x2 = some r) :
    Calls Tryd.prog 21 #[.agg #[.slice A0 n0 c0, .slice A1 n1 c1, .slice A2 n2 c2]] w (fun e w' => e = .returned (.bool r) ∧ St w w' []) := by
  obtain rfl := h0.len
  obtain rfl := h1.len
  obtain rfl := h2.len
  unfold m_spec_WorkValid at hM
  refine calls_gw Tryd.func21 Tryd.ntmps21 rfl [(0, .agg #[.slice A0 x0.length c0, .slice A1 x1.length c1, .slice A2 x2.length c2])] ⟨rfl, trivial⟩ rfl ?_
  intro a hF
  have S := St.nil w
  refine wp_seq ?_
  refine wp_region_lit ?_
  refine op_new (cs := #[.slice A0 x0.length c0, .slice A1 x1.length c1, .slice A2 x2.length c2]) rfl rfl hF rfl S (run_box rfl (hF.ev rfl) rfl) ?_; clear hF S; intro a g101 u hF S
  refine op_val (v := .bool false) rfl rfl hF rfl (run_assign rfl rfl) ?_; clear hF; intro a hF
  refine wpList_nil ?_
  refine wp_seq ?_
  refine wp_seq ?_
  refine wp_region_lit ?_
  refine op_val (v := .pointer (some ⟨g101, 0, none⟩)) rfl rfl hF rfl (run_fieldAddr rfl fl26_0 (hF.ev rfl) rfl) ?_; clear hF; intro a hF
  refine op_val (v := .slice A0 x0.length c0) rfl rfl hF rfl (run_load1 rfl one23 (hF.ev rfl) ((S.free 0 rfl).cell rfl)) ?_; clear hF; intro a hF
  refine op_val (v := .int .i64 (x0.length : Int)) rfl rfl hF rfl (run_lenL rfl rfl Tryd.underlying23 (hF.ev rfl)) ?_; clear hF; intro a hF
  obtain ⟨p102, h102, hM⟩ := bind_ex hM
  refine op_call rfl rfl hF rfl (run_call (vs := [.int .i64 (x0.length : Int), .int .i64 1, .int .i64 10]) rfl rfl co38 ⟨(hF.ev rfl), rfl, rfl, trivial⟩) (c_spec_l1In (x0 := (x0.length : Int)) (x1 := 1) (x2 := 10)  h102) ?_
  rintro e u ⟨rfl, T⟩
  refine ⟨_, rfl, ?_⟩
  clear hF; intro a hF
  replace S := S.call0 T; clear T
  refine op_val (v := .bool (!p102)) rfl rfl hF rfl (run_not rfl (hF.ev rfl)) ?_; clear hF; intro a hF
  refine op_val (v := .bool (!p102)) rfl rfl hF rfl (run_move rfl (hF.ev rfl)) ?_; clear hF; intro a hF
  refine op_gv (v := .pointer (some ⟨g101, 0, none⟩)) rfl rfl hF rfl (yf (gw_yield hF rfl rfl rfl)) (fun hg => (run_fieldAddr rfl fl26_0 (hF.ev rfl) rfl)) ?_; clear hF; intro a hF
  refine op_gv (v := .slice A0 x0.length c0) rfl rfl hF rfl (yf (gw_yield hF rfl rfl rfl)) (fun hg => (run_load1 rfl one23 ((hF.ev rfl).trans (gv_t hg)) ((S.free 0 rfl).cell rfl))) ?_; clear hF; intro a hF
  refine op_gv (v := .int .i64 (x0.length : Int)) rfl rfl hF rfl (yf (gw_yield hF rfl rfl rfl)) (fun hg => (run_lenL rfl rfl Tryd.underlying23 ((hF.ev rfl).trans (gv_t hg)))) ?_; clear hF; intro a hF
  refine op_gv (v := .pointer (some ⟨g101, 1, none⟩)) rfl rfl hF rfl (yf (gw_yield hF rfl rfl rfl)) (fun hg => (run_fieldAddr rfl fl26_1 (hF.ev rfl) rfl)) ?_; clear hF; intro a hF
  refine op_gv (v := .slice A1 x1.length c1) rfl rfl hF rfl (yf (gw_yield hF rfl rfl rfl)) (fun hg => (run_load1 rfl one23 ((hF.ev rfl).trans (gv_t hg)) ((S.free 0 rfl).cell rfl))) ?_; clear hF; intro a hF
  refine op_gv (v := .int .i64 (x1.length : Int)) rfl rfl hF rfl (yf (gw_yield hF rfl rfl rfl)) (fun hg => (run_lenL rfl rfl Tryd.underlying23 ((hF.ev rfl).trans (gv_t hg)))) ?_; clear hF; intro a hF
  refine op_gv (v := .bool ((x0.length : Int) != (x1.length : Int))) rfl rfl hF rfl (yf (gw_yield hF rfl rfl rfl)) (fun hg => (run_neq ((hF.ev rfl).trans (gv_t hg)) ((hF.ev rfl).trans (gv_t hg)) rfl)) ?_; clear hF; intro a hF
  refine op_val (v := .bool ((!p102) || ((x0.length : Int) != (x1.length : Int)))) rfl rfl hF rfl (run_pick_or rfl (hF.ev rfl) rfl (fun hp => ((hF.ev rfl).trans (gv_t (not_t hp))))) ?_; clear hF; intro a hF
  refine op_val (v := .bool ((!p102) || ((x0.length : Int) != (x1.length : Int)))) rfl rfl hF rfl (run_move rfl (hF.ev rfl)) ?_; clear hF; intro a hF
  refine op_gv (v := .pointer (some ⟨g101, 2, none⟩)) rfl rfl hF rfl (yf (gw_yield hF rfl rfl rfl)) (fun hg => (run_fieldAddr rfl fl26_2 (hF.ev rfl) rfl)) ?_; clear hF; intro a hF
  refine op_gv (v := .slice A2 x2.length c2) rfl rfl hF rfl (yf (gw_yield hF rfl rfl rfl)) (fun hg => (run_load1 rfl one24 ((hF.ev rfl).trans (gv_t hg)) ((S.free 0 rfl).cell rfl))) ?_; clear hF; intro a hF
  refine op_gv (v := .int .i64 (x2.length : Int)) rfl rfl hF rfl (yf (gw_yield hF rfl rfl rfl)) (fun hg => (run_lenL rfl rfl Tryd.underlying24 ((hF.ev rfl).trans (gv_t hg)))) ?_; clear hF; intro a hF
  refine op_gv (v := .bool (ltB 6 (x2.length : Int))) rfl rfl hF rfl (yf (gw_yield hF rfl rfl rfl)) (fun hg => (run_gtr ((hF.ev rfl).trans (gv_t hg)) rfl rfl)) ?_; clear hF; intro a hF
  refine op_val (v := .bool (((!p102) || ((x0.length : Int) != (x1.length : Int))) || (ltB 6 (x2.length : Int)))) rfl rfl hF rfl (run_pick_or rfl (hF.ev rfl) rfl (fun hp => ((hF.ev rfl).trans (gv_t (not_t hp))))) ?_; clear hF; intro a hF
  refine wpList_nil ?_
  cases hc103 : (((!p102) || ((x0.length : Int) != (x1.length : Int))) || (ltB 6 (x2.length : Int)))
  · replace hM := bif_f hc103 hM
    refine cond_f hF rfl hc103 ?_
    refine wp_skip ?_
    refine wp_seq ?_
    refine wp_seq ?_
    refine wp_region_lit ?_
    refine op_val (v := .int .i64 0) rfl rfl hF rfl (run_assign rfl rfl) ?_; clear hF; intro a hF
    refine wpList_nil ?_
    obtain ⟨o105, hM106, hM⟩ := bind_ex hM
    refine wp_cut (fun a u => ∃ (p104 : Unit), (Sum.inl p104) = o105 ∧ Fr a 88 [(1, .pointer (some ⟨g101, 0, none⟩)), (2, .bool false)] ∧ St w u [.box g101 26 #[.slice A0 x0.length c0, .slice A1 x1.length c1, .slice A2 x2.length c2]]) ?_ ?_
    · have _ := trivial
      refine wp_block ?_
      refine loop_gw (fun m a u => ∃ (p107 : Int), m_spec_WorkValid_l1 x0 x1 m p107 = some _ ∧ Fr a 88 [(1, .pointer (some ⟨g101, 0, none⟩)), (2, .bool false), (3, .int .i64 p107)] ∧ St w u [.box g101 26 #[.slice A0 x0.length c0, .slice A1 x1.length c1, .slice A2 x2.length c2]]) FUEL ⟨0, hM106, hF.keep _ ⟨rfl, rfl, rfl, trivial⟩, S.sel [0] rfl rfl⟩ ?_
      clear hF S hM106; rintro m a u ⟨p107, hM106, hF, S⟩
      rcases m with _ | f1
      · exact none_some hM106
      rw [m_spec_WorkValid_l1.eq_2] at hM106
      refine wp_seq ?_
      refine wp_seq ?_
      refine wp_region_lit ?_
      refine op_val (v := .int .i64 p107) rfl rfl hF rfl (run_move rfl (hF.ev rfl)) ?_; clear hF; intro a hF
      refine op_val (v := .pointer (some ⟨g101, 0, none⟩)) rfl rfl hF rfl (run_fieldAddr rfl fl26_0 (hF.ev rfl) rfl) ?_; clear hF; intro a hF
      refine op_val (v := .slice A0 x0.length c0) rfl rfl hF rfl (run_load1 rfl one23 (hF.ev rfl) ((S.free 0 rfl).cell rfl)) ?_; clear hF; intro a hF
      refine op_val (v := .int .i64 (x0.length : Int)) rfl rfl hF rfl (run_lenL rfl rfl Tryd.underlying23 (hF.ev rfl)) ?_; clear hF; intro a hF
      refine op_val (v := .bool (ltB p107 (x0.length : Int))) rfl rfl hF rfl (run_lss (hF.ev rfl) (hF.ev rfl) rfl) ?_; clear hF; intro a hF
      refine wpList_nil ?_
      cases hc108 : (ltB p107 (x0.length : Int))
      · replace hM106 := bif_f hc108 hM106
        refine cond_f hF rfl hc108 ?_
        refine wp_exit ?_
        repeat with_reducible (first | refine then_exit ?_ | refine in_hit ?_ | refine in_miss rfl ?_)
        obtain rfl := Option.some.inj hM106
        exact ⟨(), rfl, hF.keep _ ⟨rfl, rfl, trivial⟩, S.sel [0] rfl rfl⟩
      · replace hM106 := bif_t hc108 hM106
        refine cond_t hF rfl hc108 ?_
        refine wp_skip ?_
        refine wp_seq ?_
        refine wp_block ?_
        refine wp_seq ?_
        refine wp_region_lit ?_
        refine op_val (v := .pointer (some ⟨g101, 0, none⟩)) rfl rfl hF rfl (run_fieldAddr rfl fl26_0 (hF.ev rfl) rfl) ?_; clear hF; intro a hF
        refine op_val (v := .slice A0 x0.length c0) rfl rfl hF rfl (run_load1 rfl one23 (hF.ev rfl) ((S.free 0 rfl).cell rfl)) ?_; clear hF; intro a hF
        refine op_val (v := .int .i64 p107) rfl rfl hF rfl (run_move rfl (hF.ev rfl)) ?_; clear hF; intro a hF
        obtain ⟨hk109, hM106⟩ := chk_ex hM106
        replace hk109 := ixB_t hk109
        refine op_val (v := .pointer (some ⟨adB A0, adO A0 + p107.toNat * 1, none⟩)) rfl rfl hF rfl (run_indexAddr (b := adB A0) (off := adO A0) rfl Tryd.underlying23 sz4 ((hF.ev rfl).trans (congrArg (fun A => Value.slice A x0.length c0) ((S.rc0 h0.rc).rd.ad (ix_pos hk109)))) (hF.ev rfl) hk109.1 hk109.2 (k' := adO A0 + p107.toNat * 1) rfl) ?_; clear hF; intro a hF
        refine op_val (v := .bool (x0.getD p107.toNat false)) rfl rfl hF rfl (run_load1 rfl one4 (hF.ev rfl) (rd_el0 (l := x0) (S.rc0 h0.rc).rd rfl eB_len false (ix_ltn hk109 rfl) rfl)) ?_; clear hF; intro a hF
        refine op_val (v := .bool (x0.getD p107.toNat false)) rfl rfl hF rfl (run_move rfl (hF.ev rfl)) ?_; clear hF; intro a hF
        refine op_gv (v := .pointer (some ⟨g101, 1, none⟩)) rfl rfl hF rfl (yt (gw_yield hF rfl rfl rfl)) (fun hg => (run_fieldAddr rfl fl26_1 (hF.ev rfl) rfl)) ?_; clear hF; intro a hF
        refine op_gv (v := .slice A1 x1.length c1) rfl rfl hF rfl (yt (gw_yield hF rfl rfl rfl)) (fun hg => (run_load1 rfl one23 ((hF.ev rfl).trans (gv_t hg)) ((S.free 0 rfl).cell rfl))) ?_; clear hF; intro a hF
        refine op_gv (v := .int .i64 p107) rfl rfl hF rfl (yt (gw_yield hF rfl rfl rfl)) (fun hg => (run_move rfl (hF.ev rfl))) ?_; clear hF; intro a hF
        obtain ⟨hk110, hM106⟩ := chk_ex hM106
        replace hk110 := fun hg => ixB_t (imp_t hk110 hg)
        refine op_gv (v := .pointer (some ⟨adB A1, adO A1 + p107.toNat * 1, none⟩)) rfl rfl hF rfl (yt (gw_yield hF rfl rfl rfl)) (fun hg => (run_indexAddr (b := adB A1) (off := adO A1) rfl Tryd.underlying23 sz4 (((hF.ev rfl).trans (gv_t hg)).trans (congrArg (fun A => Value.slice A x1.length c1) ((S.rc0 h1.rc).rd.ad (ix_pos (hk110 hg))))) ((hF.ev rfl).trans (gv_t hg)) (hk110 hg).1 (hk110 hg).2 (k' := adO A1 + p107.toNat * 1) rfl)) ?_; clear hF; intro a hF
        refine op_gv (v := .bool (x1.getD p107.toNat false)) rfl rfl hF rfl (yt (gw_yield hF rfl rfl rfl)) (fun hg => (run_load1 rfl one4 ((hF.ev rfl).trans (gv_t hg)) (rd_el0 (l := x1) (S.rc0 h1.rc).rd rfl eB_len false (ix_ltn (hk110 hg) rfl) rfl))) ?_; clear hF; intro a hF
        refine op_val (v := .bool ((x0.getD p107.toNat false) && (x1.getD p107.toNat false))) rfl rfl hF rfl (run_pick_and rfl (hF.ev rfl) (fun hp => ((hF.ev rfl).trans (gv_t hp))) rfl) ?_; clear hF; intro a hF
        refine wpList_nil ?_
        cases hc111 : ((x0.getD p107.toNat false) && (x1.getD p107.toNat false))
        · replace hM106 := bif_f hc111 hM106
          refine cond_f hF rfl hc111 ?_
          refine wp_skip ?_
          refine wp_region_lit ?_
          refine op_val (v := .int .i64 p107) rfl rfl hF rfl (run_move rfl (hF.ev rfl)) ?_; clear hF; intro a hF
          refine op_val (v := .int .i64 (w64 (p107 + 1))) rfl rfl hF rfl (run_add (z := w64 (p107 + 1)) (hF.ev rfl) rfl rfl rfl) ?_; clear hF; intro a hF
          refine op_val (v := .int .i64 (w64 (p107 + 1))) rfl rfl hF rfl (run_assign rfl (hF.ev rfl)) ?_; clear hF; intro a hF
          refine wpList_nil ?_
          exact ⟨f1, Nat.lt_succ_self _, w64 (p107 + 1), hM106, hF.keep _ ⟨rfl, rfl, rfl, trivial⟩, S.sel [0] rfl rfl⟩
        · replace hM106 := bif_t hc111 hM106
          refine cond_t hF rfl hc111 ?_
          refine wp_seq ?_
          refine wp_region_lit ?_
          refine op_val (v := .bool false) rfl rfl hF rfl (run_assign rfl rfl) ?_; clear hF; intro a hF
          refine wpList_nil ?_
          refine wp_ret ?_
          repeat with_reducible (first | refine then_ret ?_ | refine in_ret ?_ | refine in_nrm ?_)
          refine ret1_gw (.inl rfl) hF rfl (res_tmp (hF.ev rfl)) ?_
          obtain rfl := Option.some.inj hM106
          obtain rfl := Option.some.inj hM
          exact ⟨rfl, S.sel [] rfl rfl⟩
    · rintro a u ⟨p104, rfl, hF, S⟩
      replace hM := elim_l hM
      refine wp_seq ?_
      refine wp_seq ?_
      refine wp_region_lit ?_
      refine op_val (v := .int .i64 0) rfl rfl hF rfl (run_assign rfl rfl) ?_; clear hF; intro a hF
      refine wpList_nil ?_
      obtain ⟨o113, hM114, hM⟩ := bind_ex hM
      refine wp_cut (fun a u => ∃ (p112 : Unit), (Sum.inl p112) = o113 ∧ Fr a 88 [(2, .bool false)] ∧ St w u []) ?_ ?_
      · have _ := trivial
        refine wp_block ?_
        refine loop_gw (fun m a u => ∃ (p115 : Int), m_spec_WorkValid_l2 x0 x1 x2 m p115 = some _ ∧ Fr a 88 [(1, .pointer (some ⟨g101, 0, none⟩)), (2, .bool false), (4, .int .i64 p115)] ∧ St w u [.box g101 26 #[.slice A0 x0.length c0, .slice A1 x1.length c1, .slice A2 x2.length c2]]) FUEL ⟨0, hM114, hF.keep _ ⟨rfl, rfl, rfl, trivial⟩, S.sel [0] rfl rfl⟩ ?_
        clear hF S hM114; rintro m a u ⟨p115, hM114, hF, S⟩
        rcases m with _ | f2
        · exact none_some hM114
        rw [m_spec_WorkValid_l2.eq_2] at hM114
        refine wp_seq ?_
        refine wp_seq ?_
        refine wp_region_lit ?_
        refine op_val (v := .int .i64 p115) rfl rfl hF rfl (run_move rfl (hF.ev rfl)) ?_; clear hF; intro a hF
        refine op_val (v := .pointer (some ⟨g101, 2, none⟩)) rfl rfl hF rfl (run_fieldAddr rfl fl26_2 (hF.ev rfl) rfl) ?_; clear hF; intro a hF
        refine op_val (v := .slice A2 x2.length c2) rfl rfl hF rfl (run_load1 rfl one24 (hF.ev rfl) ((S.free 0 rfl).cell rfl)) ?_; clear hF; intro a hF
        refine op_val (v := .int .i64 (x2.length : Int)) rfl rfl hF rfl (run_lenL rfl rfl Tryd.underlying24 (hF.ev rfl)) ?_; clear hF; intro a hF
        refine op_val (v := .bool (ltB p115 (x2.length : Int))) rfl rfl hF rfl (run_lss (hF.ev rfl) (hF.ev rfl) rfl) ?_; clear hF; intro a hF
        refine wpList_nil ?_
        cases hc116 : (ltB p115 (x2.length : Int))
        · replace hM114 := bif_f hc116 hM114
          refine cond_f hF rfl hc116 ?_
          refine wp_exit ?_
          repeat with_reducible (first | refine then_exit ?_ | refine in_hit ?_ | refine in_miss rfl ?_)
          obtain rfl := Option.some.inj hM114
          exact ⟨(), rfl, hF.keep _ ⟨rfl, trivial⟩, S.sel [] rfl rfl⟩
        · replace hM114 := bif_t hc116 hM114
          refine cond_t hF rfl hc116 ?_
          refine wp_skip ?_
          refine wp_seq ?_
          refine wp_block ?_
          refine wp_seq ?_
          refine wp_region_lit ?_
          refine op_val (v := .pointer (some ⟨g101, 2, none⟩)) rfl rfl hF rfl (run_fieldAddr rfl fl26_2 (hF.ev rfl) rfl) ?_; clear hF; intro a hF
          refine op_val (v := .slice A2 x2.length c2) rfl rfl hF rfl (run_load1 rfl one24 (hF.ev rfl) ((S.free 0 rfl).cell rfl)) ?_; clear hF; intro a hF
          refine op_val (v := .int .i64 p115) rfl rfl hF rfl (run_move rfl (hF.ev rfl)) ?_; clear hF; intro a hF
          obtain ⟨hk117, hM114⟩ := chk_ex hM114
          replace hk117 := ixB_t hk117
          refine op_val (v := .pointer (some ⟨adB A2, adO A2 + p115.toNat * 2, none⟩)) rfl rfl hF rfl (run_indexAddr (b := adB A2) (off := adO A2) rfl Tryd.underlying24 sz48 ((hF.ev rfl).trans (congrArg (fun A => Value.slice A x2.length c2) ((S.rc0 h2.rc).rd.ad (ix_pos hk117)))) (hF.ev rfl) hk117.1 hk117.2 (k' := adO A2 + p115.toNat * 2) rfl) ?_; clear hF; intro a hF
          refine op_val (v := .agg #[.int .i64 ((x2.getD p115.toNat ((0, 0) : Int × Int)).1), .int .i64 ((x2.getD p115.toNat ((0, 0) : Int × Int)).2)]) rfl rfl hF rfl (run_loadN (cs := #[.int .i64 ((x2.getD p115.toNat ((0, 0) : Int × Int)).1), .int .i64 ((x2.getD p115.toNat ((0, 0) : Int × Int)).2)]) rfl ag48 (hF.ev rfl) rfl (rd_elN (l := x2) (S.rc0 h2.rc).rd rfl ePermit_len ((0, 0) : Int × Int) (ix_ltn hk117 rfl) rfl)) ?_; clear hF; intro a hF
          refine op_new (cs := #[.int .i64 0, .int .i64 0]) rfl rfl hF rfl S (run_allocZ rfl zr48) ?_; clear hF S; intro a g118 u hF S
          refine op_do rfl rfl (run_store (cs' := #[.int .i64 ((x2.getD p115.toNat ((0, 0) : Int × Int)).1), .int .i64 ((x2.getD p115.toNat ((0, 0) : Int × Int)).2)]) rfl sz48 (hF.ev rfl) (hF.ev rfl) rfl rfl rfl (S.free 0 rfl) rfl rfl) ?_; replace S := S.put 0 rfl (#[.int .i64 ((x2.getD p115.toNat ((0, 0) : Int × Int)).1), .int .i64 ((x2.getD p115.toNat ((0, 0) : Int × Int)).2)])
          generalize World.setRow _ _ _ = u at S ⊢
          refine wpList_nil ?_
          refine wp_seq ?_
          refine wp_region_lit ?_
          refine op_val (v := .pointer (some ⟨g118, 0, none⟩)) rfl rfl hF rfl (run_fieldAddr rfl fl48_0 (hF.ev rfl) rfl) ?_; clear hF; intro a hF
          refine op_val (v := .int .i64 ((x2.getD p115.toNat ((0, 0) : Int × Int)).1)) rfl rfl hF rfl (run_load1 rfl one3 (hF.ev rfl) ((S.free 0 rfl).cell rfl)) ?_; clear hF; intro a hF
          obtain ⟨p119, h119, hM114⟩ := bind_ex hM114
          refine op_call rfl rfl hF rfl (run_call (vs := [.int .i64 ((x2.getD p115.toNat ((0, 0) : Int × Int)).1), .int .i64 0, .int .i64 9]) rfl rfl co38 ⟨(hF.ev rfl), rfl, rfl, trivial⟩) (c_spec_l1In (x0 := (x2.getD p115.toNat ((0, 0) : Int × Int)).1) (x1 := 0) (x2 := 9)  h119) ?_
          rintro e u ⟨rfl, T⟩
          refine ⟨_, rfl, ?_⟩
          clear hF; intro a hF
          replace S := S.call0 T; clear T
          refine op_val (v := .bool (!p119)) rfl rfl hF rfl (run_not rfl (hF.ev rfl)) ?_; clear hF; intro a hF
          refine op_val (v := .bool (!p119)) rfl rfl hF rfl (run_move rfl (hF.ev rfl)) ?_; clear hF; intro a hF
          refine op_gv (v := .pointer (some ⟨g118, 1, none⟩)) rfl rfl hF rfl (yf (gw_yield hF rfl rfl rfl)) (fun hg => (run_fieldAddr rfl fl48_1 (hF.ev rfl) rfl)) ?_; clear hF; intro a hF
          refine op_gv (v := .int .i64 ((x2.getD p115.toNat ((0, 0) : Int × Int)).2)) rfl rfl hF rfl (yf (gw_yield hF rfl rfl rfl)) (fun hg => (run_load1 rfl one3 ((hF.ev rfl).trans (gv_t hg)) ((S.free 0 rfl).cell rfl))) ?_; clear hF; intro a hF
          refine op_gv (v := .pointer (some ⟨g101, 0, none⟩)) rfl rfl hF rfl (yf (gw_yield hF rfl rfl rfl)) (fun hg => (run_fieldAddr rfl fl26_0 (hF.ev rfl) rfl)) ?_; clear hF; intro a hF
          refine op_gv (v := .slice A0 x0.length c0) rfl rfl hF rfl (yf (gw_yield hF rfl rfl rfl)) (fun hg => (run_load1 rfl one23 ((hF.ev rfl).trans (gv_t hg)) ((S.free 1 rfl).cell rfl))) ?_; clear hF; intro a hF
          refine op_gv (v := .int .i64 (x0.length : Int)) rfl rfl hF rfl (yf (gw_yield hF rfl rfl rfl)) (fun hg => (run_lenL rfl rfl Tryd.underlying23 ((hF.ev rfl).trans (gv_t hg)))) ?_; clear hF; intro a hF
          refine op_gv (v := .int .i64 (w64 ((x0.length : Int) - 1))) rfl rfl hF rfl (yf (gw_yield hF rfl rfl rfl)) (fun hg => (run_sub (z := w64 ((x0.length : Int) - 1)) ((hF.ev rfl).trans (gv_t hg)) rfl rfl rfl)) ?_; clear hF; intro a hF
          obtain ⟨p120, h120, hM114⟩ := bind_ex hM114
          refine op_gcall (v := .bool p120) rfl rfl hF rfl S (yf (gw_yield hF rfl rfl rfl)) (fun hg => (run_call (vs := [.int .i64 ((x2.getD p115.toNat ((0, 0) : Int × Int)).2), .int .i64 0, .int .i64 (w64 ((x0.length : Int) - 1))]) rfl rfl co38 ⟨((hF.ev rfl).trans (gv_t hg)), rfl, ((hF.ev rfl).trans (gv_t hg)), trivial⟩)) (fun hg => c_spec_l1In (x0 := (x2.getD p115.toNat ((0, 0) : Int × Int)).2) (x1 := 0) (x2 := w64 ((x0.length : Int) - 1))  (gb_t h120 hg)) ?_; clear hF S; intro a u hF S
          refine op_gv (v := .bool (!p120)) rfl rfl hF rfl (yf (gw_yield hF rfl rfl rfl)) (fun hg => (run_not rfl ((hF.ev rfl).trans (gv_t hg)))) ?_; clear hF; intro a hF
          refine op_val (v := .bool ((!p119) || (!p120))) rfl rfl hF rfl (run_pick_or rfl (hF.ev rfl) rfl (fun hp => ((hF.ev rfl).trans (gv_t (not_t hp))))) ?_; clear hF; intro a hF
          refine op_val (v := .bool ((!p119) || (!p120))) rfl rfl hF rfl (run_move rfl (hF.ev rfl)) ?_; clear hF; intro a hF
          refine op_gv (v := .pointer (some ⟨g101, 1, none⟩)) rfl rfl hF rfl (yf (gw_yield hF rfl rfl rfl)) (fun hg => (run_fieldAddr rfl fl26_1 (hF.ev rfl) rfl)) ?_; clear hF; intro a hF
          refine op_gv (v := .slice A1 x1.length c1) rfl rfl hF rfl (yf (gw_yield hF rfl rfl rfl)) (fun hg => (run_load1 rfl one23 ((hF.ev rfl).trans (gv_t hg)) ((S.free 1 rfl).cell rfl))) ?_; clear hF; intro a hF
          refine op_gv (v := .pointer (some ⟨g118, 1, none⟩)) rfl rfl hF rfl (yf (gw_yield hF rfl rfl rfl)) (fun hg => (run_fieldAddr rfl fl48_1 (hF.ev rfl) rfl)) ?_; clear hF; intro a hF
          refine op_gv (v := .int .i64 ((x2.getD p115.toNat ((0, 0) : Int × Int)).2)) rfl rfl hF rfl (yf (gw_yield hF rfl rfl rfl)) (fun hg => (run_load1 rfl one3 ((hF.ev rfl).trans (gv_t hg)) ((S.free 0 rfl).cell rfl))) ?_; clear hF; intro a hF
          obtain ⟨hk121, hM114⟩ := chk_ex hM114
          replace hk121 := fun hg => ixB_t (imp_t hk121 hg)
          refine op_gv (v := .pointer (some ⟨adB A1, adO A1 + (((x2.getD p115.toNat ((0, 0) : Int × Int)).2).toNat) * 1, none⟩)) rfl rfl hF rfl (yf (gw_yield hF rfl rfl rfl)) (fun hg => (run_indexAddr (b := adB A1) (off := adO A1) rfl Tryd.underlying23 sz4 (((hF.ev rfl).trans (gv_t hg)).trans (congrArg (fun A => Value.slice A x1.length c1) ((S.rc0 h1.rc).rd.ad (ix_pos (hk121 hg))))) ((hF.ev rfl).trans (gv_t hg)) (hk121 hg).1 (hk121 hg).2 (k' := adO A1 + (((x2.getD p115.toNat ((0, 0) : Int × Int)).2).toNat) * 1) rfl)) ?_; clear hF; intro a hF
          refine op_gv (v := .bool (x1.getD (((x2.getD p115.toNat ((0, 0) : Int × Int)).2).toNat) false)) rfl rfl hF rfl (yf (gw_yield hF rfl rfl rfl)) (fun hg => (run_load1 rfl one4 ((hF.ev rfl).trans (gv_t hg)) (rd_el0 (l := x1) (S.rc0 h1.rc).rd rfl eB_len false (ix_ltn (hk121 hg) rfl) rfl))) ?_; clear hF; intro a hF
          refine op_gv (v := .bool (!(x1.getD (((x2.getD p115.toNat ((0, 0) : Int × Int)).2).toNat) false))) rfl rfl hF rfl (yf (gw_yield hF rfl rfl rfl)) (fun hg => (run_not rfl ((hF.ev rfl).trans (gv_t hg)))) ?_; clear hF; intro a hF
          refine op_val (v := .bool (((!p119) || (!p120)) || (!(x1.getD (((x2.getD p115.toNat ((0, 0) : Int × Int)).2).toNat) false)))) rfl rfl hF rfl (run_pick_or rfl (hF.ev rfl) rfl (fun hp => ((hF.ev rfl).trans (gv_t (not_t hp))))) ?_; clear hF; intro a hF
          refine op_val (v := .bool (((!p119) || (!p120)) || (!(x1.getD (((x2.getD p115.toNat ((0, 0) : Int × Int)).2).toNat) false)))) rfl rfl hF rfl (run_move rfl (hF.ev rfl)) ?_; clear hF; intro a hF
          refine op_gv (v := .pointer (some ⟨g101, 2, none⟩)) rfl rfl hF rfl (yf (gw_yield hF rfl rfl rfl)) (fun hg => (run_fieldAddr rfl fl26_2 (hF.ev rfl) rfl)) ?_; clear hF; intro a hF
          refine op_gv (v := .slice A2 x2.length c2) rfl rfl hF rfl (yf (gw_yield hF rfl rfl rfl)) (fun hg => (run_load1 rfl one24 ((hF.ev rfl).trans (gv_t hg)) ((S.free 1 rfl).cell rfl))) ?_; clear hF; intro a hF
          refine op_gv (v := .agg #[.int .i64 ((x2.getD p115.toNat ((0, 0) : Int × Int)).1), .int .i64 ((x2.getD p115.toNat ((0, 0) : Int × Int)).2)]) rfl rfl hF rfl (yf (gw_yield hF rfl rfl rfl)) (fun hg => (run_loadN rfl ag48 (hF.ev rfl) rfl ((S.free 0 rfl).cells 0 #[.int .i64 ((x2.getD p115.toNat ((0, 0) : Int × Int)).1), .int .i64 ((x2.getD p115.toNat ((0, 0) : Int × Int)).2)] rfl))) ?_; clear hF; intro a hF
          obtain ⟨p122, h122, hM114⟩ := bind_ex hM114
          refine op_gcall (v := .int .i64 p122) rfl rfl hF rfl S (yf (gw_yield hF rfl rfl rfl)) (fun hg => (run_call (vs := [.slice A2 x2.length c2, .agg #[.int .i64 ((x2.getD p115.toNat ((0, 0) : Int × Int)).1), .int .i64 ((x2.getD p115.toNat ((0, 0) : Int × Int)).2)]]) rfl rfl co40 ⟨((hF.ev rfl).trans (gv_t hg)), ((hF.ev rfl).trans (gv_t hg)), trivial⟩)) (fun hg => c_spec_l12Find (x0 := x2) (x1 := (x2.getD p115.toNat ((0, 0) : Int × Int)).1) (x2 := (x2.getD p115.toNat ((0, 0) : Int × Int)).2) ⟨(S.rc0 h2.rc), rfl⟩ (gb_t h122 hg)) ?_; clear hF S; intro a u hF S
          refine op_gv (v := .int .i64 p115) rfl rfl hF rfl (yf (gw_yield hF rfl rfl rfl)) (fun hg => (run_move rfl (hF.ev rfl))) ?_; clear hF; intro a hF
          refine op_gv (v := .bool (ltB p122 p115)) rfl rfl hF rfl (yf (gw_yield hF rfl rfl rfl)) (fun hg => (run_lss ((hF.ev rfl).trans (gv_t hg)) ((hF.ev rfl).trans (gv_t hg)) rfl)) ?_; clear hF; intro a hF
          refine op_val (v := .bool ((((!p119) || (!p120)) || (!(x1.getD (((x2.getD p115.toNat ((0, 0) : Int × Int)).2).toNat) false))) || (ltB p122 p115))) rfl rfl hF rfl (run_pick_or rfl (hF.ev rfl) rfl (fun hp => ((hF.ev rfl).trans (gv_t (not_t hp))))) ?_; clear hF; intro a hF
          refine wpList_nil ?_
          cases hc123 : ((((!p119) || (!p120)) || (!(x1.getD (((x2.getD p115.toNat ((0, 0) : Int × Int)).2).toNat) false))) || (ltB p122 p115))
          · replace hM114 := bif_f hc123 hM114
            refine cond_f hF rfl hc123 ?_
            refine wp_skip ?_
            refine wp_region_lit ?_
            refine op_val (v := .int .i64 p115) rfl rfl hF rfl (run_move rfl (hF.ev rfl)) ?_; clear hF; intro a hF
            refine op_val (v := .int .i64 (w64 (p115 + 1))) rfl rfl hF rfl (run_add (z := w64 (p115 + 1)) (hF.ev rfl) rfl rfl rfl) ?_; clear hF; intro a hF
            refine op_val (v := .int .i64 (w64 (p115 + 1))) rfl rfl hF rfl (run_assign rfl (hF.ev rfl)) ?_; clear hF; intro a hF
            refine wpList_nil ?_
            exact ⟨f2, Nat.lt_succ_self _, w64 (p115 + 1), hM114, hF.keep _ ⟨rfl, rfl, rfl, trivial⟩, S.sel [1] rfl rfl⟩
          · replace hM114 := bif_t hc123 hM114
            refine cond_t hF rfl hc123 ?_
            refine wp_seq ?_
            refine wp_region_lit ?_
            refine op_val (v := .bool false) rfl rfl hF rfl (run_assign rfl rfl) ?_; clear hF; intro a hF
            refine wpList_nil ?_
            refine wp_ret ?_
            repeat with_reducible (first | refine then_ret ?_ | refine in_ret ?_ | refine in_nrm ?_)
            refine ret1_gw (.inl rfl) hF rfl (res_tmp (hF.ev rfl)) ?_
            obtain rfl := Option.some.inj hM114
            obtain rfl := Option.some.inj hM
            exact ⟨rfl, S.sel [] rfl rfl⟩
      · rintro a u ⟨p112, rfl, hF, S⟩
        replace hM := elim_l hM
        refine wp_seq ?_
        refine wp_region_lit ?_
        refine op_val (v := .bool true) rfl rfl hF rfl (run_assign rfl rfl) ?_; clear hF; intro a hF
        refine wpList_nil ?_
        refine wp_ret ?_
        repeat with_reducible (first | refine then_ret ?_ | refine in_ret ?_ | refine in_nrm ?_)
        refine ret1_gw (.inl rfl) hF rfl (res_tmp (hF.ev rfl)) ?_
        obtain rfl := Option.some.inj hM
        exact ⟨rfl, S.sel [] rfl rfl⟩
  · replace hM := bif_t hc103 hM
    refine cond_t hF rfl hc103 ?_
    refine wp_seq ?_
    refine wp_region_lit ?_
    refine op_val (v := .bool false) rfl rfl hF rfl (run_assign rfl rfl) ?_; clear hF; intro a hF
    refine wpList_nil ?_
    refine wp_ret ?_
    repeat with_reducible (first | refine then_ret ?_ | refine in_ret ?_ | refine in_nrm ?_)
    refine ret1_gw (.inl rfl) hF rfl (res_tmp (hF.ev rfl)) ?_
    obtain rfl := Option.some.inj hM
    exact ⟨rfl, S.sel [] rfl rfl⟩

set_option maxHeartbeats 4000000 in
theorem c_spec_l2Copy {x0 : List Bool} {A0 : Option Addr} {n0 c0 : Nat} {w : World} {r : List Bool} (h0 : Rt w 1 eB A0 n0 c0 x0) (hM : m_spec_l2Copy x0 = some r) :
    Calls Tryd.prog 55 #[.slice A0 n0 c0] w (fun e w' => ∃ (B0 : Option Addr) (N0 D0 : Nat), e = .returned (.slice B0 N0 D0) ∧ N0 = r.length ∧ St w w' [.row 4 1 (.slice B0 N0 D0) N0 (r.flatMap eB)]) := by
  obtain rfl := h0.len
  unfold m_spec_l2Copy at hM
  refine calls_gw Tryd.func55 Tryd.ntmps55 rfl [(0, .slice A0 x0.length c0)] ⟨rfl, trivial⟩ rfl ?_
  intro a hF
  have S := St.nil w
  refine wp_seq ?_
  refine wp_region_lit ?_
  refine op_val (v := .slice none 0 0) rfl rfl hF rfl (run_assign rfl rfl) ?_; clear hF; intro a hF
  refine wpList_nil ?_
  refine wp_seq ?_
  refine wp_region_lit ?_
  refine op_newrow (cs := #[]) (size := 1) rfl rfl hF rfl S (run_buildSlice0 rfl Tryd.underlying23 (congrArg Option.isSome sz4)) rfl (Nat.zero_le _) ?_; clear hF S; intro a g101 u hF S
  refine op_val (v := .slice A0 x0.length c0) rfl rfl hF rfl (run_move rfl (hF.ev rfl)) ?_; clear hF; intro a hF
  obtain ⟨hk104, hM⟩ := chk_ex hM
  replace hk104 := apB_t hk104
  refine op_appendL (lx := []) (ly := x0) rfl rfl hF rfl S rfl (hF.ev rfl) (hF.ev rfl) (i := 0) rfl rfl Tryd.underlying23 inf4 rfl (by decide) (S.rc0 h0.rc).rd rfl eB_one hk104 (by decide) ?_; clear hF S; intro a B102 d103 u hF S
  refine op_val (v := .slice B102 (([] ++ x0).length) d103) rfl rfl hF rfl (run_assign rfl (hF.ev rfl)) ?_; clear hF; intro a hF
  refine wpList_nil ?_
  refine wp_ret ?_
  repeat with_reducible (first | refine then_ret ?_ | refine in_ret ?_ | refine in_nrm ?_)
  refine ret1_gw (.inl rfl) hF rfl (res_tmp (hF.ev rfl)) ?_
  obtain rfl := Option.some.inj hM
  exact ⟨B102, (([] ++ x0).length), d103, rfl, rfl, S.sel [0] rfl rfl⟩

set_option maxHeartbeats 4000000 in
theorem c_spec_l12Copy {x0 : List Bool} {x1 : List Bool} {x2 : List (Int × Int)} {A0 : Option Addr} {n0 c0 : Nat} {A1 : Option Addr} {n1 c1 : Nat} {A2 : Option Addr} {n2 c2 : Nat} {w : World} {r : List Bool × List Bool × List (Int × Int)} (h0 : Rt w 1 eB A0 n0 c0 x0) (h1 : Rt w 1 eB A1 n1 c1 x1) (h2 : Rt w 2 ePermit A2 n2 c2 x2) (hM : m_spec_l12Copy x0 x1 x2 = some r) :
    Calls Tryd.prog 37 #[.agg #[.slice A0 n0 c0, .slice A1 n1 c1, .slice A2 n2 c2]] w (fun e w' => ∃ (B0 : Option Addr) (N0 D0 : Nat) (B1 : Option Addr) (N1 D1 : Nat) (B2 : Option Addr) (N2 D2 : Nat), e = .returned (.agg #[.slice B0 N0 D0, .slice B1 N1 D1, .slice B2 N2 D2]) ∧ N0 = r.1.length ∧ N1 = r.2.1.length ∧ N2 = r.2.2.length ∧ St w w' [.row 4 1 (.slice B0 N0 D0) N0 (r.1.flatMap eB), .row 4 1 (.slice B1 N1 D1) N1 (r.2.1.flatMap eB), .row 48 2 (.slice B2 N2 D2) N2 (r.2.2.flatMap ePermit)]) := by
  obtain rfl := h0.len
  obtain rfl := h1.len
  obtain rfl := h2.len
  unfold m_spec_l12Copy at hM
  refine calls_gw Tryd.func37 Tryd.ntmps37 rfl [(0, .agg #[.slice A0 x0.length c0, .slice A1 x1.length c1, .slice A2 x2.length c2])] ⟨rfl, trivial⟩ rfl ?_
  intro a hF
  have S := St.nil w
  refine wp_seq ?_
  refine wp_region_lit ?_
  refine op_new (cs := #[.slice A0 x0.length c0, .slice A1 x1.length c1, .slice A2 x2.length c2]) rfl rfl hF rfl S (run_box rfl (hF.ev rfl) rfl) ?_; clear hF S; intro a g101 u hF S
  refine op_new (cs := #[.slice none 0 0, .slice none 0 0, .slice none 0 0]) rfl rfl hF rfl S (run_allocZ rfl zr26) ?_; clear hF S; intro a g102 u hF S
  refine wpList_nil ?_
  refine wp_seq ?_
  obtain ⟨p103, h103, hM⟩ := bind_ex hM
  obtain ⟨p107, h107, hM⟩ := bind_ex hM
  obtain ⟨hk111, hM⟩ := chk_ex hM
  replace hk111 := apB_t hk111
  refine region_gw (D := [3, 4, 5, 6, 7, 8, 9, 10, 11, 12, 13]) (Lr := [.box g101 26 #[.slice A0 x0.length c0, .slice A1 x1.length c1, .slice A2 x2.length c2]]) (deps := (fun | 0 => [3] | 1 => [4] | 2 => [5] | 3 => [6] | 4 => [7] | 5 => [8] | 6 => [9] | 7 => [10] | 8 => [11] | 9 => [12] | 10 => [13, 5, 8, 12] | 11 => [2, 5, 8, 12] | _ => [])) (rd := (fun _ => [])) (zr := (fun _ => []))
    (φ := fun i vs => match i, vs with | 0, [v3] => v3 = .pointer (some ⟨g101, 0, none⟩) | 1, [v4] => v4 = .slice A0 x0.length c0 | 2, [v5] => v5 = .slice (slA v5) p103.length (slC v5) | 3, [v6] => v6 = .pointer (some ⟨g101, 1, none⟩) | 4, [v7] => v7 = .slice A1 x1.length c1 | 5, [v8] => v8 = .slice (slA v8) p107.length (slC v8) | 6, [v9] => v9 = .slice (slA v9) 0 0 | 7, [v10] => v10 = .pointer (some ⟨g101, 2, none⟩) | 8, [v11] => v11 = .slice A2 x2.length c2 | 9, [v12] => v12 = .slice (slA v12) (([] ++ x2).length) (slC v12) | 10, [v13, v5, v8, v12] => v13 = .agg #[.slice (slA v5) p103.length (slC v5), .slice (slA v8) p107.length (slC v8), .slice (slA v12) (([] ++ x2).length) (slC v12)] | _, _ => True)
    (C := fun i vs => match i, vs with | 2, [v5] => [.row 4 1 (.slice (slA v5) p103.length (slC v5)) p103.length (p103.flatMap eB)] | 5, [v8] => [.row 4 1 (.slice (slA v8) p107.length (slC v8)) p107.length (p107.flatMap eB)] | 6, [v9] => [.row 48 2 (.slice (slA v9) 0 0) 0 (([] : List (Int × Int)).flatMap ePermit)] | 9, [v12] => [.row 48 2 (.slice (slA v12) (([] ++ x2).length) (slC v12)) (([] ++ x2).length) (([] ++ x2).flatMap ePermit)] | 11, [v2, v5, v8, v12] => [.box g102 26 #[.slice (slA v5) p103.length (slC v5), .slice (slA v8) p107.length (slC v8), .slice (slA v12) (([] ++ x2).length) (slC v12)]] | _, _ => [])
    (κ := (fun | 6 => some 9 | _ => none)) (Z := (fun | 11 => [.box g102 26 #[.slice none 0 0, .slice none 0 0, .slice none 0 0]] | _ => [])) mixed hF (by kernel_rfl) (show St w _ [.box g102 26 #[.slice none 0 0, .slice none 0 0, .slice none 0 0], .box g101 26 #[.slice A0 x0.length c0, .slice A1 x1.length c1, .slice A2 x2.length c2]] from S.sel [0, 1] rfl rfl) ?_ ?_
  · refine ⟨?_, ?_, ?_, ?_, ?_, ?_, ?_, ?_, ?_, ?_, ?_, ?_, trivial⟩
    · intro a u X hB hu hp hr hz hl S
      replace S : St w u ([] ++ X) := S
      exact .inl ⟨rfl, .pointer (some ⟨g101, 0, none⟩), u, (run_fieldAddr rfl fl26_0 (hF.evB hB rfl rfl) rfl), rfl, S⟩
    · intro a u X hB hu hp hr hz hl S
      replace S : St w u ([] ++ X) := S
      have e3 : sl a 3 = .pointer (some ⟨g101, 0, none⟩) := hp 0 rfl
      exact .inl ⟨rfl, .slice A0 x0.length c0, u, (run_load1 rfl one23 (ev_sl e3) ((gr_box S hl 0 rfl).cell rfl)), rfl, S⟩
    · intro a u X hB hu hp hr hz hl S
      replace S : St w u ([] ++ X) := S
      have e4 : sl a 4 = .slice A0 x0.length c0 := hp 1 rfl
      refine .inr (.inr (.inl ⟨rfl, _, _, (run_call (vs := [.slice A0 x0.length c0]) rfl rfl co55 ⟨(ev_sl e4), trivial⟩), ?_⟩))
      refine Calls.mono (c_spec_l2Copy (x0 := x0) ⟨(S.rc0 h0.rc), rfl⟩ h103) ?_
      rintro e w1 ⟨B112, n113, d114, rfl, rfl, T⟩
      exact ⟨_, rfl, rfl, S.call1 T⟩
    · intro a u X hB hu hp hr hz hl S
      replace S : St w u ([] ++ X) := S
      exact .inl ⟨rfl, .pointer (some ⟨g101, 1, none⟩), u, (run_fieldAddr rfl fl26_1 (hF.evB hB rfl rfl) rfl), rfl, S⟩
    · intro a u X hB hu hp hr hz hl S
      replace S : St w u ([] ++ X) := S
      have e6 : sl a 6 = .pointer (some ⟨g101, 1, none⟩) := hp 3 rfl
      exact .inl ⟨rfl, .slice A1 x1.length c1, u, (run_load1 rfl one23 (ev_sl e6) ((gr_box S hl 0 rfl).cell rfl)), rfl, S⟩
    · intro a u X hB hu hp hr hz hl S
      replace S : St w u ([] ++ X) := S
      have e7 : sl a 7 = .slice A1 x1.length c1 := hp 4 rfl
      refine .inr (.inr (.inl ⟨rfl, _, _, (run_call (vs := [.slice A1 x1.length c1]) rfl rfl co55 ⟨(ev_sl e7), trivial⟩), ?_⟩))
      refine Calls.mono (c_spec_l2Copy (x0 := x1) ⟨(S.rc0 h1.rc), rfl⟩ h107) ?_
      rintro e w1 ⟨B115, n116, d117, rfl, rfl, T⟩
      exact ⟨_, rfl, rfl, S.call1 T⟩
    · intro a u X hB hu hp hr hz hl S
      replace S : St w u ([] ++ X) := S
      exact .inl ⟨rfl, _, _, run_buildSlice0 rfl Tryd.underlying24 (congrArg Option.isSome sz48), rfl, S.newrow 48 2 0 #[] rfl (Nat.zero_le _)⟩
    · intro a u X hB hu hp hr hz hl S
      replace S : St w u ([] ++ X) := S
      exact .inl ⟨rfl, .pointer (some ⟨g101, 2, none⟩), u, (run_fieldAddr rfl fl26_2 (hF.evB hB rfl rfl) rfl), rfl, S⟩
    · intro a u X hB hu hp hr hz hl S
      replace S : St w u ([] ++ X) := S
      have e10 : sl a 10 = .pointer (some ⟨g101, 2, none⟩) := hp 7 rfl
      exact .inl ⟨rfl, .slice A2 x2.length c2, u, (run_load1 rfl one24 (ev_sl e10) ((gr_box S hl 0 rfl).cell rfl)), rfl, S⟩
    · intro a u X hB hu hp hr hz hl S
      replace S : St w u ([.row 48 2 (.slice (slA (sl a 9)) 0 0) 0 (([] : List (Int × Int)).flatMap ePermit)] ++ X) := S
      have e9 : sl a 9 = .slice (slA (sl a 9)) 0 0 := hp 6 rfl
      have e11 : sl a 11 = .slice A2 x2.length c2 := hp 8 rfl
      obtain ⟨B, d, w', hrun, S'⟩ := S.appendL (i := 0) (P := Tryd.prog) (ty := 24) (lx := []) (ly := x2) (c' := c2) rfl rfl Tryd.underlying24 inf48 rfl (by decide) (S.rc0 h2.rc).rd rfl ePermit_one hk111 (by decide)
      exact .inl ⟨rfl, _, w', run_append rfl (ev_sl e9) (ev_sl e11) hrun, rfl, S'⟩
    · intro a u X hB hu hp hr hz hl S
      replace S : St w u ([] ++ X) := S
      have e5 : sl a 5 = .slice (slA (sl a 5)) p103.length (slC (sl a 5)) := hp 2 rfl
      have e8 : sl a 8 = .slice (slA (sl a 8)) p107.length (slC (sl a 8)) := hp 5 rfl
      have e12 : sl a 12 = .slice (slA (sl a 12)) (([] ++ x2).length) (slC (sl a 12)) := hp 9 rfl
      exact .inl ⟨rfl, .agg #[.slice (slA (sl a 5)) p103.length (slC (sl a 5)), .slice (slA (sl a 8)) p107.length (slC (sl a 8)), .slice (slA (sl a 12)) (([] ++ x2).length) (slC (sl a 12))], u, (run_build (vs := [(0, .slice (slA (sl a 5)) p103.length (slC (sl a 5))), (1, .slice (slA (sl a 8)) p107.length (slC (sl a 8))), (2, .slice (slA (sl a 12)) (([] ++ x2).length) (slC (sl a 12)))]) rfl ⟨⟨rfl, (ev_sl e5)⟩, ⟨rfl, (ev_sl e8)⟩, ⟨rfl, (ev_sl e12)⟩, trivial⟩ (bd26_0_1_2 rfl rfl rfl)), rfl, S⟩
    · intro a u X hB hu hp hr hz hl S
      replace S : St w u ([.box g102 26 #[.slice none 0 0, .slice none 0 0, .slice none 0 0]] ++ X) := S
      have e13 : sl a 13 = .agg #[.slice (slA (sl a 5)) p103.length (slC (sl a 5)), .slice (slA (sl a 8)) p107.length (slC (sl a 8)), .slice (slA (sl a 12)) (([] ++ x2).length) (slC (sl a 12))] := hp 10 rfl
      exact .inr (.inl ⟨rfl, _, run_store (cs' := #[.slice (slA (sl a 5)) p103.length (slC (sl a 5)), .slice (slA (sl a 8)) p107.length (slC (sl a 8)), .slice (slA (sl a 12)) (([] ++ x2).length) (slC (sl a 12))]) rfl sz26 (hF.evB hB rfl rfl) (ev_sl e13) rfl rfl rfl (S.free 0 rfl) rfl rfl, trivial, S.put 0 rfl (#[.slice (slA (sl a 5)) p103.length (slC (sl a 5)), .slice (slA (sl a 8)) p107.length (slC (sl a 8)), .slice (slA (sl a 12)) (([] ++ x2).length) (slC (sl a 12))])⟩)
  · intro a u hB hp S
    obtain ⟨q0, q1, q2, q3, q4, q5, q6, q7, q8, q9, q10, q11, _⟩ := hp
    have e3 : sl a 3 = .pointer (some ⟨g101, 0, none⟩) := q0
    have e4 : sl a 4 = .slice A0 x0.length c0 := q1
    have e5 : sl a 5 = .slice (slA (sl a 5)) p103.length (slC (sl a 5)) := q2
    have e6 : sl a 6 = .pointer (some ⟨g101, 1, none⟩) := q3
    have e7 : sl a 7 = .slice A1 x1.length c1 := q4
    have e8 : sl a 8 = .slice (slA (sl a 8)) p107.length (slC (sl a 8)) := q5
    have e9 : sl a 9 = .slice (slA (sl a 9)) 0 0 := q6
    have e10 : sl a 10 = .pointer (some ⟨g101, 2, none⟩) := q7
    have e11 : sl a 11 = .slice A2 x2.length c2 := q8
    have e12 : sl a 12 = .slice (slA (sl a 12)) (([] ++ x2).length) (slC (sl a 12)) := q9
    have e13 : sl a 13 = .agg #[.slice (slA (sl a 5)) p103.length (slC (sl a 5)), .slice (slA (sl a 8)) p107.length (slC (sl a 8)), .slice (slA (sl a 12)) (([] ++ x2).length) (slC (sl a 12))] := q10
    replace S : St w u [.row 4 1 (.slice (slA (sl a 5)) p103.length (slC (sl a 5))) p103.length (p103.flatMap eB), .row 4 1 (.slice (slA (sl a 8)) p107.length (slC (sl a 8))) p107.length (p107.flatMap eB), .row 48 2 (.slice (slA (sl a 12)) (([] ++ x2).length) (slC (sl a 12))) (([] ++ x2).length) (([] ++ x2).flatMap ePermit), .box g102 26 #[.slice (slA (sl a 5)) p103.length (slC (sl a 5)), .slice (slA (sl a 8)) p107.length (slC (sl a 8)), .slice (slA (sl a 12)) (([] ++ x2).length) (slC (sl a 12))], .box g101 26 #[.slice A0 x0.length c0, .slice A1 x1.length c1, .slice A2 x2.length c2]] := S
    clear q0 q1 q2 q3 q4 q5 q6 q7 q8 q9 q10 q11
    generalize slA (sl a 5) = B118 at *
    generalize slC (sl a 5) = d119 at *
    generalize slA (sl a 8) = B120 at *
    generalize slC (sl a 8) = d121 at *
    generalize slA (sl a 9) = B122 at *
    generalize slA (sl a 12) = B123 at *
    generalize slC (sl a 12) = d124 at *
    have hF := hF.region hB [(3, .pointer (some ⟨g101, 0, none⟩)), (4, .slice A0 x0.length c0), (5, .slice B118 p103.length d119), (6, .pointer (some ⟨g101, 1, none⟩)), (7, .slice A1 x1.length c1), (8, .slice B120 p107.length d121), (9, .slice B122 0 0), (10, .pointer (some ⟨g101, 2, none⟩)), (11, .slice A2 x2.length c2), (12, .slice B123 (([] ++ x2).length) d124), (13, .agg #[.slice B118 p103.length d119, .slice B120 p107.length d121, .slice B123 (([] ++ x2).length) d124])] (allSl_mem ⟨e3, e4, e5, e6, e7, e8, e9, e10, e11, e12, e13, trivial⟩) rfl
    clear hB e3 e4 e5 e6 e7 e8 e9 e10 e11 e12 e13
    refine wp_ret ?_
    repeat with_reducible (first | refine then_ret ?_ | refine in_ret ?_ | refine in_nrm ?_)
    refine ret1_gw (.inl rfl) hF rfl (res_cell (hF.ev rfl) (res_loadN ag26 rfl (S.cells 3 rfl 0 #[.slice B118 p103.length d119, .slice B120 p107.length d121, .slice B123 (([] ++ x2).length) d124] rfl))) ?_
    obtain rfl := Option.some.inj hM
    exact ⟨B118, p103.length, d119, B120, p107.length, d121, B123, (([] ++ x2).length), d124, rfl, rfl, rfl, rfl, S.sel [0, 1, 2] rfl rfl⟩

set_option maxHeartbeats 4000000 in
theorem c_spec_WorkHeld {x0 : List Bool} {x1 : List Bool} {x2 : List (Int × Int)} {x3 : Int} {A0 : Option Addr} {n0 c0 : Nat} {A1 : Option Addr} {n1 c1 : Nat} {A2 : Option Addr} {n2 c2 : Nat} {w : World} {r : List Int} (h0 : Rt w 1 eB A0 n0 c0 x0) (h1 : Rt w 1 eB A1 n1 c1 x1) (h2 : Rt w 2 ePermit A2 n2 c2 x2) (hM : m_spec_WorkHeld x0 x1 x2 x3 = some r) :
    Calls Tryd.prog 10 #[.agg #[.slice A0 n0 c0, .slice A1 n1 c1, .slice A2 n2 c2], .int .i64 x3] w (fun e w' => ∃ (B0 : Option Addr) (N0 D0 : Nat), e = .returned (.slice B0 N0 D0) ∧ N0 = r.length ∧ St w w' [.row 3 1 (.slice B0 N0 D0) N0 (r.flatMap eI)]) := by
  obtain rfl := h0.len
  obtain rfl := h1.len
  obtain rfl := h2.len
  unfold m_spec_WorkHeld at hM
  refine calls_gw Tryd.func10 Tryd.ntmps10 rfl [(0, .agg #[.slice A0 x0.length c0, .slice A1 x1.length c1, .slice A2 x2.length c2]), (1, .int .i64 x3)] ⟨rfl, rfl, trivial⟩ rfl ?_
  intro a hF
  have S := St.nil w
  refine wp_seq ?_
  refine wp_region_lit ?_
  refine op_new (cs := #[.slice A0 x0.length c0, .slice A1 x1.length c1, .slice A2 x2.length c2]) rfl rfl hF rfl S (run_box rfl (hF.ev rfl) rfl) ?_; clear hF S; intro a g101 u hF S
  refine op_val (v := .slice none 0 0) rfl rfl hF rfl (run_assign rfl rfl) ?_; clear hF; intro a hF
  refine wpList_nil ?_
  refine wp_seq ?_
  refine wp_region_lit ?_
  refine op_newrow (cs := #[]) (size := 1) rfl rfl hF rfl S (run_buildSlice0 rfl Tryd.underlying29 (congrArg Option.isSome sz3)) rfl (Nat.zero_le _) ?_; clear hF S; intro a g102 u hF S
  refine op_val (v := .slice (some ⟨g102, 0, none⟩) 0 0) rfl rfl hF rfl (run_assign rfl (hF.ev rfl)) ?_; clear hF; intro a hF
  refine wpList_nil ?_
  refine wp_seq ?_
  refine wp_seq ?_
  refine wp_region_lit ?_
  refine op_val (v := .int .i64 0) rfl rfl hF rfl (run_assign rfl rfl) ?_; clear hF; intro a hF
  refine wpList_nil ?_
  obtain ⟨o104, hM107, hM⟩ := bind_ex hM
  refine wp_cut (fun a u => ∃ (p103 : List Int) (B105 : Option Addr) (d106 : Nat), p103 = o104 ∧ Fr a 37 [(4, .slice none 0 0), (5, .slice B105 p103.length d106)] ∧ St w u [.row 3 1 (.slice B105 p103.length d106) p103.length (p103.flatMap eI)]) ?_ ?_
  · have _ := trivial
    refine wp_block ?_
    refine loop_gw (fun m a u => ∃ (p108 : List Int × Int) (B109 : Option Addr) (d110 : Nat), m_spec_WorkHeld_l1 x0 x1 x2 x3 m p108 = some _ ∧ Fr a 37 [(1, .int .i64 x3), (2, .pointer (some ⟨g101, 0, none⟩)), (4, .slice none 0 0), (5, .slice B109 p108.1.length d110), (6, .int .i64 p108.2)] ∧ St w u [.box g101 26 #[.slice A0 x0.length c0, .slice A1 x1.length c1, .slice A2 x2.length c2], .row 3 1 (.slice B109 p108.1.length d110) p108.1.length (p108.1.flatMap eI)]) FUEL ⟨(([] : List Int), 0), (some ⟨g102, 0, none⟩), 0, hM107, hF.keep _ ⟨rfl, rfl, rfl, rfl, rfl, trivial⟩, S.sel [1, 0] rfl rfl⟩ ?_
    clear hF S hM107; rintro m a u ⟨p108, B109, d110, hM107, hF, S⟩
    rcases m with _ | f1
    · exact none_some hM107
    rw [m_spec_WorkHeld_l1.eq_2] at hM107
    refine wp_seq ?_
    refine wp_seq ?_
    refine wp_region_lit ?_
    refine op_val (v := .int .i64 p108.2) rfl rfl hF rfl (run_move rfl (hF.ev rfl)) ?_; clear hF; intro a hF
    refine op_val (v := .pointer (some ⟨g101, 2, none⟩)) rfl rfl hF rfl (run_fieldAddr rfl fl26_2 (hF.ev rfl) rfl) ?_; clear hF; intro a hF
    refine op_val (v := .slice A2 x2.length c2) rfl rfl hF rfl (run_load1 rfl one24 (hF.ev rfl) ((S.free 0 rfl).cell rfl)) ?_; clear hF; intro a hF
    refine op_val (v := .int .i64 (x2.length : Int)) rfl rfl hF rfl (run_lenL rfl rfl Tryd.underlying24 (hF.ev rfl)) ?_; clear hF; intro a hF
    refine op_val (v := .bool (ltB p108.2 (x2.length : Int))) rfl rfl hF rfl (run_lss (hF.ev rfl) (hF.ev rfl) rfl) ?_; clear hF; intro a hF
    refine op_val (v := .bool (ltB p108.2 (x2.length : Int))) rfl rfl hF rfl (run_move rfl (hF.ev rfl)) ?_; clear hF; intro a hF
    refine op_gv (v := .agg #[.slice A0 x0.length c0, .slice A1 x1.length c1, .slice A2 x2.length c2]) rfl rfl hF rfl (yt (gw_yield hF rfl rfl rfl)) (fun hg => (run_loadN rfl ag26 (hF.ev rfl) rfl ((S.free 0 rfl).cells 0 #[.slice A0 x0.length c0, .slice A1 x1.length c1, .slice A2 x2.length c2] rfl))) ?_; clear hF; intro a hF
    obtain ⟨p111, h111, hM107⟩ := bind_ex hM107
    refine op_gcall (v := .bool p111) rfl rfl hF rfl S (yt (gw_yield hF rfl rfl rfl)) (fun hg => (run_call (vs := [.agg #[.slice A0 x0.length c0, .slice A1 x1.length c1, .slice A2 x2.length c2]]) rfl rfl co21 ⟨((hF.ev rfl).trans (gv_t hg)), trivial⟩)) (fun hg => c_spec_WorkValid (x0 := x0) (x1 := x1) (x2 := x2) ⟨(S.rc0 h0.rc), rfl⟩ ⟨(S.rc0 h1.rc), rfl⟩ ⟨(S.rc0 h2.rc), rfl⟩ (gb_t h111 hg)) ?_; clear hF S; intro a u hF S
    refine op_val (v := .bool ((ltB p108.2 (x2.length : Int)) && p111)) rfl rfl hF rfl (run_pick_and rfl (hF.ev rfl) (fun hp => ((hF.ev rfl).trans (gv_t hp))) rfl) ?_; clear hF; intro a hF
    refine wpList_nil ?_
    cases hc112 : ((ltB p108.2 (x2.length : Int)) && p111)
    · replace hM107 := bif_f hc112 hM107
      refine cond_f hF rfl hc112 ?_
      refine wp_exit ?_
      repeat with_reducible (first | refine then_exit ?_ | refine in_hit ?_ | refine in_miss rfl ?_)
      obtain rfl := Option.some.inj hM107
      exact ⟨p108.1, B109, d110, rfl, hF.keep _ ⟨rfl, rfl, trivial⟩, S.sel [1] rfl rfl⟩
    · replace hM107 := bif_t hc112 hM107
      refine cond_t hF rfl hc112 ?_
      refine wp_skip ?_
      refine wp_seq ?_
      refine wp_block ?_
      refine wp_seq ?_
      refine wp_region_lit ?_
      refine op_val (v := .pointer (some ⟨g101, 2, none⟩)) rfl rfl hF rfl (run_fieldAddr rfl fl26_2 (hF.ev rfl) rfl) ?_; clear hF; intro a hF
      refine op_val (v := .slice A2 x2.length c2) rfl rfl hF rfl (run_load1 rfl one24 (hF.ev rfl) ((S.free 0 rfl).cell rfl)) ?_; clear hF; intro a hF
      refine op_val (v := .int .i64 p108.2) rfl rfl hF rfl (run_move rfl (hF.ev rfl)) ?_; clear hF; intro a hF
      obtain ⟨hk113, hM107⟩ := chk_ex hM107
      replace hk113 := ixB_t hk113
      refine op_val (v := .pointer (some ⟨adB A2, adO A2 + p108.2.toNat * 2, none⟩)) rfl rfl hF rfl (run_indexAddr (b := adB A2) (off := adO A2) rfl Tryd.underlying24 sz48 ((hF.ev rfl).trans (congrArg (fun A => Value.slice A x2.length c2) ((S.rc0 h2.rc).rd.ad (ix_pos hk113)))) (hF.ev rfl) hk113.1 hk113.2 (k' := adO A2 + p108.2.toNat * 2) rfl) ?_; clear hF; intro a hF
      refine op_val (v := .pointer (some ⟨adB A2, adO A2 + p108.2.toNat * 2 + 1, none⟩)) rfl rfl hF rfl (run_fieldAddr rfl fl48_1 (hF.ev rfl) rfl) ?_; clear hF; intro a hF
      refine op_val (v := .int .i64 ((x2.getD p108.2.toNat ((0, 0) : Int × Int)).2)) rfl rfl hF rfl (run_load1 rfl one3 (hF.ev rfl) (rd_el (l := x2) (S.rc0 h2.rc).rd rfl ePermit_len ((0, 0) : Int × Int) (ix_ltn hk113 rfl) rfl)) ?_; clear hF; intro a hF
      refine op_val (v := .int .i64 x3) rfl rfl hF rfl (run_move rfl (hF.ev rfl)) ?_; clear hF; intro a hF
      refine op_val (v := .bool (((x2.getD p108.2.toNat ((0, 0) : Int × Int)).2) == x3)) rfl rfl hF rfl (run_eql (hF.ev rfl) (hF.ev rfl) rfl) ?_; clear hF; intro a hF
      refine wpList_nil ?_
      obtain ⟨o115, hM118, hM107⟩ := bind_ex hM107
      refine wp_cut (fun a u => ∃ (p114 : List Int) (B116 : Option Addr) (d117 : Nat), p114 = o115 ∧ Fr a 37 [(1, .int .i64 x3), (2, .pointer (some ⟨g101, 0, none⟩)), (4, .slice none 0 0), (5, .slice B116 p114.length d117), (6, .int .i64 p108.2)] ∧ St w u [.box g101 26 #[.slice A0 x0.length c0, .slice A1 x1.length c1, .slice A2 x2.length c2], .row 3 1 (.slice B116 p114.length d117) p114.length (p114.flatMap eI)]) ?_ ?_
      · have _ := trivial
        cases hc119 : (((x2.getD p108.2.toNat ((0, 0) : Int × Int)).2) == x3)
        · replace hM118 := bif_f hc119 hM118
          refine cond_f hF rfl hc119 ?_
          refine wp_skip ?_
          obtain rfl := Option.some.inj hM118
          exact ⟨p108.1, B109, d110, rfl, hF.keep _ ⟨rfl, rfl, rfl, rfl, rfl, trivial⟩, S.sel [0, 1] rfl rfl⟩
        · replace hM118 := bif_t hc119 hM118
          refine cond_t hF rfl hc119 ?_
          refine wp_region_lit ?_
          refine op_val (v := .slice B109 p108.1.length d110) rfl rfl hF rfl (run_move rfl (hF.ev rfl)) ?_; clear hF; intro a hF
          refine op_val (v := .pointer (some ⟨g101, 2, none⟩)) rfl rfl hF rfl (run_fieldAddr rfl fl26_2 (hF.ev rfl) rfl) ?_; clear hF; intro a hF
          refine op_val (v := .slice A2 x2.length c2) rfl rfl hF rfl (run_load1 rfl one24 (hF.ev rfl) ((S.free 0 rfl).cell rfl)) ?_; clear hF; intro a hF
          refine op_val (v := .int .i64 p108.2) rfl rfl hF rfl (run_move rfl (hF.ev rfl)) ?_; clear hF; intro a hF
          obtain ⟨hk120, hM118⟩ := chk_ex hM118
          replace hk120 := ixB_t hk120
          refine op_val (v := .pointer (some ⟨adB A2, adO A2 + p108.2.toNat * 2, none⟩)) rfl rfl hF rfl (run_indexAddr (b := adB A2) (off := adO A2) rfl Tryd.underlying24 sz48 ((hF.ev rfl).trans (congrArg (fun A => Value.slice A x2.length c2) ((S.rc0 h2.rc).rd.ad (ix_pos hk120)))) (hF.ev rfl) hk120.1 hk120.2 (k' := adO A2 + p108.2.toNat * 2) rfl) ?_; clear hF; intro a hF
          refine op_val (v := .pointer (some ⟨adB A2, adO A2 + p108.2.toNat * 2, none⟩)) rfl rfl hF rfl (run_fieldAddr rfl fl48_0 (hF.ev rfl) rfl) ?_; clear hF; intro a hF
          refine op_val (v := .int .i64 ((x2.getD p108.2.toNat ((0, 0) : Int × Int)).1)) rfl rfl hF rfl (run_load1 rfl one3 (hF.ev rfl) (rd_el0 (l := x2) (S.rc0 h2.rc).rd rfl ePermit_len ((0, 0) : Int × Int) (ix_ltn hk120 rfl) rfl)) ?_; clear hF; intro a hF
          refine op_newrowL (ls := (([(x2.getD p108.2.toNat ((0, 0) : Int × Int)).1] : List Int) : List Int)) (e := eI) rfl rfl hF rfl S (run_buildS (vs := [(0, .int .i64 ((x2.getD p108.2.toNat ((0, 0) : Int × Int)).1))]) rfl ⟨⟨rfl, (hF.ev rfl)⟩, trivial⟩ (bs29_1_0 rfl)) rfl eI_len (Nat.le_of_ble_eq_true rfl) ?_; clear hF S; intro a g121 u hF S
          obtain ⟨hk124, hM118⟩ := chk_ex hM118
          replace hk124 := apB_t hk124
          refine op_appendL (lx := p108.1) (ly := ([(x2.getD p108.2.toNat ((0, 0) : Int × Int)).1] : List Int)) rfl rfl hF rfl S rfl (hF.ev rfl) (hF.ev rfl) (i := 2) rfl rfl Tryd.underlying29 inf3 rfl (by decide) (S.rc 0 rfl).rd rfl eI_one hk124 (by decide) ?_; clear hF S; intro a B122 d123 u hF S
          refine op_val (v := .slice B122 ((p108.1 ++ ([(x2.getD p108.2.toNat ((0, 0) : Int × Int)).1] : List Int)).length) d123) rfl rfl hF rfl (run_assign rfl (hF.ev rfl)) ?_; clear hF; intro a hF
          refine wpList_nil ?_
          obtain rfl := Option.some.inj hM118
          exact ⟨p108.1 ++ ([(x2.getD p108.2.toNat ((0, 0) : Int × Int)).1] : List Int), B122, d123, rfl, hF.keep _ ⟨rfl, rfl, rfl, rfl, rfl, trivial⟩, S.sel [1, 2] rfl rfl⟩
      · rintro a u ⟨p114, B116, d117, rfl, hF, S⟩
        refine wp_region_lit ?_
        refine op_val (v := .int .i64 p108.2) rfl rfl hF rfl (run_move rfl (hF.ev rfl)) ?_; clear hF; intro a hF
        refine op_val (v := .int .i64 (w64 (p108.2 + 1))) rfl rfl hF rfl (run_add (z := w64 (p108.2 + 1)) (hF.ev rfl) rfl rfl rfl) ?_; clear hF; intro a hF
        refine op_val (v := .int .i64 (w64 (p108.2 + 1))) rfl rfl hF rfl (run_assign rfl (hF.ev rfl)) ?_; clear hF; intro a hF
        refine wpList_nil ?_
        exact ⟨f1, Nat.lt_succ_self _, (p114, w64 (p108.2 + 1)), B116, d117, hM107, hF.keep _ ⟨rfl, rfl, rfl, rfl, rfl, trivial⟩, S.sel [0, 1] rfl rfl⟩
  · rintro a u ⟨p103, B105, d106, rfl, hF, S⟩
    refine wp_seq ?_
    refine wp_region_lit ?_
    refine op_val (v := .slice B105 p103.length d106) rfl rfl hF rfl (run_move rfl (hF.ev rfl)) ?_; clear hF; intro a hF
    refine op_val (v := .slice B105 p103.length d106) rfl rfl hF rfl (run_assign rfl (hF.ev rfl)) ?_; clear hF; intro a hF
    refine wpList_nil ?_
    refine wp_ret ?_
    repeat with_reducible (first | refine then_ret ?_ | refine in_ret ?_ | refine in_nrm ?_)
    refine ret1_gw (.inl rfl) hF rfl (res_tmp (hF.ev rfl)) ?_
    obtain rfl := Option.some.inj hM
    exact ⟨B105, p103.length, d106, rfl, rfl, S.sel [0] rfl rfl⟩

set_option maxHeartbeats 4000000 in
theorem c_spec_l12May {x0 : List Bool} {x1 : List Bool} {x2 : List (Int × Int)} {x3 : Int} {x4 : Int} {x5 : Int} {A0 : Option Addr} {n0 c0 : Nat} {A1 : Option Addr} {n1 c1 : Nat} {A2 : Option Addr} {n2 c2 : Nat} {w : World} {r : Bool} (h0 : Rt w 1 eB A0 n0 c0 x0) (h1 : Rt w 1 eB A1 n1 c1 x1) (h2 : Rt w 2 ePermit A2 n2 c2 x2) (hM : m_spec_l12May x0 x1 x2 x3 x4 x5 = some r) :
    Calls Tryd.prog 39 #[.agg #[.slice A0 n0 c0, .slice A1 n1 c1, .slice A2 n2 c2], .agg #[.int .i64 x3, .int .i64 x4, .int .i64 x5]] w (fun e w' => e = .returned (.bool r) ∧ St w w' []) := by
  obtain rfl := h0.len
  obtain rfl := h1.len
  obtain rfl := h2.len
  unfold m_spec_l12May at hM
  refine calls_gw Tryd.func39 Tryd.ntmps39 rfl [(0, .agg #[.slice A0 x0.length c0, .slice A1 x1.length c1, .slice A2 x2.length c2]), (1, .agg #[.int .i64 x3, .int .i64 x4, .int .i64 x5])] ⟨rfl, rfl, trivial⟩ rfl ?_
  intro a hF
  have S := St.nil w
  refine wp_seq ?_
  refine wp_region_lit ?_
  refine op_new (cs := #[.slice A0 x0.length c0, .slice A1 x1.length c1, .slice A2 x2.length c2]) rfl rfl hF rfl S (run_box rfl (hF.ev rfl) rfl) ?_; clear hF S; intro a g101 u hF S
  refine op_new (cs := #[.int .i64 x3, .int .i64 x4, .int .i64 x5]) rfl rfl hF rfl S (run_box rfl (hF.ev rfl) rfl) ?_; clear hF S; intro a g102 u hF S
  refine op_val (v := .bool false) rfl rfl hF rfl (run_assign rfl rfl) ?_; clear hF; intro a hF
  refine wpList_nil ?_
  refine wp_seq ?_
  refine wp_region_lit ?_
  refine op_val (v := .pointer (some ⟨g101, 2, none⟩)) rfl rfl hF rfl (run_fieldAddr rfl fl26_2 (hF.ev rfl) rfl) ?_; clear hF; intro a hF
  refine op_val (v := .slice A2 x2.length c2) rfl rfl hF rfl (run_load1 rfl one24 (hF.ev rfl) ((S.free 1 rfl).cell rfl)) ?_; clear hF; intro a hF
  refine op_val (v := .pointer (some ⟨g102, 2, none⟩)) rfl rfl hF rfl (run_fieldAddr rfl fl35_2 (hF.ev rfl) rfl) ?_; clear hF; intro a hF
  refine op_val (v := .int .i64 x5) rfl rfl hF rfl (run_load1 rfl one3 (hF.ev rfl) ((S.free 0 rfl).cell rfl)) ?_; clear hF; intro a hF
  refine op_val (v := .pointer (some ⟨g102, 1, none⟩)) rfl rfl hF rfl (run_fieldAddr rfl fl35_1 (hF.ev rfl) rfl) ?_; clear hF; intro a hF
  refine op_val (v := .int .i64 x4) rfl rfl hF rfl (run_load1 rfl one3 (hF.ev rfl) ((S.free 0 rfl).cell rfl)) ?_; clear hF; intro a hF
  refine op_val (v := .agg #[.int .i64 x5, .int .i64 x4]) rfl rfl hF rfl (run_build (vs := [(0, .int .i64 x5), (1, .int .i64 x4)]) rfl ⟨⟨rfl, (hF.ev rfl)⟩, ⟨rfl, (hF.ev rfl)⟩, trivial⟩ (bd48_0_1 rfl rfl)) ?_; clear hF; intro a hF
  obtain ⟨p103, h103, hM⟩ := bind_ex hM
  refine op_call rfl rfl hF rfl (run_call (vs := [.slice A2 x2.length c2, .agg #[.int .i64 x5, .int .i64 x4]]) rfl rfl co40 ⟨(hF.ev rfl), (hF.ev rfl), trivial⟩) (c_spec_l12Find (x0 := x2) (x1 := x5) (x2 := x4) ⟨(S.rc0 h2.rc), rfl⟩ h103) ?_
  rintro e u ⟨rfl, T⟩
  refine ⟨_, rfl, ?_⟩
  clear hF; intro a hF
  replace S := S.call0 T; clear T
  refine op_val (v := .int .i64 p103) rfl rfl hF rfl (run_assign rfl (hF.ev rfl)) ?_; clear hF; intro a hF
  refine wpList_nil ?_
  refine wp_seq ?_
  refine wp_seq ?_
  refine wp_region_lit ?_
  refine op_val (v := .pointer (some ⟨g102, 0, none⟩)) rfl rfl hF rfl (run_fieldAddr rfl fl35_0 (hF.ev rfl) rfl) ?_; clear hF; intro a hF
  refine op_val (v := .int .i64 x3) rfl rfl hF rfl (run_load1 rfl one3 (hF.ev rfl) ((S.free 0 rfl).cell rfl)) ?_; clear hF; intro a hF
  refine wpList_nil ?_
  refine wp_block ?_
  refine wp_seq ?_
  refine wp_region_lit ?_
  refine op_val (v := .bool (x3 == 0)) rfl rfl hF rfl (run_eql (hF.ev rfl) rfl rfl) ?_; clear hF; intro a hF
  refine op_val (v := .bool (x3 == 0)) rfl rfl hF rfl (run_assign rfl (hF.ev rfl)) ?_; clear hF; intro a hF
  refine wpList_nil ?_
  cases hc104 : (x3 == 0)
  · replace hM := bif_f hc104 hM
    refine cond_f hF rfl hc104 ?_
    refine wp_seq ?_
    refine wp_region_lit ?_
    refine op_val (v := .bool (x3 == 1)) rfl rfl hF rfl (run_eql (hF.ev rfl) rfl rfl) ?_; clear hF; intro a hF
    refine op_val (v := .bool (x3 == 1)) rfl rfl hF rfl (run_assign rfl (hF.ev rfl)) ?_; clear hF; intro a hF
    refine wpList_nil ?_
    cases hc105 : (x3 == 1)
    · replace hM := bif_f hc105 hM
      refine cond_f hF rfl hc105 ?_
      refine wp_seq ?_
      refine wp_region_lit ?_
      refine op_val (v := .bool (x3 == 2)) rfl rfl hF rfl (run_eql (hF.ev rfl) rfl rfl) ?_; clear hF; intro a hF
      refine op_val (v := .bool (x3 == 2)) rfl rfl hF rfl (run_assign rfl (hF.ev rfl)) ?_; clear hF; intro a hF
      refine wpList_nil ?_
      cases hc106 : (x3 == 2)
      · replace hM := bif_f hc106 hM
        refine cond_f hF rfl hc106 ?_
        refine wp_seq ?_
        refine wp_region_lit ?_
        refine op_val (v := .bool (x3 == 3)) rfl rfl hF rfl (run_eql (hF.ev rfl) rfl rfl) ?_; clear hF; intro a hF
        refine op_val (v := .bool (x3 == 3)) rfl rfl hF rfl (run_assign rfl (hF.ev rfl)) ?_; clear hF; intro a hF
        refine wpList_nil ?_
        cases hc107 : (x3 == 3)
        · replace hM := bif_f hc107 hM
          refine cond_f hF rfl hc107 ?_
          refine wp_seq ?_
          refine wp_region_lit ?_
          refine op_val (v := .bool (x3 == 4)) rfl rfl hF rfl (run_eql (hF.ev rfl) rfl rfl) ?_; clear hF; intro a hF
          refine op_val (v := .bool (x3 == 4)) rfl rfl hF rfl (run_assign rfl (hF.ev rfl)) ?_; clear hF; intro a hF
          refine wpList_nil ?_
          cases hc108 : (x3 == 4)
          · replace hM := bif_f hc108 hM
            refine cond_f hF rfl hc108 ?_
            refine wp_seq ?_
            refine wp_region_lit ?_
            refine op_val (v := .bool (x3 == 5)) rfl rfl hF rfl (run_eql (hF.ev rfl) rfl rfl) ?_; clear hF; intro a hF
            refine op_val (v := .bool (x3 == 5)) rfl rfl hF rfl (run_assign rfl (hF.ev rfl)) ?_; clear hF; intro a hF
            refine wpList_nil ?_
            cases hc109 : (x3 == 5)
            · replace hM := bif_f hc109 hM
              refine cond_f hF rfl hc109 ?_
              refine wp_skip ?_
              refine wp_seq ?_
              refine wp_region_lit ?_
              refine op_val (v := .bool false) rfl rfl hF rfl (run_assign rfl rfl) ?_; clear hF; intro a hF
              refine wpList_nil ?_
              refine wp_ret ?_
              repeat with_reducible (first | refine then_ret ?_ | refine in_ret ?_ | refine in_nrm ?_)
              refine ret1_gw (.inl rfl) hF rfl (res_tmp (hF.ev rfl)) ?_
              obtain rfl := Option.some.inj hM
              exact ⟨rfl, S.sel [] rfl rfl⟩
            · replace hM := bif_t hc109 hM
              refine cond_t hF rfl hc109 ?_
              refine wp_seq ?_
              refine wp_region_lit ?_
              refine op_val (v := .int .i64 p103) rfl rfl hF rfl (run_move rfl (hF.ev rfl)) ?_; clear hF; intro a hF
              refine op_val (v := .bool (leB 0 p103)) rfl rfl hF rfl (run_geq (hF.ev rfl) rfl rfl) ?_; clear hF; intro a hF
              refine op_val (v := .bool (leB 0 p103)) rfl rfl hF rfl (run_assign rfl (hF.ev rfl)) ?_; clear hF; intro a hF
              refine wpList_nil ?_
              refine wp_ret ?_
              repeat with_reducible (first | refine then_ret ?_ | refine in_ret ?_ | refine in_nrm ?_)
              refine ret1_gw (.inl rfl) hF rfl (res_tmp (hF.ev rfl)) ?_
              obtain rfl := Option.some.inj hM
              exact ⟨rfl, S.sel [] rfl rfl⟩
          · replace hM := bif_t hc108 hM
            refine cond_t hF rfl hc108 ?_
            refine wp_seq ?_
            refine wp_region_lit ?_
            refine op_val (v := .pointer (some ⟨g101, 1, none⟩)) rfl rfl hF rfl (run_fieldAddr rfl fl26_1 (hF.ev rfl) rfl) ?_; clear hF; intro a hF
            refine op_val (v := .slice A1 x1.length c1) rfl rfl hF rfl (run_load1 rfl one23 (hF.ev rfl) ((S.free 1 rfl).cell rfl)) ?_; clear hF; intro a hF
            refine op_val (v := .pointer (some ⟨g102, 1, none⟩)) rfl rfl hF rfl (run_fieldAddr rfl fl35_1 (hF.ev rfl) rfl) ?_; clear hF; intro a hF
            refine op_val (v := .int .i64 x4) rfl rfl hF rfl (run_load1 rfl one3 (hF.ev rfl) ((S.free 0 rfl).cell rfl)) ?_; clear hF; intro a hF
            obtain ⟨hk110, hM⟩ := chk_ex hM
            replace hk110 := ixB_t hk110
            refine op_val (v := .pointer (some ⟨adB A1, adO A1 + x4.toNat * 1, none⟩)) rfl rfl hF rfl (run_indexAddr (b := adB A1) (off := adO A1) rfl Tryd.underlying23 sz4 ((hF.ev rfl).trans (congrArg (fun A => Value.slice A x1.length c1) ((S.rc0 h1.rc).rd.ad (ix_pos hk110)))) (hF.ev rfl) hk110.1 hk110.2 (k' := adO A1 + x4.toNat * 1) rfl) ?_; clear hF; intro a hF
            refine op_val (v := .bool (x1.getD x4.toNat false)) rfl rfl hF rfl (run_load1 rfl one4 (hF.ev rfl) (rd_el0 (l := x1) (S.rc0 h1.rc).rd rfl eB_len false (ix_ltn hk110 rfl) rfl)) ?_; clear hF; intro a hF
            refine op_val (v := .bool (x1.getD x4.toNat false)) rfl rfl hF rfl (run_move rfl (hF.ev rfl)) ?_; clear hF; intro a hF
            refine op_gv (v := .pointer (some ⟨g102, 2, none⟩)) rfl rfl hF rfl (yt (gw_yield hF rfl rfl rfl)) (fun hg => (run_fieldAddr rfl fl35_2 (hF.ev rfl) rfl)) ?_; clear hF; intro a hF
            refine op_gv (v := .int .i64 x5) rfl rfl hF rfl (yt (gw_yield hF rfl rfl rfl)) (fun hg => (run_load1 rfl one3 ((hF.ev rfl).trans (gv_t hg)) ((S.free 0 rfl).cell rfl))) ?_; clear hF; intro a hF
            obtain ⟨p111, h111, hM⟩ := bind_ex hM
            refine op_gcall (v := .bool p111) rfl rfl hF rfl S (yt (gw_yield hF rfl rfl rfl)) (fun hg => (run_call (vs := [.int .i64 x5, .int .i64 0, .int .i64 9]) rfl rfl co38 ⟨((hF.ev rfl).trans (gv_t hg)), rfl, rfl, trivial⟩)) (fun hg => c_spec_l1In (x0 := x5) (x1 := 0) (x2 := 9)  (gb_t h111 hg)) ?_; clear hF S; intro a u hF S
            refine op_val (v := .bool ((x1.getD x4.toNat false) && p111)) rfl rfl hF rfl (run_pick_and rfl (hF.ev rfl) (fun hp => ((hF.ev rfl).trans (gv_t hp))) rfl) ?_; clear hF; intro a hF
            refine op_val (v := .bool ((x1.getD x4.toNat false) && p111)) rfl rfl hF rfl (run_move rfl (hF.ev rfl)) ?_; clear hF; intro a hF
            refine op_gv (v := .int .i64 p103) rfl rfl hF rfl (yt (gw_yield hF rfl rfl rfl)) (fun hg => (run_move rfl (hF.ev rfl))) ?_; clear hF; intro a hF
            refine op_gv (v := .bool (ltB p103 0)) rfl rfl hF rfl (yt (gw_yield hF rfl rfl rfl)) (fun hg => (run_lss ((hF.ev rfl).trans (gv_t hg)) rfl rfl)) ?_; clear hF; intro a hF
            refine op_val (v := .bool (((x1.getD x4.toNat false) && p111) && (ltB p103 0))) rfl rfl hF rfl (run_pick_and rfl (hF.ev rfl) (fun hp => ((hF.ev rfl).trans (gv_t hp))) rfl) ?_; clear hF; intro a hF
            refine op_val (v := .bool (((x1.getD x4.toNat false) && p111) && (ltB p103 0))) rfl rfl hF rfl (run_move rfl (hF.ev rfl)) ?_; clear hF; intro a hF
            refine op_gv (v := .pointer (some ⟨g101, 2, none⟩)) rfl rfl hF rfl (yt (gw_yield hF rfl rfl rfl)) (fun hg => (run_fieldAddr rfl fl26_2 (hF.ev rfl) rfl)) ?_; clear hF; intro a hF
            refine op_gv (v := .slice A2 x2.length c2) rfl rfl hF rfl (yt (gw_yield hF rfl rfl rfl)) (fun hg => (run_load1 rfl one24 ((hF.ev rfl).trans (gv_t hg)) ((S.free 1 rfl).cell rfl))) ?_; clear hF; intro a hF
            refine op_gv (v := .int .i64 (x2.length : Int)) rfl rfl hF rfl (yt (gw_yield hF rfl rfl rfl)) (fun hg => (run_lenL rfl rfl Tryd.underlying24 ((hF.ev rfl).trans (gv_t hg)))) ?_; clear hF; intro a hF
            refine op_gv (v := .bool (ltB (x2.length : Int) 6)) rfl rfl hF rfl (yt (gw_yield hF rfl rfl rfl)) (fun hg => (run_lss ((hF.ev rfl).trans (gv_t hg)) rfl rfl)) ?_; clear hF; intro a hF
            refine op_val (v := .bool ((((x1.getD x4.toNat false) && p111) && (ltB p103 0)) && (ltB (x2.length : Int) 6))) rfl rfl hF rfl (run_pick_and rfl (hF.ev rfl) (fun hp => ((hF.ev rfl).trans (gv_t hp))) rfl) ?_; clear hF; intro a hF
            refine op_val (v := .bool ((((x1.getD x4.toNat false) && p111) && (ltB p103 0)) && (ltB (x2.length : Int) 6))) rfl rfl hF rfl (run_assign rfl (hF.ev rfl)) ?_; clear hF; intro a hF
            refine wpList_nil ?_
            refine wp_ret ?_
            repeat with_reducible (first | refine then_ret ?_ | refine in_ret ?_ | refine in_nrm ?_)
            refine ret1_gw (.inl rfl) hF rfl (res_tmp (hF.ev rfl)) ?_
            obtain rfl := Option.some.inj hM
            exact ⟨rfl, S.sel [] rfl rfl⟩
        · replace hM := bif_t hc107 hM
          refine cond_t hF rfl hc107 ?_
          refine wp_seq ?_
          obtain ⟨o113, hM114, hM⟩ := bind_ex hM
          refine wp_cut (fun a u => ∃ (p112 : Bool), p112 = o113 ∧ Fr a 103 [(4, .bool p112)] ∧ St w u []) ?_ ?_
          · have _ := trivial
            refine wp_region_lit ?_
            refine op_val (v := .pointer (some ⟨g101, 1, none⟩)) rfl rfl hF rfl (run_fieldAddr rfl fl26_1 (hF.ev rfl) rfl) ?_; clear hF; intro a hF
            refine op_val (v := .slice A1 x1.length c1) rfl rfl hF rfl (run_load1 rfl one23 (hF.ev rfl) ((S.free 1 rfl).cell rfl)) ?_; clear hF; intro a hF
            refine op_val (v := .pointer (some ⟨g102, 1, none⟩)) rfl rfl hF rfl (run_fieldAddr rfl fl35_1 (hF.ev rfl) rfl) ?_; clear hF; intro a hF
            refine op_val (v := .int .i64 x4) rfl rfl hF rfl (run_load1 rfl one3 (hF.ev rfl) ((S.free 0 rfl).cell rfl)) ?_; clear hF; intro a hF
            obtain ⟨hk115, hM114⟩ := chk_ex hM114
            replace hk115 := ixB_t hk115
            refine op_val (v := .pointer (some ⟨adB A1, adO A1 + x4.toNat * 1, none⟩)) rfl rfl hF rfl (run_indexAddr (b := adB A1) (off := adO A1) rfl Tryd.underlying23 sz4 ((hF.ev rfl).trans (congrArg (fun A => Value.slice A x1.length c1) ((S.rc0 h1.rc).rd.ad (ix_pos hk115)))) (hF.ev rfl) hk115.1 hk115.2 (k' := adO A1 + x4.toNat * 1) rfl) ?_; clear hF; intro a hF
            refine op_val (v := .bool (x1.getD x4.toNat false)) rfl rfl hF rfl (run_load1 rfl one4 (hF.ev rfl) (rd_el0 (l := x1) (S.rc0 h1.rc).rd rfl eB_len false (ix_ltn hk115 rfl) rfl)) ?_; clear hF; intro a hF
            refine op_val (v := .bool (x1.getD x4.toNat false)) rfl rfl hF rfl (run_move rfl (hF.ev rfl)) ?_; clear hF; intro a hF
            refine op_gv (v := .agg #[.slice A0 x0.length c0, .slice A1 x1.length c1, .slice A2 x2.length c2]) rfl rfl hF rfl (yt (gw_yield hF rfl rfl rfl)) (fun hg => (run_loadN rfl ag26 (hF.ev rfl) rfl ((S.free 1 rfl).cells 0 #[.slice A0 x0.length c0, .slice A1 x1.length c1, .slice A2 x2.length c2] rfl))) ?_; clear hF; intro a hF
            refine op_gv (v := .pointer (some ⟨g102, 1, none⟩)) rfl rfl hF rfl (yt (gw_yield hF rfl rfl rfl)) (fun hg => (run_fieldAddr rfl fl35_1 (hF.ev rfl) rfl)) ?_; clear hF; intro a hF
            refine op_gv (v := .int .i64 x4) rfl rfl hF rfl (yt (gw_yield hF rfl rfl rfl)) (fun hg => (run_load1 rfl one3 ((hF.ev rfl).trans (gv_t hg)) ((S.free 0 rfl).cell rfl))) ?_; clear hF; intro a hF
            cases hc116 : (x1.getD x4.toNat false)
            · replace hM114 := bif_f hc116 hM114
              refine op_skipped rfl ((gw_yield hF rfl rfl rfl).trans (congrArg some hc116)) rfl rfl hF rfl ?_; clear hF; intro a hF
              refine op_skipped rfl ((gw_yield hF rfl rfl rfl).trans (congrArg some hc116)) rfl rfl hF rfl ?_; clear hF; intro a hF
              refine op_skipped rfl ((gw_yield hF rfl rfl rfl).trans (congrArg some hc116)) rfl rfl hF rfl ?_; clear hF; intro a hF
              refine op_val (v := .bool false) rfl rfl hF rfl (run_pick_f rfl (hF.ev rfl) hc116 rfl) ?_; clear hF; intro a hF
              refine op_val (v := .bool false) rfl rfl hF rfl (run_assign rfl (hF.ev rfl)) ?_; clear hF; intro a hF
              refine wpList_nil ?_
              obtain rfl := Option.some.inj hM114
              exact ⟨false, rfl, hF.keep _ ⟨rfl, trivial⟩, S.sel [] rfl rfl⟩
            · replace hM114 := bif_t hc116 hM114
              refine op_guarded rfl ((gw_yield hF rfl rfl rfl).trans (congrArg some hc116)) ?_
              obtain ⟨p117, h117, hM114⟩ := bind_ex hM114
              refine op_call rfl rfl hF rfl (run_call (vs := [.agg #[.slice A0 x0.length c0, .slice A1 x1.length c1, .slice A2 x2.length c2], .int .i64 x4]) rfl rfl co10 ⟨((hF.ev rfl).trans (gv_t hc116)), ((hF.ev rfl).trans (gv_t hc116)), trivial⟩) (c_spec_WorkHeld (x0 := x0) (x1 := x1) (x2 := x2) (x3 := x4) ⟨(S.rc0 h0.rc), rfl⟩ ⟨(S.rc0 h1.rc), rfl⟩ ⟨(S.rc0 h2.rc), rfl⟩ h117) ?_
              rintro e u ⟨B118, n119, d120, rfl, rfl, T⟩
              refine ⟨_, rfl, ?_⟩
              clear hF; intro a hF
              replace S := S.call1 T; clear T
              refine op_guarded rfl ((gw_yield hF rfl rfl rfl).trans (congrArg some hc116)) ?_
              refine op_val (v := .int .i64 (p117.length : Int)) rfl rfl hF rfl (run_lenL rfl rfl Tryd.underlying29 (hF.ev rfl)) ?_; clear hF; intro a hF
              refine op_guarded rfl ((gw_yield hF rfl rfl rfl).trans (congrArg some hc116)) ?_
              refine op_val (v := .bool ((p117.length : Int) == 0)) rfl rfl hF rfl (run_eql (hF.ev rfl) rfl rfl) ?_; clear hF; intro a hF
              refine op_val (v := .bool ((p117.length : Int) == 0)) rfl rfl hF rfl (run_pick_t rfl (hF.ev rfl) hc116 (hF.ev rfl)) ?_; clear hF; intro a hF
              refine op_val (v := .bool ((p117.length : Int) == 0)) rfl rfl hF rfl (run_assign rfl (hF.ev rfl)) ?_; clear hF; intro a hF
              refine wpList_nil ?_
              obtain rfl := Option.some.inj hM114
              exact ⟨(p117.length : Int) == 0, rfl, hF.keep _ ⟨rfl, trivial⟩, S.sel [] rfl rfl⟩
          · rintro a u ⟨p112, rfl, hF, S⟩
            refine wp_ret ?_
            repeat with_reducible (first | refine then_ret ?_ | refine in_ret ?_ | refine in_nrm ?_)
            refine ret1_gw (.inl rfl) hF rfl (res_tmp (hF.ev rfl)) ?_
            obtain rfl := Option.some.inj hM
            exact ⟨rfl, S.sel [] rfl rfl⟩
      · replace hM := bif_t hc106 hM
        refine cond_t hF rfl hc106 ?_
        refine wp_seq ?_
        refine wp_region_lit ?_
        refine op_val (v := .pointer (some ⟨g101, 0, none⟩)) rfl rfl hF rfl (run_fieldAddr rfl fl26_0 (hF.ev rfl) rfl) ?_; clear hF; intro a hF
        refine op_val (v := .slice A0 x0.length c0) rfl rfl hF rfl (run_load1 rfl one23 (hF.ev rfl) ((S.free 1 rfl).cell rfl)) ?_; clear hF; intro a hF
        refine op_val (v := .pointer (some ⟨g102, 1, none⟩)) rfl rfl hF rfl (run_fieldAddr rfl fl35_1 (hF.ev rfl) rfl) ?_; clear hF; intro a hF
        refine op_val (v := .int .i64 x4) rfl rfl hF rfl (run_load1 rfl one3 (hF.ev rfl) ((S.free 0 rfl).cell rfl)) ?_; clear hF; intro a hF
        obtain ⟨hk121, hM⟩ := chk_ex hM
        replace hk121 := ixB_t hk121
        refine op_val (v := .pointer (some ⟨adB A0, adO A0 + x4.toNat * 1, none⟩)) rfl rfl hF rfl (run_indexAddr (b := adB A0) (off := adO A0) rfl Tryd.underlying23 sz4 ((hF.ev rfl).trans (congrArg (fun A => Value.slice A x0.length c0) ((S.rc0 h0.rc).rd.ad (ix_pos hk121)))) (hF.ev rfl) hk121.1 hk121.2 (k' := adO A0 + x4.toNat * 1) rfl) ?_; clear hF; intro a hF
        refine op_val (v := .bool (x0.getD x4.toNat false)) rfl rfl hF rfl (run_load1 rfl one4 (hF.ev rfl) (rd_el0 (l := x0) (S.rc0 h0.rc).rd rfl eB_len false (ix_ltn hk121 rfl) rfl)) ?_; clear hF; intro a hF
        refine op_val (v := .bool (!(x0.getD x4.toNat false))) rfl rfl hF rfl (run_not rfl (hF.ev rfl)) ?_; clear hF; intro a hF
        refine op_val (v := .bool (!(x0.getD x4.toNat false))) rfl rfl hF rfl (run_move rfl (hF.ev rfl)) ?_; clear hF; intro a hF
        refine op_gv (v := .pointer (some ⟨g101, 1, none⟩)) rfl rfl hF rfl (yt (gw_yield hF rfl rfl rfl)) (fun hg => (run_fieldAddr rfl fl26_1 (hF.ev rfl) rfl)) ?_; clear hF; intro a hF
        refine op_gv (v := .slice A1 x1.length c1) rfl rfl hF rfl (yt (gw_yield hF rfl rfl rfl)) (fun hg => (run_load1 rfl one23 ((hF.ev rfl).trans (gv_t hg)) ((S.free 1 rfl).cell rfl))) ?_; clear hF; intro a hF
        refine op_gv (v := .pointer (some ⟨g102, 1, none⟩)) rfl rfl hF rfl (yt (gw_yield hF rfl rfl rfl)) (fun hg => (run_fieldAddr rfl fl35_1 (hF.ev rfl) rfl)) ?_; clear hF; intro a hF
        refine op_gv (v := .int .i64 x4) rfl rfl hF rfl (yt (gw_yield hF rfl rfl rfl)) (fun hg => (run_load1 rfl one3 ((hF.ev rfl).trans (gv_t hg)) ((S.free 0 rfl).cell rfl))) ?_; clear hF; intro a hF
        obtain ⟨hk122, hM⟩ := chk_ex hM
        replace hk122 := fun hg => ixB_t (imp_t hk122 hg)
        refine op_gv (v := .pointer (some ⟨adB A1, adO A1 + x4.toNat * 1, none⟩)) rfl rfl hF rfl (yt (gw_yield hF rfl rfl rfl)) (fun hg => (run_indexAddr (b := adB A1) (off := adO A1) rfl Tryd.underlying23 sz4 (((hF.ev rfl).trans (gv_t hg)).trans (congrArg (fun A => Value.slice A x1.length c1) ((S.rc0 h1.rc).rd.ad (ix_pos (hk122 hg))))) ((hF.ev rfl).trans (gv_t hg)) (hk122 hg).1 (hk122 hg).2 (k' := adO A1 + x4.toNat * 1) rfl)) ?_; clear hF; intro a hF
        refine op_gv (v := .bool (x1.getD x4.toNat false)) rfl rfl hF rfl (yt (gw_yield hF rfl rfl rfl)) (fun hg => (run_load1 rfl one4 ((hF.ev rfl).trans (gv_t hg)) (rd_el0 (l := x1) (S.rc0 h1.rc).rd rfl eB_len false (ix_ltn (hk122 hg) rfl) rfl))) ?_; clear hF; intro a hF
        refine op_gv (v := .bool (!(x1.getD x4.toNat false))) rfl rfl hF rfl (yt (gw_yield hF rfl rfl rfl)) (fun hg => (run_not rfl ((hF.ev rfl).trans (gv_t hg)))) ?_; clear hF; intro a hF
        refine op_val (v := .bool ((!(x0.getD x4.toNat false)) && (!(x1.getD x4.toNat false)))) rfl rfl hF rfl (run_pick_and rfl (hF.ev rfl) (fun hp => ((hF.ev rfl).trans (gv_t hp))) rfl) ?_; clear hF; intro a hF
        refine op_val (v := .bool ((!(x0.getD x4.toNat false)) && (!(x1.getD x4.toNat false)))) rfl rfl hF rfl (run_assign rfl (hF.ev rfl)) ?_; clear hF; intro a hF
        refine wpList_nil ?_
        refine wp_ret ?_
        repeat with_reducible (first | refine then_ret ?_ | refine in_ret ?_ | refine in_nrm ?_)
        refine ret1_gw (.inl rfl) hF rfl (res_tmp (hF.ev rfl)) ?_
        obtain rfl := Option.some.inj hM
        exact ⟨rfl, S.sel [] rfl rfl⟩
    · replace hM := bif_t hc105 hM
      refine cond_t hF rfl hc105 ?_
      refine wp_seq ?_
      refine wp_region_lit ?_
      refine op_val (v := .pointer (some ⟨g101, 0, none⟩)) rfl rfl hF rfl (run_fieldAddr rfl fl26_0 (hF.ev rfl) rfl) ?_; clear hF; intro a hF
      refine op_val (v := .slice A0 x0.length c0) rfl rfl hF rfl (run_load1 rfl one23 (hF.ev rfl) ((S.free 1 rfl).cell rfl)) ?_; clear hF; intro a hF
      refine op_val (v := .pointer (some ⟨g102, 1, none⟩)) rfl rfl hF rfl (run_fieldAddr rfl fl35_1 (hF.ev rfl) rfl) ?_; clear hF; intro a hF
      refine op_val (v := .int .i64 x4) rfl rfl hF rfl (run_load1 rfl one3 (hF.ev rfl) ((S.free 0 rfl).cell rfl)) ?_; clear hF; intro a hF
      obtain ⟨hk123, hM⟩ := chk_ex hM
      replace hk123 := ixB_t hk123
      refine op_val (v := .pointer (some ⟨adB A0, adO A0 + x4.toNat * 1, none⟩)) rfl rfl hF rfl (run_indexAddr (b := adB A0) (off := adO A0) rfl Tryd.underlying23 sz4 ((hF.ev rfl).trans (congrArg (fun A => Value.slice A x0.length c0) ((S.rc0 h0.rc).rd.ad (ix_pos hk123)))) (hF.ev rfl) hk123.1 hk123.2 (k' := adO A0 + x4.toNat * 1) rfl) ?_; clear hF; intro a hF
      refine op_val (v := .bool (x0.getD x4.toNat false)) rfl rfl hF rfl (run_load1 rfl one4 (hF.ev rfl) (rd_el0 (l := x0) (S.rc0 h0.rc).rd rfl eB_len false (ix_ltn hk123 rfl) rfl)) ?_; clear hF; intro a hF
      refine op_val (v := .bool (x0.getD x4.toNat false)) rfl rfl hF rfl (run_assign rfl (hF.ev rfl)) ?_; clear hF; intro a hF
      refine wpList_nil ?_
      refine wp_ret ?_
      repeat with_reducible (first | refine then_ret ?_ | refine in_ret ?_ | refine in_nrm ?_)
      refine ret1_gw (.inl rfl) hF rfl (res_tmp (hF.ev rfl)) ?_
      obtain rfl := Option.some.inj hM
      exact ⟨rfl, S.sel [] rfl rfl⟩
  · replace hM := bif_t hc104 hM
    refine cond_t hF rfl hc104 ?_
    refine wp_seq ?_
    refine wp_region_lit ?_
    refine op_val (v := .pointer (some ⟨g101, 0, none⟩)) rfl rfl hF rfl (run_fieldAddr rfl fl26_0 (hF.ev rfl) rfl) ?_; clear hF; intro a hF
    refine op_val (v := .slice A0 x0.length c0) rfl rfl hF rfl (run_load1 rfl one23 (hF.ev rfl) ((S.free 1 rfl).cell rfl)) ?_; clear hF; intro a hF
    refine op_val (v := .pointer (some ⟨g102, 1, none⟩)) rfl rfl hF rfl (run_fieldAddr rfl fl35_1 (hF.ev rfl) rfl) ?_; clear hF; intro a hF
    refine op_val (v := .int .i64 x4) rfl rfl hF rfl (run_load1 rfl one3 (hF.ev rfl) ((S.free 0 rfl).cell rfl)) ?_; clear hF; intro a hF
    obtain ⟨hk124, hM⟩ := chk_ex hM
    replace hk124 := ixB_t hk124
    refine op_val (v := .pointer (some ⟨adB A0, adO A0 + x4.toNat * 1, none⟩)) rfl rfl hF rfl (run_indexAddr (b := adB A0) (off := adO A0) rfl Tryd.underlying23 sz4 ((hF.ev rfl).trans (congrArg (fun A => Value.slice A x0.length c0) ((S.rc0 h0.rc).rd.ad (ix_pos hk124)))) (hF.ev rfl) hk124.1 hk124.2 (k' := adO A0 + x4.toNat * 1) rfl) ?_; clear hF; intro a hF
    refine op_val (v := .bool (x0.getD x4.toNat false)) rfl rfl hF rfl (run_load1 rfl one4 (hF.ev rfl) (rd_el0 (l := x0) (S.rc0 h0.rc).rd rfl eB_len false (ix_ltn hk124 rfl) rfl)) ?_; clear hF; intro a hF
    refine op_val (v := .bool (!(x0.getD x4.toNat false))) rfl rfl hF rfl (run_not rfl (hF.ev rfl)) ?_; clear hF; intro a hF
    refine op_val (v := .bool (!(x0.getD x4.toNat false))) rfl rfl hF rfl (run_move rfl (hF.ev rfl)) ?_; clear hF; intro a hF
    refine op_gv (v := .pointer (some ⟨g101, 1, none⟩)) rfl rfl hF rfl (yt (gw_yield hF rfl rfl rfl)) (fun hg => (run_fieldAddr rfl fl26_1 (hF.ev rfl) rfl)) ?_; clear hF; intro a hF
    refine op_gv (v := .slice A1 x1.length c1) rfl rfl hF rfl (yt (gw_yield hF rfl rfl rfl)) (fun hg => (run_load1 rfl one23 ((hF.ev rfl).trans (gv_t hg)) ((S.free 1 rfl).cell rfl))) ?_; clear hF; intro a hF
    refine op_gv (v := .pointer (some ⟨g102, 1, none⟩)) rfl rfl hF rfl (yt (gw_yield hF rfl rfl rfl)) (fun hg => (run_fieldAddr rfl fl35_1 (hF.ev rfl) rfl)) ?_; clear hF; intro a hF
    refine op_gv (v := .int .i64 x4) rfl rfl hF rfl (yt (gw_yield hF rfl rfl rfl)) (fun hg => (run_load1 rfl one3 ((hF.ev rfl).trans (gv_t hg)) ((S.free 0 rfl).cell rfl))) ?_; clear hF; intro a hF
    obtain ⟨hk125, hM⟩ := chk_ex hM
    replace hk125 := fun hg => ixB_t (imp_t hk125 hg)
    refine op_gv (v := .pointer (some ⟨adB A1, adO A1 + x4.toNat * 1, none⟩)) rfl rfl hF rfl (yt (gw_yield hF rfl rfl rfl)) (fun hg => (run_indexAddr (b := adB A1) (off := adO A1) rfl Tryd.underlying23 sz4 (((hF.ev rfl).trans (gv_t hg)).trans (congrArg (fun A => Value.slice A x1.length c1) ((S.rc0 h1.rc).rd.ad (ix_pos (hk125 hg))))) ((hF.ev rfl).trans (gv_t hg)) (hk125 hg).1 (hk125 hg).2 (k' := adO A1 + x4.toNat * 1) rfl)) ?_; clear hF; intro a hF
    refine op_gv (v := .bool (x1.getD x4.toNat false)) rfl rfl hF rfl (yt (gw_yield hF rfl rfl rfl)) (fun hg => (run_load1 rfl one4 ((hF.ev rfl).trans (gv_t hg)) (rd_el0 (l := x1) (S.rc0 h1.rc).rd rfl eB_len false (ix_ltn (hk125 hg) rfl) rfl))) ?_; clear hF; intro a hF
    refine op_gv (v := .bool (!(x1.getD x4.toNat false))) rfl rfl hF rfl (yt (gw_yield hF rfl rfl rfl)) (fun hg => (run_not rfl ((hF.ev rfl).trans (gv_t hg)))) ?_; clear hF; intro a hF
    refine op_val (v := .bool ((!(x0.getD x4.toNat false)) && (!(x1.getD x4.toNat false)))) rfl rfl hF rfl (run_pick_and rfl (hF.ev rfl) (fun hp => ((hF.ev rfl).trans (gv_t hp))) rfl) ?_; clear hF; intro a hF
    refine op_val (v := .bool ((!(x0.getD x4.toNat false)) && (!(x1.getD x4.toNat false)))) rfl rfl hF rfl (run_assign rfl (hF.ev rfl)) ?_; clear hF; intro a hF
    refine wpList_nil ?_
    refine wp_ret ?_
    repeat with_reducible (first | refine then_ret ?_ | refine in_ret ?_ | refine in_nrm ?_)
    refine ret1_gw (.inl rfl) hF rfl (res_tmp (hF.ev rfl)) ?_
    obtain rfl := Option.some.inj hM
    exact ⟨rfl, S.sel [] rfl rfl⟩

set_option maxHeartbeats 4000000 in
theorem c_spec_WorkDo {x0 : List Bool} {x1 : List Bool} {x2 : List (Int × Int)} {x3 : Int} {x4 : Int} {x5 : Int} {A0 : Option Addr} {n0 c0 : Nat} {A1 : Option Addr} {n1 c1 : Nat} {A2 : Option Addr} {n2 c2 : Nat} {w : World} {r : List Bool × List Bool × List (Int × Int) × Bool} (h0 : Rt w 1 eB A0 n0 c0 x0) (h1 : Rt w 1 eB A1 n1 c1 x1) (h2 : Rt w 2 ePermit A2 n2 c2 x2) (hM : m_spec_WorkDo x0 x1 x2 x3 x4 x5 = some r) :
    Calls Tryd.prog 15 #[.agg #[.slice A0 n0 c0, .slice A1 n1 c1, .slice A2 n2 c2], .agg #[.int .i64 x3, .int .i64 x4, .int .i64 x5]] w (fun e w' => ∃ (B0 : Option Addr) (N0 D0 : Nat) (B1 : Option Addr) (N1 D1 : Nat) (B2 : Option Addr) (N2 D2 : Nat), e = .returned (.tuple #[.agg #[.slice B0 N0 D0, .slice B1 N1 D1, .slice B2 N2 D2], .bool r.2.2.2]) ∧ N0 = r.1.length ∧ N1 = r.2.1.length ∧ N2 = r.2.2.1.length ∧ St w w' [.row 4 1 (.slice B0 N0 D0) N0 (r.1.flatMap eB), .row 4 1 (.slice B1 N1 D1) N1 (r.2.1.flatMap eB), .row 48 2 (.slice B2 N2 D2) N2 (r.2.2.1.flatMap ePermit)]) := by
  obtain rfl := h0.len
  obtain rfl := h1.len
  obtain rfl := h2.len
  unfold m_spec_WorkDo at hM
  refine calls_gw Tryd.func15 Tryd.ntmps15 rfl [(0, .agg #[.slice A0 x0.length c0, .slice A1 x1.length c1, .slice A2 x2.length c2]), (1, .agg #[.int .i64 x3, .int .i64 x4, .int .i64 x5])] ⟨rfl, rfl, trivial⟩ rfl ?_
  intro a hF
  have S := St.nil w
  refine wp_seq ?_
  refine wp_region_lit ?_
  refine op_new (cs := #[.slice A0 x0.length c0, .slice A1 x1.length c1, .slice A2 x2.length c2]) rfl rfl hF rfl S (run_box rfl (hF.ev rfl) rfl) ?_; clear hF S; intro a g101 u hF S
  refine op_new (cs := #[.int .i64 x3, .int .i64 x4, .int .i64 x5]) rfl rfl hF rfl S (run_box rfl (hF.ev rfl) rfl) ?_; clear hF S; intro a g102 u hF S
  refine op_new (cs := #[.slice none 0 0, .slice none 0 0, .slice none 0 0]) rfl rfl hF rfl S (run_allocZ rfl zr26) ?_; clear hF S; intro a g103 u hF S
  refine op_val (v := .bool false) rfl rfl hF rfl (run_assign rfl rfl) ?_; clear hF; intro a hF
  refine wpList_nil ?_
  refine wp_seq ?_
  refine wp_seq ?_
  refine wp_region_lit ?_
  refine op_val (v := .agg #[.slice A0 x0.length c0, .slice A1 x1.length c1, .slice A2 x2.length c2]) rfl rfl hF rfl (run_loadN rfl ag26 (hF.ev rfl) rfl ((S.free 2 rfl).cells 0 #[.slice A0 x0.length c0, .slice A1 x1.length c1, .slice A2 x2.length c2] rfl)) ?_; clear hF; intro a hF
  obtain ⟨p104, h104, hM⟩ := bind_ex hM
  refine op_call rfl rfl hF rfl (run_call (vs := [.agg #[.slice A0 x0.length c0, .slice A1 x1.length c1, .slice A2 x2.length c2]]) rfl rfl co21 ⟨(hF.ev rfl), trivial⟩) (c_spec_WorkValid (x0 := x0) (x1 := x1) (x2 := x2) ⟨(S.rc0 h0.rc), rfl⟩ ⟨(S.rc0 h1.rc), rfl⟩ ⟨(S.rc0 h2.rc), rfl⟩ h104) ?_
  rintro e u ⟨rfl, T⟩
  refine ⟨_, rfl, ?_⟩
  clear hF; intro a hF
  replace S := S.call0 T; clear T
  refine op_val (v := .bool (!p104)) rfl rfl hF rfl (run_not rfl (hF.ev rfl)) ?_; clear hF; intro a hF
  refine wpList_nil ?_
  cases hc105 : (p104)
  · replace hM := bif_f hc105 hM
    refine cond_t hF rfl (not_t hc105) ?_
    refine wp_seq ?_
    refine wp_region_lit ?_
    refine op_val (v := .agg #[.slice none 0 0, .slice none 0 0, .slice none 0 0]) rfl rfl hF rfl (run_build (vs := []) rfl trivial (bd26 )) ?_; clear hF; intro a hF
    refine op_do rfl rfl (run_store (cs' := #[.slice none 0 0, .slice none 0 0, .slice none 0 0]) rfl sz26 (hF.ev rfl) (hF.ev rfl) rfl rfl rfl (S.free 0 rfl) rfl rfl) ?_; replace S := S.put 0 rfl (#[.slice none 0 0, .slice none 0 0, .slice none 0 0])
    generalize World.setRow _ _ _ = u at S ⊢
    refine op_val (v := .bool false) rfl rfl hF rfl (run_assign rfl rfl) ?_; clear hF; intro a hF
    refine wpList_nil ?_
    refine wp_ret ?_
    repeat with_reducible (first | refine then_ret ?_ | refine in_ret ?_ | refine in_nrm ?_)
    refine ret2_gw (.inl rfl) hF rfl (res_cell (hF.ev rfl) (res_loadN ag26 rfl (S.cells 0 rfl 0 #[.slice none 0 0, .slice none 0 0, .slice none 0 0] rfl))) (res_tmp (hF.ev rfl)) ?_
    obtain rfl := Option.some.inj hM
    replace S := S.nilrow 4 1
    replace S := S.nilrow 4 1
    replace S := S.nilrow 48 2
    exact ⟨none, 0, 0, none, 0, 0, none, 0, 0, rfl, rfl, rfl, rfl, S.sel [2, 1, 0] rfl rfl⟩
  · replace hM := bif_t hc105 hM
    refine cond_f hF rfl (not_f hc105) ?_
    refine wp_skip ?_
    refine wp_seq ?_
    refine wp_region_lit ?_
    refine op_val (v := .agg #[.slice A0 x0.length c0, .slice A1 x1.length c1, .slice A2 x2.length c2]) rfl rfl hF rfl (run_loadN rfl ag26 (hF.ev rfl) rfl ((S.free 2 rfl).cells 0 #[.slice A0 x0.length c0, .slice A1 x1.length c1, .slice A2 x2.length c2] rfl)) ?_; clear hF; intro a hF
    obtain ⟨p106, h106, hM⟩ := bind_ex hM
    refine op_call rfl rfl hF rfl (run_call (vs := [.agg #[.slice A0 x0.length c0, .slice A1 x1.length c1, .slice A2 x2.length c2]]) rfl rfl co37 ⟨(hF.ev rfl), trivial⟩) (c_spec_l12Copy (x0 := x0) (x1 := x1) (x2 := x2) ⟨(S.rc0 h0.rc), rfl⟩ ⟨(S.rc0 h1.rc), rfl⟩ ⟨(S.rc0 h2.rc), rfl⟩ h106) ?_
    rintro e u ⟨B107, n108, d109, B110, n111, d112, B113, n114, d115, rfl, rfl, rfl, rfl, T⟩
    refine ⟨_, rfl, ?_⟩
    clear hF; intro a hF
    replace S := S.call3 T; clear T
    refine op_new (cs := #[.slice none 0 0, .slice none 0 0, .slice none 0 0]) rfl rfl hF rfl S (run_allocZ rfl zr26) ?_; clear hF S; intro a g116 u hF S
    refine op_do rfl rfl (run_store (cs' := #[.slice B107 p106.1.length d109, .slice B110 p106.2.1.length d112, .slice B113 p106.2.2.length d115]) rfl sz26 (hF.ev rfl) (hF.ev rfl) rfl rfl rfl (S.free 0 rfl) rfl rfl) ?_; replace S := S.put 0 rfl (#[.slice B107 p106.1.length d109, .slice B110 p106.2.1.length d112, .slice B113 p106.2.2.length d115])
    generalize World.setRow _ _ _ = u at S ⊢
    refine wpList_nil ?_
    refine wp_seq ?_
    refine wp_seq ?_
    refine wp_region_lit ?_
    refine op_val (v := .pointer (some ⟨g102, 1, none⟩)) rfl rfl hF rfl (run_fieldAddr rfl fl35_1 (hF.ev rfl) rfl) ?_; clear hF; intro a hF
    refine op_val (v := .int .i64 x4) rfl rfl hF rfl (run_load1 rfl one3 (hF.ev rfl) ((S.free 5 rfl).cell rfl)) ?_; clear hF; intro a hF
    refine op_val (v := .pointer (some ⟨g101, 0, none⟩)) rfl rfl hF rfl (run_fieldAddr rfl fl26_0 (hF.ev rfl) rfl) ?_; clear hF; intro a hF
    refine op_val (v := .slice A0 x0.length c0) rfl rfl hF rfl (run_load1 rfl one23 (hF.ev rfl) ((S.free 6 rfl).cell rfl)) ?_; clear hF; intro a hF
    refine op_val (v := .int .i64 (x0.length : Int)) rfl rfl hF rfl (run_lenL rfl rfl Tryd.underlying23 (hF.ev rfl)) ?_; clear hF; intro a hF
    refine op_val (v := .int .i64 (w64 ((x0.length : Int) - 1))) rfl rfl hF rfl (run_sub (z := w64 ((x0.length : Int) - 1)) (hF.ev rfl) rfl rfl rfl) ?_; clear hF; intro a hF
    obtain ⟨p117, h117, hM⟩ := bind_ex hM
    refine op_call rfl rfl hF rfl (run_call (vs := [.int .i64 x4, .int .i64 0, .int .i64 (w64 ((x0.length : Int) - 1))]) rfl rfl co38 ⟨(hF.ev rfl), rfl, (hF.ev rfl), trivial⟩) (c_spec_l1In (x0 := x4) (x1 := 0) (x2 := w64 ((x0.length : Int) - 1))  h117) ?_
    rintro e u ⟨rfl, T⟩
    refine ⟨_, rfl, ?_⟩
    clear hF; intro a hF
    replace S := S.call0 T; clear T
    refine op_val (v := .bool (!p117)) rfl rfl hF rfl (run_not rfl (hF.ev rfl)) ?_; clear hF; intro a hF
    refine op_val (v := .bool (!p117)) rfl rfl hF rfl (run_move rfl (hF.ev rfl)) ?_; clear hF; intro a hF
    refine op_gv (v := .agg #[.slice A0 x0.length c0, .slice A1 x1.length c1, .slice A2 x2.length c2]) rfl rfl hF rfl (yf (gw_yield hF rfl rfl rfl)) (fun hg => (run_loadN rfl ag26 (hF.ev rfl) rfl ((S.free 6 rfl).cells 0 #[.slice A0 x0.length c0, .slice A1 x1.length c1, .slice A2 x2.length c2] rfl))) ?_; clear hF; intro a hF
    refine op_gv (v := .agg #[.int .i64 x3, .int .i64 x4, .int .i64 x5]) rfl rfl hF rfl (yf (gw_yield hF rfl rfl rfl)) (fun hg => (run_loadN rfl ag35 (hF.ev rfl) rfl ((S.free 5 rfl).cells 0 #[.int .i64 x3, .int .i64 x4, .int .i64 x5] rfl))) ?_; clear hF; intro a hF
    obtain ⟨p118, h118, hM⟩ := bind_ex hM
    refine op_gcall (v := .bool p118) rfl rfl hF rfl S (yf (gw_yield hF rfl rfl rfl)) (fun hg => (run_call (vs := [.agg #[.slice A0 x0.length c0, .slice A1 x1.length c1, .slice A2 x2.length c2], .agg #[.int .i64 x3, .int .i64 x4, .int .i64 x5]]) rfl rfl co39 ⟨((hF.ev rfl).trans (gv_t hg)), ((hF.ev rfl).trans (gv_t hg)), trivial⟩)) (fun hg => c_spec_l12May (x0 := x0) (x1 := x1) (x2 := x2) (x3 := x3) (x4 := x4) (x5 := x5) ⟨(S.rc0 h0.rc), rfl⟩ ⟨(S.rc0 h1.rc), rfl⟩ ⟨(S.rc0 h2.rc), rfl⟩ (gb_t h118 hg)) ?_; clear hF S; intro a u hF S
    refine op_gv (v := .bool (!p118)) rfl rfl hF rfl (yf (gw_yield hF rfl rfl rfl)) (fun hg => (run_not rfl ((hF.ev rfl).trans (gv_t hg)))) ?_; clear hF; intro a hF
    refine op_val (v := .bool ((!p117) || (!p118))) rfl rfl hF rfl (run_pick_or rfl (hF.ev rfl) rfl (fun hp => ((hF.ev rfl).trans (gv_t (not_t hp))))) ?_; clear hF; intro a hF
    refine wpList_nil ?_
    cases hc119 : ((!p117) || (!p118))
    · replace hM := bif_f hc119 hM
      refine cond_f hF rfl hc119 ?_
      refine wp_skip ?_
      refine wp_seq ?_
      refine wp_seq ?_
      refine wp_region_lit ?_
      refine op_val (v := .pointer (some ⟨g102, 0, none⟩)) rfl rfl hF rfl (run_fieldAddr rfl fl35_0 (hF.ev rfl) rfl) ?_; clear hF; intro a hF
      refine op_val (v := .int .i64 x3) rfl rfl hF rfl (run_load1 rfl one3 (hF.ev rfl) ((S.free 5 rfl).cell rfl)) ?_; clear hF; intro a hF
      refine wpList_nil ?_
      refine wp_block ?_
      refine wp_seq ?_
      refine wp_region_lit ?_
      refine op_val (v := .bool (x3 == 0)) rfl rfl hF rfl (run_eql (hF.ev rfl) rfl rfl) ?_; clear hF; intro a hF
      refine op_val (v := .bool (x3 == 0)) rfl rfl hF rfl (run_assign rfl (hF.ev rfl)) ?_; clear hF; intro a hF
      refine wpList_nil ?_
      obtain ⟨o121, hM126, hM⟩ := bind_ex hM
      refine wp_cut (fun a u => ∃ (p120 : List Bool × List Bool × List (Int × Int)) (B124 : Option Addr) (d125 : Nat), p120 = o121 ∧ p106.1.length = p120.1.length ∧ p106.2.1.length = p120.2.1.length ∧ Fr a 91 [(4, .pointer (some ⟨g103, 0, none⟩)), (5, .bool false), (6, .pointer (some ⟨g116, 0, none⟩))] ∧ St w u [.box g116 26 #[.slice B107 p106.1.length d109, .slice B110 p106.2.1.length d112, .slice B124 p120.2.2.length d125], .box g103 26 #[.slice none 0 0, .slice none 0 0, .slice none 0 0], .row 4 1 (.slice B107 p106.1.length d109) p106.1.length (p120.1.flatMap eB), .row 4 1 (.slice B110 p106.2.1.length d112) p106.2.1.length (p120.2.1.flatMap eB), .row 48 2 (.slice B124 p120.2.2.length d125) p120.2.2.length (p120.2.2.flatMap ePermit)]) ?_ ?_
      · have _ := trivial
        cases hc127 : (x3 == 0)
        · replace hM126 := bif_f hc127 hM126
          refine cond_f hF rfl hc127 ?_
          refine wp_seq ?_
          refine wp_region_lit ?_
          refine op_val (v := .bool (x3 == 1)) rfl rfl hF rfl (run_eql (hF.ev rfl) rfl rfl) ?_; clear hF; intro a hF
          refine op_val (v := .bool (x3 == 1)) rfl rfl hF rfl (run_assign rfl (hF.ev rfl)) ?_; clear hF; intro a hF
          refine wpList_nil ?_
          obtain ⟨o129, hM134, hM126⟩ := bind_ex hM126
          refine wp_cut (fun a u => ∃ (p128 : List Bool × List Bool × List (Int × Int)) (B132 : Option Addr) (d133 : Nat), p128 = o129 ∧ p106.1.length = p128.1.length ∧ p106.2.1.length = p128.2.1.length ∧ Fr a 91 [(4, .pointer (some ⟨g103, 0, none⟩)), (5, .bool false), (6, .pointer (some ⟨g116, 0, none⟩))] ∧ St w u [.box g116 26 #[.slice B107 p106.1.length d109, .slice B110 p106.2.1.length d112, .slice B132 p128.2.2.length d133], .box g103 26 #[.slice none 0 0, .slice none 0 0, .slice none 0 0], .row 4 1 (.slice B107 p106.1.length d109) p106.1.length (p128.1.flatMap eB), .row 4 1 (.slice B110 p106.2.1.length d112) p106.2.1.length (p128.2.1.flatMap eB), .row 48 2 (.slice B132 p128.2.2.length d133) p128.2.2.length (p128.2.2.flatMap ePermit)]) ?_ ?_
          · have _ := trivial
            cases hc135 : (x3 == 1)
            · replace hM134 := bif_f hc135 hM134
              refine cond_f hF rfl hc135 ?_
              refine wp_seq ?_
              refine wp_region_lit ?_
              refine op_val (v := .bool (x3 == 2)) rfl rfl hF rfl (run_eql (hF.ev rfl) rfl rfl) ?_; clear hF; intro a hF
              refine op_val (v := .bool (x3 == 2)) rfl rfl hF rfl (run_assign rfl (hF.ev rfl)) ?_; clear hF; intro a hF
              refine wpList_nil ?_
              obtain ⟨o137, hM141, hM134⟩ := bind_ex hM134
              refine wp_cut (fun a u => ∃ (p136 : List Bool × List (Int × Int)) (B139 : Option Addr) (d140 : Nat), p136 = o137 ∧ p106.2.1.length = p136.1.length ∧ Fr a 91 [(4, .pointer (some ⟨g103, 0, none⟩)), (5, .bool false), (6, .pointer (some ⟨g116, 0, none⟩))] ∧ St w u [.box g116 26 #[.slice B107 p106.1.length d109, .slice B110 p106.2.1.length d112, .slice B139 p136.2.length d140], .box g103 26 #[.slice none 0 0, .slice none 0 0, .slice none 0 0], .row 4 1 (.slice B107 p106.1.length d109) p106.1.length (p106.1.flatMap eB), .row 4 1 (.slice B110 p106.2.1.length d112) p106.2.1.length (p136.1.flatMap eB), .row 48 2 (.slice B139 p136.2.length d140) p136.2.length (p136.2.flatMap ePermit)]) ?_ ?_
              · have _ := trivial
                cases hc142 : (x3 == 2)
                · replace hM141 := bif_f hc142 hM141
                  refine cond_f hF rfl hc142 ?_
                  refine wp_seq ?_
                  refine wp_region_lit ?_
                  refine op_val (v := .bool (x3 == 3)) rfl rfl hF rfl (run_eql (hF.ev rfl) rfl rfl) ?_; clear hF; intro a hF
                  refine op_val (v := .bool (x3 == 3)) rfl rfl hF rfl (run_assign rfl (hF.ev rfl)) ?_; clear hF; intro a hF
                  refine wpList_nil ?_
                  obtain ⟨o144, hM148, hM141⟩ := bind_ex hM141
                  refine wp_cut (fun a u => ∃ (p143 : List Bool × List (Int × Int)) (B146 : Option Addr) (d147 : Nat), p143 = o144 ∧ p106.2.1.length = p143.1.length ∧ Fr a 91 [(4, .pointer (some ⟨g103, 0, none⟩)), (5, .bool false), (6, .pointer (some ⟨g116, 0, none⟩))] ∧ St w u [.box g116 26 #[.slice B107 p106.1.length d109, .slice B110 p106.2.1.length d112, .slice B146 p143.2.length d147], .box g103 26 #[.slice none 0 0, .slice none 0 0, .slice none 0 0], .row 4 1 (.slice B107 p106.1.length d109) p106.1.length (p106.1.flatMap eB), .row 4 1 (.slice B110 p106.2.1.length d112) p106.2.1.length (p143.1.flatMap eB), .row 48 2 (.slice B146 p143.2.length d147) p143.2.length (p143.2.flatMap ePermit)]) ?_ ?_
                  · have _ := trivial
                    cases hc149 : (x3 == 3)
                    · replace hM148 := bif_f hc149 hM148
                      refine cond_f hF rfl hc149 ?_
                      refine wp_seq ?_
                      refine wp_region_lit ?_
                      refine op_val (v := .bool (x3 == 4)) rfl rfl hF rfl (run_eql (hF.ev rfl) rfl rfl) ?_; clear hF; intro a hF
                      refine op_val (v := .bool (x3 == 4)) rfl rfl hF rfl (run_assign rfl (hF.ev rfl)) ?_; clear hF; intro a hF
                      refine wpList_nil ?_
                      obtain ⟨o151, hM154, hM148⟩ := bind_ex hM148
                      refine wp_cut (fun a u => ∃ (p150 : List (Int × Int)) (B152 : Option Addr) (d153 : Nat), p150 = o151 ∧ Fr a 91 [(4, .pointer (some ⟨g103, 0, none⟩)), (5, .bool false), (6, .pointer (some ⟨g116, 0, none⟩))] ∧ St w u [.box g116 26 #[.slice B107 p106.1.length d109, .slice B110 p106.2.1.length d112, .slice B152 p150.length d153], .box g103 26 #[.slice none 0 0, .slice none 0 0, .slice none 0 0], .row 4 1 (.slice B107 p106.1.length d109) p106.1.length (p106.1.flatMap eB), .row 4 1 (.slice B110 p106.2.1.length d112) p106.2.1.length (p106.2.1.flatMap eB), .row 48 2 (.slice B152 p150.length d153) p150.length (p150.flatMap ePermit)]) ?_ ?_
                      · have _ := trivial
                        cases hc155 : (x3 == 4)
                        · replace hM154 := bif_f hc155 hM154
                          refine cond_f hF rfl hc155 ?_
                          refine wp_seq ?_
                          refine wp_region_lit ?_
                          refine op_val (v := .pointer (some ⟨g101, 2, none⟩)) rfl rfl hF rfl (run_fieldAddr rfl fl26_2 (hF.ev rfl) rfl) ?_; clear hF; intro a hF
                          refine op_val (v := .slice A2 x2.length c2) rfl rfl hF rfl (run_load1 rfl one24 (hF.ev rfl) ((S.free 6 rfl).cell rfl)) ?_; clear hF; intro a hF
                          refine op_val (v := .pointer (some ⟨g102, 2, none⟩)) rfl rfl hF rfl (run_fieldAddr rfl fl35_2 (hF.ev rfl) rfl) ?_; clear hF; intro a hF
                          refine op_val (v := .int .i64 x5) rfl rfl hF rfl (run_load1 rfl one3 (hF.ev rfl) ((S.free 5 rfl).cell rfl)) ?_; clear hF; intro a hF
                          refine op_val (v := .pointer (some ⟨g102, 1, none⟩)) rfl rfl hF rfl (run_fieldAddr rfl fl35_1 (hF.ev rfl) rfl) ?_; clear hF; intro a hF
                          refine op_val (v := .int .i64 x4) rfl rfl hF rfl (run_load1 rfl one3 (hF.ev rfl) ((S.free 5 rfl).cell rfl)) ?_; clear hF; intro a hF
                          refine op_val (v := .agg #[.int .i64 x5, .int .i64 x4]) rfl rfl hF rfl (run_build (vs := [(0, .int .i64 x5), (1, .int .i64 x4)]) rfl ⟨⟨rfl, (hF.ev rfl)⟩, ⟨rfl, (hF.ev rfl)⟩, trivial⟩ (bd48_0_1 rfl rfl)) ?_; clear hF; intro a hF
                          obtain ⟨p156, h156, hM154⟩ := bind_ex hM154
                          refine op_call rfl rfl hF rfl (run_call (vs := [.slice A2 x2.length c2, .agg #[.int .i64 x5, .int .i64 x4]]) rfl rfl co40 ⟨(hF.ev rfl), (hF.ev rfl), trivial⟩) (c_spec_l12Find (x0 := x2) (x1 := x5) (x2 := x4) ⟨(S.rc0 h2.rc), rfl⟩ h156) ?_
                          rintro e u ⟨rfl, T⟩
                          refine ⟨_, rfl, ?_⟩
                          clear hF; intro a hF
                          replace S := S.call0 T; clear T
                          refine op_val (v := .int .i64 p156) rfl rfl hF rfl (run_assign rfl (hF.ev rfl)) ?_; clear hF; intro a hF
                          refine wpList_nil ?_
                          obtain ⟨hk157, hM154⟩ := chk_ex hM154
                          replace hk157 := slB_t hk157
                          obtain ⟨hk158, hM154⟩ := chk_ex hM154
                          replace hk158 := slB_t hk158
                          obtain ⟨hk159, hM154⟩ := chk_ex hM154
                          replace hk159 := apB_t hk159
                          refine region_gw (D := [39, 40, 41, 42, 43, 44, 45, 46, 47, 48, 49]) (Lr := [.row 4 1 (.slice B107 p106.1.length d109) p106.1.length (p106.1.flatMap eB), .row 4 1 (.slice B110 p106.2.1.length d112) p106.2.1.length (p106.2.1.flatMap eB), .box g103 26 #[.slice none 0 0, .slice none 0 0, .slice none 0 0], .box g102 35 #[.int .i64 x3, .int .i64 x4, .int .i64 x5], .box g101 26 #[.slice A0 x0.length c0, .slice A1 x1.length c1, .slice A2 x2.length c2]]) (deps := (fun | 0 => [39] | 1 => [40] | 2 => [41] | 3 => [42] | 4 => [43] | 5 => [44] | 6 => [45] | 7 => [46] | 8 => [47] | 9 => [48] | 10 => [49] | 11 => [49, 48] | _ => [])) (rd := (fun _ => [])) (zr := (fun | 1 => [11] | 3 => [9] | _ => []))
                            (φ := fun i vs => match i, vs with | 0, [v39] => v39 = .pointer (some ⟨g116, 2, none⟩) | 1, [v40] => v40 = .slice B113 p106.2.2.length d115 | 2, [v41] => v41 = .int .i64 p156 | 3, [v42] => v42 = .slice (subA d115 ((0 : Int).toNat) 2 B113) ((subL p106.2.2 0 p156).length) (d115 - (0 : Int).toNat) | 4, [v43] => v43 = .pointer (some ⟨g101, 2, none⟩) | 5, [v44] => v44 = .slice A2 x2.length c2 | 6, [v45] => v45 = .int .i64 p156 | 7, [v46] => v46 = .int .i64 (w64 (p156 + 1)) | 8, [v47] => v47 = .slice (subA c2 ((w64 (p156 + 1)).toNat) 2 A2) ((subL x2 (w64 (p156 + 1)) (x2.length : Int)).length) (c2 - (w64 (p156 + 1)).toNat) | 9, [v48] => v48 = .slice (slA v48) (((subL p106.2.2 0 p156) ++ (subL x2 (w64 (p156 + 1)) (x2.length : Int))).length) (slC v48) | 10, [v49] => v49 = .pointer (some ⟨g116, 2, none⟩) | _, _ => True)
                            (C := fun i vs => match i, vs with | 9, [v48] => [.row 48 2 (.slice (slA v48) (((subL p106.2.2 0 p156) ++ (subL x2 (w64 (p156 + 1)) (x2.length : Int))).length) (slC v48)) (((subL p106.2.2 0 p156) ++ (subL x2 (w64 (p156 + 1)) (x2.length : Int))).length) (((subL p106.2.2 0 p156) ++ (subL x2 (w64 (p156 + 1)) (x2.length : Int))).flatMap ePermit)] | 11, [v49, v48] => [.box g116 26 #[.slice B107 p106.1.length d109, .slice B110 p106.2.1.length d112, .slice (slA v48) (((subL p106.2.2 0 p156) ++ (subL x2 (w64 (p156 + 1)) (x2.length : Int))).length) (slC v48)]] | _, _ => [])
                            (κ := (fun _ => none)) (Z := (fun | 9 => [.row 48 2 (.slice B113 p106.2.2.length d115) p106.2.2.length (p106.2.2.flatMap ePermit)] | 11 => [.box g116 26 #[.slice B107 p106.1.length d109, .slice B110 p106.2.1.length d112, .slice B113 p106.2.2.length d115]] | _ => [])) mixed hF (by kernel_rfl) (show St w _ [.row 48 2 (.slice B113 p106.2.2.length d115) p106.2.2.length (p106.2.2.flatMap ePermit), .box g116 26 #[.slice B107 p106.1.length d109, .slice B110 p106.2.1.length d112, .slice B113 p106.2.2.length d115], .row 4 1 (.slice B107 p106.1.length d109) p106.1.length (p106.1.flatMap eB), .row 4 1 (.slice B110 p106.2.1.length d112) p106.2.1.length (p106.2.1.flatMap eB), .box g103 26 #[.slice none 0 0, .slice none 0 0, .slice none 0 0], .box g102 35 #[.int .i64 x3, .int .i64 x4, .int .i64 x5], .box g101 26 #[.slice A0 x0.length c0, .slice A1 x1.length c1, .slice A2 x2.length c2]] from S.sel [3, 0, 1, 2, 4, 5, 6] rfl rfl) ?_ ?_
                          · refine ⟨?_, ?_, ?_, ?_, ?_, ?_, ?_, ?_, ?_, ?_, ?_, ?_, trivial⟩
                            · intro a u X hB hu hp hr hz hl S
                              replace S : St w u ([] ++ X) := S
                              exact .inl ⟨rfl, .pointer (some ⟨g116, 2, none⟩), u, (run_fieldAddr rfl fl26_2 (hF.evB hB rfl rfl) rfl), rfl, S⟩
                            · intro a u X hB hu hp hr hz hl S
                              replace S : St w u ([] ++ X) := S
                              have e39 : sl a 39 = .pointer (some ⟨g116, 2, none⟩) := hp 0 rfl
                              exact .inl ⟨rfl, .slice B113 p106.2.2.length d115, u, (run_load1 rfl one24 (ev_sl e39) ((show Bk _ _ _ _ from S.mem (List.mem_append_right _ (hz 11 (List.mem_of_getElem? (i := 0) rfl) _ (List.mem_of_getElem? (i := 0) rfl)))).cell rfl)), rfl, S⟩
                            · intro a u X hB hu hp hr hz hl S
                              replace S : St w u ([] ++ X) := S
                              exact .inl ⟨rfl, .int .i64 p156, u, (run_move rfl (hF.evB hB rfl rfl)), rfl, S⟩
                            · intro a u X hB hu hp hr hz hl S
                              replace S : St w u ([] ++ X) := S
                              have e40 : sl a 40 = .slice B113 p106.2.2.length d115 := hp 1 rfl
                              have e41 : sl a 41 = .int .i64 p156 := hp 2 rfl
                              exact .inl ⟨rfl, .slice (subA d115 ((0 : Int).toNat) 2 B113) ((subL p106.2.2 0 p156).length) (d115 - (0 : Int).toNat), u, (run_sliceH (l := p106.2.2) rfl Tryd.underlying24 sz48 (ev_sl e40) (ev_sl e41) hk157 rfl (own_rc (show World.ownsRow _ 0 _ _ _ _ _ from S.mem (List.mem_append_right _ (hz 9 (List.mem_of_getElem? (i := 0) rfl) _ (List.mem_of_getElem? (i := 0) rfl))))).cap), rfl, S⟩
                            · intro a u X hB hu hp hr hz hl S
                              replace S : St w u ([] ++ X) := S
                              exact .inl ⟨rfl, .pointer (some ⟨g101, 2, none⟩), u, (run_fieldAddr rfl fl26_2 (hF.evB hB rfl rfl) rfl), rfl, S⟩
                            · intro a u X hB hu hp hr hz hl S
                              replace S : St w u ([] ++ X) := S
                              have e43 : sl a 43 = .pointer (some ⟨g101, 2, none⟩) := hp 4 rfl
                              exact .inl ⟨rfl, .slice A2 x2.length c2, u, (run_load1 rfl one24 (ev_sl e43) ((gr_box S hl 4 rfl).cell rfl)), rfl, S⟩
                            · intro a u X hB hu hp hr hz hl S
                              replace S : St w u ([] ++ X) := S
                              exact .inl ⟨rfl, .int .i64 p156, u, (run_move rfl (hF.evB hB rfl rfl)), rfl, S⟩
                            · intro a u X hB hu hp hr hz hl S
                              replace S : St w u ([] ++ X) := S
                              have e45 : sl a 45 = .int .i64 p156 := hp 6 rfl
                              exact .inl ⟨rfl, .int .i64 (w64 (p156 + 1)), u, (run_add (z := w64 (p156 + 1)) (ev_sl e45) (ev_const _ _) rfl rfl), rfl, S⟩
                            · intro a u X hB hu hp hr hz hl S
                              replace S : St w u ([] ++ X) := S
                              have e44 : sl a 44 = .slice A2 x2.length c2 := hp 5 rfl
                              have e46 : sl a 46 = .int .i64 (w64 (p156 + 1)) := hp 7 rfl
                              exact .inl ⟨rfl, .slice (subA c2 ((w64 (p156 + 1)).toNat) 2 A2) ((subL x2 (w64 (p156 + 1)) (x2.length : Int)).length) (c2 - (w64 (p156 + 1)).toNat), u, (run_slicefrom (l := x2) rfl Tryd.underlying24 sz48 (ev_sl e44) (ev_sl e46) hk158 rfl (S.rc0 h2.rc).cap), rfl, S⟩
                            · intro a u X hB hu hp hr hz hl S
                              replace S : St w u ([.row 48 2 (.slice B113 p106.2.2.length d115) p106.2.2.length (p106.2.2.flatMap ePermit)] ++ X) := S
                              have e42 : sl a 42 = .slice (subA d115 ((0 : Int).toNat) 2 B113) ((subL p106.2.2 0 p156).length) (d115 - (0 : Int).toNat) := hp 3 rfl
                              have e47 : sl a 47 = .slice (subA c2 ((w64 (p156 + 1)).toNat) 2 A2) ((subL x2 (w64 (p156 + 1)) (x2.length : Int)).length) (c2 - (w64 (p156 + 1)).toNat) := hp 8 rfl
                              replace S := S.cutrow 0 rfl ePermit_len rfl hk157
                              obtain ⟨B, d, w', hrun, S'⟩ := S.appendL (i := 0) (P := Tryd.prog) (ty := 24) (lx := subL p106.2.2 0 p156) (ly := subL x2 (w64 (p156 + 1)) (x2.length : Int)) (c' := (c2 - (w64 (p156 + 1)).toNat)) rfl rfl Tryd.underlying24 inf48 rfl (by decide) (rc_sub ePermit_len hk158 rfl (S.rc0 h2.rc)).rd rfl ePermit_one hk159 (by decide)
                              exact .inl ⟨rfl, _, w', run_append rfl (ev_sl e42) (ev_sl e47) hrun, rfl, S'⟩
                            · intro a u X hB hu hp hr hz hl S
                              replace S : St w u ([] ++ X) := S
                              exact .inl ⟨rfl, .pointer (some ⟨g116, 2, none⟩), u, (run_fieldAddr rfl fl26_2 (hF.evB hB rfl rfl) rfl), rfl, S⟩
                            · intro a u X hB hu hp hr hz hl S
                              replace S : St w u ([.box g116 26 #[.slice B107 p106.1.length d109, .slice B110 p106.2.1.length d112, .slice B113 p106.2.2.length d115]] ++ X) := S
                              have e48 : sl a 48 = .slice (slA (sl a 48)) (((subL p106.2.2 0 p156) ++ (subL x2 (w64 (p156 + 1)) (x2.length : Int))).length) (slC (sl a 48)) := hp 9 rfl
                              have e49 : sl a 49 = .pointer (some ⟨g116, 2, none⟩) := hp 10 rfl
                              exact .inr (.inl ⟨rfl, _, run_store (cs' := #[.slice B107 p106.1.length d109, .slice B110 p106.2.1.length d112, .slice (slA (sl a 48)) (((subL p106.2.2 0 p156) ++ (subL x2 (w64 (p156 + 1)) (x2.length : Int))).length) (slC (sl a 48))]) rfl sz24 (ev_sl e49) (ev_sl e48) rfl rfl rfl (S.free 0 rfl) rfl rfl, trivial, S.put 0 rfl (#[.slice B107 p106.1.length d109, .slice B110 p106.2.1.length d112, .slice (slA (sl a 48)) (((subL p106.2.2 0 p156) ++ (subL x2 (w64 (p156 + 1)) (x2.length : Int))).length) (slC (sl a 48))])⟩)
                          · intro a u hB hp S
                            obtain ⟨q0, q1, q2, q3, q4, q5, q6, q7, q8, q9, q10, q11, _⟩ := hp
                            have e39 : sl a 39 = .pointer (some ⟨g116, 2, none⟩) := q0
                            have e40 : sl a 40 = .slice B113 p106.2.2.length d115 := q1
                            have e41 : sl a 41 = .int .i64 p156 := q2
                            have e42 : sl a 42 = .slice (subA d115 ((0 : Int).toNat) 2 B113) ((subL p106.2.2 0 p156).length) (d115 - (0 : Int).toNat) := q3
                            have e43 : sl a 43 = .pointer (some ⟨g101, 2, none⟩) := q4
                            have e44 : sl a 44 = .slice A2 x2.length c2 := q5
                            have e45 : sl a 45 = .int .i64 p156 := q6
                            have e46 : sl a 46 = .int .i64 (w64 (p156 + 1)) := q7
                            have e47 : sl a 47 = .slice (subA c2 ((w64 (p156 + 1)).toNat) 2 A2) ((subL x2 (w64 (p156 + 1)) (x2.length : Int)).length) (c2 - (w64 (p156 + 1)).toNat) := q8
                            have e48 : sl a 48 = .slice (slA (sl a 48)) (((subL p106.2.2 0 p156) ++ (subL x2 (w64 (p156 + 1)) (x2.length : Int))).length) (slC (sl a 48)) := q9
                            have e49 : sl a 49 = .pointer (some ⟨g116, 2, none⟩) := q10
                            replace S : St w u [.row 48 2 (.slice (slA (sl a 48)) (((subL p106.2.2 0 p156) ++ (subL x2 (w64 (p156 + 1)) (x2.length : Int))).length) (slC (sl a 48))) (((subL p106.2.2 0 p156) ++ (subL x2 (w64 (p156 + 1)) (x2.length : Int))).length) (((subL p106.2.2 0 p156) ++ (subL x2 (w64 (p156 + 1)) (x2.length : Int))).flatMap ePermit), .box g116 26 #[.slice B107 p106.1.length d109, .slice B110 p106.2.1.length d112, .slice (slA (sl a 48)) (((subL p106.2.2 0 p156) ++ (subL x2 (w64 (p156 + 1)) (x2.length : Int))).length) (slC (sl a 48))], .row 4 1 (.slice B107 p106.1.length d109) p106.1.length (p106.1.flatMap eB), .row 4 1 (.slice B110 p106.2.1.length d112) p106.2.1.length (p106.2.1.flatMap eB), .box g103 26 #[.slice none 0 0, .slice none 0 0, .slice none 0 0], .box g102 35 #[.int .i64 x3, .int .i64 x4, .int .i64 x5], .box g101 26 #[.slice A0 x0.length c0, .slice A1 x1.length c1, .slice A2 x2.length c2]] := S
                            clear q0 q1 q2 q3 q4 q5 q6 q7 q8 q9 q10 q11
                            generalize slA (sl a 48) = B160 at *
                            generalize slC (sl a 48) = d161 at *
                            have hF := hF.region hB [(39, .pointer (some ⟨g116, 2, none⟩)), (40, .slice B113 p106.2.2.length d115), (41, .int .i64 p156), (42, .slice (subA d115 ((0 : Int).toNat) 2 B113) ((subL p106.2.2 0 p156).length) (d115 - (0 : Int).toNat)), (43, .pointer (some ⟨g101, 2, none⟩)), (44, .slice A2 x2.length c2), (45, .int .i64 p156), (46, .int .i64 (w64 (p156 + 1))), (47, .slice (subA c2 ((w64 (p156 + 1)).toNat) 2 A2) ((subL x2 (w64 (p156 + 1)) (x2.length : Int)).length) (c2 - (w64 (p156 + 1)).toNat)), (48, .slice B160 (((subL p106.2.2 0 p156) ++ (subL x2 (w64 (p156 + 1)) (x2.length : Int))).length) d161), (49, .pointer (some ⟨g116, 2, none⟩))] (allSl_mem ⟨e39, e40, e41, e42, e43, e44, e45, e46, e47, e48, e49, trivial⟩) rfl
                            clear hB e39 e40 e41 e42 e43 e44 e45 e46 e47 e48 e49
                            obtain rfl := Option.some.inj hM154
                            exact ⟨(subL p106.2.2 0 p156) ++ (subL x2 (w64 (p156 + 1)) (x2.length : Int)), B160, d161, rfl, hF.keep _ ⟨rfl, rfl, rfl, trivial⟩, S.sel [1, 4, 2, 3, 0] rfl rfl⟩
                        · replace hM154 := bif_t hc155 hM154
                          refine cond_t hF rfl hc155 ?_
                          refine wp_region_lit ?_
                          refine op_val (v := .pointer (some ⟨g116, 2, none⟩)) rfl rfl hF rfl (run_fieldAddr rfl fl26_2 (hF.ev rfl) rfl) ?_; clear hF; intro a hF
                          refine op_val (v := .slice B113 p106.2.2.length d115) rfl rfl hF rfl (run_load1 rfl one24 (hF.ev rfl) ((S.free 0 rfl).cell rfl)) ?_; clear hF; intro a hF
                          refine op_val (v := .pointer (some ⟨g102, 2, none⟩)) rfl rfl hF rfl (run_fieldAddr rfl fl35_2 (hF.ev rfl) rfl) ?_; clear hF; intro a hF
                          refine op_val (v := .int .i64 x5) rfl rfl hF rfl (run_load1 rfl one3 (hF.ev rfl) ((S.free 5 rfl).cell rfl)) ?_; clear hF; intro a hF
                          refine op_val (v := .pointer (some ⟨g102, 1, none⟩)) rfl rfl hF rfl (run_fieldAddr rfl fl35_1 (hF.ev rfl) rfl) ?_; clear hF; intro a hF
                          refine op_val (v := .int .i64 x4) rfl rfl hF rfl (run_load1 rfl one3 (hF.ev rfl) ((S.free 5 rfl).cell rfl)) ?_; clear hF; intro a hF
                          refine op_val (v := .agg #[.int .i64 x5, .int .i64 x4]) rfl rfl hF rfl (run_build (vs := [(0, .int .i64 x5), (1, .int .i64 x4)]) rfl ⟨⟨rfl, (hF.ev rfl)⟩, ⟨rfl, (hF.ev rfl)⟩, trivial⟩ (bd48_0_1 rfl rfl)) ?_; clear hF; intro a hF
                          refine op_newrowL (ls := (([(x5, x4)] : List (Int × Int)) : List (Int × Int))) (e := ePermit) rfl rfl hF rfl S (run_buildS (vs := [(0, .agg #[.int .i64 x5, .int .i64 x4])]) rfl ⟨⟨rfl, (hF.ev rfl)⟩, trivial⟩ (bs24_1_2 )) rfl ePermit_len (Nat.le_of_ble_eq_true rfl) ?_; clear hF S; intro a g162 u hF S
                          obtain ⟨hk165, hM154⟩ := chk_ex hM154
                          replace hk165 := apB_t hk165
                          refine op_appendL (lx := p106.2.2) (ly := ([(x5, x4)] : List (Int × Int))) rfl rfl hF rfl S rfl (hF.ev rfl) (hF.ev rfl) (i := 4) rfl rfl Tryd.underlying24 inf48 rfl (by decide) (S.rc 0 rfl).rd rfl ePermit_one hk165 (by decide) ?_; clear hF S; intro a B163 d164 u hF S
                          refine op_val (v := .pointer (some ⟨g116, 2, none⟩)) rfl rfl hF rfl (run_fieldAddr rfl fl26_2 (hF.ev rfl) rfl) ?_; clear hF; intro a hF
                          refine op_do rfl rfl (run_store (cs' := #[.slice B107 p106.1.length d109, .slice B110 p106.2.1.length d112, .slice B163 ((p106.2.2 ++ ([(x5, x4)] : List (Int × Int))).length) d164]) rfl sz24 (hF.ev rfl) (hF.ev rfl) rfl rfl rfl (S.free 1 rfl) rfl rfl) ?_; replace S := S.put 1 rfl (#[.slice B107 p106.1.length d109, .slice B110 p106.2.1.length d112, .slice B163 ((p106.2.2 ++ ([(x5, x4)] : List (Int × Int))).length) d164])
                          generalize World.setRow _ _ _ = u at S ⊢
                          refine wpList_nil ?_
                          obtain rfl := Option.some.inj hM154
                          exact ⟨p106.2.2 ++ ([(x5, x4)] : List (Int × Int)), B163, d164, rfl, hF.keep _ ⟨rfl, rfl, rfl, trivial⟩, S.sel [1, 5, 2, 3, 4] rfl rfl⟩
                      · rintro a u ⟨p150, B152, d153, rfl, hF, S⟩
                        obtain rfl := Option.some.inj hM148
                        exact ⟨(p106.2.1, p150), B152, d153, rfl, rfl, hF.keep _ ⟨rfl, rfl, rfl, trivial⟩, S.sel [0, 1, 2, 3, 4] rfl rfl⟩
                    · replace hM148 := bif_t hc149 hM148
                      refine cond_t hF rfl hc149 ?_
                      refine wp_region_lit ?_
                      refine op_val (v := .pointer (some ⟨g116, 1, none⟩)) rfl rfl hF rfl (run_fieldAddr rfl fl26_1 (hF.ev rfl) rfl) ?_; clear hF; intro a hF
                      refine op_val (v := .slice B110 p106.2.1.length d112) rfl rfl hF rfl (run_load1 rfl one23 (hF.ev rfl) ((S.free 0 rfl).cell rfl)) ?_; clear hF; intro a hF
                      refine op_val (v := .pointer (some ⟨g102, 1, none⟩)) rfl rfl hF rfl (run_fieldAddr rfl fl35_1 (hF.ev rfl) rfl) ?_; clear hF; intro a hF
                      refine op_val (v := .int .i64 x4) rfl rfl hF rfl (run_load1 rfl one3 (hF.ev rfl) ((S.free 5 rfl).cell rfl)) ?_; clear hF; intro a hF
                      obtain ⟨hk166, hM148⟩ := chk_ex hM148
                      replace hk166 := ixB_t hk166
                      refine op_val (v := .pointer (some ⟨adB B110, adO B110 + x4.toNat * 1, none⟩)) rfl rfl hF rfl (run_indexAddr (b := adB B110) (off := adO B110) rfl Tryd.underlying23 sz4 ((hF.ev rfl).trans (congrArg (fun A => Value.slice A p106.2.1.length d112) ((S.rc 2 rfl).rd.ad (ix_pos hk166)))) (hF.ev rfl) hk166.1 hk166.2 (k' := adO B110 + x4.toNat * 1) rfl) ?_; clear hF; intro a hF
                      obtain ⟨w', hrun, S'⟩ := run_storeElN (P := Tryd.prog) (ρ := a.eval) (y0 := false) (off := 0) S 4 (.tmp 77) (.const (.bool false)) (i := 2) sz4 (hF.ev rfl) rfl rfl rfl rfl rfl rfl eB_len false (ix_ltn hk166 rfl) rfl rfl
                      refine op_do rfl rfl (hrun _ rfl) ?_; clear hrun S; have S := S'; clear S'; generalize w' = u at S ⊢
                      refine wpList_nil ?_
                      obtain rfl := Option.some.inj hM148
                      exact ⟨(p106.2.1.set x4.toNat false, p106.2.2), B113, d115, rfl, (len_set rfl), hF.keep _ ⟨rfl, rfl, rfl, trivial⟩, S.sel [0, 4, 1, 2, 3] rfl rfl⟩
                  · rintro a u ⟨p143, B146, d147, rfl, hn145, hF, S⟩
                    obtain rfl := Option.some.inj hM141
                    exact ⟨(p143.1, p143.2), B146, d147, rfl, hn145, hF.keep _ ⟨rfl, rfl, rfl, trivial⟩, S.sel [0, 1, 2, 3, 4] rfl rfl⟩
                · replace hM141 := bif_t hc142 hM141
                  refine cond_t hF rfl hc142 ?_
                  refine wp_region_lit ?_
                  refine op_val (v := .pointer (some ⟨g116, 1, none⟩)) rfl rfl hF rfl (run_fieldAddr rfl fl26_1 (hF.ev rfl) rfl) ?_; clear hF; intro a hF
                  refine op_val (v := .slice B110 p106.2.1.length d112) rfl rfl hF rfl (run_load1 rfl one23 (hF.ev rfl) ((S.free 0 rfl).cell rfl)) ?_; clear hF; intro a hF
                  refine op_val (v := .pointer (some ⟨g102, 1, none⟩)) rfl rfl hF rfl (run_fieldAddr rfl fl35_1 (hF.ev rfl) rfl) ?_; clear hF; intro a hF
                  refine op_val (v := .int .i64 x4) rfl rfl hF rfl (run_load1 rfl one3 (hF.ev rfl) ((S.free 5 rfl).cell rfl)) ?_; clear hF; intro a hF
                  obtain ⟨hk167, hM141⟩ := chk_ex hM141
                  replace hk167 := ixB_t hk167
                  refine op_val (v := .pointer (some ⟨adB B110, adO B110 + x4.toNat * 1, none⟩)) rfl rfl hF rfl (run_indexAddr (b := adB B110) (off := adO B110) rfl Tryd.underlying23 sz4 ((hF.ev rfl).trans (congrArg (fun A => Value.slice A p106.2.1.length d112) ((S.rc 2 rfl).rd.ad (ix_pos hk167)))) (hF.ev rfl) hk167.1 hk167.2 (k' := adO B110 + x4.toNat * 1) rfl) ?_; clear hF; intro a hF
                  obtain ⟨w', hrun, S'⟩ := run_storeElN (P := Tryd.prog) (ρ := a.eval) (y0 := true) (off := 0) S 4 (.tmp 70) (.const (.bool true)) (i := 2) sz4 (hF.ev rfl) rfl rfl rfl rfl rfl rfl eB_len false (ix_ltn hk167 rfl) rfl rfl
                  refine op_do rfl rfl (hrun _ rfl) ?_; clear hrun S; have S := S'; clear S'; generalize w' = u at S ⊢
                  refine wpList_nil ?_
                  obtain rfl := Option.some.inj hM141
                  exact ⟨(p106.2.1.set x4.toNat true, p106.2.2), B113, d115, rfl, (len_set rfl), hF.keep _ ⟨rfl, rfl, rfl, trivial⟩, S.sel [0, 4, 1, 2, 3] rfl rfl⟩
              · rintro a u ⟨p136, B139, d140, rfl, hn138, hF, S⟩
                obtain rfl := Option.some.inj hM134
                exact ⟨(p106.1, p136.1, p136.2), B139, d140, rfl, rfl, hn138, hF.keep _ ⟨rfl, rfl, rfl, trivial⟩, S.sel [0, 1, 2, 3, 4] rfl rfl⟩
            · replace hM134 := bif_t hc135 hM134
              refine cond_t hF rfl hc135 ?_
              refine wp_region_lit ?_
              refine op_val (v := .pointer (some ⟨g116, 0, none⟩)) rfl rfl hF rfl (run_fieldAddr rfl fl26_0 (hF.ev rfl) rfl) ?_; clear hF; intro a hF
              refine op_val (v := .slice B107 p106.1.length d109) rfl rfl hF rfl (run_load1 rfl one23 (hF.ev rfl) ((S.free 0 rfl).cell rfl)) ?_; clear hF; intro a hF
              refine op_val (v := .pointer (some ⟨g102, 1, none⟩)) rfl rfl hF rfl (run_fieldAddr rfl fl35_1 (hF.ev rfl) rfl) ?_; clear hF; intro a hF
              refine op_val (v := .int .i64 x4) rfl rfl hF rfl (run_load1 rfl one3 (hF.ev rfl) ((S.free 5 rfl).cell rfl)) ?_; clear hF; intro a hF
              obtain ⟨hk168, hM134⟩ := chk_ex hM134
              replace hk168 := ixB_t hk168
              refine op_val (v := .pointer (some ⟨adB B107, adO B107 + x4.toNat * 1, none⟩)) rfl rfl hF rfl (run_indexAddr (b := adB B107) (off := adO B107) rfl Tryd.underlying23 sz4 ((hF.ev rfl).trans (congrArg (fun A => Value.slice A p106.1.length d109) ((S.rc 1 rfl).rd.ad (ix_pos hk168)))) (hF.ev rfl) hk168.1 hk168.2 (k' := adO B107 + x4.toNat * 1) rfl) ?_; clear hF; intro a hF
              obtain ⟨w', hrun, S'⟩ := run_storeElN (P := Tryd.prog) (ρ := a.eval) (y0 := false) (off := 0) S 4 (.tmp 63) (.const (.bool false)) (i := 1) sz4 (hF.ev rfl) rfl rfl rfl rfl rfl rfl eB_len false (ix_ltn hk168 rfl) rfl rfl
              refine op_do rfl rfl (hrun _ rfl) ?_; clear hrun S; have S := S'; clear S'; generalize w' = u at S ⊢
              refine wpList_nil ?_
              obtain rfl := Option.some.inj hM134
              exact ⟨(p106.1.set x4.toNat false, p106.2.1, p106.2.2), B113, d115, rfl, (len_set rfl), rfl, hF.keep _ ⟨rfl, rfl, rfl, trivial⟩, S.sel [0, 4, 1, 2, 3] rfl rfl⟩
          · rintro a u ⟨p128, B132, d133, rfl, hn130, hn131, hF, S⟩
            obtain rfl := Option.some.inj hM126
            exact ⟨(p128.1, p128.2.1, p128.2.2), B132, d133, rfl, hn130, hn131, hF.keep _ ⟨rfl, rfl, rfl, trivial⟩, S.sel [0, 1, 2, 3, 4] rfl rfl⟩
        · replace hM126 := bif_t hc127 hM126
          refine cond_t hF rfl hc127 ?_
          refine wp_region_lit ?_
          refine op_val (v := .pointer (some ⟨g116, 0, none⟩)) rfl rfl hF rfl (run_fieldAddr rfl fl26_0 (hF.ev rfl) rfl) ?_; clear hF; intro a hF
          refine op_val (v := .slice B107 p106.1.length d109) rfl rfl hF rfl (run_load1 rfl one23 (hF.ev rfl) ((S.free 0 rfl).cell rfl)) ?_; clear hF; intro a hF
          refine op_val (v := .pointer (some ⟨g102, 1, none⟩)) rfl rfl hF rfl (run_fieldAddr rfl fl35_1 (hF.ev rfl) rfl) ?_; clear hF; intro a hF
          refine op_val (v := .int .i64 x4) rfl rfl hF rfl (run_load1 rfl one3 (hF.ev rfl) ((S.free 5 rfl).cell rfl)) ?_; clear hF; intro a hF
          obtain ⟨hk169, hM126⟩ := chk_ex hM126
          replace hk169 := ixB_t hk169
          refine op_val (v := .pointer (some ⟨adB B107, adO B107 + x4.toNat * 1, none⟩)) rfl rfl hF rfl (run_indexAddr (b := adB B107) (off := adO B107) rfl Tryd.underlying23 sz4 ((hF.ev rfl).trans (congrArg (fun A => Value.slice A p106.1.length d109) ((S.rc 1 rfl).rd.ad (ix_pos hk169)))) (hF.ev rfl) hk169.1 hk169.2 (k' := adO B107 + x4.toNat * 1) rfl) ?_; clear hF; intro a hF
          obtain ⟨w', hrun, S'⟩ := run_storeElN (P := Tryd.prog) (ρ := a.eval) (y0 := true) (off := 0) S 4 (.tmp 56) (.const (.bool true)) (i := 1) sz4 (hF.ev rfl) rfl rfl rfl rfl rfl rfl eB_len false (ix_ltn hk169 rfl) rfl rfl
          refine op_do rfl rfl (hrun _ rfl) ?_; clear hrun S; have S := S'; clear S'; generalize w' = u at S ⊢
          refine wpList_nil ?_
          obtain rfl := Option.some.inj hM126
          exact ⟨(p106.1.set x4.toNat true, p106.2.1, p106.2.2), B113, d115, rfl, (len_set rfl), rfl, hF.keep _ ⟨rfl, rfl, rfl, trivial⟩, S.sel [0, 4, 1, 2, 3] rfl rfl⟩
      · rintro a u ⟨p120, B124, d125, rfl, hn122, hn123, hF, S⟩
        refine wp_seq ?_
        refine wp_region_lit ?_
        refine op_val (v := .agg #[.slice B107 p106.1.length d109, .slice B110 p106.2.1.length d112, .slice B124 p120.2.2.length d125]) rfl rfl hF rfl (run_loadN rfl ag26 (hF.ev rfl) rfl ((S.free 0 rfl).cells 0 #[.slice B107 p106.1.length d109, .slice B110 p106.2.1.length d112, .slice B124 p120.2.2.length d125] rfl)) ?_; clear hF; intro a hF
        refine op_do rfl rfl (run_store (cs' := #[.slice B107 p106.1.length d109, .slice B110 p106.2.1.length d112, .slice B124 p120.2.2.length d125]) rfl sz26 (hF.ev rfl) (hF.ev rfl) rfl rfl rfl (S.free 1 rfl) rfl rfl) ?_; replace S := S.put 1 rfl (#[.slice B107 p106.1.length d109, .slice B110 p106.2.1.length d112, .slice B124 p120.2.2.length d125])
        generalize World.setRow _ _ _ = u at S ⊢
        refine op_val (v := .bool true) rfl rfl hF rfl (run_assign rfl rfl) ?_; clear hF; intro a hF
        refine wpList_nil ?_
        refine wp_ret ?_
        repeat with_reducible (first | refine then_ret ?_ | refine in_ret ?_ | refine in_nrm ?_)
        refine ret2_gw (.inl rfl) hF rfl (res_cell (hF.ev rfl) (res_loadN ag26 rfl (S.cells 1 rfl 0 #[.slice B107 p106.1.length d109, .slice B110 p106.2.1.length d112, .slice B124 p120.2.2.length d125] rfl))) (res_tmp (hF.ev rfl)) ?_
        obtain rfl := Option.some.inj hM
        exact ⟨B107, p106.1.length, d109, B110, p106.2.1.length, d112, B124, p120.2.2.length, d125, rfl, hn122, hn123, rfl, S.sel [2, 3, 4] rfl rfl⟩
    · replace hM := bif_t hc119 hM
      refine cond_t hF rfl hc119 ?_
      refine wp_seq ?_
      refine wp_region_lit ?_
      refine op_val (v := .agg #[.slice B107 p106.1.length d109, .slice B110 p106.2.1.length d112, .slice B113 p106.2.2.length d115]) rfl rfl hF rfl (run_loadN rfl ag26 (hF.ev rfl) rfl ((S.free 0 rfl).cells 0 #[.slice B107 p106.1.length d109, .slice B110 p106.2.1.length d112, .slice B113 p106.2.2.length d115] rfl)) ?_; clear hF; intro a hF
      refine op_do rfl rfl (run_store (cs' := #[.slice B107 p106.1.length d109, .slice B110 p106.2.1.length d112, .slice B113 p106.2.2.length d115]) rfl sz26 (hF.ev rfl) (hF.ev rfl) rfl rfl rfl (S.free 4 rfl) rfl rfl) ?_; replace S := S.put 4 rfl (#[.slice B107 p106.1.length d109, .slice B110 p106.2.1.length d112, .slice B113 p106.2.2.length d115])
      generalize World.setRow _ _ _ = u at S ⊢
      refine op_val (v := .bool false) rfl rfl hF rfl (run_assign rfl rfl) ?_; clear hF; intro a hF
      refine wpList_nil ?_
      refine wp_ret ?_
      repeat with_reducible (first | refine then_ret ?_ | refine in_ret ?_ | refine in_nrm ?_)
      refine ret2_gw (.inl rfl) hF rfl (res_cell (hF.ev rfl) (res_loadN ag26 rfl (S.cells 4 rfl 0 #[.slice B107 p106.1.length d109, .slice B110 p106.2.1.length d112, .slice B113 p106.2.2.length d115] rfl))) (res_tmp (hF.ev rfl)) ?_
      obtain rfl := Option.some.inj hM
      exact ⟨B107, p106.1.length, d109, B110, p106.2.1.length, d112, B113, p106.2.2.length, d115, rfl, rfl, rfl, rfl, S.sel [1, 2, 3] rfl rfl⟩

set_option maxHeartbeats 4000000 in
theorem c_spec_l20Rd_odd {x0 : List Int} {x1 : Int} {x2 : Int} {A0 : Option Addr} {n0 c0 : Nat} {g0 : Nat} {w : World} {r : Bool × Int} {w0 : World} {X : List Asn} (h0 : Rt w0 1 eU A0 n0 c0 x0) (S : St w0 w (Asn.box g0 78 #[.slice A0 n0 c0, .int .i64 x1] :: X)) (hM : m_spec_l20Rd_odd x0 x1 x2 = some r) :
    Calls Tryd.prog 46 #[.pointer (some ⟨g0, 0, none⟩), .int .i64 x2] w (fun e w' => e = .returned (.bool r.1) ∧ St w0 w' (Asn.box g0 78 #[.slice A0 n0 c0, .int .i64 r.2] :: X)) := by
  obtain rfl := h0.len
  unfold m_spec_l20Rd_odd at hM
  refine calls_gw Tryd.func46 Tryd.ntmps46 rfl [(0, .pointer (some ⟨g0, 0, none⟩)), (1, .int .i64 x2)] ⟨rfl, rfl, trivial⟩ rfl ?_
  intro a hF
  refine wp_seq ?_
  refine wp_region_lit ?_
  refine op_val (v := .bool false) rfl rfl hF rfl (run_assign rfl rfl) ?_; clear hF; intro a hF
  refine wpList_nil ?_
  refine wp_seq ?_
  obtain ⟨o102, hM103, hM⟩ := bind_ex hM
  refine wp_cut (fun a u => ∃ (p101 : Bool × Int), p101 = o102 ∧ Fr a 15 [(4, .bool p101.1)] ∧ St w0 u (Asn.box g0 78 #[.slice A0 x0.length c0, .int .i64 p101.2] :: X)) ?_ ?_
  · have _ := trivial
    refine wp_region_lit ?_
    refine op_val (v := .int .i64 x2) rfl rfl hF rfl (run_move rfl (hF.ev rfl)) ?_; clear hF; intro a hF
    refine op_val (v := .bool (ltB 0 x2)) rfl rfl hF rfl (run_gtr (hF.ev rfl) rfl rfl) ?_; clear hF; intro a hF
    refine op_val (v := .bool (ltB 0 x2)) rfl rfl hF rfl (run_move rfl (hF.ev rfl)) ?_; clear hF; intro a hF
    refine op_gv (v := .pointer (some ⟨g0, 0, none⟩)) rfl rfl hF rfl (yt (gw_yield hF rfl rfl rfl)) (fun hg => (run_move rfl (hF.ev rfl))) ?_; clear hF; intro a hF
    refine op_gv (v := .int .i64 x2) rfl rfl hF rfl (yt (gw_yield hF rfl rfl rfl)) (fun hg => (run_move rfl (hF.ev rfl))) ?_; clear hF; intro a hF
    cases hc104 : (ltB 0 x2)
    · replace hM103 := bif_f hc104 hM103
      refine op_skipped rfl ((gw_yield hF rfl rfl rfl).trans (congrArg some hc104)) rfl rfl hF rfl ?_; clear hF; intro a hF
      refine op_skipped rfl ((gw_yield hF rfl rfl rfl).trans (congrArg some hc104)) rfl rfl hF rfl ?_; clear hF; intro a hF
      refine op_skipped rfl ((gw_yield hF rfl rfl rfl).trans (congrArg some hc104)) rfl rfl hF rfl ?_; clear hF; intro a hF
      refine op_skipped rfl ((gw_yield hF rfl rfl rfl).trans (congrArg some hc104)) rfl rfl hF rfl ?_; clear hF; intro a hF
      refine op_val (v := .bool false) rfl rfl hF rfl (run_pick_f rfl (hF.ev rfl) hc104 rfl) ?_; clear hF; intro a hF
      refine op_val (v := .bool false) rfl rfl hF rfl (run_assign rfl (hF.ev rfl)) ?_; clear hF; intro a hF
      refine wpList_nil ?_
      obtain rfl := Option.some.inj hM103
      exact ⟨(false, x1), rfl, hF.keep _ ⟨rfl, trivial⟩, S.selT (M := [.box g0 78 #[.slice A0 x0.length c0, .int .i64 x1]]) 1 [0] rfl rfl rfl⟩
    · replace hM103 := bif_t hc104 hM103
      refine op_guarded rfl ((gw_yield hF rfl rfl rfl).trans (congrArg some hc104)) ?_
      obtain ⟨p105, h105, hM103⟩ := bind_ex hM103
      refine op_call rfl rfl hF rfl (run_call (vs := [.pointer (some ⟨g0, 0, none⟩), .int .i64 x2]) rfl rfl co29 ⟨((hF.ev rfl).trans (gv_t hc104)), ((hF.ev rfl).trans (gv_t hc104)), trivial⟩) (c_spec_l20Rd_pick (x0 := x0) (x1 := x1) (x2 := x2) ⟨h0.rc, rfl⟩ (show St w0 _ (Asn.box g0 78 #[.slice A0 x0.length c0, .int .i64 x1] :: X) from S.selT (M := [.box g0 78 #[.slice A0 x0.length c0, .int .i64 x1]]) 1 [0] rfl rfl rfl) h105) ?_
      rintro e u ⟨rfl, T⟩
      refine ⟨_, rfl, ?_⟩
      clear hF; intro a hF
      clear S; have S := T; clear T
      refine op_guarded rfl ((gw_yield hF rfl rfl rfl).trans (congrArg some hc104)) ?_
      refine op_val (v := .int .i64 x2) rfl rfl hF rfl (run_move rfl (hF.ev rfl)) ?_; clear hF; intro a hF
      refine op_guarded rfl ((gw_yield hF rfl rfl rfl).trans (congrArg some hc104)) ?_
      refine op_val (v := .int .i64 (w64 (x2 - 1))) rfl rfl hF rfl (run_sub (z := w64 (x2 - 1)) (hF.ev rfl) rfl rfl rfl) ?_; clear hF; intro a hF
      refine op_guarded rfl ((gw_yield hF rfl rfl rfl).trans (congrArg some hc104)) ?_
      refine op_val (v := .bool (p105.1 == (w64 (x2 - 1)))) rfl rfl hF rfl (run_eql (hF.ev rfl) (hF.ev rfl) rfl) ?_; clear hF; intro a hF
      refine op_val (v := .bool (p105.1 == (w64 (x2 - 1)))) rfl rfl hF rfl (run_pick_t rfl (hF.ev rfl) hc104 (hF.ev rfl)) ?_; clear hF; intro a hF
      refine op_val (v := .bool (p105.1 == (w64 (x2 - 1)))) rfl rfl hF rfl (run_assign rfl (hF.ev rfl)) ?_; clear hF; intro a hF
      refine wpList_nil ?_
      obtain rfl := Option.some.inj hM103
      exact ⟨(p105.1 == (w64 (x2 - 1)), p105.2), rfl, hF.keep _ ⟨rfl, trivial⟩, S.selT (M := [.box g0 78 #[.slice A0 x0.length c0, .int .i64 p105.2]]) 1 [0] rfl rfl rfl⟩
  · rintro a u ⟨p101, rfl, hF, S⟩
    refine wp_ret ?_
    repeat with_reducible (first | refine then_ret ?_ | refine in_ret ?_ | refine in_nrm ?_)
    refine ret1_gw (.inl rfl) hF rfl (res_tmp (hF.ev rfl)) ?_
    obtain rfl := Option.some.inj hM
    exact ⟨rfl, S.selT (M := [.box g0 78 #[.slice A0 x0.length c0, .int .i64 p101.2]]) 1 [0] rfl rfl rfl⟩

end Go.Proofs.YtnoeliaefhldmaaDoor
