/- Calls return what the models say. -/
import Derived.Test.YtceghkdjpkegaaaDoorDaT
namespace Go.Proofs.YtceghkdjpkegaaaDoor
open Go.ChangeShapes Go.WideShapes Go.ChangeAt Go.RowKit
set_option linter.unusedVariables false
set_option linter.unusedSimpArgs false

theorem c_spec_l20Open {x0 : List Int} {A0 : Option Addr} {n0 c0 : Nat} {w : World} (h0 : Rt w 1 eU A0 n0 c0 x0) :
    Calls Tryd.prog 29 #[.slice A0 n0 c0] w (fun e w' => ∃ G0, e = .returned (.pointer (some ⟨G0, 0, none⟩)) ∧ St w w' [.box G0 77 #[.slice (opA c0 n0 A0) (x0.take 2000).length c0, .int .i64 0]]) := by
  obtain rfl := h0.len
  refine calls_gw Tryd.func29 Tryd.ntmps29 rfl [(0, .slice A0 x0.length c0)] ⟨rfl, trivial⟩ rfl ?_
  intro a hF
  have S := St.nil w
  refine wp_seq ?_
  refine wp_region_lit ?_
  refine op_val (v := .pointer none) rfl rfl hF rfl (run_assign rfl rfl) ?_; clear hF; intro a hF
  refine wpList_nil ?_
  refine wp_seq ?_
  refine wp_seq ?_
  refine wp_region_lit ?_
  refine op_val (v := .slice A0 x0.length c0) rfl rfl hF rfl (run_move rfl (hF.ev rfl)) ?_; clear hF; intro a hF
  refine op_val (v := .int .i64 (x0.length : Int)) rfl rfl hF rfl (run_lenL rfl rfl Tryd.underlying22 (hF.ev rfl)) ?_; clear hF; intro a hF
  refine op_val (v := .bool (ltB 2000 (x0.length : Int))) rfl rfl hF rfl (run_gtr (hF.ev rfl) rfl rfl) ?_; clear hF; intro a hF
  refine wpList_nil ?_
  cases hc101 : (ltB 2000 (x0.length : Int))
  · have hc101_ := hc101
    refine cond_f hF rfl hc101 ?_
    refine wp_skip ?_
    refine wp_seq ?_
    refine wp_region_lit ?_
    refine op_val (v := .slice A0 x0.length c0) rfl rfl hF rfl (run_move rfl (hF.ev rfl)) ?_; clear hF; intro a hF
    refine op_val (v := .agg #[.slice A0 x0.length c0, .int .i64 0]) rfl rfl hF rfl (run_build (vs := [(0, .slice A0 x0.length c0)]) rfl ⟨⟨rfl, (hF.ev rfl)⟩, trivial⟩ (bd77_0 rfl)) ?_; clear hF; intro a hF
    refine op_new (cs := #[.slice A0 x0.length c0, .int .i64 0]) rfl rfl hF rfl S (run_box rfl (hF.ev rfl) rfl) ?_; clear hF S; intro a g102 u hF S
    refine op_val (v := .pointer (some ⟨g102, 0, none⟩)) rfl rfl hF rfl (run_assign rfl (hF.ev rfl)) ?_; clear hF; intro a hF
    refine wpList_nil ?_
    refine wp_ret ?_
    repeat with_reducible (first | refine then_ret ?_ | refine in_ret ?_ | refine in_nrm ?_)
    refine ret1_gw (.inl rfl) hF rfl (res_tmp (hF.ev rfl)) ?_
    have q1 := ltB_f hc101
    rw [opA, if_neg (by omega), List.take_of_length_le (by omega)]
    exact ⟨g102, rfl, S.sel [0] rfl rfl⟩
  · have hc101_ := hc101
    refine cond_t hF rfl hc101 ?_
    refine wp_region_lit ?_
    refine op_val (v := .slice A0 x0.length c0) rfl rfl hF rfl (run_move rfl (hF.ev rfl)) ?_; clear hF; intro a hF
    have hk103 := slB_t (show slB 0 2000 x0.length = true by have := ltB_t hc101; simp [slB]; omega)
    refine op_val (v := .slice (subA c0 ((0 : Int).toNat) 1 A0) ((subL x0 0 2000).length) (c0 - (0 : Int).toNat)) rfl rfl hF rfl (run_sliceH (l := x0) rfl Tryd.underlying22 sz5 (hF.ev rfl) rfl hk103 rfl (S.rc0 h0.rc).cap) ?_; clear hF; intro a hF
    refine op_val (v := .slice (subA c0 ((0 : Int).toNat) 1 A0) ((subL x0 0 2000).length) (c0 - (0 : Int).toNat)) rfl rfl hF rfl (run_assign rfl (hF.ev rfl)) ?_; clear hF; intro a hF
    refine wpList_nil ?_
    refine wp_seq ?_
    refine wp_region_lit ?_
    refine op_val (v := .slice (subA c0 ((0 : Int).toNat) 1 A0) ((subL x0 0 2000).length) (c0 - (0 : Int).toNat)) rfl rfl hF rfl (run_move rfl (hF.ev rfl)) ?_; clear hF; intro a hF
    refine op_val (v := .agg #[.slice (subA c0 ((0 : Int).toNat) 1 A0) ((subL x0 0 2000).length) (c0 - (0 : Int).toNat), .int .i64 0]) rfl rfl hF rfl (run_build (vs := [(0, .slice (subA c0 ((0 : Int).toNat) 1 A0) ((subL x0 0 2000).length) (c0 - (0 : Int).toNat))]) rfl ⟨⟨rfl, (hF.ev rfl)⟩, trivial⟩ (bd77_0 rfl)) ?_; clear hF; intro a hF
    refine op_new (cs := #[.slice (subA c0 ((0 : Int).toNat) 1 A0) ((subL x0 0 2000).length) (c0 - (0 : Int).toNat), .int .i64 0]) rfl rfl hF rfl S (run_box rfl (hF.ev rfl) rfl) ?_; clear hF S; intro a g104 u hF S
    refine op_val (v := .pointer (some ⟨g104, 0, none⟩)) rfl rfl hF rfl (run_assign rfl (hF.ev rfl)) ?_; clear hF; intro a hF
    refine wpList_nil ?_
    refine wp_ret ?_
    repeat with_reducible (first | refine then_ret ?_ | refine in_ret ?_ | refine in_nrm ?_)
    refine ret1_gw (.inl rfl) hF rfl (res_tmp (hF.ev rfl)) ?_
    have q1 := ltB_t hc101
    rw [opA, if_pos (by omega), take_sub]
    exact ⟨g104, rfl, S.sel [0] rfl rfl⟩

set_option maxHeartbeats 4000000 in
theorem c_impl_Net_hasBus {x0 : Int} {x1 : List (Int × Int × Int)} {x2 : Int} {A1 : Option Addr} {n1 c1 : Nat} {w : World} {r : Bool} (h1 : Rt w 3 eLine A1 n1 c1 x1) (hM : m_impl_Net_hasBus x0 x1 x2 = some r) :
    Calls Tryd.prog 53 #[.agg #[.int .i64 x0, .slice A1 n1 c1], .int .i64 x2] w (fun e w' => e = .returned (.bool r) ∧ St w w' []) := by
  obtain rfl := h1.len
  unfold m_impl_Net_hasBus at hM
  refine calls_gw Tryd.func53 Tryd.ntmps53 rfl [(0, .agg #[.int .i64 x0, .slice A1 x1.length c1]), (1, .int .i64 x2)] ⟨rfl, rfl, trivial⟩ rfl ?_
  intro a hF
  have S := St.nil w
  refine wp_seq ?_
  refine wp_region_lit ?_
  refine op_new (cs := #[.int .i64 x0, .slice A1 x1.length c1]) rfl rfl hF rfl S (run_box rfl (hF.ev rfl) rfl) ?_; clear hF S; intro a g101 u hF S
  refine op_val (v := .bool false) rfl rfl hF rfl (run_assign rfl rfl) ?_; clear hF; intro a hF
  refine wpList_nil ?_
  refine wp_seq ?_
  refine wp_region_lit ?_
  refine op_val (v := .int .i64 x2) rfl rfl hF rfl (run_move rfl (hF.ev rfl)) ?_; clear hF; intro a hF
  refine op_val (v := .bool (leB 0 x2)) rfl rfl hF rfl (run_geq (hF.ev rfl) rfl rfl) ?_; clear hF; intro a hF
  refine op_val (v := .bool (leB 0 x2)) rfl rfl hF rfl (run_move rfl (hF.ev rfl)) ?_; clear hF; intro a hF
  refine op_gv (v := .int .i64 x2) rfl rfl hF rfl (yt (gw_yield hF rfl rfl rfl)) (fun hg => (run_move rfl (hF.ev rfl))) ?_; clear hF; intro a hF
  refine op_gv (v := .pointer (some ⟨g101, 0, none⟩)) rfl rfl hF rfl (yt (gw_yield hF rfl rfl rfl)) (fun hg => (run_fieldAddr rfl fl55_0 (hF.ev rfl) rfl)) ?_; clear hF; intro a hF
  refine op_gv (v := .int .i64 x0) rfl rfl hF rfl (yt (gw_yield hF rfl rfl rfl)) (fun hg => (run_load1 rfl one3 ((hF.ev rfl).trans (gv_t hg)) ((S.free 0 rfl).cell rfl))) ?_; clear hF; intro a hF
  refine op_gv (v := .bool (ltB x2 x0)) rfl rfl hF rfl (yt (gw_yield hF rfl rfl rfl)) (fun hg => (run_lss ((hF.ev rfl).trans (gv_t hg)) ((hF.ev rfl).trans (gv_t hg)) rfl)) ?_; clear hF; intro a hF
  refine op_val (v := .bool ((leB 0 x2) && (ltB x2 x0))) rfl rfl hF rfl (run_pick_and rfl (hF.ev rfl) (fun hp => ((hF.ev rfl).trans (gv_t hp))) rfl) ?_; clear hF; intro a hF
  refine op_val (v := .bool ((leB 0 x2) && (ltB x2 x0))) rfl rfl hF rfl (run_assign rfl (hF.ev rfl)) ?_; clear hF; intro a hF
  refine wpList_nil ?_
  refine wp_ret ?_
  repeat with_reducible (first | refine then_ret ?_ | refine in_ret ?_ | refine in_nrm ?_)
  refine ret1_gw (.inl rfl) hF rfl (res_tmp (hF.ev rfl)) ?_
  obtain rfl := Option.some.inj hM
  exact ⟨rfl, S.sel [] rfl rfl⟩

set_option maxHeartbeats 4000000 in
theorem c_impl_NetValid {x0 : Int} {x1 : List (Int × Int × Int)} {A1 : Option Addr} {n1 c1 : Nat} {w : World} {r : Bool} (h1 : Rt w 3 eLine A1 n1 c1 x1) (hM : m_impl_NetValid x0 x1 = some r) :
    Calls Tryd.prog 43 #[.agg #[.int .i64 x0, .slice A1 n1 c1]] w (fun e w' => e = .returned (.bool r) ∧ St w w' []) := by
  obtain rfl := h1.len
  unfold m_impl_NetValid at hM
  refine calls_gw Tryd.func43 Tryd.ntmps43 rfl [(0, .agg #[.int .i64 x0, .slice A1 x1.length c1])] ⟨rfl, trivial⟩ rfl ?_
  intro a hF
  have S := St.nil w
  refine wp_seq ?_
  refine wp_region_lit ?_
  refine op_new (cs := #[.int .i64 x0, .slice A1 x1.length c1]) rfl rfl hF rfl S (run_box rfl (hF.ev rfl) rfl) ?_; clear hF S; intro a g101 u hF S
  refine op_val (v := .bool false) rfl rfl hF rfl (run_assign rfl rfl) ?_; clear hF; intro a hF
  refine wpList_nil ?_
  refine wp_seq ?_
  refine wp_seq ?_
  refine wp_region_lit ?_
  refine op_val (v := .pointer (some ⟨g101, 0, none⟩)) rfl rfl hF rfl (run_fieldAddr rfl fl55_0 (hF.ev rfl) rfl) ?_; clear hF; intro a hF
  refine op_val (v := .int .i64 x0) rfl rfl hF rfl (run_load1 rfl one3 (hF.ev rfl) ((S.free 0 rfl).cell rfl)) ?_; clear hF; intro a hF
  refine op_val (v := .bool (ltB x0 1)) rfl rfl hF rfl (run_lss (hF.ev rfl) rfl rfl) ?_; clear hF; intro a hF
  refine op_val (v := .bool (ltB x0 1)) rfl rfl hF rfl (run_move rfl (hF.ev rfl)) ?_; clear hF; intro a hF
  refine op_gv (v := .pointer (some ⟨g101, 0, none⟩)) rfl rfl hF rfl (yf (gw_yield hF rfl rfl rfl)) (fun hg => (run_fieldAddr rfl fl55_0 (hF.ev rfl) rfl)) ?_; clear hF; intro a hF
  refine op_gv (v := .int .i64 x0) rfl rfl hF rfl (yf (gw_yield hF rfl rfl rfl)) (fun hg => (run_load1 rfl one3 ((hF.ev rfl).trans (gv_t hg)) ((S.free 0 rfl).cell rfl))) ?_; clear hF; intro a hF
  refine op_gv (v := .bool (ltB 8 x0)) rfl rfl hF rfl (yf (gw_yield hF rfl rfl rfl)) (fun hg => (run_gtr ((hF.ev rfl).trans (gv_t hg)) rfl rfl)) ?_; clear hF; intro a hF
  refine op_val (v := .bool ((ltB x0 1) || (ltB 8 x0))) rfl rfl hF rfl (run_pick_or rfl (hF.ev rfl) rfl (fun hp => ((hF.ev rfl).trans (gv_t (not_t hp))))) ?_; clear hF; intro a hF
  refine op_val (v := .bool ((ltB x0 1) || (ltB 8 x0))) rfl rfl hF rfl (run_move rfl (hF.ev rfl)) ?_; clear hF; intro a hF
  refine op_gv (v := .pointer (some ⟨g101, 1, none⟩)) rfl rfl hF rfl (yf (gw_yield hF rfl rfl rfl)) (fun hg => (run_fieldAddr rfl fl55_1 (hF.ev rfl) rfl)) ?_; clear hF; intro a hF
  refine op_gv (v := .slice A1 x1.length c1) rfl rfl hF rfl (yf (gw_yield hF rfl rfl rfl)) (fun hg => (run_load1 rfl one53 ((hF.ev rfl).trans (gv_t hg)) ((S.free 0 rfl).cell rfl))) ?_; clear hF; intro a hF
  refine op_gv (v := .int .i64 (x1.length : Int)) rfl rfl hF rfl (yf (gw_yield hF rfl rfl rfl)) (fun hg => (run_lenL rfl rfl Tryd.underlying53 ((hF.ev rfl).trans (gv_t hg)))) ?_; clear hF; intro a hF
  refine op_gv (v := .bool (ltB 10 (x1.length : Int))) rfl rfl hF rfl (yf (gw_yield hF rfl rfl rfl)) (fun hg => (run_gtr ((hF.ev rfl).trans (gv_t hg)) rfl rfl)) ?_; clear hF; intro a hF
  refine op_val (v := .bool (((ltB x0 1) || (ltB 8 x0)) || (ltB 10 (x1.length : Int)))) rfl rfl hF rfl (run_pick_or rfl (hF.ev rfl) rfl (fun hp => ((hF.ev rfl).trans (gv_t (not_t hp))))) ?_; clear hF; intro a hF
  refine wpList_nil ?_
  cases hc102 : (((ltB x0 1) || (ltB 8 x0)) || (ltB 10 (x1.length : Int)))
  · replace hM := bif_f hc102 hM
    refine cond_f hF rfl hc102 ?_
    refine wp_skip ?_
    refine wp_seq ?_
    refine wp_seq ?_
    refine wp_region_lit ?_
    refine op_val (v := .pointer (some ⟨g101, 1, none⟩)) rfl rfl hF rfl (run_fieldAddr rfl fl55_1 (hF.ev rfl) rfl) ?_; clear hF; intro a hF
    refine op_val (v := .slice A1 x1.length c1) rfl rfl hF rfl (run_load1 rfl one53 (hF.ev rfl) ((S.free 0 rfl).cell rfl)) ?_; clear hF; intro a hF
    refine op_val (v := .int .i64 (x1.length : Int)) rfl rfl hF rfl (run_lenL rfl rfl Tryd.underlying53 (hF.ev rfl)) ?_; clear hF; intro a hF
    refine op_val (v := .int .i64 0) rfl rfl hF rfl (run_move rfl rfl) ?_; clear hF; intro a hF
    refine wpList_nil ?_
    obtain ⟨o104, hM105, hM⟩ := bind_ex hM
    refine wp_cut (fun a u => ∃ (p103 : Unit), (Sum.inl p103) = o104 ∧ Fr a 56 [(2, .bool false)] ∧ St w u []) ?_ ?_
    · have _ := trivial
      refine wp_block ?_
      refine loop_gw (fun m a u => ∃ (p106 : Int), m_impl_NetValid_l1 x0 x1 m p106 = some _ ∧ Fr a 56 [(1, .pointer (some ⟨g101, 0, none⟩)), (2, .bool false), (20, .slice A1 x1.length c1), (21, .int .i64 (x1.length : Int)), (22, .int .i64 p106)] ∧ St w u [.box g101 55 #[.int .i64 x0, .slice A1 x1.length c1]]) FUEL ⟨0, hM105, hF.keep _ ⟨rfl, rfl, rfl, rfl, rfl, trivial⟩, S.sel [0] rfl rfl⟩ ?_
      clear hF S hM105; rintro m a u ⟨p106, hM105, hF, S⟩
      rcases m with _ | f1
      · exact none_some hM105
      rw [m_impl_NetValid_l1.eq_2] at hM105
      refine wp_seq ?_
      refine wp_region_lit ?_
      refine op_val (v := .bool (ltB p106 (x1.length : Int))) rfl rfl hF rfl (run_lss (hF.ev rfl) (hF.ev rfl) rfl) ?_; clear hF; intro a hF
      refine wpList_nil ?_
      refine wp_seq ?_
      cases hc107 : (ltB p106 (x1.length : Int))
      · replace hM105 := bif_f hc107 hM105
        refine cond_f hF rfl hc107 ?_
        refine wp_exit ?_
        repeat with_reducible (first | refine then_exit ?_ | refine in_hit ?_ | refine in_miss rfl ?_)
        obtain rfl := Option.some.inj hM105
        exact ⟨(), rfl, hF.keep _ ⟨rfl, trivial⟩, S.sel [] rfl rfl⟩
      · replace hM105 := bif_t hc107 hM105
        refine cond_t hF rfl hc107 ?_
        refine wp_skip ?_
        refine wp_seq ?_
        refine wp_block ?_
        refine wp_seq ?_
        refine wp_region_lit ?_
        obtain ⟨hk108, hM105⟩ := chk_ex hM105
        replace hk108 := ixB_t hk108
        refine op_val (v := .pointer (some ⟨adB A1, adO A1 + p106.toNat * 3, none⟩)) rfl rfl hF rfl (run_indexAddr (b := adB A1) (off := adO A1) rfl Tryd.underlying53 sz52 ((hF.ev rfl).trans (congrArg (fun A => Value.slice A x1.length c1) ((S.rc0 h1.rc).rd.ad (ix_pos hk108)))) (hF.ev rfl) hk108.1 hk108.2 (k' := adO A1 + p106.toNat * 3) rfl) ?_; clear hF; intro a hF
        refine op_val (v := .agg #[.int .i64 ((x1.getD p106.toNat ((0, 0, 0) : Int × Int × Int)).1), .int .i64 ((x1.getD p106.toNat ((0, 0, 0) : Int × Int × Int)).2.1), .int .i64 ((x1.getD p106.toNat ((0, 0, 0) : Int × Int × Int)).2.2)]) rfl rfl hF rfl (run_loadN (cs := #[.int .i64 ((x1.getD p106.toNat ((0, 0, 0) : Int × Int × Int)).1), .int .i64 ((x1.getD p106.toNat ((0, 0, 0) : Int × Int × Int)).2.1), .int .i64 ((x1.getD p106.toNat ((0, 0, 0) : Int × Int × Int)).2.2)]) rfl ag52 (hF.ev rfl) rfl (rd_elN (l := x1) (S.rc0 h1.rc).rd rfl eLine_len ((0, 0, 0) : Int × Int × Int) (ix_ltn hk108 rfl) rfl)) ?_; clear hF; intro a hF
        refine op_new (cs := #[.int .i64 0, .int .i64 0, .int .i64 0]) rfl rfl hF rfl S (run_allocZ rfl zr52) ?_; clear hF S; intro a g109 u hF S
        refine op_do rfl rfl (run_store (cs' := #[.int .i64 ((x1.getD p106.toNat ((0, 0, 0) : Int × Int × Int)).1), .int .i64 ((x1.getD p106.toNat ((0, 0, 0) : Int × Int × Int)).2.1), .int .i64 ((x1.getD p106.toNat ((0, 0, 0) : Int × Int × Int)).2.2)]) rfl sz52 (hF.ev rfl) (hF.ev rfl) rfl rfl rfl (S.free 0 rfl) rfl rfl) ?_; replace S := S.put 0 rfl (#[.int .i64 ((x1.getD p106.toNat ((0, 0, 0) : Int × Int × Int)).1), .int .i64 ((x1.getD p106.toNat ((0, 0, 0) : Int × Int × Int)).2.1), .int .i64 ((x1.getD p106.toNat ((0, 0, 0) : Int × Int × Int)).2.2)])
        generalize World.setRow _ _ _ = u at S ⊢
        refine wpList_nil ?_
        refine wp_seq ?_
        refine wp_region_lit ?_
        refine op_val (v := .agg #[.int .i64 x0, .slice A1 x1.length c1]) rfl rfl hF rfl (run_loadN rfl ag55 (hF.ev rfl) rfl ((S.free 1 rfl).cells 0 #[.int .i64 x0, .slice A1 x1.length c1] rfl)) ?_; clear hF; intro a hF
        refine op_val (v := .pointer (some ⟨g109, 0, none⟩)) rfl rfl hF rfl (run_fieldAddr rfl fl52_0 (hF.ev rfl) rfl) ?_; clear hF; intro a hF
        refine op_val (v := .int .i64 ((x1.getD p106.toNat ((0, 0, 0) : Int × Int × Int)).1)) rfl rfl hF rfl (run_load1 rfl one3 (hF.ev rfl) ((S.free 0 rfl).cell rfl)) ?_; clear hF; intro a hF
        obtain ⟨p110, h110, hM105⟩ := bind_ex hM105
        refine op_call rfl rfl hF rfl (run_call (vs := [.agg #[.int .i64 x0, .slice A1 x1.length c1], .int .i64 ((x1.getD p106.toNat ((0, 0, 0) : Int × Int × Int)).1)]) rfl rfl co53 ⟨(hF.ev rfl), (hF.ev rfl), trivial⟩) (c_impl_Net_hasBus (x0 := x0) (x1 := x1) (x2 := (x1.getD p106.toNat ((0, 0, 0) : Int × Int × Int)).1) ⟨(S.rc0 h1.rc), rfl⟩ h110) ?_
        rintro e u ⟨rfl, T⟩
        refine ⟨_, rfl, ?_⟩
        clear hF; intro a hF
        replace S := S.call0 T; clear T
        refine op_val (v := .bool (!p110)) rfl rfl hF rfl (run_not rfl (hF.ev rfl)) ?_; clear hF; intro a hF
        refine op_val (v := .bool (!p110)) rfl rfl hF rfl (run_move rfl (hF.ev rfl)) ?_; clear hF; intro a hF
        refine op_gv (v := .agg #[.int .i64 x0, .slice A1 x1.length c1]) rfl rfl hF rfl (yf (gw_yield hF rfl rfl rfl)) (fun hg => (run_loadN rfl ag55 (hF.ev rfl) rfl ((S.free 1 rfl).cells 0 #[.int .i64 x0, .slice A1 x1.length c1] rfl))) ?_; clear hF; intro a hF
        refine op_gv (v := .pointer (some ⟨g109, 1, none⟩)) rfl rfl hF rfl (yf (gw_yield hF rfl rfl rfl)) (fun hg => (run_fieldAddr rfl fl52_1 (hF.ev rfl) rfl)) ?_; clear hF; intro a hF
        refine op_gv (v := .int .i64 ((x1.getD p106.toNat ((0, 0, 0) : Int × Int × Int)).2.1)) rfl rfl hF rfl (yf (gw_yield hF rfl rfl rfl)) (fun hg => (run_load1 rfl one3 ((hF.ev rfl).trans (gv_t hg)) ((S.free 0 rfl).cell rfl))) ?_; clear hF; intro a hF
        obtain ⟨p111, h111, hM105⟩ := bind_ex hM105
        refine op_gcall (v := .bool p111) rfl rfl hF rfl S (yf (gw_yield hF rfl rfl rfl)) (fun hg => (run_call (vs := [.agg #[.int .i64 x0, .slice A1 x1.length c1], .int .i64 ((x1.getD p106.toNat ((0, 0, 0) : Int × Int × Int)).2.1)]) rfl rfl co53 ⟨((hF.ev rfl).trans (gv_t hg)), ((hF.ev rfl).trans (gv_t hg)), trivial⟩)) (fun hg => c_impl_Net_hasBus (x0 := x0) (x1 := x1) (x2 := (x1.getD p106.toNat ((0, 0, 0) : Int × Int × Int)).2.1) ⟨(S.rc0 h1.rc), rfl⟩ (gb_t h111 hg)) ?_; clear hF S; intro a u hF S
        refine op_gv (v := .bool (!p111)) rfl rfl hF rfl (yf (gw_yield hF rfl rfl rfl)) (fun hg => (run_not rfl ((hF.ev rfl).trans (gv_t hg)))) ?_; clear hF; intro a hF
        refine op_val (v := .bool ((!p110) || (!p111))) rfl rfl hF rfl (run_pick_or rfl (hF.ev rfl) rfl (fun hp => ((hF.ev rfl).trans (gv_t (not_t hp))))) ?_; clear hF; intro a hF
        refine op_val (v := .bool ((!p110) || (!p111))) rfl rfl hF rfl (run_move rfl (hF.ev rfl)) ?_; clear hF; intro a hF
        refine op_gv (v := .pointer (some ⟨g109, 0, none⟩)) rfl rfl hF rfl (yf (gw_yield hF rfl rfl rfl)) (fun hg => (run_fieldAddr rfl fl52_0 (hF.ev rfl) rfl)) ?_; clear hF; intro a hF
        refine op_gv (v := .int .i64 ((x1.getD p106.toNat ((0, 0, 0) : Int × Int × Int)).1)) rfl rfl hF rfl (yf (gw_yield hF rfl rfl rfl)) (fun hg => (run_load1 rfl one3 ((hF.ev rfl).trans (gv_t hg)) ((S.free 0 rfl).cell rfl))) ?_; clear hF; intro a hF
        refine op_gv (v := .pointer (some ⟨g109, 1, none⟩)) rfl rfl hF rfl (yf (gw_yield hF rfl rfl rfl)) (fun hg => (run_fieldAddr rfl fl52_1 (hF.ev rfl) rfl)) ?_; clear hF; intro a hF
        refine op_gv (v := .int .i64 ((x1.getD p106.toNat ((0, 0, 0) : Int × Int × Int)).2.1)) rfl rfl hF rfl (yf (gw_yield hF rfl rfl rfl)) (fun hg => (run_load1 rfl one3 ((hF.ev rfl).trans (gv_t hg)) ((S.free 0 rfl).cell rfl))) ?_; clear hF; intro a hF
        refine op_gv (v := .bool (((x1.getD p106.toNat ((0, 0, 0) : Int × Int × Int)).1) == ((x1.getD p106.toNat ((0, 0, 0) : Int × Int × Int)).2.1))) rfl rfl hF rfl (yf (gw_yield hF rfl rfl rfl)) (fun hg => (run_eql ((hF.ev rfl).trans (gv_t hg)) ((hF.ev rfl).trans (gv_t hg)) rfl)) ?_; clear hF; intro a hF
        refine op_val (v := .bool (((!p110) || (!p111)) || (((x1.getD p106.toNat ((0, 0, 0) : Int × Int × Int)).1) == ((x1.getD p106.toNat ((0, 0, 0) : Int × Int × Int)).2.1)))) rfl rfl hF rfl (run_pick_or rfl (hF.ev rfl) rfl (fun hp => ((hF.ev rfl).trans (gv_t (not_t hp))))) ?_; clear hF; intro a hF
        refine op_val (v := .bool (((!p110) || (!p111)) || (((x1.getD p106.toNat ((0, 0, 0) : Int × Int × Int)).1) == ((x1.getD p106.toNat ((0, 0, 0) : Int × Int × Int)).2.1)))) rfl rfl hF rfl (run_move rfl (hF.ev rfl)) ?_; clear hF; intro a hF
        refine op_gv (v := .pointer (some ⟨g109, 2, none⟩)) rfl rfl hF rfl (yf (gw_yield hF rfl rfl rfl)) (fun hg => (run_fieldAddr rfl fl52_2 (hF.ev rfl) rfl)) ?_; clear hF; intro a hF
        refine op_gv (v := .int .i64 ((x1.getD p106.toNat ((0, 0, 0) : Int × Int × Int)).2.2)) rfl rfl hF rfl (yf (gw_yield hF rfl rfl rfl)) (fun hg => (run_load1 rfl one3 ((hF.ev rfl).trans (gv_t hg)) ((S.free 0 rfl).cell rfl))) ?_; clear hF; intro a hF
        refine op_gv (v := .bool (ltB ((x1.getD p106.toNat ((0, 0, 0) : Int × Int × Int)).2.2) 1)) rfl rfl hF rfl (yf (gw_yield hF rfl rfl rfl)) (fun hg => (run_lss ((hF.ev rfl).trans (gv_t hg)) rfl rfl)) ?_; clear hF; intro a hF
        refine op_val (v := .bool ((((!p110) || (!p111)) || (((x1.getD p106.toNat ((0, 0, 0) : Int × Int × Int)).1) == ((x1.getD p106.toNat ((0, 0, 0) : Int × Int × Int)).2.1))) || (ltB ((x1.getD p106.toNat ((0, 0, 0) : Int × Int × Int)).2.2) 1))) rfl rfl hF rfl (run_pick_or rfl (hF.ev rfl) rfl (fun hp => ((hF.ev rfl).trans (gv_t (not_t hp))))) ?_; clear hF; intro a hF
        refine op_val (v := .bool ((((!p110) || (!p111)) || (((x1.getD p106.toNat ((0, 0, 0) : Int × Int × Int)).1) == ((x1.getD p106.toNat ((0, 0, 0) : Int × Int × Int)).2.1))) || (ltB ((x1.getD p106.toNat ((0, 0, 0) : Int × Int × Int)).2.2) 1))) rfl rfl hF rfl (run_move rfl (hF.ev rfl)) ?_; clear hF; intro a hF
        refine op_gv (v := .pointer (some ⟨g109, 2, none⟩)) rfl rfl hF rfl (yf (gw_yield hF rfl rfl rfl)) (fun hg => (run_fieldAddr rfl fl52_2 (hF.ev rfl) rfl)) ?_; clear hF; intro a hF
        refine op_gv (v := .int .i64 ((x1.getD p106.toNat ((0, 0, 0) : Int × Int × Int)).2.2)) rfl rfl hF rfl (yf (gw_yield hF rfl rfl rfl)) (fun hg => (run_load1 rfl one3 ((hF.ev rfl).trans (gv_t hg)) ((S.free 0 rfl).cell rfl))) ?_; clear hF; intro a hF
        refine op_gv (v := .bool (ltB 999 ((x1.getD p106.toNat ((0, 0, 0) : Int × Int × Int)).2.2))) rfl rfl hF rfl (yf (gw_yield hF rfl rfl rfl)) (fun hg => (run_gtr ((hF.ev rfl).trans (gv_t hg)) rfl rfl)) ?_; clear hF; intro a hF
        refine op_val (v := .bool (((((!p110) || (!p111)) || (((x1.getD p106.toNat ((0, 0, 0) : Int × Int × Int)).1) == ((x1.getD p106.toNat ((0, 0, 0) : Int × Int × Int)).2.1))) || (ltB ((x1.getD p106.toNat ((0, 0, 0) : Int × Int × Int)).2.2) 1)) || (ltB 999 ((x1.getD p106.toNat ((0, 0, 0) : Int × Int × Int)).2.2)))) rfl rfl hF rfl (run_pick_or rfl (hF.ev rfl) rfl (fun hp => ((hF.ev rfl).trans (gv_t (not_t hp))))) ?_; clear hF; intro a hF
        refine wpList_nil ?_
        cases hc112 : (((((!p110) || (!p111)) || (((x1.getD p106.toNat ((0, 0, 0) : Int × Int × Int)).1) == ((x1.getD p106.toNat ((0, 0, 0) : Int × Int × Int)).2.1))) || (ltB ((x1.getD p106.toNat ((0, 0, 0) : Int × Int × Int)).2.2) 1)) || (ltB 999 ((x1.getD p106.toNat ((0, 0, 0) : Int × Int × Int)).2.2)))
        · replace hM105 := bif_f hc112 hM105
          refine cond_f hF rfl hc112 ?_
          refine wp_skip ?_
          refine wp_region_lit ?_
          refine op_val (v := .int .i64 (w64 (p106 + 1))) rfl rfl hF rfl (run_add (z := w64 (p106 + 1)) (hF.ev rfl) rfl rfl rfl) ?_; clear hF; intro a hF
          refine op_val (v := .int .i64 (w64 (p106 + 1))) rfl rfl hF rfl (run_move rfl (hF.ev rfl)) ?_; clear hF; intro a hF
          refine wpList_nil ?_
          exact ⟨f1, Nat.lt_succ_self _, w64 (p106 + 1), hM105, hF.keep _ ⟨rfl, rfl, rfl, rfl, rfl, trivial⟩, S.sel [1] rfl rfl⟩
        · replace hM105 := bif_t hc112 hM105
          refine cond_t hF rfl hc112 ?_
          refine wp_seq ?_
          refine wp_region_lit ?_
          refine op_val (v := .bool false) rfl rfl hF rfl (run_assign rfl rfl) ?_; clear hF; intro a hF
          refine wpList_nil ?_
          refine wp_ret ?_
          repeat with_reducible (first | refine then_ret ?_ | refine in_ret ?_ | refine in_nrm ?_)
          refine ret1_gw (.inl rfl) hF rfl (res_tmp (hF.ev rfl)) ?_
          obtain rfl := Option.some.inj hM105
          obtain rfl := Option.some.inj hM
          exact ⟨rfl, S.sel [] rfl rfl⟩
    · rintro a u ⟨p103, rfl, hF, S⟩
      replace hM := elim_l hM
      refine wp_seq ?_
      refine wp_region_lit ?_
      refine op_val (v := .bool true) rfl rfl hF rfl (run_assign rfl rfl) ?_; clear hF; intro a hF
      refine wpList_nil ?_
      refine wp_ret ?_
      repeat with_reducible (first | refine then_ret ?_ | refine in_ret ?_ | refine in_nrm ?_)
      refine ret1_gw (.inl rfl) hF rfl (res_tmp (hF.ev rfl)) ?_
      obtain rfl := Option.some.inj hM
      exact ⟨rfl, S.sel [] rfl rfl⟩
  · replace hM := bif_t hc102 hM
    refine cond_t hF rfl hc102 ?_
    refine wp_seq ?_
    refine wp_region_lit ?_
    refine op_val (v := .bool false) rfl rfl hF rfl (run_assign rfl rfl) ?_; clear hF; intro a hF
    refine wpList_nil ?_
    refine wp_ret ?_
    repeat with_reducible (first | refine then_ret ?_ | refine in_ret ?_ | refine in_nrm ?_)
    refine ret1_gw (.inl rfl) hF rfl (res_tmp (hF.ev rfl)) ?_
    obtain rfl := Option.some.inj hM
    exact ⟨rfl, S.sel [] rfl rfl⟩

theorem c_impl_NetText_bad {x0 : Int} {x1 : List (Int × Int × Int)} {A1 : Option Addr} {n1 c1 : Nat} {w : World} (h1 : Rt w 3 eLine A1 n1 c1 x1) (hv : m_impl_NetValid x0 x1 = some false) :
    Calls Tryd.prog 28 #[.agg #[.int .i64 x0, .slice A1 n1 c1]] w (fun e w' => e = .returned (.string ({ data := #[] } : ByteArray)) ∧ St w w' []) := by
  obtain rfl := h1.len
  refine calls_gw Tryd.func28 Tryd.ntmps28 rfl [(0, .agg #[.int .i64 x0, .slice A1 x1.length c1])] ⟨rfl, trivial⟩ rfl ?_
  intro a hF
  have S := St.nil w
  refine wp_seq ?_
  refine wp_region_lit ?_
  refine op_new (cs := #[.int .i64 x0, .slice A1 x1.length c1]) rfl rfl hF rfl S (run_box rfl (hF.ev rfl) rfl) ?_; clear hF S; intro a g101 u hF S
  refine op_val (v := .string ({ data := #[] } : ByteArray)) rfl rfl hF rfl (run_assign rfl rfl) ?_; clear hF; intro a hF
  refine wpList_nil ?_
  refine wp_seq ?_
  refine wp_seq ?_
  refine wp_region_lit ?_
  refine op_val (v := .agg #[.int .i64 x0, .slice A1 x1.length c1]) rfl rfl hF rfl (run_loadN rfl ag55 (hF.ev rfl) rfl ((S.free 0 rfl).cells 0 #[.int .i64 x0, .slice A1 x1.length c1] rfl)) ?_; clear hF; intro a hF
  refine op_call rfl rfl hF rfl (run_call (vs := [.agg #[.int .i64 x0, .slice A1 x1.length c1]]) rfl rfl co43 ⟨(hF.ev rfl), trivial⟩) (c_impl_NetValid ⟨(S.rc0 h1.rc), rfl⟩ hv) ?_
  rintro e u ⟨rfl, T⟩
  refine ⟨_, rfl, ?_⟩
  clear hF; intro a hF
  replace S := S.call0 T; clear T
  refine op_val (v := .bool (!false)) rfl rfl hF rfl (run_not rfl (hF.ev rfl)) ?_; clear hF; intro a hF
  refine wpList_nil ?_
  refine cond_t hF rfl (not_t rfl) ?_
  refine wp_seq ?_
  refine wp_region_lit ?_
  refine op_val (v := .string ({ data := #[] } : ByteArray)) rfl rfl hF rfl (run_assign rfl rfl) ?_; clear hF; intro a hF
  refine wpList_nil ?_
  refine wp_ret ?_
  repeat with_reducible (first | refine then_ret ?_ | refine in_ret ?_ | refine in_nrm ?_)
  refine ret1_gw (.inl rfl) hF rfl (res_tmp (hF.ev rfl)) ?_
  exact ⟨rfl, S.sel [] rfl rfl⟩

theorem c_grow_nil {x1 : Int} {w : World} (h : 0 ≤ x1 ∧ x1 ≤ 1099511627776) :
    Calls Tryd.prog 52 #[.slice none 0 0, .int .i64 x1] w (fun e w' => ∃ B D, e = .returned (.slice B 0 D) ∧ St w w' [.row 3 1 (.slice B 0 D) 0 []]) := by
  refine calls_gw Tryd.func52 Tryd.ntmps52 rfl [(0, .slice none 0 0), (1, .int .i64 x1)] ⟨rfl, rfl, trivial⟩ rfl ?_
  intro a hF
  have S := St.nil w
  have e0 : w64 (x1 - w64 ((0 : Int) - 0)) = x1 := by rw [show w64 ((0 : Int) - 0) = 0 from rfl, Int.sub_zero]; exact w64_in (by omega) (by omega)
  refine wp_seq ?_
  refine wp_region_lit ?_
  refine op_val (v := .slice none 0 0) rfl rfl hF rfl (run_assign rfl rfl) ?_; clear hF; intro a hF
  refine wpList_nil ?_
  refine wp_seq ?_
  refine wp_seq ?_
  refine wp_region_lit ?_
  refine op_val (v := .int .i64 x1) rfl rfl hF rfl (run_move rfl (hF.ev rfl)) ?_; clear hF; intro a hF
  refine op_val (v := .bool (ltB x1 0)) rfl rfl hF rfl (run_lss (hF.ev rfl) rfl rfl) ?_; clear hF; intro a hF
  refine wpList_nil ?_
  refine cond_f hF rfl (decide_eq_false (by omega)) ?_
  refine wp_skip ?_
  refine wp_seq ?_
  refine wp_seq ?_
  refine wp_region_lit ?_
  refine op_val (v := .int .i64 x1) rfl rfl hF rfl (run_move rfl (hF.ev rfl)) ?_; clear hF; intro a hF
  refine op_val (v := .slice none 0 0) rfl rfl hF rfl (run_move rfl (hF.ev rfl)) ?_; clear hF; intro a hF
  refine op_val (v := .int .i64 ((0 : Nat) : Int)) rfl rfl hF rfl (run_capL rfl rfl Tryd.underlying23 (hF.ev rfl)) ?_; clear hF; intro a hF
  refine op_val (v := .slice none 0 0) rfl rfl hF rfl (run_move rfl (hF.ev rfl)) ?_; clear hF; intro a hF
  refine op_val (v := .int .i64 ((0 : Nat) : Int)) rfl rfl hF rfl (run_lenL rfl rfl Tryd.underlying23 (hF.ev rfl)) ?_; clear hF; intro a hF
  refine op_val (v := .int .i64 (w64 ((0 : Int) - 0))) rfl rfl hF rfl (run_sub (z := w64 ((0 : Int) - 0)) (hF.ev rfl) (hF.ev rfl) rfl rfl) ?_; clear hF; intro a hF
  refine op_val (v := .int .i64 (w64 (x1 - w64 ((0 : Int) - 0)))) rfl rfl hF rfl (run_sub (z := w64 (x1 - w64 ((0 : Int) - 0))) (hF.ev rfl) (hF.ev rfl) rfl rfl) ?_; clear hF; intro a hF
  rw [e0] at hF
  refine op_val (v := .int .i64 x1) rfl rfl hF rfl (run_assign rfl (hF.ev rfl)) ?_; clear hF; intro a hF
  refine wpList_nil ?_
  refine wp_seq ?_
  refine wp_region_lit ?_
  refine op_val (v := .int .i64 x1) rfl rfl hF rfl (run_move rfl (hF.ev rfl)) ?_; clear hF; intro a hF
  refine op_val (v := .bool (ltB 0 x1)) rfl rfl hF rfl (run_gtr (hF.ev rfl) rfl rfl) ?_; clear hF; intro a hF
  refine wpList_nil ?_
  by_cases h0 : 0 < x1
  · refine cond_t hF rfl (decide_eq_true h0) ?_
    refine wp_region_lit ?_
    refine op_val (v := .slice none 0 0) rfl rfl hF rfl (run_move rfl (hF.ev rfl)) ?_; clear hF; intro a hF
    refine op_val (v := .slice none 0 0) rfl rfl hF rfl (run_move rfl (hF.ev rfl)) ?_; clear hF; intro a hF
    refine op_val (v := .int .i64 ((0 : Nat) : Int)) rfl rfl hF rfl (run_capL rfl rfl Tryd.underlying23 (hF.ev rfl)) ?_; clear hF; intro a hF
    refine op_val (v := .slice none 0 0) rfl rfl hF rfl (run_slicenil rfl Tryd.underlying23 sz3 (hF.ev rfl) (hF.ev rfl)) ?_; clear hF; intro a hF
    refine op_val (v := .int .i64 x1) rfl rfl hF rfl (run_move rfl (hF.ev rfl)) ?_; clear hF; intro a hF
    refine op_zeros rfl rfl hF rfl S rfl (hF.ev rfl) (hF.ev rfl) Tryd.underlying23 Tryd.underlying3 inf3 rfl (by decide) ⟨h0, h.2⟩ ?_; clear hF S; intro a g c u hc hF S
    refine op_val (v := .slice none 0 0) rfl rfl hF rfl (run_move rfl (hF.ev rfl)) ?_; clear hF; intro a hF
    refine op_val (v := .int .i64 ((0 : Nat) : Int)) rfl rfl hF rfl (run_lenL rfl rfl Tryd.underlying23 (hF.ev rfl)) ?_; clear hF; intro a hF
    refine op_val (v := .slice (some ⟨g, 0, none⟩) 0 c) rfl rfl hF rfl (run_slice0 rfl Tryd.underlying23 sz3 (hF.ev rfl) (hF.ev rfl) hc) ?_; clear hF; intro a hF
    refine op_val (v := .slice (some ⟨g, 0, none⟩) 0 c) rfl rfl hF rfl (run_assign rfl (hF.ev rfl)) ?_; clear hF; intro a hF
    refine wpList_nil ?_
    refine wp_seq ?_
    refine wp_region_lit ?_
    refine op_val (v := .slice (some ⟨g, 0, none⟩) 0 c) rfl rfl hF rfl (run_move rfl (hF.ev rfl)) ?_; clear hF; intro a hF
    refine op_val (v := .slice (some ⟨g, 0, none⟩) 0 c) rfl rfl hF rfl (run_assign rfl (hF.ev rfl)) ?_; clear hF; intro a hF
    refine wpList_nil ?_
    refine wp_ret ?_
    refine ret1_gw (.inl rfl) hF rfl (res_tmp (hF.ev rfl)) ?_
    exact ⟨_, _, rfl, S⟩
  · refine cond_f hF rfl (decide_eq_false h0) ?_
    refine wp_skip ?_
    refine wp_seq ?_
    refine wp_region_lit ?_
    refine op_val (v := .slice none 0 0) rfl rfl hF rfl (run_move rfl (hF.ev rfl)) ?_; clear hF; intro a hF
    refine op_val (v := .slice none 0 0) rfl rfl hF rfl (run_assign rfl (hF.ev rfl)) ?_; clear hF; intro a hF
    refine wpList_nil ?_
    refine wp_ret ?_
    refine ret1_gw (.inl rfl) hF rfl (res_tmp (hF.ev rfl)) ?_
    exact ⟨_, _, rfl, S.nilrow 3 1⟩

set_option maxHeartbeats 4000000 in
theorem c_slices_Concat_int_int {x0 : List Sl} {A0 : Option Addr} {n0 c0 : Nat} {w : World} {r : List Int} (h0 : Rt w 1 eSl A0 n0 c0 x0) (hq : Slq w x0) (hM : m_slices_Concat_int_int x0 = some r) :
    Calls Tryd.prog 38 #[.slice A0 n0 c0] w (fun e w' => ∃ (B0 : Option Addr) (N0 D0 : Nat), e = .returned (.slice B0 N0 D0) ∧ N0 = r.length ∧ St w w' [.row 3 1 (.slice B0 N0 D0) N0 (r.flatMap eI)]) := by
  obtain rfl := h0.len
  unfold m_slices_Concat_int_int at hM
  refine calls_gw Tryd.func38 Tryd.ntmps38 rfl [(0, .slice A0 x0.length c0)] ⟨rfl, trivial⟩ rfl ?_
  intro a hF
  have S := St.nil w
  refine wp_seq ?_
  refine wp_region_lit ?_
  refine op_val (v := .slice none 0 0) rfl rfl hF rfl (run_assign rfl rfl) ?_; clear hF; intro a hF
  refine wpList_nil ?_
  refine wp_seq ?_
  refine wp_region_lit ?_
  refine op_val (v := .int .i64 0) rfl rfl hF rfl (run_assign rfl rfl) ?_; clear hF; intro a hF
  refine wpList_nil ?_
  refine wp_seq ?_
  refine wp_seq ?_
  refine wp_region_lit ?_
  refine op_val (v := .slice A0 x0.length c0) rfl rfl hF rfl (run_move rfl (hF.ev rfl)) ?_; clear hF; intro a hF
  refine op_val (v := .int .i64 (x0.length : Int)) rfl rfl hF rfl (run_lenL rfl rfl Tryd.underlying80 (hF.ev rfl)) ?_; clear hF; intro a hF
  refine op_val (v := .int .i64 0) rfl rfl hF rfl (run_move rfl rfl) ?_; clear hF; intro a hF
  refine wpList_nil ?_
  obtain ⟨o102, hM103, hM⟩ := bind_ex hM
  refine wp_cut (fun a u => ∃ (p101 : Int), p101 = o102 ∧ Fr a 36 [(0, .slice A0 x0.length c0), (2, .slice none 0 0), (3, .int .i64 p101)] ∧ St w u []) ?_ ?_
  · have _ := trivial
    refine wp_block ?_
    refine loop_gw (fun m a u => ∃ (p104 : Int × Int), m_slices_Concat_int_int_l1 x0 m p104 = some _ ∧ Fr a 36 [(0, .slice A0 x0.length c0), (2, .slice none 0 0), (3, .int .i64 p104.1), (9, .slice A0 x0.length c0), (10, .int .i64 (x0.length : Int)), (11, .int .i64 p104.2)] ∧ St w u []) FUEL ⟨(0, 0), hM103, hF.keep _ ⟨rfl, rfl, rfl, rfl, rfl, rfl, trivial⟩, S.sel [] rfl rfl⟩ ?_
    clear hF S hM103; rintro m a u ⟨p104, hM103, hF, S⟩
    rcases m with _ | f1
    · exact none_some hM103
    rw [m_slices_Concat_int_int_l1.eq_2] at hM103
    refine wp_seq ?_
    refine wp_region_lit ?_
    refine op_val (v := .bool (ltB p104.2 (x0.length : Int))) rfl rfl hF rfl (run_lss (hF.ev rfl) (hF.ev rfl) rfl) ?_; clear hF; intro a hF
    refine wpList_nil ?_
    refine wp_seq ?_
    cases hc105 : (ltB p104.2 (x0.length : Int))
    · replace hM103 := bif_f hc105 hM103
      refine cond_f hF rfl hc105 ?_
      refine wp_exit ?_
      repeat with_reducible (first | refine then_exit ?_ | refine in_hit ?_ | refine in_miss rfl ?_)
      obtain rfl := Option.some.inj hM103
      exact ⟨p104.1, rfl, hF.keep _ ⟨rfl, rfl, rfl, trivial⟩, S.sel [] rfl rfl⟩
    · replace hM103 := bif_t hc105 hM103
      refine cond_t hF rfl hc105 ?_
      refine wp_skip ?_
      refine wp_seq ?_
      refine wp_block ?_
      refine wp_seq ?_
      refine wp_region_lit ?_
      obtain ⟨hk106, hM103⟩ := chk_ex hM103
      replace hk106 := ixB_t hk106
      refine op_val (v := .pointer (some ⟨adB A0, adO A0 + p104.2.toNat * 1, none⟩)) rfl rfl hF rfl (run_indexAddr (b := adB A0) (off := adO A0) rfl Tryd.underlying80 sz23 ((hF.ev rfl).trans (congrArg (fun A => Value.slice A x0.length c0) ((S.rc0 h0.rc).rd.ad (ix_pos hk106)))) (hF.ev rfl) hk106.1 hk106.2 (k' := adO A0 + p104.2.toNat * 1) rfl) ?_; clear hF; intro a hF
      refine op_val (v := .slice ((x0.getD p104.2.toNat ((none, [], 0) : Sl)).1) ((x0.getD p104.2.toNat ((none, [], 0) : Sl)).2.1.length) ((x0.getD p104.2.toNat ((none, [], 0) : Sl)).2.2)) rfl rfl hF rfl (run_load1 rfl one23 (hF.ev rfl) (rd_el0 (l := x0) (S.rc0 h0.rc).rd rfl eSl_len ((none, [], 0) : Sl) (ix_ltn hk106 rfl) rfl)) ?_; clear hF; intro a hF
      refine op_val (v := .slice ((x0.getD p104.2.toNat ((none, [], 0) : Sl)).1) ((x0.getD p104.2.toNat ((none, [], 0) : Sl)).2.1.length) ((x0.getD p104.2.toNat ((none, [], 0) : Sl)).2.2)) rfl rfl hF rfl (run_assign rfl (hF.ev rfl)) ?_; clear hF; intro a hF
      refine wpList_nil ?_
      refine wp_seq ?_
      refine wp_region_lit ?_
      refine op_val (v := .int .i64 p104.1) rfl rfl hF rfl (run_move rfl (hF.ev rfl)) ?_; clear hF; intro a hF
      refine op_val (v := .slice ((x0.getD p104.2.toNat ((none, [], 0) : Sl)).1) ((x0.getD p104.2.toNat ((none, [], 0) : Sl)).2.1.length) ((x0.getD p104.2.toNat ((none, [], 0) : Sl)).2.2)) rfl rfl hF rfl (run_move rfl (hF.ev rfl)) ?_; clear hF; intro a hF
      refine op_val (v := .int .i64 (((x0.getD p104.2.toNat ((none, [], 0) : Sl)).2.1.length) : Int)) rfl rfl hF rfl (run_lenL rfl rfl Tryd.underlying23 (hF.ev rfl)) ?_; clear hF; intro a hF
      refine op_val (v := .int .i64 (w64 (p104.1 + (((x0.getD p104.2.toNat ((none, [], 0) : Sl)).2.1.length) : Int)))) rfl rfl hF rfl (run_add (z := w64 (p104.1 + (((x0.getD p104.2.toNat ((none, [], 0) : Sl)).2.1.length) : Int))) (hF.ev rfl) (hF.ev rfl) rfl rfl) ?_; clear hF; intro a hF
      refine op_val (v := .int .i64 (w64 (p104.1 + (((x0.getD p104.2.toNat ((none, [], 0) : Sl)).2.1.length) : Int)))) rfl rfl hF rfl (run_assign rfl (hF.ev rfl)) ?_; clear hF; intro a hF
      refine wpList_nil ?_
      refine wp_seq ?_
      refine wp_region_lit ?_
      refine op_val (v := .int .i64 (w64 (p104.1 + (((x0.getD p104.2.toNat ((none, [], 0) : Sl)).2.1.length) : Int)))) rfl rfl hF rfl (run_move rfl (hF.ev rfl)) ?_; clear hF; intro a hF
      refine op_val (v := .bool (ltB (w64 (p104.1 + (((x0.getD p104.2.toNat ((none, [], 0) : Sl)).2.1.length) : Int))) 0)) rfl rfl hF rfl (run_lss (hF.ev rfl) rfl rfl) ?_; clear hF; intro a hF
      refine wpList_nil ?_
      cases hc107 : (ltB (w64 (p104.1 + (((x0.getD p104.2.toNat ((none, [], 0) : Sl)).2.1.length) : Int))) 0)
      · replace hM103 := bif_f hc107 hM103
        refine cond_f hF rfl hc107 ?_
        refine wp_skip ?_
        refine wp_region_lit ?_
        refine op_val (v := .int .i64 (w64 (p104.2 + 1))) rfl rfl hF rfl (run_add (z := w64 (p104.2 + 1)) (hF.ev rfl) rfl rfl rfl) ?_; clear hF; intro a hF
        refine op_val (v := .int .i64 (w64 (p104.2 + 1))) rfl rfl hF rfl (run_move rfl (hF.ev rfl)) ?_; clear hF; intro a hF
        refine wpList_nil ?_
        exact ⟨f1, Nat.lt_succ_self _, (w64 (p104.1 + (((x0.getD p104.2.toNat ((none, [], 0) : Sl)).2.1.length) : Int)), w64 (p104.2 + 1)), hM103, hF.keep _ ⟨rfl, rfl, rfl, rfl, rfl, rfl, trivial⟩, S.sel [] rfl rfl⟩
      · replace hM103 := bif_t hc107 hM103
        refine cond_t hF rfl hc107 ?_
        refine wp_region_lit ?_
        exact none_some hM103
  · rintro a u ⟨p101, rfl, hF, S⟩
    refine wp_seq ?_
    refine wp_region_lit ?_
    refine op_val (v := .int .i64 p101) rfl rfl hF rfl (run_move rfl (hF.ev rfl)) ?_; clear hF; intro a hF
    obtain ⟨hk108, hM⟩ := chk_ex hM
    replace hk108 := mkB_t hk108
    refine op_call rfl rfl hF rfl (run_call (vs := [.slice none 0 0, .int .i64 p101]) rfl rfl co52 ⟨rfl, (hF.ev rfl), trivial⟩) (c_grow_nil hk108) ?_
    rintro e u ⟨B109, d110, rfl, T⟩
    refine ⟨_, rfl, ?_⟩
    clear hF; intro a hF
    replace S := S.call1 T; clear T
    refine op_val (v := .slice B109 0 d110) rfl rfl hF rfl (run_assign rfl (hF.ev rfl)) ?_; clear hF; intro a hF
    refine wpList_nil ?_
    refine wp_seq ?_
    refine wp_seq ?_
    refine wp_region_lit ?_
    refine op_val (v := .slice A0 x0.length c0) rfl rfl hF rfl (run_move rfl (hF.ev rfl)) ?_; clear hF; intro a hF
    refine op_val (v := .int .i64 (x0.length : Int)) rfl rfl hF rfl (run_lenL rfl rfl Tryd.underlying80 (hF.ev rfl)) ?_; clear hF; intro a hF
    refine op_val (v := .int .i64 0) rfl rfl hF rfl (run_move rfl rfl) ?_; clear hF; intro a hF
    refine wpList_nil ?_
    obtain ⟨o112, hM115, hM⟩ := bind_ex hM
    refine wp_cut (fun a u => ∃ (p111 : List Int) (B113 : Option Addr) (d114 : Nat), p111 = o112 ∧ Fr a 36 [(2, .slice none 0 0), (6, .slice B113 p111.length d114)] ∧ St w u [.row 3 1 (.slice B113 p111.length d114) p111.length (p111.flatMap eI)]) ?_ ?_
    · have _ := trivial
      refine wp_block ?_
      refine loop_gw (fun m a u => ∃ (p116 : List Int × Int) (B117 : Option Addr) (d118 : Nat), m_slices_Concat_int_int_l2 x0 m p116 = some _ ∧ Fr a 36 [(2, .slice none 0 0), (6, .slice B117 p116.1.length d118), (25, .slice A0 x0.length c0), (26, .int .i64 (x0.length : Int)), (27, .int .i64 p116.2)] ∧ St w u [.row 3 1 (.slice B117 p116.1.length d118) p116.1.length (p116.1.flatMap eI)]) FUEL ⟨(([] : List Int), 0), B109, d110, hM115, hF.keep _ ⟨rfl, rfl, rfl, rfl, rfl, trivial⟩, S.sel [0] rfl rfl⟩ ?_
      clear hF S hM115; rintro m a u ⟨p116, B117, d118, hM115, hF, S⟩
      rcases m with _ | f2
      · exact none_some hM115
      rw [m_slices_Concat_int_int_l2.eq_2] at hM115
      refine wp_seq ?_
      refine wp_region_lit ?_
      refine op_val (v := .bool (ltB p116.2 (x0.length : Int))) rfl rfl hF rfl (run_lss (hF.ev rfl) (hF.ev rfl) rfl) ?_; clear hF; intro a hF
      refine wpList_nil ?_
      refine wp_seq ?_
      cases hc119 : (ltB p116.2 (x0.length : Int))
      · replace hM115 := bif_f hc119 hM115
        refine cond_f hF rfl hc119 ?_
        refine wp_exit ?_
        repeat with_reducible (first | refine then_exit ?_ | refine in_hit ?_ | refine in_miss rfl ?_)
        obtain rfl := Option.some.inj hM115
        exact ⟨p116.1, B117, d118, rfl, hF.keep _ ⟨rfl, rfl, trivial⟩, S.sel [0] rfl rfl⟩
      · replace hM115 := bif_t hc119 hM115
        refine cond_t hF rfl hc119 ?_
        refine wp_skip ?_
        refine wp_seq ?_
        refine wp_block ?_
        refine wp_seq ?_
        refine wp_region_lit ?_
        obtain ⟨hk120, hM115⟩ := chk_ex hM115
        replace hk120 := ixB_t hk120
        refine op_val (v := .pointer (some ⟨adB A0, adO A0 + p116.2.toNat * 1, none⟩)) rfl rfl hF rfl (run_indexAddr (b := adB A0) (off := adO A0) rfl Tryd.underlying80 sz23 ((hF.ev rfl).trans (congrArg (fun A => Value.slice A x0.length c0) ((S.rc0 h0.rc).rd.ad (ix_pos hk120)))) (hF.ev rfl) hk120.1 hk120.2 (k' := adO A0 + p116.2.toNat * 1) rfl) ?_; clear hF; intro a hF
        refine op_val (v := .slice ((x0.getD p116.2.toNat ((none, [], 0) : Sl)).1) ((x0.getD p116.2.toNat ((none, [], 0) : Sl)).2.1.length) ((x0.getD p116.2.toNat ((none, [], 0) : Sl)).2.2)) rfl rfl hF rfl (run_load1 rfl one23 (hF.ev rfl) (rd_el0 (l := x0) (S.rc0 h0.rc).rd rfl eSl_len ((none, [], 0) : Sl) (ix_ltn hk120 rfl) rfl)) ?_; clear hF; intro a hF
        refine op_val (v := .slice ((x0.getD p116.2.toNat ((none, [], 0) : Sl)).1) ((x0.getD p116.2.toNat ((none, [], 0) : Sl)).2.1.length) ((x0.getD p116.2.toNat ((none, [], 0) : Sl)).2.2)) rfl rfl hF rfl (run_assign rfl (hF.ev rfl)) ?_; clear hF; intro a hF
        refine wpList_nil ?_
        refine wp_region_lit ?_
        refine op_val (v := .slice B117 p116.1.length d118) rfl rfl hF rfl (run_move rfl (hF.ev rfl)) ?_; clear hF; intro a hF
        refine op_val (v := .slice ((x0.getD p116.2.toNat ((none, [], 0) : Sl)).1) ((x0.getD p116.2.toNat ((none, [], 0) : Sl)).2.1.length) ((x0.getD p116.2.toNat ((none, [], 0) : Sl)).2.2)) rfl rfl hF rfl (run_move rfl (hF.ev rfl)) ?_; clear hF; intro a hF
        obtain ⟨hk123, hM115⟩ := chk_ex hM115
        replace hk123 := apB_t hk123
        refine op_appendL (lx := p116.1) (ly := (x0.getD p116.2.toNat ((none, [], 0) : Sl)).2.1) rfl rfl hF rfl S rfl (hF.ev rfl) (hF.ev rfl) (i := 0) rfl rfl Tryd.underlying23 inf3 rfl (by decide) (S.rc0 (slr hq hk120 rfl ((none, [], 0) : Sl))).rd rfl eI_one hk123 (by decide) ?_; clear hF S; intro a B121 d122 u hF S
        refine op_val (v := .slice B121 ((p116.1 ++ ((x0.getD p116.2.toNat ((none, [], 0) : Sl)).2.1)).length) d122) rfl rfl hF rfl (run_assign rfl (hF.ev rfl)) ?_; clear hF; intro a hF
        refine wpList_nil ?_
        refine wp_region_lit ?_
        refine op_val (v := .int .i64 (w64 (p116.2 + 1))) rfl rfl hF rfl (run_add (z := w64 (p116.2 + 1)) (hF.ev rfl) rfl rfl rfl) ?_; clear hF; intro a hF
        refine op_val (v := .int .i64 (w64 (p116.2 + 1))) rfl rfl hF rfl (run_move rfl (hF.ev rfl)) ?_; clear hF; intro a hF
        refine wpList_nil ?_
        exact ⟨f2, Nat.lt_succ_self _, (p116.1 ++ ((x0.getD p116.2.toNat ((none, [], 0) : Sl)).2.1), w64 (p116.2 + 1)), B121, d122, hM115, hF.keep _ ⟨rfl, rfl, rfl, rfl, rfl, trivial⟩, S.sel [0] rfl rfl⟩
    · rintro a u ⟨p111, B113, d114, rfl, hF, S⟩
      refine wp_seq ?_
      refine wp_region_lit ?_
      refine op_val (v := .slice B113 p111.length d114) rfl rfl hF rfl (run_move rfl (hF.ev rfl)) ?_; clear hF; intro a hF
      refine op_val (v := .slice B113 p111.length d114) rfl rfl hF rfl (run_assign rfl (hF.ev rfl)) ?_; clear hF; intro a hF
      refine wpList_nil ?_
      refine wp_ret ?_
      repeat with_reducible (first | refine then_ret ?_ | refine in_ret ?_ | refine in_nrm ?_)
      refine ret1_gw (.inl rfl) hF rfl (res_tmp (hF.ev rfl)) ?_
      obtain rfl := Option.some.inj hM
      exact ⟨B113, p111.length, d114, rfl, rfl, S.sel [0] rfl rfl⟩

theorem cat_l1 (x : List Sl) (hx : x.length ≤ 1000) (hs : ∀ z ∈ x, z.2.1.length ≤ 1099511627776) : ∃ t : Int, m_slices_Concat_int_int_l1 x FUEL (0, 0) = some t ∧ t = ((x.map (·.2.1.length)).sum : Nat) := by
  have hb : ∀ k, k ≤ x.length → ((x.take k).map (·.2.1.length)).sum ≤ k * 1099511627776 := by
    intro k
    induction k with
    | zero => intro _; simp
    | succ k ih =>
      intro hk
      have := ih (by omega)
      have h2 := hs x[k] (List.getElem_mem _)
      rw [List.take_succ_eq_append_getElem (by omega), List.map_append, List.sum_append]
      simp only [List.map_cons, List.map_nil, List.sum_cons, List.sum_nil]
      omega
  refine ⟨_, ?_, rfl⟩
  have h := loop_all (m_slices_Concat_int_int_l1 x) (fun k => (((((x.take k).map (·.2.1.length)).sum : Nat) : Int), (k : Int))) x.length (some (((x.map (·.2.1.length)).sum : Nat) : Int)) (by omega) (fun k fuel hk => ?_) (fun fuel => ?_)
  · rw [show m_slices_Concat_int_int_l1 x FUEL (0, 0) = _ from h]
  · rw [m_slices_Concat_int_int_l1.eq_2]
    have h1 := hb k (by omega)
    have h2 := hs x[k] (List.getElem_mem _)
    have w1 : w64 (((((x.take k).map (·.2.1.length)).sum : Nat) : Int) + (((x.getD k ((none, [], 0) : Sl)).2.1.length : Nat) : Int)) = ((((x.take (k + 1)).map (·.2.1.length)).sum : Nat) : Int) := by
      rw [List.take_succ_eq_append_getElem hk, List.map_append, List.sum_append, getD_ge hk, w64_in (by omega) (by omega)]
      simp
    have c1 : ltB ((((x.take (k + 1)).map (·.2.1.length)).sum : Nat) : Int) 0 = false := decide_eq_false (by omega)
    simp only [lt_dec hk, ix_dec hk, chk_true, cond_true, Int.toNat_natCast, w1, c1, cond_false, w64_succ (by omega : k < 4611686018427387904)]
  · rw [m_slices_Concat_int_int_l1.eq_2]; simp [nlt_dec]
theorem cat_len : ∀ (x : List Sl) (b : List Int), (x.foldl (fun a z => a ++ z.2.1) b).length = b.length + (x.map (·.2.1.length)).sum
  | [], b => by simp
  | z :: x, b => by rw [List.foldl_cons, cat_len x]; simp; omega
theorem cat_val (x : List Sl) (hx : x.length ≤ 1000) (hs : (x.map (·.2.1.length)).sum ≤ 1099511627776) : m_slices_Concat_int_int x = some (catL x) := by
  have hz : ∀ z ∈ x, z.2.1.length ≤ 1099511627776 := fun z hz => Nat.le_trans (le_sum (List.mem_map.2 ⟨z, hz, rfl⟩)) hs
  have hk : ∀ k, ((x.take k).map (·.2.1.length)).sum ≤ 1099511627776 := fun k => by
    have : (x.map (·.2.1.length)).sum = ((x.take k).map (·.2.1.length)).sum + ((x.drop k).map (·.2.1.length)).sum := by rw [← List.sum_append, ← List.map_append, List.take_append_drop]
    omega
  obtain ⟨t, h1, rfl⟩ := cat_l1 x hx hz
  unfold m_slices_Concat_int_int
  have c1 : mkB (((x.map (·.2.1.length)).sum : Nat) : Int) = true := decide_eq_true (by omega)
  have h := loop_all (m_slices_Concat_int_int_l2 x) (fun k => (catL (x.take k), (k : Int))) x.length (some (catL x)) (by omega) (fun k fuel hk2 => ?_) (fun fuel => ?_)
  · simp only [h1, Option.bind_some, c1, chk_true]
    rw [show m_slices_Concat_int_int_l2 x FUEL ([], 0) = _ from h]; rfl
  · rw [m_slices_Concat_int_int_l2.eq_2]
    have h3 := cat_len (x.take (k + 1)) []
    have h4 := hk (k + 1)
    have hc : catL (x.take (k + 1)) = catL (x.take k) ++ (x.getD k ((none, [], 0) : Sl)).2.1 := by
      unfold catL; rw [take_fold _ x [] ((none, [], 0) : Sl) hk2]
    have a1 : apB (catL (x.take k)).length (x.getD k ((none, [], 0) : Sl)).2.1.length = true := by
      refine decide_eq_true ?_
      have : (catL (x.take (k + 1))).length = (catL (x.take k)).length + (x.getD k ((none, [], 0) : Sl)).2.1.length := by rw [hc, List.length_append]
      have h5 : (catL (x.take (k + 1))).length = ([] : List Int).length + ((x.take (k + 1)).map (·.2.1.length)).sum := h3
      rw [List.length_nil, Nat.zero_add] at h5
      omega
    simp only [lt_dec hk2, ix_dec hk2, chk_true, cond_true, Int.toNat_natCast, a1, hc, w64_succ (by omega : k < 4611686018427387904)]
  · rw [m_slices_Concat_int_int_l2.eq_2]; simp [nlt_dec]
theorem c_cat2 {x0 : List Int} {A0 : Option Addr} {n0 c0 : Nat} {x1 : List Int} {A1 : Option Addr} {n1 c1 : Nat} {g : Nat} {w : World} (hb : Bk w g 23 #[.slice A0 n0 c0, .slice A1 n1 c1]) (h0 : Rt w 1 eI A0 n0 c0 x0) (h1 : Rt w 1 eI A1 n1 c1 x1) (hl : x0.length + x1.length ≤ 1099511627776) :
    Calls Tryd.prog 38 #[.slice (some ⟨g, 0, none⟩) 2 2] w (fun e w' => ∃ (B0 : Option Addr) (N0 D0 : Nat), e = .returned (.slice B0 N0 D0) ∧ N0 = (x0 ++ x1).length ∧ St w w' [.row 3 1 (.slice B0 N0 D0) N0 ((x0 ++ x1).flatMap eI)]) := by
  obtain rfl := h0.len
  obtain rfl := h1.len
  have hv : m_slices_Concat_int_int ([(A0, x0, c0), (A1, x1, c1)] : List Sl) = some (x0 ++ x1) := by
    rw [cat_val _ (by simp) (by simp; omega)]; simp [catL]
  refine c_slices_Concat_int_int (x0 := ([(A0, x0, c0), (A1, x1, c1)] : List Sl)) ⟨⟨Rd.of_bk hb rfl (fun j u hu => by simpa [eSl] using hu), Nat.le_refl _⟩, rfl⟩ (fun z hz => ?_) hv
  simp at hz
  rcases hz with rfl | rfl
  · exact h0.rc
  · exact h1.rc
theorem c_cat3 {x0 : List Int} {A0 : Option Addr} {n0 c0 : Nat} {x1 : List Int} {A1 : Option Addr} {n1 c1 : Nat} {x2 : List Int} {A2 : Option Addr} {n2 c2 : Nat} {g : Nat} {w : World} (hb : Bk w g 23 #[.slice A0 n0 c0, .slice A1 n1 c1, .slice A2 n2 c2]) (h0 : Rt w 1 eI A0 n0 c0 x0) (h1 : Rt w 1 eI A1 n1 c1 x1) (h2 : Rt w 1 eI A2 n2 c2 x2) (hl : x0.length + x1.length + x2.length ≤ 1099511627776) :
    Calls Tryd.prog 38 #[.slice (some ⟨g, 0, none⟩) 3 3] w (fun e w' => ∃ (B0 : Option Addr) (N0 D0 : Nat), e = .returned (.slice B0 N0 D0) ∧ N0 = (x0 ++ x1 ++ x2).length ∧ St w w' [.row 3 1 (.slice B0 N0 D0) N0 ((x0 ++ x1 ++ x2).flatMap eI)]) := by
  obtain rfl := h0.len
  obtain rfl := h1.len
  obtain rfl := h2.len
  have hv : m_slices_Concat_int_int ([(A0, x0, c0), (A1, x1, c1), (A2, x2, c2)] : List Sl) = some (x0 ++ x1 ++ x2) := by
    rw [cat_val _ (by simp) (by simp; omega)]; simp [catL]
  refine c_slices_Concat_int_int (x0 := ([(A0, x0, c0), (A1, x1, c1), (A2, x2, c2)] : List Sl)) ⟨⟨Rd.of_bk hb rfl (fun j u hu => by simpa [eSl] using hu), Nat.le_refl _⟩, rfl⟩ (fun z hz => ?_) hv
  simp at hz
  rcases hz with rfl | rfl | rfl
  · exact h0.rc
  · exact h1.rc
  · exact h2.rc

set_option maxHeartbeats 4000000 in
theorem c_impl_PollNew {w : World} {r : Int × List Int × Int × List Int × Int × Int × Int × Int}  (hM : m_impl_PollNew = some r) :
    Calls Tryd.prog 7 #[] w (fun e w' => ∃ (B0 : Option Addr) (N0 D0 : Nat) (B1 : Option Addr) (N1 D1 : Nat), e = .returned (.agg #[.int .i64 r.1, .slice B0 N0 D0, .int .i64 r.2.2.1, .slice B1 N1 D1, .int .i64 r.2.2.2.2.1, .int .i64 r.2.2.2.2.2.1, .int .i64 r.2.2.2.2.2.2.1, .int .i64 r.2.2.2.2.2.2.2]) ∧ N0 = r.2.1.length ∧ N1 = r.2.2.2.1.length ∧ St w w' [.row 3 1 (.slice B0 N0 D0) N0 (r.2.1.flatMap eI), .row 3 1 (.slice B1 N1 D1) N1 (r.2.2.2.1.flatMap eI)]) := by
  unfold m_impl_PollNew at hM
  refine calls_gw Tryd.func7 Tryd.ntmps7 rfl [] trivial rfl ?_
  intro a hF
  have S := St.nil w
  refine wp_seq ?_
  refine wp_region_lit ?_
  refine op_new (cs := #[.int .i64 0, .slice none 0 0, .int .i64 0, .slice none 0 0, .int .i64 0, .int .i64 0, .int .i64 0, .int .i64 0]) rfl rfl hF rfl S (run_allocZ rfl zr25) ?_; clear hF S; intro a g101 u hF S
  refine wpList_nil ?_
  refine wp_seq ?_
  refine wp_region_lit ?_
  refine op_val (v := .agg #[.int .i64 0, .slice none 0 0, .int .i64 1, .slice none 0 0, .int .i64 (-1), .int .i64 (-1), .int .i64 (-1), .int .i64 (-1)]) rfl rfl hF rfl (run_build (vs := [(2, .int .i64 1), (4, .int .i64 (-1)), (5, .int .i64 (-1)), (6, .int .i64 (-1)), (7, .int .i64 (-1))]) rfl ⟨⟨rfl, rfl⟩, ⟨rfl, rfl⟩, ⟨rfl, rfl⟩, ⟨rfl, rfl⟩, ⟨rfl, rfl⟩, trivial⟩ (bd25_2_4_5_6_7 rfl rfl rfl rfl rfl)) ?_; clear hF; intro a hF
  refine op_do rfl rfl (run_store (cs' := #[.int .i64 0, .slice none 0 0, .int .i64 1, .slice none 0 0, .int .i64 (-1), .int .i64 (-1), .int .i64 (-1), .int .i64 (-1)]) rfl sz25 (hF.ev rfl) (hF.ev rfl) rfl rfl rfl (S.free 0 rfl) rfl rfl) ?_; replace S := S.put 0 rfl (#[.int .i64 0, .slice none 0 0, .int .i64 1, .slice none 0 0, .int .i64 (-1), .int .i64 (-1), .int .i64 (-1), .int .i64 (-1)])
  generalize World.setRow _ _ _ = u at S ⊢
  refine wpList_nil ?_
  refine wp_ret ?_
  repeat with_reducible (first | refine then_ret ?_ | refine in_ret ?_ | refine in_nrm ?_)
  refine ret1_gw (.inl rfl) hF rfl (res_cell (hF.ev rfl) (res_loadN ag25 rfl (S.cells 0 rfl 0 #[.int .i64 0, .slice none 0 0, .int .i64 1, .slice none 0 0, .int .i64 (-1), .int .i64 (-1), .int .i64 (-1), .int .i64 (-1)] rfl))) ?_
  obtain rfl := Option.some.inj hM
  replace S := S.nilrow 3 1
  replace S := S.nilrow 3 1
  exact ⟨none, 0, 0, none, 0, 0, rfl, rfl, rfl, S.sel [1, 0] rfl rfl⟩

set_option maxHeartbeats 4000000 in
theorem c_spec_PollNew {w : World} {r : Int × List Int × Int × List Int × Int × Int × Int × Int}  (hM : m_spec_PollNew = some r) :
    Calls Tryd.prog 9 #[] w (fun e w' => ∃ (B0 : Option Addr) (N0 D0 : Nat) (B1 : Option Addr) (N1 D1 : Nat), e = .returned (.agg #[.int .i64 r.1, .slice B0 N0 D0, .int .i64 r.2.2.1, .slice B1 N1 D1, .int .i64 r.2.2.2.2.1, .int .i64 r.2.2.2.2.2.1, .int .i64 r.2.2.2.2.2.2.1, .int .i64 r.2.2.2.2.2.2.2]) ∧ N0 = r.2.1.length ∧ N1 = r.2.2.2.1.length ∧ St w w' [.row 3 1 (.slice B0 N0 D0) N0 (r.2.1.flatMap eI), .row 3 1 (.slice B1 N1 D1) N1 (r.2.2.2.1.flatMap eI)]) := by
  unfold m_spec_PollNew at hM
  refine calls_gw Tryd.func9 Tryd.ntmps9 rfl [] trivial rfl ?_
  intro a hF
  have S := St.nil w
  refine wp_seq ?_
  refine wp_region_lit ?_
  refine op_new (cs := #[.int .i64 0, .slice none 0 0, .int .i64 0, .slice none 0 0, .int .i64 0, .int .i64 0, .int .i64 0, .int .i64 0]) rfl rfl hF rfl S (run_allocZ rfl zr25) ?_; clear hF S; intro a g101 u hF S
  refine wpList_nil ?_
  refine wp_seq ?_
  refine wp_region_lit ?_
  refine op_val (v := .agg #[.int .i64 0, .slice none 0 0, .int .i64 1, .slice none 0 0, .int .i64 (-1), .int .i64 (-1), .int .i64 (-1), .int .i64 (-1)]) rfl rfl hF rfl (run_build (vs := [(2, .int .i64 1), (4, .int .i64 (-1)), (5, .int .i64 (-1)), (6, .int .i64 (-1)), (7, .int .i64 (-1))]) rfl ⟨⟨rfl, rfl⟩, ⟨rfl, rfl⟩, ⟨rfl, rfl⟩, ⟨rfl, rfl⟩, ⟨rfl, rfl⟩, trivial⟩ (bd25_2_4_5_6_7 rfl rfl rfl rfl rfl)) ?_; clear hF; intro a hF
  refine op_do rfl rfl (run_store (cs' := #[.int .i64 0, .slice none 0 0, .int .i64 1, .slice none 0 0, .int .i64 (-1), .int .i64 (-1), .int .i64 (-1), .int .i64 (-1)]) rfl sz25 (hF.ev rfl) (hF.ev rfl) rfl rfl rfl (S.free 0 rfl) rfl rfl) ?_; replace S := S.put 0 rfl (#[.int .i64 0, .slice none 0 0, .int .i64 1, .slice none 0 0, .int .i64 (-1), .int .i64 (-1), .int .i64 (-1), .int .i64 (-1)])
  generalize World.setRow _ _ _ = u at S ⊢
  refine wpList_nil ?_
  refine wp_ret ?_
  repeat with_reducible (first | refine then_ret ?_ | refine in_ret ?_ | refine in_nrm ?_)
  refine ret1_gw (.inl rfl) hF rfl (res_cell (hF.ev rfl) (res_loadN ag25 rfl (S.cells 0 rfl 0 #[.int .i64 0, .slice none 0 0, .int .i64 1, .slice none 0 0, .int .i64 (-1), .int .i64 (-1), .int .i64 (-1), .int .i64 (-1)] rfl))) ?_
  obtain rfl := Option.some.inj hM
  replace S := S.nilrow 3 1
  replace S := S.nilrow 3 1
  exact ⟨none, 0, 0, none, 0, 0, rfl, rfl, rfl, S.sel [1, 0] rfl rfl⟩

set_option maxHeartbeats 4000000 in
theorem c_laws_sameInts {x0 : List Int} {x1 : List Int} {A0 : Option Addr} {n0 c0 : Nat} {A1 : Option Addr} {n1 c1 : Nat} {w : World} {r : Bool} (h0 : Rt w 1 eI A0 n0 c0 x0) (h1 : Rt w 1 eI A1 n1 c1 x1) (hM : m_laws_sameInts x0 x1 = some r) :
    Calls Tryd.prog 20 #[.slice A0 n0 c0, .slice A1 n1 c1] w (fun e w' => e = .returned (.bool r) ∧ St w w' []) := by
  obtain rfl := h0.len
  obtain rfl := h1.len
  unfold m_laws_sameInts at hM
  refine calls_gw Tryd.func20 Tryd.ntmps20 rfl [(0, .slice A0 x0.length c0), (1, .slice A1 x1.length c1)] ⟨rfl, rfl, trivial⟩ rfl ?_
  intro a hF
  have S := St.nil w
  refine wp_seq ?_
  refine wp_region_lit ?_
  refine op_val (v := .bool false) rfl rfl hF rfl (run_assign rfl rfl) ?_; clear hF; intro a hF
  refine wpList_nil ?_
  refine wp_seq ?_
  refine wp_seq ?_
  refine wp_region_lit ?_
  refine op_val (v := .slice A0 x0.length c0) rfl rfl hF rfl (run_move rfl (hF.ev rfl)) ?_; clear hF; intro a hF
  refine op_val (v := .int .i64 (x0.length : Int)) rfl rfl hF rfl (run_lenL rfl rfl Tryd.underlying23 (hF.ev rfl)) ?_; clear hF; intro a hF
  refine op_val (v := .slice A1 x1.length c1) rfl rfl hF rfl (run_move rfl (hF.ev rfl)) ?_; clear hF; intro a hF
  refine op_val (v := .int .i64 (x1.length : Int)) rfl rfl hF rfl (run_lenL rfl rfl Tryd.underlying23 (hF.ev rfl)) ?_; clear hF; intro a hF
  refine op_val (v := .bool ((x0.length : Int) != (x1.length : Int))) rfl rfl hF rfl (run_neq (hF.ev rfl) (hF.ev rfl) rfl) ?_; clear hF; intro a hF
  refine wpList_nil ?_
  cases hc101 : ((x0.length : Int) != (x1.length : Int))
  · replace hM := bif_f hc101 hM
    refine cond_f hF rfl hc101 ?_
    refine wp_skip ?_
    refine wp_seq ?_
    refine wp_seq ?_
    refine wp_region_lit ?_
    refine op_val (v := .int .i64 0) rfl rfl hF rfl (run_assign rfl rfl) ?_; clear hF; intro a hF
    refine wpList_nil ?_
    obtain ⟨o103, hM104, hM⟩ := bind_ex hM
    refine wp_cut (fun a u => ∃ (p102 : Unit), (Sum.inl p102) = o103 ∧ Fr a 26 [(4, .bool false)] ∧ St w u []) ?_ ?_
    · have _ := trivial
      refine wp_block ?_
      refine loop_gw (fun m a u => ∃ (p105 : Int), m_laws_sameInts_l1 x0 x1 m p105 = some _ ∧ Fr a 26 [(0, .slice A0 x0.length c0), (1, .slice A1 x1.length c1), (4, .bool false), (5, .int .i64 p105)] ∧ St w u []) FUEL ⟨0, hM104, hF.keep _ ⟨rfl, rfl, rfl, rfl, trivial⟩, S.sel [] rfl rfl⟩ ?_
      clear hF S hM104; rintro m a u ⟨p105, hM104, hF, S⟩
      rcases m with _ | f1
      · exact none_some hM104
      rw [m_laws_sameInts_l1.eq_2] at hM104
      refine wp_seq ?_
      refine wp_seq ?_
      refine wp_region_lit ?_
      refine op_val (v := .int .i64 p105) rfl rfl hF rfl (run_move rfl (hF.ev rfl)) ?_; clear hF; intro a hF
      refine op_val (v := .slice A0 x0.length c0) rfl rfl hF rfl (run_move rfl (hF.ev rfl)) ?_; clear hF; intro a hF
      refine op_val (v := .int .i64 (x0.length : Int)) rfl rfl hF rfl (run_lenL rfl rfl Tryd.underlying23 (hF.ev rfl)) ?_; clear hF; intro a hF
      refine op_val (v := .bool (ltB p105 (x0.length : Int))) rfl rfl hF rfl (run_lss (hF.ev rfl) (hF.ev rfl) rfl) ?_; clear hF; intro a hF
      refine wpList_nil ?_
      cases hc106 : (ltB p105 (x0.length : Int))
      · replace hM104 := bif_f hc106 hM104
        refine cond_f hF rfl hc106 ?_
        refine wp_exit ?_
        repeat with_reducible (first | refine then_exit ?_ | refine in_hit ?_ | refine in_miss rfl ?_)
        obtain rfl := Option.some.inj hM104
        exact ⟨(), rfl, hF.keep _ ⟨rfl, trivial⟩, S.sel [] rfl rfl⟩
      · replace hM104 := bif_t hc106 hM104
        refine cond_t hF rfl hc106 ?_
        refine wp_skip ?_
        refine wp_seq ?_
        refine wp_block ?_
        refine wp_seq ?_
        obtain ⟨hk107, hM104⟩ := chk_ex hM104
        replace hk107 := ixB_t hk107
        obtain ⟨hk108, hM104⟩ := chk_ex hM104
        replace hk108 := ixB_t hk108
        refine region_gw (D := [17, 18, 19, 20, 21, 22, 23, 24, 25]) (Lr := []) (deps := (fun | 0 => [17] | 1 => [18] | 2 => [19] | 3 => [20] | 4 => [21] | 5 => [22] | 6 => [23] | 7 => [24] | 8 => [25] | _ => [])) (rd := (fun _ => [])) (zr := (fun _ => []))
          (φ := fun i vs => match i, vs with | 0, [v17] => v17 = .slice A0 x0.length c0 | 1, [v18] => v18 = .int .i64 p105 | 2, [v19] => v19 = .pointer (some ⟨adB A0, adO A0 + p105.toNat * 1, none⟩) | 3, [v20] => v20 = .int .i64 (x0.getD p105.toNat (0 : Int)) | 4, [v21] => v21 = .slice A1 x1.length c1 | 5, [v22] => v22 = .int .i64 p105 | 6, [v23] => v23 = .pointer (some ⟨adB A1, adO A1 + p105.toNat * 1, none⟩) | 7, [v24] => v24 = .int .i64 (x1.getD p105.toNat (0 : Int)) | 8, [v25] => v25 = .bool ((x0.getD p105.toNat (0 : Int)) != (x1.getD p105.toNat (0 : Int))) | _, _ => True)
          (C := fun _ _ => [])
          (κ := (fun _ => none)) (Z := (fun _ => [])) mixed hF (by kernel_rfl) S ?_ ?_
        · refine ⟨?_, ?_, ?_, ?_, ?_, ?_, ?_, ?_, ?_, trivial⟩
          · intro a u X hB hu hp hr hz hl S
            replace S : St w u ([] ++ X) := S
            exact .inl ⟨rfl, .slice A0 x0.length c0, u, (run_move rfl (hF.evB hB rfl rfl)), rfl, S⟩
          · intro a u X hB hu hp hr hz hl S
            replace S : St w u ([] ++ X) := S
            exact .inl ⟨rfl, .int .i64 p105, u, (run_move rfl (hF.evB hB rfl rfl)), rfl, S⟩
          · intro a u X hB hu hp hr hz hl S
            replace S : St w u ([] ++ X) := S
            have e17 : sl a 17 = .slice A0 x0.length c0 := hp 0 rfl
            have e18 : sl a 18 = .int .i64 p105 := hp 1 rfl
            exact .inl ⟨rfl, .pointer (some ⟨adB A0, adO A0 + p105.toNat * 1, none⟩), u, (run_indexAddr (b := adB A0) (off := adO A0) rfl Tryd.underlying23 sz3 ((ev_sl e17).trans (congrArg (fun A => Value.slice A x0.length c0) ((S.rc0 h0.rc).rd.ad (ix_pos hk107)))) (ev_sl e18) hk107.1 hk107.2 (k' := adO A0 + p105.toNat * 1) rfl), rfl, S⟩
          · intro a u X hB hu hp hr hz hl S
            replace S : St w u ([] ++ X) := S
            have e19 : sl a 19 = .pointer (some ⟨adB A0, adO A0 + p105.toNat * 1, none⟩) := hp 2 rfl
            exact .inl ⟨rfl, .int .i64 (x0.getD p105.toNat (0 : Int)), u, (run_load1 rfl one3 (ev_sl e19) (rd_el0 (l := x0) (S.rc0 h0.rc).rd rfl eI_len (0 : Int) (ix_ltn hk107 rfl) rfl)), rfl, S⟩
          · intro a u X hB hu hp hr hz hl S
            replace S : St w u ([] ++ X) := S
            exact .inl ⟨rfl, .slice A1 x1.length c1, u, (run_move rfl (hF.evB hB rfl rfl)), rfl, S⟩
          · intro a u X hB hu hp hr hz hl S
            replace S : St w u ([] ++ X) := S
            exact .inl ⟨rfl, .int .i64 p105, u, (run_move rfl (hF.evB hB rfl rfl)), rfl, S⟩
          · intro a u X hB hu hp hr hz hl S
            replace S : St w u ([] ++ X) := S
            have e21 : sl a 21 = .slice A1 x1.length c1 := hp 4 rfl
            have e22 : sl a 22 = .int .i64 p105 := hp 5 rfl
            exact .inl ⟨rfl, .pointer (some ⟨adB A1, adO A1 + p105.toNat * 1, none⟩), u, (run_indexAddr (b := adB A1) (off := adO A1) rfl Tryd.underlying23 sz3 ((ev_sl e21).trans (congrArg (fun A => Value.slice A x1.length c1) ((S.rc0 h1.rc).rd.ad (ix_pos hk108)))) (ev_sl e22) hk108.1 hk108.2 (k' := adO A1 + p105.toNat * 1) rfl), rfl, S⟩
          · intro a u X hB hu hp hr hz hl S
            replace S : St w u ([] ++ X) := S
            have e23 : sl a 23 = .pointer (some ⟨adB A1, adO A1 + p105.toNat * 1, none⟩) := hp 6 rfl
            exact .inl ⟨rfl, .int .i64 (x1.getD p105.toNat (0 : Int)), u, (run_load1 rfl one3 (ev_sl e23) (rd_el0 (l := x1) (S.rc0 h1.rc).rd rfl eI_len (0 : Int) (ix_ltn hk108 rfl) rfl)), rfl, S⟩
          · intro a u X hB hu hp hr hz hl S
            replace S : St w u ([] ++ X) := S
            have e20 : sl a 20 = .int .i64 (x0.getD p105.toNat (0 : Int)) := hp 3 rfl
            have e24 : sl a 24 = .int .i64 (x1.getD p105.toNat (0 : Int)) := hp 7 rfl
            exact .inl ⟨rfl, .bool ((x0.getD p105.toNat (0 : Int)) != (x1.getD p105.toNat (0 : Int))), u, (run_neq (ev_sl e20) (ev_sl e24) rfl), rfl, S⟩
        · intro a u hB hp S
          obtain ⟨q0, q1, q2, q3, q4, q5, q6, q7, q8, _⟩ := hp
          have e17 : sl a 17 = .slice A0 x0.length c0 := q0
          have e18 : sl a 18 = .int .i64 p105 := q1
          have e19 : sl a 19 = .pointer (some ⟨adB A0, adO A0 + p105.toNat * 1, none⟩) := q2
          have e20 : sl a 20 = .int .i64 (x0.getD p105.toNat (0 : Int)) := q3
          have e21 : sl a 21 = .slice A1 x1.length c1 := q4
          have e22 : sl a 22 = .int .i64 p105 := q5
          have e23 : sl a 23 = .pointer (some ⟨adB A1, adO A1 + p105.toNat * 1, none⟩) := q6
          have e24 : sl a 24 = .int .i64 (x1.getD p105.toNat (0 : Int)) := q7
          have e25 : sl a 25 = .bool ((x0.getD p105.toNat (0 : Int)) != (x1.getD p105.toNat (0 : Int))) := q8
          replace S : St w u [] := S
          clear q0 q1 q2 q3 q4 q5 q6 q7 q8
          have hF := hF.region hB [(17, .slice A0 x0.length c0), (18, .int .i64 p105), (19, .pointer (some ⟨adB A0, adO A0 + p105.toNat * 1, none⟩)), (20, .int .i64 (x0.getD p105.toNat (0 : Int))), (21, .slice A1 x1.length c1), (22, .int .i64 p105), (23, .pointer (some ⟨adB A1, adO A1 + p105.toNat * 1, none⟩)), (24, .int .i64 (x1.getD p105.toNat (0 : Int))), (25, .bool ((x0.getD p105.toNat (0 : Int)) != (x1.getD p105.toNat (0 : Int))))] (allSl_mem ⟨e17, e18, e19, e20, e21, e22, e23, e24, e25, trivial⟩) rfl
          clear hB e17 e18 e19 e20 e21 e22 e23 e24 e25
          cases hc109 : ((x0.getD p105.toNat (0 : Int)) != (x1.getD p105.toNat (0 : Int)))
          · replace hM104 := bif_f hc109 hM104
            refine cond_f hF rfl hc109 ?_
            refine wp_skip ?_
            refine wp_region_lit ?_
            refine op_val (v := .int .i64 p105) rfl rfl hF rfl (run_move rfl (hF.ev rfl)) ?_; clear hF; intro a hF
            refine op_val (v := .int .i64 (w64 (p105 + 1))) rfl rfl hF rfl (run_add (z := w64 (p105 + 1)) (hF.ev rfl) rfl rfl rfl) ?_; clear hF; intro a hF
            refine op_val (v := .int .i64 (w64 (p105 + 1))) rfl rfl hF rfl (run_assign rfl (hF.ev rfl)) ?_; clear hF; intro a hF
            refine wpList_nil ?_
            exact ⟨f1, Nat.lt_succ_self _, w64 (p105 + 1), hM104, hF.keep _ ⟨rfl, rfl, rfl, rfl, trivial⟩, S.sel [] rfl rfl⟩
          · replace hM104 := bif_t hc109 hM104
            refine cond_t hF rfl hc109 ?_
            refine wp_seq ?_
            refine wp_region_lit ?_
            refine op_val (v := .bool false) rfl rfl hF rfl (run_assign rfl rfl) ?_; clear hF; intro a hF
            refine wpList_nil ?_
            refine wp_ret ?_
            repeat with_reducible (first | refine then_ret ?_ | refine in_ret ?_ | refine in_nrm ?_)
            refine ret1_gw (.inl rfl) hF rfl (res_tmp (hF.ev rfl)) ?_
            obtain rfl := Option.some.inj hM104
            obtain rfl := Option.some.inj hM
            exact ⟨rfl, S.sel [] rfl rfl⟩
    · rintro a u ⟨p102, rfl, hF, S⟩
      replace hM := elim_l hM
      refine wp_seq ?_
      refine wp_region_lit ?_
      refine op_val (v := .bool true) rfl rfl hF rfl (run_assign rfl rfl) ?_; clear hF; intro a hF
      refine wpList_nil ?_
      refine wp_ret ?_
      repeat with_reducible (first | refine then_ret ?_ | refine in_ret ?_ | refine in_nrm ?_)
      refine ret1_gw (.inl rfl) hF rfl (res_tmp (hF.ev rfl)) ?_
      obtain rfl := Option.some.inj hM
      exact ⟨rfl, S.sel [] rfl rfl⟩
  · replace hM := bif_t hc101 hM
    refine cond_t hF rfl hc101 ?_
    refine wp_seq ?_
    refine wp_region_lit ?_
    refine op_val (v := .bool false) rfl rfl hF rfl (run_assign rfl rfl) ?_; clear hF; intro a hF
    refine wpList_nil ?_
    refine wp_ret ?_
    repeat with_reducible (first | refine then_ret ?_ | refine in_ret ?_ | refine in_nrm ?_)
    refine ret1_gw (.inl rfl) hF rfl (res_tmp (hF.ev rfl)) ?_
    obtain rfl := Option.some.inj hM
    exact ⟨rfl, S.sel [] rfl rfl⟩

set_option maxHeartbeats 4000000 in
theorem c_laws_samePoll {x0 : Int} {x1 : List Int} {x2 : Int} {x3 : List Int} {x4 : Int} {x5 : Int} {x6 : Int} {x7 : Int} {x8 : Int} {x9 : List Int} {x10 : Int} {x11 : List Int} {x12 : Int} {x13 : Int} {x14 : Int} {x15 : Int} {A1 : Option Addr} {n1 c1 : Nat} {A3 : Option Addr} {n3 c3 : Nat} {A9 : Option Addr} {n9 c9 : Nat} {A11 : Option Addr} {n11 c11 : Nat} {w : World} {r : Bool} (h1 : Rt w 1 eI A1 n1 c1 x1) (h3 : Rt w 1 eI A3 n3 c3 x3) (h9 : Rt w 1 eI A9 n9 c9 x9) (h11 : Rt w 1 eI A11 n11 c11 x11) (hM : m_laws_samePoll x0 x1 x2 x3 x4 x5 x6 x7 x8 x9 x10 x11 x12 x13 x14 x15 = some r) :
    Calls Tryd.prog 8 #[.agg #[.int .i64 x0, .slice A1 n1 c1, .int .i64 x2, .slice A3 n3 c3, .int .i64 x4, .int .i64 x5, .int .i64 x6, .int .i64 x7], .agg #[.int .i64 x8, .slice A9 n9 c9, .int .i64 x10, .slice A11 n11 c11, .int .i64 x12, .int .i64 x13, .int .i64 x14, .int .i64 x15]] w (fun e w' => e = .returned (.bool r) ∧ St w w' []) := by
  obtain rfl := h1.len
  obtain rfl := h3.len
  obtain rfl := h9.len
  obtain rfl := h11.len
  unfold m_laws_samePoll at hM
  refine calls_gw Tryd.func8 Tryd.ntmps8 rfl [(0, .agg #[.int .i64 x0, .slice A1 x1.length c1, .int .i64 x2, .slice A3 x3.length c3, .int .i64 x4, .int .i64 x5, .int .i64 x6, .int .i64 x7]), (1, .agg #[.int .i64 x8, .slice A9 x9.length c9, .int .i64 x10, .slice A11 x11.length c11, .int .i64 x12, .int .i64 x13, .int .i64 x14, .int .i64 x15])] ⟨rfl, rfl, trivial⟩ rfl ?_
  intro a hF
  have S := St.nil w
  refine wp_seq ?_
  refine wp_region_lit ?_
  refine op_new (cs := #[.int .i64 x0, .slice A1 x1.length c1, .int .i64 x2, .slice A3 x3.length c3, .int .i64 x4, .int .i64 x5, .int .i64 x6, .int .i64 x7]) rfl rfl hF rfl S (run_box rfl (hF.ev rfl) rfl) ?_; clear hF S; intro a g101 u hF S
  refine op_new (cs := #[.int .i64 x8, .slice A9 x9.length c9, .int .i64 x10, .slice A11 x11.length c11, .int .i64 x12, .int .i64 x13, .int .i64 x14, .int .i64 x15]) rfl rfl hF rfl S (run_box rfl (hF.ev rfl) rfl) ?_; clear hF S; intro a g102 u hF S
  refine op_val (v := .bool false) rfl rfl hF rfl (run_assign rfl rfl) ?_; clear hF; intro a hF
  refine wpList_nil ?_
  refine wp_seq ?_
  refine wp_region_lit ?_
  refine op_val (v := .pointer (some ⟨g101, 0, none⟩)) rfl rfl hF rfl (run_fieldAddr rfl fl25_0 (hF.ev rfl) rfl) ?_; clear hF; intro a hF
  refine op_val (v := .int .i64 x0) rfl rfl hF rfl (run_load1 rfl one3 (hF.ev rfl) ((S.free 1 rfl).cell rfl)) ?_; clear hF; intro a hF
  refine op_val (v := .pointer (some ⟨g102, 0, none⟩)) rfl rfl hF rfl (run_fieldAddr rfl fl25_0 (hF.ev rfl) rfl) ?_; clear hF; intro a hF
  refine op_val (v := .int .i64 x8) rfl rfl hF rfl (run_load1 rfl one3 (hF.ev rfl) ((S.free 0 rfl).cell rfl)) ?_; clear hF; intro a hF
  refine op_val (v := .bool (x0 == x8)) rfl rfl hF rfl (run_eql (hF.ev rfl) (hF.ev rfl) rfl) ?_; clear hF; intro a hF
  refine op_val (v := .bool (x0 == x8)) rfl rfl hF rfl (run_move rfl (hF.ev rfl)) ?_; clear hF; intro a hF
  refine op_gv (v := .pointer (some ⟨g101, 2, none⟩)) rfl rfl hF rfl (yt (gw_yield hF rfl rfl rfl)) (fun hg => (run_fieldAddr rfl fl25_2 (hF.ev rfl) rfl)) ?_; clear hF; intro a hF
  refine op_gv (v := .int .i64 x2) rfl rfl hF rfl (yt (gw_yield hF rfl rfl rfl)) (fun hg => (run_load1 rfl one3 ((hF.ev rfl).trans (gv_t hg)) ((S.free 1 rfl).cell rfl))) ?_; clear hF; intro a hF
  refine op_gv (v := .pointer (some ⟨g102, 2, none⟩)) rfl rfl hF rfl (yt (gw_yield hF rfl rfl rfl)) (fun hg => (run_fieldAddr rfl fl25_2 (hF.ev rfl) rfl)) ?_; clear hF; intro a hF
  refine op_gv (v := .int .i64 x10) rfl rfl hF rfl (yt (gw_yield hF rfl rfl rfl)) (fun hg => (run_load1 rfl one3 ((hF.ev rfl).trans (gv_t hg)) ((S.free 0 rfl).cell rfl))) ?_; clear hF; intro a hF
  refine op_gv (v := .bool (x2 == x10)) rfl rfl hF rfl (yt (gw_yield hF rfl rfl rfl)) (fun hg => (run_eql ((hF.ev rfl).trans (gv_t hg)) ((hF.ev rfl).trans (gv_t hg)) rfl)) ?_; clear hF; intro a hF
  refine op_val (v := .bool ((x0 == x8) && (x2 == x10))) rfl rfl hF rfl (run_pick_and rfl (hF.ev rfl) (fun hp => ((hF.ev rfl).trans (gv_t hp))) rfl) ?_; clear hF; intro a hF
  refine op_val (v := .bool ((x0 == x8) && (x2 == x10))) rfl rfl hF rfl (run_move rfl (hF.ev rfl)) ?_; clear hF; intro a hF
  refine op_gv (v := .pointer (some ⟨g101, 4, none⟩)) rfl rfl hF rfl (yt (gw_yield hF rfl rfl rfl)) (fun hg => (run_fieldAddr rfl fl25_4 (hF.ev rfl) rfl)) ?_; clear hF; intro a hF
  refine op_gv (v := .int .i64 x4) rfl rfl hF rfl (yt (gw_yield hF rfl rfl rfl)) (fun hg => (run_load1 rfl one3 ((hF.ev rfl).trans (gv_t hg)) ((S.free 1 rfl).cell rfl))) ?_; clear hF; intro a hF
  refine op_gv (v := .pointer (some ⟨g102, 4, none⟩)) rfl rfl hF rfl (yt (gw_yield hF rfl rfl rfl)) (fun hg => (run_fieldAddr rfl fl25_4 (hF.ev rfl) rfl)) ?_; clear hF; intro a hF
  refine op_gv (v := .int .i64 x12) rfl rfl hF rfl (yt (gw_yield hF rfl rfl rfl)) (fun hg => (run_load1 rfl one3 ((hF.ev rfl).trans (gv_t hg)) ((S.free 0 rfl).cell rfl))) ?_; clear hF; intro a hF
  refine op_gv (v := .bool (x4 == x12)) rfl rfl hF rfl (yt (gw_yield hF rfl rfl rfl)) (fun hg => (run_eql ((hF.ev rfl).trans (gv_t hg)) ((hF.ev rfl).trans (gv_t hg)) rfl)) ?_; clear hF; intro a hF
  refine op_val (v := .bool (((x0 == x8) && (x2 == x10)) && (x4 == x12))) rfl rfl hF rfl (run_pick_and rfl (hF.ev rfl) (fun hp => ((hF.ev rfl).trans (gv_t hp))) rfl) ?_; clear hF; intro a hF
  refine op_val (v := .bool (((x0 == x8) && (x2 == x10)) && (x4 == x12))) rfl rfl hF rfl (run_move rfl (hF.ev rfl)) ?_; clear hF; intro a hF
  refine op_gv (v := .pointer (some ⟨g101, 5, none⟩)) rfl rfl hF rfl (yt (gw_yield hF rfl rfl rfl)) (fun hg => (run_fieldAddr rfl fl25_5 (hF.ev rfl) rfl)) ?_; clear hF; intro a hF
  refine op_gv (v := .int .i64 x5) rfl rfl hF rfl (yt (gw_yield hF rfl rfl rfl)) (fun hg => (run_load1 rfl one3 ((hF.ev rfl).trans (gv_t hg)) ((S.free 1 rfl).cell rfl))) ?_; clear hF; intro a hF
  refine op_gv (v := .pointer (some ⟨g102, 5, none⟩)) rfl rfl hF rfl (yt (gw_yield hF rfl rfl rfl)) (fun hg => (run_fieldAddr rfl fl25_5 (hF.ev rfl) rfl)) ?_; clear hF; intro a hF
  refine op_gv (v := .int .i64 x13) rfl rfl hF rfl (yt (gw_yield hF rfl rfl rfl)) (fun hg => (run_load1 rfl one3 ((hF.ev rfl).trans (gv_t hg)) ((S.free 0 rfl).cell rfl))) ?_; clear hF; intro a hF
  refine op_gv (v := .bool (x5 == x13)) rfl rfl hF rfl (yt (gw_yield hF rfl rfl rfl)) (fun hg => (run_eql ((hF.ev rfl).trans (gv_t hg)) ((hF.ev rfl).trans (gv_t hg)) rfl)) ?_; clear hF; intro a hF
  refine op_val (v := .bool ((((x0 == x8) && (x2 == x10)) && (x4 == x12)) && (x5 == x13))) rfl rfl hF rfl (run_pick_and rfl (hF.ev rfl) (fun hp => ((hF.ev rfl).trans (gv_t hp))) rfl) ?_; clear hF; intro a hF
  refine op_val (v := .bool ((((x0 == x8) && (x2 == x10)) && (x4 == x12)) && (x5 == x13))) rfl rfl hF rfl (run_move rfl (hF.ev rfl)) ?_; clear hF; intro a hF
  refine op_gv (v := .pointer (some ⟨g101, 6, none⟩)) rfl rfl hF rfl (yt (gw_yield hF rfl rfl rfl)) (fun hg => (run_fieldAddr rfl fl25_6 (hF.ev rfl) rfl)) ?_; clear hF; intro a hF
  refine op_gv (v := .int .i64 x6) rfl rfl hF rfl (yt (gw_yield hF rfl rfl rfl)) (fun hg => (run_load1 rfl one3 ((hF.ev rfl).trans (gv_t hg)) ((S.free 1 rfl).cell rfl))) ?_; clear hF; intro a hF
  refine op_gv (v := .pointer (some ⟨g102, 6, none⟩)) rfl rfl hF rfl (yt (gw_yield hF rfl rfl rfl)) (fun hg => (run_fieldAddr rfl fl25_6 (hF.ev rfl) rfl)) ?_; clear hF; intro a hF
  refine op_gv (v := .int .i64 x14) rfl rfl hF rfl (yt (gw_yield hF rfl rfl rfl)) (fun hg => (run_load1 rfl one3 ((hF.ev rfl).trans (gv_t hg)) ((S.free 0 rfl).cell rfl))) ?_; clear hF; intro a hF
  refine op_gv (v := .bool (x6 == x14)) rfl rfl hF rfl (yt (gw_yield hF rfl rfl rfl)) (fun hg => (run_eql ((hF.ev rfl).trans (gv_t hg)) ((hF.ev rfl).trans (gv_t hg)) rfl)) ?_; clear hF; intro a hF
  refine op_val (v := .bool (((((x0 == x8) && (x2 == x10)) && (x4 == x12)) && (x5 == x13)) && (x6 == x14))) rfl rfl hF rfl (run_pick_and rfl (hF.ev rfl) (fun hp => ((hF.ev rfl).trans (gv_t hp))) rfl) ?_; clear hF; intro a hF
  refine op_val (v := .bool (((((x0 == x8) && (x2 == x10)) && (x4 == x12)) && (x5 == x13)) && (x6 == x14))) rfl rfl hF rfl (run_move rfl (hF.ev rfl)) ?_; clear hF; intro a hF
  refine op_gv (v := .pointer (some ⟨g101, 7, none⟩)) rfl rfl hF rfl (yt (gw_yield hF rfl rfl rfl)) (fun hg => (run_fieldAddr rfl fl25_7 (hF.ev rfl) rfl)) ?_; clear hF; intro a hF
  refine op_gv (v := .int .i64 x7) rfl rfl hF rfl (yt (gw_yield hF rfl rfl rfl)) (fun hg => (run_load1 rfl one3 ((hF.ev rfl).trans (gv_t hg)) ((S.free 1 rfl).cell rfl))) ?_; clear hF; intro a hF
  refine op_gv (v := .pointer (some ⟨g102, 7, none⟩)) rfl rfl hF rfl (yt (gw_yield hF rfl rfl rfl)) (fun hg => (run_fieldAddr rfl fl25_7 (hF.ev rfl) rfl)) ?_; clear hF; intro a hF
  refine op_gv (v := .int .i64 x15) rfl rfl hF rfl (yt (gw_yield hF rfl rfl rfl)) (fun hg => (run_load1 rfl one3 ((hF.ev rfl).trans (gv_t hg)) ((S.free 0 rfl).cell rfl))) ?_; clear hF; intro a hF
  refine op_gv (v := .bool (x7 == x15)) rfl rfl hF rfl (yt (gw_yield hF rfl rfl rfl)) (fun hg => (run_eql ((hF.ev rfl).trans (gv_t hg)) ((hF.ev rfl).trans (gv_t hg)) rfl)) ?_; clear hF; intro a hF
  refine op_val (v := .bool ((((((x0 == x8) && (x2 == x10)) && (x4 == x12)) && (x5 == x13)) && (x6 == x14)) && (x7 == x15))) rfl rfl hF rfl (run_pick_and rfl (hF.ev rfl) (fun hp => ((hF.ev rfl).trans (gv_t hp))) rfl) ?_; clear hF; intro a hF
  refine op_val (v := .bool ((((((x0 == x8) && (x2 == x10)) && (x4 == x12)) && (x5 == x13)) && (x6 == x14)) && (x7 == x15))) rfl rfl hF rfl (run_move rfl (hF.ev rfl)) ?_; clear hF; intro a hF
  refine op_gv (v := .pointer (some ⟨g101, 1, none⟩)) rfl rfl hF rfl (yt (gw_yield hF rfl rfl rfl)) (fun hg => (run_fieldAddr rfl fl25_1 (hF.ev rfl) rfl)) ?_; clear hF; intro a hF
  refine op_gv (v := .slice A1 x1.length c1) rfl rfl hF rfl (yt (gw_yield hF rfl rfl rfl)) (fun hg => (run_load1 rfl one23 ((hF.ev rfl).trans (gv_t hg)) ((S.free 1 rfl).cell rfl))) ?_; clear hF; intro a hF
  refine op_gv (v := .pointer (some ⟨g102, 1, none⟩)) rfl rfl hF rfl (yt (gw_yield hF rfl rfl rfl)) (fun hg => (run_fieldAddr rfl fl25_1 (hF.ev rfl) rfl)) ?_; clear hF; intro a hF
  refine op_gv (v := .slice A9 x9.length c9) rfl rfl hF rfl (yt (gw_yield hF rfl rfl rfl)) (fun hg => (run_load1 rfl one23 ((hF.ev rfl).trans (gv_t hg)) ((S.free 0 rfl).cell rfl))) ?_; clear hF; intro a hF
  obtain ⟨p103, h103, hM⟩ := bind_ex hM
  refine op_gcall (v := .bool p103) rfl rfl hF rfl S (yt (gw_yield hF rfl rfl rfl)) (fun hg => (run_call (vs := [.slice A1 x1.length c1, .slice A9 x9.length c9]) rfl rfl co20 ⟨((hF.ev rfl).trans (gv_t hg)), ((hF.ev rfl).trans (gv_t hg)), trivial⟩)) (fun hg => c_laws_sameInts (x0 := x1) (x1 := x9) ⟨(S.rc0 h1.rc), rfl⟩ ⟨(S.rc0 h9.rc), rfl⟩ (gb_t h103 hg)) ?_; clear hF S; intro a u hF S
  refine op_val (v := .bool (((((((x0 == x8) && (x2 == x10)) && (x4 == x12)) && (x5 == x13)) && (x6 == x14)) && (x7 == x15)) && p103)) rfl rfl hF rfl (run_pick_and rfl (hF.ev rfl) (fun hp => ((hF.ev rfl).trans (gv_t hp))) rfl) ?_; clear hF; intro a hF
  refine op_val (v := .bool (((((((x0 == x8) && (x2 == x10)) && (x4 == x12)) && (x5 == x13)) && (x6 == x14)) && (x7 == x15)) && p103)) rfl rfl hF rfl (run_move rfl (hF.ev rfl)) ?_; clear hF; intro a hF
  refine op_gv (v := .pointer (some ⟨g101, 3, none⟩)) rfl rfl hF rfl (yt (gw_yield hF rfl rfl rfl)) (fun hg => (run_fieldAddr rfl fl25_3 (hF.ev rfl) rfl)) ?_; clear hF; intro a hF
  refine op_gv (v := .slice A3 x3.length c3) rfl rfl hF rfl (yt (gw_yield hF rfl rfl rfl)) (fun hg => (run_load1 rfl one23 ((hF.ev rfl).trans (gv_t hg)) ((S.free 1 rfl).cell rfl))) ?_; clear hF; intro a hF
  refine op_gv (v := .pointer (some ⟨g102, 3, none⟩)) rfl rfl hF rfl (yt (gw_yield hF rfl rfl rfl)) (fun hg => (run_fieldAddr rfl fl25_3 (hF.ev rfl) rfl)) ?_; clear hF; intro a hF
  refine op_gv (v := .slice A11 x11.length c11) rfl rfl hF rfl (yt (gw_yield hF rfl rfl rfl)) (fun hg => (run_load1 rfl one23 ((hF.ev rfl).trans (gv_t hg)) ((S.free 0 rfl).cell rfl))) ?_; clear hF; intro a hF
  obtain ⟨p104, h104, hM⟩ := bind_ex hM
  refine op_gcall (v := .bool p104) rfl rfl hF rfl S (yt (gw_yield hF rfl rfl rfl)) (fun hg => (run_call (vs := [.slice A3 x3.length c3, .slice A11 x11.length c11]) rfl rfl co20 ⟨((hF.ev rfl).trans (gv_t hg)), ((hF.ev rfl).trans (gv_t hg)), trivial⟩)) (fun hg => c_laws_sameInts (x0 := x3) (x1 := x11) ⟨(S.rc0 h3.rc), rfl⟩ ⟨(S.rc0 h11.rc), rfl⟩ (gb_t h104 hg)) ?_; clear hF S; intro a u hF S
  refine op_val (v := .bool ((((((((x0 == x8) && (x2 == x10)) && (x4 == x12)) && (x5 == x13)) && (x6 == x14)) && (x7 == x15)) && p103) && p104)) rfl rfl hF rfl (run_pick_and rfl (hF.ev rfl) (fun hp => ((hF.ev rfl).trans (gv_t hp))) rfl) ?_; clear hF; intro a hF
  refine op_val (v := .bool ((((((((x0 == x8) && (x2 == x10)) && (x4 == x12)) && (x5 == x13)) && (x6 == x14)) && (x7 == x15)) && p103) && p104)) rfl rfl hF rfl (run_assign rfl (hF.ev rfl)) ?_; clear hF; intro a hF
  refine wpList_nil ?_
  refine wp_ret ?_
  repeat with_reducible (first | refine then_ret ?_ | refine in_ret ?_ | refine in_nrm ?_)
  refine ret1_gw (.inl rfl) hF rfl (res_tmp (hF.ev rfl)) ?_
  obtain rfl := Option.some.inj hM
  exact ⟨rfl, S.sel [] rfl rfl⟩

set_option maxHeartbeats 4000000 in
theorem c_impl_bitValid {x0 : Int} {w : World} {r : Bool}  (hM : m_impl_bitValid x0 = some r) :
    Calls Tryd.prog 36 #[.int .i64 x0] w (fun e w' => e = .returned (.bool r) ∧ St w w' []) := by
  unfold m_impl_bitValid at hM
  refine calls_gw Tryd.func36 Tryd.ntmps36 rfl [(0, .int .i64 x0)] ⟨rfl, trivial⟩ rfl ?_
  intro a hF
  have S := St.nil w
  refine wp_seq ?_
  refine wp_region_lit ?_
  refine op_val (v := .bool false) rfl rfl hF rfl (run_assign rfl rfl) ?_; clear hF; intro a hF
  refine wpList_nil ?_
  refine wp_seq ?_
  refine wp_region_lit ?_
  refine op_val (v := .int .i64 x0) rfl rfl hF rfl (run_move rfl (hF.ev rfl)) ?_; clear hF; intro a hF
  refine op_val (v := .bool (x0 == 0)) rfl rfl hF rfl (run_eql (hF.ev rfl) rfl rfl) ?_; clear hF; intro a hF
  refine op_val (v := .bool (x0 == 0)) rfl rfl hF rfl (run_move rfl (hF.ev rfl)) ?_; clear hF; intro a hF
  refine op_gv (v := .int .i64 x0) rfl rfl hF rfl (yf (gw_yield hF rfl rfl rfl)) (fun hg => (run_move rfl (hF.ev rfl))) ?_; clear hF; intro a hF
  refine op_gv (v := .bool (x0 == 1)) rfl rfl hF rfl (yf (gw_yield hF rfl rfl rfl)) (fun hg => (run_eql ((hF.ev rfl).trans (gv_t hg)) rfl rfl)) ?_; clear hF; intro a hF
  refine op_val (v := .bool ((x0 == 0) || (x0 == 1))) rfl rfl hF rfl (run_pick_or rfl (hF.ev rfl) rfl (fun hp => ((hF.ev rfl).trans (gv_t (not_t hp))))) ?_; clear hF; intro a hF
  refine op_val (v := .bool ((x0 == 0) || (x0 == 1))) rfl rfl hF rfl (run_assign rfl (hF.ev rfl)) ?_; clear hF; intro a hF
  refine wpList_nil ?_
  refine wp_ret ?_
  repeat with_reducible (first | refine then_ret ?_ | refine in_ret ?_ | refine in_nrm ?_)
  refine ret1_gw (.inl rfl) hF rfl (res_tmp (hF.ev rfl)) ?_
  obtain rfl := Option.some.inj hM
  exact ⟨rfl, S.sel [] rfl rfl⟩

set_option maxHeartbeats 4000000 in
theorem c_impl_powerValid {x0 : Int} {w : World} {r : Bool}  (hM : m_impl_powerValid x0 = some r) :
    Calls Tryd.prog 37 #[.int .i64 x0] w (fun e w' => e = .returned (.bool r) ∧ St w w' []) := by
  unfold m_impl_powerValid at hM
  refine calls_gw Tryd.func37 Tryd.ntmps37 rfl [(0, .int .i64 x0)] ⟨rfl, trivial⟩ rfl ?_
  intro a hF
  have S := St.nil w
  refine wp_seq ?_
  refine wp_region_lit ?_
  refine op_val (v := .bool false) rfl rfl hF rfl (run_assign rfl rfl) ?_; clear hF; intro a hF
  refine wpList_nil ?_
  refine wp_seq ?_
  refine wp_region_lit ?_
  refine op_val (v := .int .i64 x0) rfl rfl hF rfl (run_move rfl (hF.ev rfl)) ?_; clear hF; intro a hF
  refine op_val (v := .bool (leB 0 x0)) rfl rfl hF rfl (run_geq (hF.ev rfl) rfl rfl) ?_; clear hF; intro a hF
  refine op_val (v := .bool (leB 0 x0)) rfl rfl hF rfl (run_move rfl (hF.ev rfl)) ?_; clear hF; intro a hF
  refine op_gv (v := .int .i64 x0) rfl rfl hF rfl (yt (gw_yield hF rfl rfl rfl)) (fun hg => (run_move rfl (hF.ev rfl))) ?_; clear hF; intro a hF
  refine op_gv (v := .bool (leB x0 999)) rfl rfl hF rfl (yt (gw_yield hF rfl rfl rfl)) (fun hg => (run_leq ((hF.ev rfl).trans (gv_t hg)) rfl rfl)) ?_; clear hF; intro a hF
  refine op_val (v := .bool ((leB 0 x0) && (leB x0 999))) rfl rfl hF rfl (run_pick_and rfl (hF.ev rfl) (fun hp => ((hF.ev rfl).trans (gv_t hp))) rfl) ?_; clear hF; intro a hF
  refine op_val (v := .bool ((leB 0 x0) && (leB x0 999))) rfl rfl hF rfl (run_assign rfl (hF.ev rfl)) ?_; clear hF; intro a hF
  refine wpList_nil ?_
  refine wp_ret ?_
  repeat with_reducible (first | refine then_ret ?_ | refine in_ret ?_ | refine in_nrm ?_)
  refine ret1_gw (.inl rfl) hF rfl (res_tmp (hF.ev rfl)) ?_
  obtain rfl := Option.some.inj hM
  exact ⟨rfl, S.sel [] rfl rfl⟩

set_option maxHeartbeats 4000000 in
theorem c_impl_Poll_events {x0 : Int} {x1 : List Int} {x2 : Int} {x3 : List Int} {x4 : Int} {x5 : Int} {x6 : Int} {x7 : Int} {A1 : Option Addr} {n1 c1 : Nat} {A3 : Option Addr} {n3 c3 : Nat} {w : World} {r : List Int} (h1 : Rt w 1 eI A1 n1 c1 x1) (h3 : Rt w 1 eI A3 n3 c3 x3) (hM : m_impl_Poll_events x0 x1 x2 x3 x4 x5 x6 x7 = some r) :
    Calls Tryd.prog 26 #[.agg #[.int .i64 x0, .slice A1 n1 c1, .int .i64 x2, .slice A3 n3 c3, .int .i64 x4, .int .i64 x5, .int .i64 x6, .int .i64 x7]] w (fun e w' => ∃ (B0 : Option Addr) (N0 D0 : Nat), e = .returned (.slice B0 N0 D0) ∧ N0 = r.length ∧ St w w' [.row 3 1 (.slice B0 N0 D0) N0 (r.flatMap eI)]) := by
  obtain rfl := h1.len
  obtain rfl := h3.len
  unfold m_impl_Poll_events at hM
  refine calls_gw Tryd.func26 Tryd.ntmps26 rfl [(0, .agg #[.int .i64 x0, .slice A1 x1.length c1, .int .i64 x2, .slice A3 x3.length c3, .int .i64 x4, .int .i64 x5, .int .i64 x6, .int .i64 x7])] ⟨rfl, trivial⟩ rfl ?_
  intro a hF
  have S := St.nil w
  refine wp_seq ?_
  refine wp_region_lit ?_
  refine op_new (cs := #[.int .i64 x0, .slice A1 x1.length c1, .int .i64 x2, .slice A3 x3.length c3, .int .i64 x4, .int .i64 x5, .int .i64 x6, .int .i64 x7]) rfl rfl hF rfl S (run_box rfl (hF.ev rfl) rfl) ?_; clear hF S; intro a g101 u hF S
  refine op_val (v := .slice none 0 0) rfl rfl hF rfl (run_assign rfl rfl) ?_; clear hF; intro a hF
  refine wpList_nil ?_
  refine wp_seq ?_
  refine wp_region_lit ?_
  refine op_val (v := .slice none 0 0) rfl rfl hF rfl (run_assign rfl rfl) ?_; clear hF; intro a hF
  refine wpList_nil ?_
  refine wp_seq ?_
  refine wp_seq ?_
  refine wp_region_lit ?_
  refine op_val (v := .pointer (some ⟨g101, 4, none⟩)) rfl rfl hF rfl (run_fieldAddr rfl fl25_4 (hF.ev rfl) rfl) ?_; clear hF; intro a hF
  refine op_val (v := .int .i64 x4) rfl rfl hF rfl (run_load1 rfl one3 (hF.ev rfl) ((S.free 0 rfl).cell rfl)) ?_; clear hF; intro a hF
  refine op_val (v := .bool (x4 != (-1))) rfl rfl hF rfl (run_neq (hF.ev rfl) rfl rfl) ?_; clear hF; intro a hF
  refine op_val (v := .bool (x4 != (-1))) rfl rfl hF rfl (run_move rfl (hF.ev rfl)) ?_; clear hF; intro a hF
  refine op_gv (v := .pointer (some ⟨g101, 0, none⟩)) rfl rfl hF rfl (yt (gw_yield hF rfl rfl rfl)) (fun hg => (run_fieldAddr rfl fl25_0 (hF.ev rfl) rfl)) ?_; clear hF; intro a hF
  refine op_gv (v := .int .i64 x0) rfl rfl hF rfl (yt (gw_yield hF rfl rfl rfl)) (fun hg => (run_load1 rfl one3 ((hF.ev rfl).trans (gv_t hg)) ((S.free 0 rfl).cell rfl))) ?_; clear hF; intro a hF
  refine op_gv (v := .pointer (some ⟨g101, 2, none⟩)) rfl rfl hF rfl (yt (gw_yield hF rfl rfl rfl)) (fun hg => (run_fieldAddr rfl fl25_2 (hF.ev rfl) rfl)) ?_; clear hF; intro a hF
  refine op_gv (v := .int .i64 x2) rfl rfl hF rfl (yt (gw_yield hF rfl rfl rfl)) (fun hg => (run_load1 rfl one3 ((hF.ev rfl).trans (gv_t hg)) ((S.free 0 rfl).cell rfl))) ?_; clear hF; intro a hF
  refine op_gv (v := .bool (x0 == x2)) rfl rfl hF rfl (yt (gw_yield hF rfl rfl rfl)) (fun hg => (run_eql ((hF.ev rfl).trans (gv_t hg)) ((hF.ev rfl).trans (gv_t hg)) rfl)) ?_; clear hF; intro a hF
  refine op_val (v := .bool ((x4 != (-1)) && (x0 == x2))) rfl rfl hF rfl (run_pick_and rfl (hF.ev rfl) (fun hp => ((hF.ev rfl).trans (gv_t hp))) rfl) ?_; clear hF; intro a hF
  refine wpList_nil ?_
  obtain ⟨o103, hM106, hM⟩ := bind_ex hM
  refine wp_cut (fun a u => ∃ (p102 : List Int) (B104 : Option Addr) (d105 : Nat), p102 = o103 ∧ Fr a 26 [(1, .pointer (some ⟨g101, 0, none⟩)), (2, .slice none 0 0), (3, .slice B104 p102.length d105)] ∧ St w u [.box g101 25 #[.int .i64 x0, .slice A1 x1.length c1, .int .i64 x2, .slice A3 x3.length c3, .int .i64 x4, .int .i64 x5, .int .i64 x6, .int .i64 x7], .row 3 1 (.slice B104 p102.length d105) p102.length (p102.flatMap eI)]) ?_ ?_
  · have _ := trivial
    cases hc107 : ((x4 != (-1)) && (x0 == x2))
    · replace hM106 := bif_f hc107 hM106
      refine cond_f hF rfl hc107 ?_
      refine wp_skip ?_
      obtain rfl := Option.some.inj hM106
      replace S := S.nilrow 3 1
      exact ⟨([] : List Int), none, 0, rfl, hF.keep _ ⟨rfl, rfl, rfl, trivial⟩, S.sel [1, 0] rfl rfl⟩
    · replace hM106 := bif_t hc107 hM106
      refine cond_t hF rfl hc107 ?_
      refine wp_region_lit ?_
      refine op_val (v := .slice none 0 0) rfl rfl hF rfl (run_move rfl (hF.ev rfl)) ?_; clear hF; intro a hF
      refine op_val (v := .pointer (some ⟨g101, 4, none⟩)) rfl rfl hF rfl (run_fieldAddr rfl fl25_4 (hF.ev rfl) rfl) ?_; clear hF; intro a hF
      refine op_val (v := .int .i64 x4) rfl rfl hF rfl (run_load1 rfl one3 (hF.ev rfl) ((S.free 0 rfl).cell rfl)) ?_; clear hF; intro a hF
      refine op_newrowL (ls := (([x4] : List Int) : List Int)) (e := eI) rfl rfl hF rfl S (run_buildS (vs := [(0, .int .i64 x4)]) rfl ⟨⟨rfl, (hF.ev rfl)⟩, trivial⟩ (bs23_1_0 rfl)) rfl eI_len (Nat.le_of_ble_eq_true rfl) ?_; clear hF S; intro a g108 u hF S
      replace S := S.nilrow 3 1
      obtain ⟨hk111, hM106⟩ := chk_ex hM106
      replace hk111 := apB_t hk111
      refine op_appendL (lx := []) (ly := ([x4] : List Int)) rfl rfl hF rfl S rfl (hF.ev rfl) (hF.ev rfl) (i := 0) rfl rfl Tryd.underlying23 inf3 rfl (by decide) (S.rc 1 rfl).rd rfl eI_one hk111 (by decide) ?_; clear hF S; intro a B109 d110 u hF S
      refine op_val (v := .slice B109 ((([] : List Int) ++ ([x4] : List Int)).length) d110) rfl rfl hF rfl (run_assign rfl (hF.ev rfl)) ?_; clear hF; intro a hF
      refine wpList_nil ?_
      obtain rfl := Option.some.inj hM106
      exact ⟨([] : List Int) ++ ([x4] : List Int), B109, d110, rfl, hF.keep _ ⟨rfl, rfl, rfl, trivial⟩, S.sel [2, 0] rfl rfl⟩
  · rintro a u ⟨p102, B104, d105, rfl, hF, S⟩
    refine wp_seq ?_
    refine wp_region_lit ?_
    refine op_val (v := .pointer (some ⟨g101, 1, none⟩)) rfl rfl hF rfl (run_fieldAddr rfl fl25_1 (hF.ev rfl) rfl) ?_; clear hF; intro a hF
    refine op_val (v := .slice A1 x1.length c1) rfl rfl hF rfl (run_load1 rfl one23 (hF.ev rfl) ((S.free 0 rfl).cell rfl)) ?_; clear hF; intro a hF
    refine op_val (v := .slice B104 p102.length d105) rfl rfl hF rfl (run_move rfl (hF.ev rfl)) ?_; clear hF; intro a hF
    refine op_val (v := .pointer (some ⟨g101, 3, none⟩)) rfl rfl hF rfl (run_fieldAddr rfl fl25_3 (hF.ev rfl) rfl) ?_; clear hF; intro a hF
    refine op_val (v := .slice A3 x3.length c3) rfl rfl hF rfl (run_load1 rfl one23 (hF.ev rfl) ((S.free 0 rfl).cell rfl)) ?_; clear hF; intro a hF
    refine op_newvec (cs := #[.slice A1 x1.length c1, .slice B104 p102.length d105, .slice A3 x3.length c3]) rfl rfl hF rfl S (run_buildS (vs := [(0, .slice A1 x1.length c1), (1, .slice B104 p102.length d105), (2, .slice A3 x3.length c3)]) rfl ⟨⟨rfl, (hF.ev rfl)⟩, ⟨rfl, (hF.ev rfl)⟩, ⟨rfl, (hF.ev rfl)⟩, trivial⟩ (bs80_3_0_0_0 rfl rfl rfl)) ?_; clear hF S; intro a g112 u hF S
    obtain ⟨hk113, hM⟩ := chk_ex hM
    replace hk113 := of_decide_eq_true hk113
    refine op_call rfl rfl hF rfl (run_call (vs := [.slice (some ⟨g112, 0, none⟩) 3 3]) rfl rfl co38 ⟨(hF.ev rfl), trivial⟩) (c_cat3 (x0 := x1) (x1 := p102) (x2 := x3) (S.free 0 rfl) ⟨(S.rc0 h1.rc), rfl⟩ ⟨(S.rc 2 rfl), rfl⟩ ⟨(S.rc0 h3.rc), rfl⟩ hk113) ?_
    rintro e u ⟨B114, n115, d116, rfl, rfl, T⟩
    refine ⟨_, rfl, ?_⟩
    clear hF; intro a hF
    replace S := S.call1 T; clear T
    refine op_val (v := .slice B114 ((x1 ++ p102 ++ x3).length) d116) rfl rfl hF rfl (run_assign rfl (hF.ev rfl)) ?_; clear hF; intro a hF
    refine wpList_nil ?_
    refine wp_ret ?_
    repeat with_reducible (first | refine then_ret ?_ | refine in_ret ?_ | refine in_nrm ?_)
    refine ret1_gw (.inl rfl) hF rfl (res_tmp (hF.ev rfl)) ?_
    obtain rfl := Option.some.inj hM
    exact ⟨B114, ((x1 ++ p102 ++ x3).length), d116, rfl, rfl, S.sel [0] rfl rfl⟩

set_option maxHeartbeats 4000000 in
theorem c_impl_PollValid {x0 : Int} {x1 : List Int} {x2 : Int} {x3 : List Int} {x4 : Int} {x5 : Int} {x6 : Int} {x7 : Int} {A1 : Option Addr} {n1 c1 : Nat} {A3 : Option Addr} {n3 c3 : Nat} {w : World} {r : Bool} (h1 : Rt w 1 eI A1 n1 c1 x1) (h3 : Rt w 1 eI A3 n3 c3 x3) (hM : m_impl_PollValid x0 x1 x2 x3 x4 x5 x6 x7 = some r) :
    Calls Tryd.prog 15 #[.agg #[.int .i64 x0, .slice A1 n1 c1, .int .i64 x2, .slice A3 n3 c3, .int .i64 x4, .int .i64 x5, .int .i64 x6, .int .i64 x7]] w (fun e w' => e = .returned (.bool r) ∧ St w w' []) := by
  obtain rfl := h1.len
  obtain rfl := h3.len
  unfold m_impl_PollValid at hM
  refine calls_gw Tryd.func15 Tryd.ntmps15 rfl [(0, .agg #[.int .i64 x0, .slice A1 x1.length c1, .int .i64 x2, .slice A3 x3.length c3, .int .i64 x4, .int .i64 x5, .int .i64 x6, .int .i64 x7])] ⟨rfl, trivial⟩ rfl ?_
  intro a hF
  have S := St.nil w
  refine wp_seq ?_
  refine wp_region_lit ?_
  refine op_new (cs := #[.int .i64 x0, .slice A1 x1.length c1, .int .i64 x2, .slice A3 x3.length c3, .int .i64 x4, .int .i64 x5, .int .i64 x6, .int .i64 x7]) rfl rfl hF rfl S (run_box rfl (hF.ev rfl) rfl) ?_; clear hF S; intro a g101 u hF S
  refine op_val (v := .bool false) rfl rfl hF rfl (run_assign rfl rfl) ?_; clear hF; intro a hF
  refine wpList_nil ?_
  refine wp_seq ?_
  refine wp_seq ?_
  refine wp_region_lit ?_
  refine op_val (v := .pointer (some ⟨g101, 0, none⟩)) rfl rfl hF rfl (run_fieldAddr rfl fl25_0 (hF.ev rfl) rfl) ?_; clear hF; intro a hF
  refine op_val (v := .int .i64 x0) rfl rfl hF rfl (run_load1 rfl one3 (hF.ev rfl) ((S.free 0 rfl).cell rfl)) ?_; clear hF; intro a hF
  obtain ⟨p102, h102, hM⟩ := bind_ex hM
  refine op_call rfl rfl hF rfl (run_call (vs := [.int .i64 x0]) rfl rfl co36 ⟨(hF.ev rfl), trivial⟩) (c_impl_bitValid (x0 := x0)  h102) ?_
  rintro e u ⟨rfl, T⟩
  refine ⟨_, rfl, ?_⟩
  clear hF; intro a hF
  replace S := S.call0 T; clear T
  refine op_val (v := .bool (!p102)) rfl rfl hF rfl (run_not rfl (hF.ev rfl)) ?_; clear hF; intro a hF
  refine op_val (v := .bool (!p102)) rfl rfl hF rfl (run_move rfl (hF.ev rfl)) ?_; clear hF; intro a hF
  refine op_gv (v := .pointer (some ⟨g101, 2, none⟩)) rfl rfl hF rfl (yf (gw_yield hF rfl rfl rfl)) (fun hg => (run_fieldAddr rfl fl25_2 (hF.ev rfl) rfl)) ?_; clear hF; intro a hF
  refine op_gv (v := .int .i64 x2) rfl rfl hF rfl (yf (gw_yield hF rfl rfl rfl)) (fun hg => (run_load1 rfl one3 ((hF.ev rfl).trans (gv_t hg)) ((S.free 0 rfl).cell rfl))) ?_; clear hF; intro a hF
  obtain ⟨p103, h103, hM⟩ := bind_ex hM
  refine op_gcall (v := .bool p103) rfl rfl hF rfl S (yf (gw_yield hF rfl rfl rfl)) (fun hg => (run_call (vs := [.int .i64 x2]) rfl rfl co36 ⟨((hF.ev rfl).trans (gv_t hg)), trivial⟩)) (fun hg => c_impl_bitValid (x0 := x2)  (gb_t h103 hg)) ?_; clear hF S; intro a u hF S
  refine op_gv (v := .bool (!p103)) rfl rfl hF rfl (yf (gw_yield hF rfl rfl rfl)) (fun hg => (run_not rfl ((hF.ev rfl).trans (gv_t hg)))) ?_; clear hF; intro a hF
  refine op_val (v := .bool ((!p102) || (!p103))) rfl rfl hF rfl (run_pick_or rfl (hF.ev rfl) rfl (fun hp => ((hF.ev rfl).trans (gv_t (not_t hp))))) ?_; clear hF; intro a hF
  refine op_val (v := .bool ((!p102) || (!p103))) rfl rfl hF rfl (run_move rfl (hF.ev rfl)) ?_; clear hF; intro a hF
  refine op_gv (v := .pointer (some ⟨g101, 5, none⟩)) rfl rfl hF rfl (yf (gw_yield hF rfl rfl rfl)) (fun hg => (run_fieldAddr rfl fl25_5 (hF.ev rfl) rfl)) ?_; clear hF; intro a hF
  refine op_gv (v := .int .i64 x5) rfl rfl hF rfl (yf (gw_yield hF rfl rfl rfl)) (fun hg => (run_load1 rfl one3 ((hF.ev rfl).trans (gv_t hg)) ((S.free 0 rfl).cell rfl))) ?_; clear hF; intro a hF
  refine op_gv (v := .bool (x5 != (-1))) rfl rfl hF rfl (yf (gw_yield hF rfl rfl rfl)) (fun hg => (run_neq ((hF.ev rfl).trans (gv_t hg)) rfl rfl)) ?_; clear hF; intro a hF
  refine op_gv (v := .bool (x5 != (-1))) rfl rfl hF rfl (yf (gw_yield hF rfl rfl rfl)) (fun hg => (run_move rfl ((hF.ev rfl).trans (gv_t hg)))) ?_; clear hF; intro a hF
  refine op_gv (v := .pointer (some ⟨g101, 5, none⟩)) rfl rfl hF rfl (ytG (gw_yieldG hF rfl rfl rfl)) (fun hg => (run_fieldAddr rfl fl25_5 (hF.ev rfl) rfl)) ?_; clear hF; intro a hF
  refine op_gv (v := .int .i64 x5) rfl rfl hF rfl (ytG (gw_yieldG hF rfl rfl rfl)) (fun hg => (run_load1 rfl one3 ((hF.ev rfl).trans (gv_t hg)) ((S.free 0 rfl).cell rfl))) ?_; clear hF; intro a hF
  obtain ⟨p104, h104, hM⟩ := bind_ex hM
  refine op_gcall (v := .bool p104) rfl rfl hF rfl S (ytG (gw_yieldG hF rfl rfl rfl)) (fun hg => (run_call (vs := [.int .i64 x5]) rfl rfl co36 ⟨((hF.ev rfl).trans (gv_t hg)), trivial⟩)) (fun hg => c_impl_bitValid (x0 := x5)  (gb_t h104 hg)) ?_; clear hF S; intro a u hF S
  refine op_gv (v := .bool (!p104)) rfl rfl hF rfl (ytG (gw_yieldG hF rfl rfl rfl)) (fun hg => (run_not rfl ((hF.ev rfl).trans (gv_t hg)))) ?_; clear hF; intro a hF
  refine op_gv (v := .bool ((x5 != (-1)) && (!p104))) rfl rfl hF rfl (yf (gw_yield hF rfl rfl rfl)) (fun hg => (run_pick_and rfl ((hF.ev rfl).trans (gv_t hg)) (fun hp => ((hF.ev rfl).trans (gv_t (and_i hg hp)))) rfl)) ?_; clear hF; intro a hF
  refine op_val (v := .bool (((!p102) || (!p103)) || ((x5 != (-1)) && (!p104)))) rfl rfl hF rfl (run_pick_or rfl (hF.ev rfl) rfl (fun hp => ((hF.ev rfl).trans (gv_t (not_t hp))))) ?_; clear hF; intro a hF
  refine op_val (v := .bool (((!p102) || (!p103)) || ((x5 != (-1)) && (!p104)))) rfl rfl hF rfl (run_move rfl (hF.ev rfl)) ?_; clear hF; intro a hF
  refine op_gv (v := .pointer (some ⟨g101, 6, none⟩)) rfl rfl hF rfl (yf (gw_yield hF rfl rfl rfl)) (fun hg => (run_fieldAddr rfl fl25_6 (hF.ev rfl) rfl)) ?_; clear hF; intro a hF
  refine op_gv (v := .int .i64 x6) rfl rfl hF rfl (yf (gw_yield hF rfl rfl rfl)) (fun hg => (run_load1 rfl one3 ((hF.ev rfl).trans (gv_t hg)) ((S.free 0 rfl).cell rfl))) ?_; clear hF; intro a hF
  refine op_gv (v := .bool (x6 != (-1))) rfl rfl hF rfl (yf (gw_yield hF rfl rfl rfl)) (fun hg => (run_neq ((hF.ev rfl).trans (gv_t hg)) rfl rfl)) ?_; clear hF; intro a hF
  refine op_gv (v := .bool (x6 != (-1))) rfl rfl hF rfl (yf (gw_yield hF rfl rfl rfl)) (fun hg => (run_move rfl ((hF.ev rfl).trans (gv_t hg)))) ?_; clear hF; intro a hF
  refine op_gv (v := .pointer (some ⟨g101, 6, none⟩)) rfl rfl hF rfl (ytG (gw_yieldG hF rfl rfl rfl)) (fun hg => (run_fieldAddr rfl fl25_6 (hF.ev rfl) rfl)) ?_; clear hF; intro a hF
  refine op_gv (v := .int .i64 x6) rfl rfl hF rfl (ytG (gw_yieldG hF rfl rfl rfl)) (fun hg => (run_load1 rfl one3 ((hF.ev rfl).trans (gv_t hg)) ((S.free 0 rfl).cell rfl))) ?_; clear hF; intro a hF
  obtain ⟨p105, h105, hM⟩ := bind_ex hM
  refine op_gcall (v := .bool p105) rfl rfl hF rfl S (ytG (gw_yieldG hF rfl rfl rfl)) (fun hg => (run_call (vs := [.int .i64 x6]) rfl rfl co36 ⟨((hF.ev rfl).trans (gv_t hg)), trivial⟩)) (fun hg => c_impl_bitValid (x0 := x6)  (gb_t h105 hg)) ?_; clear hF S; intro a u hF S
  refine op_gv (v := .bool (!p105)) rfl rfl hF rfl (ytG (gw_yieldG hF rfl rfl rfl)) (fun hg => (run_not rfl ((hF.ev rfl).trans (gv_t hg)))) ?_; clear hF; intro a hF
  refine op_gv (v := .bool ((x6 != (-1)) && (!p105))) rfl rfl hF rfl (yf (gw_yield hF rfl rfl rfl)) (fun hg => (run_pick_and rfl ((hF.ev rfl).trans (gv_t hg)) (fun hp => ((hF.ev rfl).trans (gv_t (and_i hg hp)))) rfl)) ?_; clear hF; intro a hF
  refine op_val (v := .bool ((((!p102) || (!p103)) || ((x5 != (-1)) && (!p104))) || ((x6 != (-1)) && (!p105)))) rfl rfl hF rfl (run_pick_or rfl (hF.ev rfl) rfl (fun hp => ((hF.ev rfl).trans (gv_t (not_t hp))))) ?_; clear hF; intro a hF
  refine wpList_nil ?_
  cases hc106 : ((((!p102) || (!p103)) || ((x5 != (-1)) && (!p104))) || ((x6 != (-1)) && (!p105)))
  · replace hM := bif_f hc106 hM
    refine cond_f hF rfl hc106 ?_
    refine wp_skip ?_
    refine wp_seq ?_
    refine wp_seq ?_
    refine wp_region_lit ?_
    refine op_val (v := .pointer (some ⟨g101, 4, none⟩)) rfl rfl hF rfl (run_fieldAddr rfl fl25_4 (hF.ev rfl) rfl) ?_; clear hF; intro a hF
    refine op_val (v := .int .i64 x4) rfl rfl hF rfl (run_load1 rfl one3 (hF.ev rfl) ((S.free 0 rfl).cell rfl)) ?_; clear hF; intro a hF
    refine op_val (v := .bool (x4 != (-1))) rfl rfl hF rfl (run_neq (hF.ev rfl) rfl rfl) ?_; clear hF; intro a hF
    refine op_val (v := .bool (x4 != (-1))) rfl rfl hF rfl (run_move rfl (hF.ev rfl)) ?_; clear hF; intro a hF
    refine op_gv (v := .pointer (some ⟨g101, 4, none⟩)) rfl rfl hF rfl (yt (gw_yield hF rfl rfl rfl)) (fun hg => (run_fieldAddr rfl fl25_4 (hF.ev rfl) rfl)) ?_; clear hF; intro a hF
    refine op_gv (v := .int .i64 x4) rfl rfl hF rfl (yt (gw_yield hF rfl rfl rfl)) (fun hg => (run_load1 rfl one3 ((hF.ev rfl).trans (gv_t hg)) ((S.free 0 rfl).cell rfl))) ?_; clear hF; intro a hF
    obtain ⟨p107, h107, hM⟩ := bind_ex hM
    refine op_gcall (v := .bool p107) rfl rfl hF rfl S (yt (gw_yield hF rfl rfl rfl)) (fun hg => (run_call (vs := [.int .i64 x4]) rfl rfl co37 ⟨((hF.ev rfl).trans (gv_t hg)), trivial⟩)) (fun hg => c_impl_powerValid (x0 := x4)  (gb_t h107 hg)) ?_; clear hF S; intro a u hF S
    refine op_gv (v := .bool (!p107)) rfl rfl hF rfl (yt (gw_yield hF rfl rfl rfl)) (fun hg => (run_not rfl ((hF.ev rfl).trans (gv_t hg)))) ?_; clear hF; intro a hF
    refine op_val (v := .bool ((x4 != (-1)) && (!p107))) rfl rfl hF rfl (run_pick_and rfl (hF.ev rfl) (fun hp => ((hF.ev rfl).trans (gv_t hp))) rfl) ?_; clear hF; intro a hF
    refine op_val (v := .bool ((x4 != (-1)) && (!p107))) rfl rfl hF rfl (run_move rfl (hF.ev rfl)) ?_; clear hF; intro a hF
    refine op_gv (v := .pointer (some ⟨g101, 7, none⟩)) rfl rfl hF rfl (yf (gw_yield hF rfl rfl rfl)) (fun hg => (run_fieldAddr rfl fl25_7 (hF.ev rfl) rfl)) ?_; clear hF; intro a hF
    refine op_gv (v := .int .i64 x7) rfl rfl hF rfl (yf (gw_yield hF rfl rfl rfl)) (fun hg => (run_load1 rfl one3 ((hF.ev rfl).trans (gv_t hg)) ((S.free 0 rfl).cell rfl))) ?_; clear hF; intro a hF
    refine op_gv (v := .bool (x7 != (-1))) rfl rfl hF rfl (yf (gw_yield hF rfl rfl rfl)) (fun hg => (run_neq ((hF.ev rfl).trans (gv_t hg)) rfl rfl)) ?_; clear hF; intro a hF
    refine op_gv (v := .bool (x7 != (-1))) rfl rfl hF rfl (yf (gw_yield hF rfl rfl rfl)) (fun hg => (run_move rfl ((hF.ev rfl).trans (gv_t hg)))) ?_; clear hF; intro a hF
    refine op_gv (v := .pointer (some ⟨g101, 7, none⟩)) rfl rfl hF rfl (ytG (gw_yieldG hF rfl rfl rfl)) (fun hg => (run_fieldAddr rfl fl25_7 (hF.ev rfl) rfl)) ?_; clear hF; intro a hF
    refine op_gv (v := .int .i64 x7) rfl rfl hF rfl (ytG (gw_yieldG hF rfl rfl rfl)) (fun hg => (run_load1 rfl one3 ((hF.ev rfl).trans (gv_t hg)) ((S.free 0 rfl).cell rfl))) ?_; clear hF; intro a hF
    obtain ⟨p108, h108, hM⟩ := bind_ex hM
    refine op_gcall (v := .bool p108) rfl rfl hF rfl S (ytG (gw_yieldG hF rfl rfl rfl)) (fun hg => (run_call (vs := [.int .i64 x7]) rfl rfl co37 ⟨((hF.ev rfl).trans (gv_t hg)), trivial⟩)) (fun hg => c_impl_powerValid (x0 := x7)  (gb_t h108 hg)) ?_; clear hF S; intro a u hF S
    refine op_gv (v := .bool (!p108)) rfl rfl hF rfl (ytG (gw_yieldG hF rfl rfl rfl)) (fun hg => (run_not rfl ((hF.ev rfl).trans (gv_t hg)))) ?_; clear hF; intro a hF
    refine op_gv (v := .bool (!p108)) rfl rfl hF rfl (ytG (gw_yieldG hF rfl rfl rfl)) (fun hg => (run_move rfl ((hF.ev rfl).trans (gv_t hg)))) ?_; clear hF; intro a hF
    refine op_gv (v := .pointer (some ⟨g101, 6, none⟩)) rfl rfl hF rfl (yfG (gw_yieldG hF rfl rfl rfl)) (fun hg => (run_fieldAddr rfl fl25_6 (hF.ev rfl) rfl)) ?_; clear hF; intro a hF
    refine op_gv (v := .int .i64 x6) rfl rfl hF rfl (yfG (gw_yieldG hF rfl rfl rfl)) (fun hg => (run_load1 rfl one3 ((hF.ev rfl).trans (gv_t hg)) ((S.free 0 rfl).cell rfl))) ?_; clear hF; intro a hF
    refine op_gv (v := .bool (x6 == (-1))) rfl rfl hF rfl (yfG (gw_yieldG hF rfl rfl rfl)) (fun hg => (run_eql ((hF.ev rfl).trans (gv_t hg)) rfl rfl)) ?_; clear hF; intro a hF
    refine op_gv (v := .bool ((!p108) || (x6 == (-1)))) rfl rfl hF rfl (ytG (gw_yieldG hF rfl rfl rfl)) (fun hg => (run_pick_or rfl ((hF.ev rfl).trans (gv_t hg)) rfl (fun hp => ((hF.ev rfl).trans (gv_t (and_i hg (not_t hp))))))) ?_; clear hF; intro a hF
    refine op_gv (v := .bool ((x7 != (-1)) && ((!p108) || (x6 == (-1))))) rfl rfl hF rfl (yf (gw_yield hF rfl rfl rfl)) (fun hg => (run_pick_and rfl ((hF.ev rfl).trans (gv_t hg)) (fun hp => ((hF.ev rfl).trans (gv_t (and_i hg hp)))) rfl)) ?_; clear hF; intro a hF
    refine op_val (v := .bool (((x4 != (-1)) && (!p107)) || ((x7 != (-1)) && ((!p108) || (x6 == (-1)))))) rfl rfl hF rfl (run_pick_or rfl (hF.ev rfl) rfl (fun hp => ((hF.ev rfl).trans (gv_t (not_t hp))))) ?_; clear hF; intro a hF
    refine wpList_nil ?_
    cases hc109 : (((x4 != (-1)) && (!p107)) || ((x7 != (-1)) && ((!p108) || (x6 == (-1)))))
    · replace hM := bif_f hc109 hM
      refine cond_f hF rfl hc109 ?_
      refine wp_skip ?_
      refine wp_seq ?_
      refine wp_seq ?_
      refine wp_region_lit ?_
      refine op_val (v := .pointer (some ⟨g101, 1, none⟩)) rfl rfl hF rfl (run_fieldAddr rfl fl25_1 (hF.ev rfl) rfl) ?_; clear hF; intro a hF
      refine op_val (v := .slice A1 x1.length c1) rfl rfl hF rfl (run_load1 rfl one23 (hF.ev rfl) ((S.free 0 rfl).cell rfl)) ?_; clear hF; intro a hF
      refine op_val (v := .pointer (some ⟨g101, 3, none⟩)) rfl rfl hF rfl (run_fieldAddr rfl fl25_3 (hF.ev rfl) rfl) ?_; clear hF; intro a hF
      refine op_val (v := .slice A3 x3.length c3) rfl rfl hF rfl (run_load1 rfl one23 (hF.ev rfl) ((S.free 0 rfl).cell rfl)) ?_; clear hF; intro a hF
      refine op_newvec (cs := #[.slice A1 x1.length c1, .slice A3 x3.length c3]) rfl rfl hF rfl S (run_buildS (vs := [(0, .slice A1 x1.length c1), (1, .slice A3 x3.length c3)]) rfl ⟨⟨rfl, (hF.ev rfl)⟩, ⟨rfl, (hF.ev rfl)⟩, trivial⟩ (bs80_2_0_0 rfl rfl)) ?_; clear hF S; intro a g110 u hF S
      obtain ⟨hk111, hM⟩ := chk_ex hM
      replace hk111 := of_decide_eq_true hk111
      refine op_call rfl rfl hF rfl (run_call (vs := [.slice (some ⟨g110, 0, none⟩) 2 2]) rfl rfl co38 ⟨(hF.ev rfl), trivial⟩) (c_cat2 (x0 := x1) (x1 := x3) (S.free 0 rfl) ⟨(S.rc0 h1.rc), rfl⟩ ⟨(S.rc0 h3.rc), rfl⟩ hk111) ?_
      rintro e u ⟨B112, n113, d114, rfl, rfl, T⟩
      refine ⟨_, rfl, ?_⟩
      clear hF; intro a hF
      replace S := S.call1 T; clear T
      refine op_val (v := .int .i64 (((x1 ++ x3).length) : Int)) rfl rfl hF rfl (run_lenL rfl rfl Tryd.underlying23 (hF.ev rfl)) ?_; clear hF; intro a hF
      refine op_val (v := .int .i64 0) rfl rfl hF rfl (run_move rfl rfl) ?_; clear hF; intro a hF
      refine wpList_nil ?_
      obtain ⟨o116, hM117, hM⟩ := bind_ex hM
      refine wp_cut (fun a u => ∃ (p115 : Unit), (Sum.inl p115) = o116 ∧ Fr a 81 [(1, .pointer (some ⟨g101, 0, none⟩)), (2, .bool false)] ∧ St w u [.box g101 25 #[.int .i64 x0, .slice A1 x1.length c1, .int .i64 x2, .slice A3 x3.length c3, .int .i64 x4, .int .i64 x5, .int .i64 x6, .int .i64 x7]]) ?_ ?_
      · have _ := trivial
        refine wp_block ?_
        refine loop_gw (fun m a u => ∃ (p118 : Int), m_impl_PollValid_l1 x1 x3 m p118 = some _ ∧ Fr a 81 [(1, .pointer (some ⟨g101, 0, none⟩)), (2, .bool false), (67, .slice B112 ((x1 ++ x3).length) d114), (68, .int .i64 (((x1 ++ x3).length) : Int)), (69, .int .i64 p118)] ∧ St w u [.box g101 25 #[.int .i64 x0, .slice A1 x1.length c1, .int .i64 x2, .slice A3 x3.length c3, .int .i64 x4, .int .i64 x5, .int .i64 x6, .int .i64 x7], .row 3 1 (.slice B112 ((x1 ++ x3).length) d114) ((x1 ++ x3).length) ((x1 ++ x3).flatMap eI)]) FUEL ⟨0, hM117, hF.keep _ ⟨rfl, rfl, rfl, rfl, rfl, trivial⟩, S.sel [2, 0] rfl rfl⟩ ?_
        clear hF S hM117; rintro m a u ⟨p118, hM117, hF, S⟩
        rcases m with _ | f1
        · exact none_some hM117
        rw [m_impl_PollValid_l1.eq_2] at hM117
        refine wp_seq ?_
        refine wp_region_lit ?_
        refine op_val (v := .bool (ltB p118 (((x1 ++ x3).length) : Int))) rfl rfl hF rfl (run_lss (hF.ev rfl) (hF.ev rfl) rfl) ?_; clear hF; intro a hF
        refine wpList_nil ?_
        refine wp_seq ?_
        cases hc119 : (ltB p118 (((x1 ++ x3).length) : Int))
        · replace hM117 := bif_f hc119 hM117
          refine cond_f hF rfl hc119 ?_
          refine wp_exit ?_
          repeat with_reducible (first | refine then_exit ?_ | refine in_hit ?_ | refine in_miss rfl ?_)
          obtain rfl := Option.some.inj hM117
          exact ⟨(), rfl, hF.keep _ ⟨rfl, rfl, trivial⟩, S.sel [0] rfl rfl⟩
        · replace hM117 := bif_t hc119 hM117
          refine cond_t hF rfl hc119 ?_
          refine wp_skip ?_
          refine wp_seq ?_
          refine wp_block ?_
          refine wp_seq ?_
          refine wp_region_lit ?_
          obtain ⟨hk120, hM117⟩ := chk_ex hM117
          replace hk120 := ixB_t hk120
          refine op_val (v := .pointer (some ⟨adB B112, adO B112 + p118.toNat * 1, none⟩)) rfl rfl hF rfl (run_indexAddr (b := adB B112) (off := adO B112) rfl Tryd.underlying23 sz3 ((hF.ev rfl).trans (congrArg (fun A => Value.slice A ((x1 ++ x3).length) d114) ((S.rc 1 rfl).rd.ad (ix_pos hk120)))) (hF.ev rfl) hk120.1 hk120.2 (k' := adO B112 + p118.toNat * 1) rfl) ?_; clear hF; intro a hF
          refine op_val (v := .int .i64 ((x1 ++ x3).getD p118.toNat (0 : Int))) rfl rfl hF rfl (run_load1 rfl one3 (hF.ev rfl) (rd_el0 (l := x1 ++ x3) (S.rc 1 rfl).rd rfl eI_len (0 : Int) (ix_ltn hk120 rfl) rfl)) ?_; clear hF; intro a hF
          refine op_val (v := .int .i64 ((x1 ++ x3).getD p118.toNat (0 : Int))) rfl rfl hF rfl (run_assign rfl (hF.ev rfl)) ?_; clear hF; intro a hF
          refine wpList_nil ?_
          refine wp_seq ?_
          refine wp_region_lit ?_
          refine op_val (v := .int .i64 ((x1 ++ x3).getD p118.toNat (0 : Int))) rfl rfl hF rfl (run_move rfl (hF.ev rfl)) ?_; clear hF; intro a hF
          obtain ⟨p121, h121, hM117⟩ := bind_ex hM117
          refine op_call rfl rfl hF rfl (run_call (vs := [.int .i64 ((x1 ++ x3).getD p118.toNat (0 : Int))]) rfl rfl co37 ⟨(hF.ev rfl), trivial⟩) (c_impl_powerValid (x0 := ((x1 ++ x3).getD p118.toNat (0 : Int)))  h121) ?_
          rintro e u ⟨rfl, T⟩
          refine ⟨_, rfl, ?_⟩
          clear hF; intro a hF
          replace S := S.call0 T; clear T
          refine op_val (v := .bool (!p121)) rfl rfl hF rfl (run_not rfl (hF.ev rfl)) ?_; clear hF; intro a hF
          refine wpList_nil ?_
          cases hc122 : (p121)
          · replace hM117 := bif_f hc122 hM117
            refine cond_t hF rfl (not_t hc122) ?_
            refine wp_seq ?_
            refine wp_region_lit ?_
            refine op_val (v := .bool false) rfl rfl hF rfl (run_assign rfl rfl) ?_; clear hF; intro a hF
            refine wpList_nil ?_
            refine wp_ret ?_
            repeat with_reducible (first | refine then_ret ?_ | refine in_ret ?_ | refine in_nrm ?_)
            refine ret1_gw (.inl rfl) hF rfl (res_tmp (hF.ev rfl)) ?_
            obtain rfl := Option.some.inj hM117
            obtain rfl := Option.some.inj hM
            exact ⟨rfl, S.sel [] rfl rfl⟩
          · replace hM117 := bif_t hc122 hM117
            refine cond_f hF rfl (not_f hc122) ?_
            refine wp_skip ?_
            refine wp_region_lit ?_
            refine op_val (v := .int .i64 (w64 (p118 + 1))) rfl rfl hF rfl (run_add (z := w64 (p118 + 1)) (hF.ev rfl) rfl rfl rfl) ?_; clear hF; intro a hF
            refine op_val (v := .int .i64 (w64 (p118 + 1))) rfl rfl hF rfl (run_move rfl (hF.ev rfl)) ?_; clear hF; intro a hF
            refine wpList_nil ?_
            exact ⟨f1, Nat.lt_succ_self _, w64 (p118 + 1), hM117, hF.keep _ ⟨rfl, rfl, rfl, rfl, rfl, trivial⟩, S.sel [0, 1] rfl rfl⟩
      · rintro a u ⟨p115, rfl, hF, S⟩
        replace hM := elim_l hM
        refine wp_seq ?_
        refine wp_region_lit ?_
        refine op_val (v := .agg #[.int .i64 x0, .slice A1 x1.length c1, .int .i64 x2, .slice A3 x3.length c3, .int .i64 x4, .int .i64 x5, .int .i64 x6, .int .i64 x7]) rfl rfl hF rfl (run_loadN rfl ag25 (hF.ev rfl) rfl ((S.free 0 rfl).cells 0 #[.int .i64 x0, .slice A1 x1.length c1, .int .i64 x2, .slice A3 x3.length c3, .int .i64 x4, .int .i64 x5, .int .i64 x6, .int .i64 x7] rfl)) ?_; clear hF; intro a hF
        obtain ⟨p123, h123, hM⟩ := bind_ex hM
        refine op_call rfl rfl hF rfl (run_call (vs := [.agg #[.int .i64 x0, .slice A1 x1.length c1, .int .i64 x2, .slice A3 x3.length c3, .int .i64 x4, .int .i64 x5, .int .i64 x6, .int .i64 x7]]) rfl rfl co26 ⟨(hF.ev rfl), trivial⟩) (c_impl_Poll_events (x0 := x0) (x1 := x1) (x2 := x2) (x3 := x3) (x4 := x4) (x5 := x5) (x6 := x6) (x7 := x7) ⟨(S.rc0 h1.rc), rfl⟩ ⟨(S.rc0 h3.rc), rfl⟩ h123) ?_
        rintro e u ⟨B124, n125, d126, rfl, rfl, T⟩
        refine ⟨_, rfl, ?_⟩
        clear hF; intro a hF
        replace S := S.call1 T; clear T
        refine op_val (v := .int .i64 (p123.length : Int)) rfl rfl hF rfl (run_lenL rfl rfl Tryd.underlying23 (hF.ev rfl)) ?_; clear hF; intro a hF
        refine op_val (v := .bool (leB (p123.length : Int) 12)) rfl rfl hF rfl (run_leq (hF.ev rfl) rfl rfl) ?_; clear hF; intro a hF
        refine op_val (v := .bool (leB (p123.length : Int) 12)) rfl rfl hF rfl (run_assign rfl (hF.ev rfl)) ?_; clear hF; intro a hF
        refine wpList_nil ?_
        refine wp_ret ?_
        repeat with_reducible (first | refine then_ret ?_ | refine in_ret ?_ | refine in_nrm ?_)
        refine ret1_gw (.inl rfl) hF rfl (res_tmp (hF.ev rfl)) ?_
        obtain rfl := Option.some.inj hM
        exact ⟨rfl, S.sel [] rfl rfl⟩
    · replace hM := bif_t hc109 hM
      refine cond_t hF rfl hc109 ?_
      refine wp_seq ?_
      refine wp_region_lit ?_
      refine op_val (v := .bool false) rfl rfl hF rfl (run_assign rfl rfl) ?_; clear hF; intro a hF
      refine wpList_nil ?_
      refine wp_ret ?_
      repeat with_reducible (first | refine then_ret ?_ | refine in_ret ?_ | refine in_nrm ?_)
      refine ret1_gw (.inl rfl) hF rfl (res_tmp (hF.ev rfl)) ?_
      obtain rfl := Option.some.inj hM
      exact ⟨rfl, S.sel [] rfl rfl⟩
  · replace hM := bif_t hc106 hM
    refine cond_t hF rfl hc106 ?_
    refine wp_seq ?_
    refine wp_region_lit ?_
    refine op_val (v := .bool false) rfl rfl hF rfl (run_assign rfl rfl) ?_; clear hF; intro a hF
    refine wpList_nil ?_
    refine wp_ret ?_
    repeat with_reducible (first | refine then_ret ?_ | refine in_ret ?_ | refine in_nrm ?_)
    refine ret1_gw (.inl rfl) hF rfl (res_tmp (hF.ev rfl)) ?_
    obtain rfl := Option.some.inj hM
    exact ⟨rfl, S.sel [] rfl rfl⟩

set_option maxHeartbeats 4000000 in
theorem c_slices_Clone_int_int {x0 : List Int} {A0 : Option Addr} {n0 c0 : Nat} {w : World} {r : List Int} (h0 : Rt w 1 eI A0 n0 c0 x0) (hM : m_slices_Clone_int_int x0 = some r) :
    Calls Tryd.prog 40 #[.slice A0 n0 c0] w (fun e w' => ∃ (B0 : Option Addr) (N0 D0 : Nat), e = .returned (.slice B0 N0 D0) ∧ N0 = r.length ∧ St w w' [.row 3 1 (.slice B0 N0 D0) N0 (r.flatMap eI)]) := by
  obtain rfl := h0.len
  unfold m_slices_Clone_int_int at hM
  obtain ⟨hk, hM⟩ := chk_ex hM
  replace hk := apB_t hk
  obtain rfl := Option.some.inj hM
  refine calls_gw Tryd.func40 Tryd.ntmps40 rfl [(0, .slice A0 x0.length c0)] ⟨rfl, trivial⟩ rfl ?_
  intro a hF
  have S := St.nil w
  refine wp_seq ?_
  refine wp_region_lit ?_
  refine op_val (v := .slice none 0 0) rfl rfl hF rfl (run_assign rfl rfl) ?_; clear hF; intro a hF
  refine wpList_nil ?_
  refine wp_seq ?_
  refine wp_seq ?_
  refine wp_region_lit ?_
  refine op_val (v := .slice A0 x0.length c0) rfl rfl hF rfl (run_move rfl (hF.ev rfl)) ?_; clear hF; intro a hF
  refine op_val (v := .bool (Option.isNone A0)) rfl rfl hF rfl (run_eqlNil rfl Tryd.underlying23 (hF.ev rfl) rfl) ?_; clear hF; intro a hF
  refine wpList_nil ?_
  cases hc101 : (Option.isNone A0)
  · have hx := trivial
    refine cond_f hF rfl hc101 ?_
    refine wp_skip ?_
    refine wp_seq ?_
    refine wp_region_lit ?_
    refine op_newrow (cs := #[]) (size := 1) rfl rfl hF rfl S (run_buildSlice0 rfl Tryd.underlying23 (congrArg Option.isSome sz3)) rfl (Nat.zero_le _) ?_; clear hF S; intro a g102 u hF S
    refine op_val (v := .slice A0 x0.length c0) rfl rfl hF rfl (run_move rfl (hF.ev rfl)) ?_; clear hF; intro a hF
    have hk105 := hk
    refine op_appendL (lx := []) (ly := x0) rfl rfl hF rfl S rfl (hF.ev rfl) (hF.ev rfl) (i := 0) rfl rfl Tryd.underlying23 inf3 rfl (by decide) (S.rc0 h0.rc).rd rfl eI_one hk105 (by decide) ?_; clear hF S; intro a B103 d104 u hF S
    refine op_val (v := .slice B103 ((([] : List Int) ++ x0).length) d104) rfl rfl hF rfl (run_assign rfl (hF.ev rfl)) ?_; clear hF; intro a hF
    refine wpList_nil ?_
    refine wp_ret ?_
    repeat with_reducible (first | refine then_ret ?_ | refine in_ret ?_ | refine in_nrm ?_)
    refine ret1_gw (.inl rfl) hF rfl (res_tmp (hF.ev rfl)) ?_
    exact ⟨B103, ((([] : List Int) ++ x0).length), d104, rfl, rfl, S.sel [0] rfl rfl⟩
  · have hx := nil_none h0.rc.rd rfl hc101
    refine cond_t hF rfl hc101 ?_
    refine wp_seq ?_
    refine wp_region_lit ?_
    refine op_val (v := .slice none 0 0) rfl rfl hF rfl (run_assign rfl rfl) ?_; clear hF; intro a hF
    refine wpList_nil ?_
    refine wp_ret ?_
    repeat with_reducible (first | refine then_ret ?_ | refine in_ret ?_ | refine in_nrm ?_)
    refine ret1_gw (.inl rfl) hF rfl (res_tmp (hF.ev rfl)) ?_
    subst hx
    replace S := S.nilrow 3 1
    exact ⟨none, 0, 0, rfl, rfl, S.sel [0] rfl rfl⟩

set_option maxHeartbeats 4000000 in
theorem c_impl_Poll_clone {x0 : Int} {x1 : List Int} {x2 : Int} {x3 : List Int} {x4 : Int} {x5 : Int} {x6 : Int} {x7 : Int} {A1 : Option Addr} {n1 c1 : Nat} {A3 : Option Addr} {n3 c3 : Nat} {w : World} {r : Int × List Int × Int × List Int × Int × Int × Int × Int} (h1 : Rt w 1 eI A1 n1 c1 x1) (h3 : Rt w 1 eI A3 n3 c3 x3) (hM : m_impl_Poll_clone x0 x1 x2 x3 x4 x5 x6 x7 = some r) :
    Calls Tryd.prog 24 #[.agg #[.int .i64 x0, .slice A1 n1 c1, .int .i64 x2, .slice A3 n3 c3, .int .i64 x4, .int .i64 x5, .int .i64 x6, .int .i64 x7]] w (fun e w' => ∃ (B0 : Option Addr) (N0 D0 : Nat) (B1 : Option Addr) (N1 D1 : Nat), e = .returned (.agg #[.int .i64 r.1, .slice B0 N0 D0, .int .i64 r.2.2.1, .slice B1 N1 D1, .int .i64 r.2.2.2.2.1, .int .i64 r.2.2.2.2.2.1, .int .i64 r.2.2.2.2.2.2.1, .int .i64 r.2.2.2.2.2.2.2]) ∧ N0 = r.2.1.length ∧ N1 = r.2.2.2.1.length ∧ St w w' [.row 3 1 (.slice B0 N0 D0) N0 (r.2.1.flatMap eI), .row 3 1 (.slice B1 N1 D1) N1 (r.2.2.2.1.flatMap eI)]) := by
  obtain rfl := h1.len
  obtain rfl := h3.len
  unfold m_impl_Poll_clone at hM
  refine calls_gw Tryd.func24 Tryd.ntmps24 rfl [(0, .agg #[.int .i64 x0, .slice A1 x1.length c1, .int .i64 x2, .slice A3 x3.length c3, .int .i64 x4, .int .i64 x5, .int .i64 x6, .int .i64 x7])] ⟨rfl, trivial⟩ rfl ?_
  intro a hF
  have S := St.nil w
  refine wp_seq ?_
  refine wp_region_lit ?_
  refine op_new (cs := #[.int .i64 x0, .slice A1 x1.length c1, .int .i64 x2, .slice A3 x3.length c3, .int .i64 x4, .int .i64 x5, .int .i64 x6, .int .i64 x7]) rfl rfl hF rfl S (run_box rfl (hF.ev rfl) rfl) ?_; clear hF S; intro a g101 u hF S
  refine op_new (cs := #[.int .i64 0, .slice none 0 0, .int .i64 0, .slice none 0 0, .int .i64 0, .int .i64 0, .int .i64 0, .int .i64 0]) rfl rfl hF rfl S (run_allocZ rfl zr25) ?_; clear hF S; intro a g102 u hF S
  refine wpList_nil ?_
  refine wp_seq ?_
  obtain ⟨p103, h103, hM⟩ := bind_ex hM
  obtain ⟨p107, h107, hM⟩ := bind_ex hM
  refine region_gw (D := [3, 4, 5, 6, 7, 8, 9, 10]) (Lr := [.box g102 25 #[.int .i64 0, .slice none 0 0, .int .i64 0, .slice none 0 0, .int .i64 0, .int .i64 0, .int .i64 0, .int .i64 0]]) (deps := (fun | 0 => [3] | 1 => [4] | 2 => [5] | 3 => [6] | 4 => [7] | 5 => [8] | 6 => [9] | 7 => [9, 5] | 8 => [10] | 9 => [10, 5, 8] | _ => [])) (rd := (fun _ => [])) (zr := (fun | 1 => [7] | 4 => [7] | _ => []))
    (φ := fun i vs => match i, vs with | 0, [v3] => v3 = .pointer (some ⟨g101, 1, none⟩) | 1, [v4] => v4 = .slice A1 x1.length c1 | 2, [v5] => v5 = .slice (slA v5) p103.length (slC v5) | 3, [v6] => v6 = .pointer (some ⟨g101, 3, none⟩) | 4, [v7] => v7 = .slice A3 x3.length c3 | 5, [v8] => v8 = .slice (slA v8) p107.length (slC v8) | 6, [v9] => v9 = .pointer (some ⟨g101, 1, none⟩) | 8, [v10] => v10 = .pointer (some ⟨g101, 3, none⟩) | _, _ => True)
    (C := fun i vs => match i, vs with | 2, [v5] => [.row 3 1 (.slice (slA v5) p103.length (slC v5)) p103.length (p103.flatMap eI)] | 5, [v8] => [.row 3 1 (.slice (slA v8) p107.length (slC v8)) p107.length (p107.flatMap eI)] | 7, [v9, v5] => [.box g101 25 #[.int .i64 x0, .slice (slA v5) p103.length (slC v5), .int .i64 x2, .slice A3 x3.length c3, .int .i64 x4, .int .i64 x5, .int .i64 x6, .int .i64 x7]] | 9, [v10, v5, v8] => [.box g101 25 #[.int .i64 x0, .slice (slA v5) p103.length (slC v5), .int .i64 x2, .slice (slA v8) p107.length (slC v8), .int .i64 x4, .int .i64 x5, .int .i64 x6, .int .i64 x7]] | _, _ => [])
    (κ := (fun | 7 => some 9 | _ => none)) (Z := (fun | 7 => [.box g101 25 #[.int .i64 x0, .slice A1 x1.length c1, .int .i64 x2, .slice A3 x3.length c3, .int .i64 x4, .int .i64 x5, .int .i64 x6, .int .i64 x7]] | _ => [])) mixed hF (by kernel_rfl) (show St w _ [.box g101 25 #[.int .i64 x0, .slice A1 x1.length c1, .int .i64 x2, .slice A3 x3.length c3, .int .i64 x4, .int .i64 x5, .int .i64 x6, .int .i64 x7], .box g102 25 #[.int .i64 0, .slice none 0 0, .int .i64 0, .slice none 0 0, .int .i64 0, .int .i64 0, .int .i64 0, .int .i64 0]] from S.sel [1, 0] rfl rfl) ?_ ?_
  · refine ⟨?_, ?_, ?_, ?_, ?_, ?_, ?_, ?_, ?_, ?_, trivial⟩
    · intro a u X hB hu hp hr hz hl S
      replace S : St w u ([] ++ X) := S
      exact .inl ⟨rfl, .pointer (some ⟨g101, 1, none⟩), u, (run_fieldAddr rfl fl25_1 (hF.evB hB rfl rfl) rfl), rfl, S⟩
    · intro a u X hB hu hp hr hz hl S
      replace S : St w u ([] ++ X) := S
      have e3 : sl a 3 = .pointer (some ⟨g101, 1, none⟩) := hp 0 rfl
      exact .inl ⟨rfl, .slice A1 x1.length c1, u, (run_load1 rfl one23 (ev_sl e3) ((show Bk _ _ _ _ from S.mem (List.mem_append_right _ (hz 7 (List.mem_of_getElem? (i := 0) rfl) _ (List.mem_of_getElem? (i := 0) rfl)))).cell rfl)), rfl, S⟩
    · intro a u X hB hu hp hr hz hl S
      replace S : St w u ([] ++ X) := S
      have e4 : sl a 4 = .slice A1 x1.length c1 := hp 1 rfl
      refine .inr (.inr (.inl ⟨rfl, _, _, (run_call (vs := [.slice A1 x1.length c1]) rfl rfl co40 ⟨(ev_sl e4), trivial⟩), ?_⟩))
      refine Calls.mono (c_slices_Clone_int_int (x0 := x1) ⟨(S.rc0 h1.rc), rfl⟩ h103) ?_
      rintro e w1 ⟨B111, n112, d113, rfl, rfl, T⟩
      exact ⟨_, rfl, rfl, S.call1 T⟩
    · intro a u X hB hu hp hr hz hl S
      replace S : St w u ([] ++ X) := S
      exact .inl ⟨rfl, .pointer (some ⟨g101, 3, none⟩), u, (run_fieldAddr rfl fl25_3 (hF.evB hB rfl rfl) rfl), rfl, S⟩
    · intro a u X hB hu hp hr hz hl S
      replace S : St w u ([] ++ X) := S
      have e6 : sl a 6 = .pointer (some ⟨g101, 3, none⟩) := hp 3 rfl
      exact .inl ⟨rfl, .slice A3 x3.length c3, u, (run_load1 rfl one23 (ev_sl e6) ((show Bk _ _ _ _ from S.mem (List.mem_append_right _ (hz 7 (List.mem_of_getElem? (i := 0) rfl) _ (List.mem_of_getElem? (i := 0) rfl)))).cell rfl)), rfl, S⟩
    · intro a u X hB hu hp hr hz hl S
      replace S : St w u ([] ++ X) := S
      have e7 : sl a 7 = .slice A3 x3.length c3 := hp 4 rfl
      refine .inr (.inr (.inl ⟨rfl, _, _, (run_call (vs := [.slice A3 x3.length c3]) rfl rfl co40 ⟨(ev_sl e7), trivial⟩), ?_⟩))
      refine Calls.mono (c_slices_Clone_int_int (x0 := x3) ⟨(S.rc0 h3.rc), rfl⟩ h107) ?_
      rintro e w1 ⟨B114, n115, d116, rfl, rfl, T⟩
      exact ⟨_, rfl, rfl, S.call1 T⟩
    · intro a u X hB hu hp hr hz hl S
      replace S : St w u ([] ++ X) := S
      exact .inl ⟨rfl, .pointer (some ⟨g101, 1, none⟩), u, (run_fieldAddr rfl fl25_1 (hF.evB hB rfl rfl) rfl), rfl, S⟩
    · intro a u X hB hu hp hr hz hl S
      replace S : St w u ([.box g101 25 #[.int .i64 x0, .slice A1 x1.length c1, .int .i64 x2, .slice A3 x3.length c3, .int .i64 x4, .int .i64 x5, .int .i64 x6, .int .i64 x7]] ++ X) := S
      have e5 : sl a 5 = .slice (slA (sl a 5)) p103.length (slC (sl a 5)) := hp 2 rfl
      have e9 : sl a 9 = .pointer (some ⟨g101, 1, none⟩) := hp 6 rfl
      exact .inr (.inl ⟨rfl, _, run_store (cs' := #[.int .i64 x0, .slice (slA (sl a 5)) p103.length (slC (sl a 5)), .int .i64 x2, .slice A3 x3.length c3, .int .i64 x4, .int .i64 x5, .int .i64 x6, .int .i64 x7]) rfl sz23 (ev_sl e9) (ev_sl e5) rfl rfl rfl (S.free 0 rfl) rfl rfl, trivial, S.put 0 rfl (#[.int .i64 x0, .slice (slA (sl a 5)) p103.length (slC (sl a 5)), .int .i64 x2, .slice A3 x3.length c3, .int .i64 x4, .int .i64 x5, .int .i64 x6, .int .i64 x7])⟩)
    · intro a u X hB hu hp hr hz hl S
      replace S : St w u ([] ++ X) := S
      exact .inl ⟨rfl, .pointer (some ⟨g101, 3, none⟩), u, (run_fieldAddr rfl fl25_3 (hF.evB hB rfl rfl) rfl), rfl, S⟩
    · intro a u X hB hu hp hr hz hl S
      replace S : St w u ([.box g101 25 #[.int .i64 x0, .slice (slA (sl a 5)) p103.length (slC (sl a 5)), .int .i64 x2, .slice A3 x3.length c3, .int .i64 x4, .int .i64 x5, .int .i64 x6, .int .i64 x7]] ++ X) := S
      have e8 : sl a 8 = .slice (slA (sl a 8)) p107.length (slC (sl a 8)) := hp 5 rfl
      have e10 : sl a 10 = .pointer (some ⟨g101, 3, none⟩) := hp 8 rfl
      exact .inr (.inl ⟨rfl, _, run_store (cs' := #[.int .i64 x0, .slice (slA (sl a 5)) p103.length (slC (sl a 5)), .int .i64 x2, .slice (slA (sl a 8)) p107.length (slC (sl a 8)), .int .i64 x4, .int .i64 x5, .int .i64 x6, .int .i64 x7]) rfl sz23 (ev_sl e10) (ev_sl e8) rfl rfl rfl (S.free 0 rfl) rfl rfl, trivial, S.put 0 rfl (#[.int .i64 x0, .slice (slA (sl a 5)) p103.length (slC (sl a 5)), .int .i64 x2, .slice (slA (sl a 8)) p107.length (slC (sl a 8)), .int .i64 x4, .int .i64 x5, .int .i64 x6, .int .i64 x7])⟩)
  · intro a u hB hp S
    obtain ⟨q0, q1, q2, q3, q4, q5, q6, q7, q8, q9, _⟩ := hp
    have e3 : sl a 3 = .pointer (some ⟨g101, 1, none⟩) := q0
    have e4 : sl a 4 = .slice A1 x1.length c1 := q1
    have e5 : sl a 5 = .slice (slA (sl a 5)) p103.length (slC (sl a 5)) := q2
    have e6 : sl a 6 = .pointer (some ⟨g101, 3, none⟩) := q3
    have e7 : sl a 7 = .slice A3 x3.length c3 := q4
    have e8 : sl a 8 = .slice (slA (sl a 8)) p107.length (slC (sl a 8)) := q5
    have e9 : sl a 9 = .pointer (some ⟨g101, 1, none⟩) := q6
    have e10 : sl a 10 = .pointer (some ⟨g101, 3, none⟩) := q8
    replace S : St w u [.row 3 1 (.slice (slA (sl a 5)) p103.length (slC (sl a 5))) p103.length (p103.flatMap eI), .row 3 1 (.slice (slA (sl a 8)) p107.length (slC (sl a 8))) p107.length (p107.flatMap eI), .box g101 25 #[.int .i64 x0, .slice (slA (sl a 5)) p103.length (slC (sl a 5)), .int .i64 x2, .slice (slA (sl a 8)) p107.length (slC (sl a 8)), .int .i64 x4, .int .i64 x5, .int .i64 x6, .int .i64 x7], .box g102 25 #[.int .i64 0, .slice none 0 0, .int .i64 0, .slice none 0 0, .int .i64 0, .int .i64 0, .int .i64 0, .int .i64 0]] := S
    clear q0 q1 q2 q3 q4 q5 q6 q7 q8 q9
    generalize slA (sl a 5) = B117 at *
    generalize slC (sl a 5) = d118 at *
    generalize slA (sl a 8) = B119 at *
    generalize slC (sl a 8) = d120 at *
    have hF := hF.region hB [(3, .pointer (some ⟨g101, 1, none⟩)), (4, .slice A1 x1.length c1), (5, .slice B117 p103.length d118), (6, .pointer (some ⟨g101, 3, none⟩)), (7, .slice A3 x3.length c3), (8, .slice B119 p107.length d120), (9, .pointer (some ⟨g101, 1, none⟩)), (10, .pointer (some ⟨g101, 3, none⟩))] (allSl_mem ⟨e3, e4, e5, e6, e7, e8, e9, e10, trivial⟩) rfl
    clear hB e3 e4 e5 e6 e7 e8 e9 e10
    refine wp_seq ?_
    refine wp_region_lit ?_
    refine op_val (v := .agg #[.int .i64 x0, .slice B117 p103.length d118, .int .i64 x2, .slice B119 p107.length d120, .int .i64 x4, .int .i64 x5, .int .i64 x6, .int .i64 x7]) rfl rfl hF rfl (run_loadN rfl ag25 (hF.ev rfl) rfl ((S.free 2 rfl).cells 0 #[.int .i64 x0, .slice B117 p103.length d118, .int .i64 x2, .slice B119 p107.length d120, .int .i64 x4, .int .i64 x5, .int .i64 x6, .int .i64 x7] rfl)) ?_; clear hF; intro a hF
    refine op_do rfl rfl (run_store (cs' := #[.int .i64 x0, .slice B117 p103.length d118, .int .i64 x2, .slice B119 p107.length d120, .int .i64 x4, .int .i64 x5, .int .i64 x6, .int .i64 x7]) rfl sz25 (hF.ev rfl) (hF.ev rfl) rfl rfl rfl (S.free 3 rfl) rfl rfl) ?_; replace S := S.put 3 rfl (#[.int .i64 x0, .slice B117 p103.length d118, .int .i64 x2, .slice B119 p107.length d120, .int .i64 x4, .int .i64 x5, .int .i64 x6, .int .i64 x7])
    generalize World.setRow _ _ _ = u at S ⊢
    refine wpList_nil ?_
    refine wp_ret ?_
    repeat with_reducible (first | refine then_ret ?_ | refine in_ret ?_ | refine in_nrm ?_)
    refine ret1_gw (.inl rfl) hF rfl (res_cell (hF.ev rfl) (res_loadN ag25 rfl (S.cells 3 rfl 0 #[.int .i64 x0, .slice B117 p103.length d118, .int .i64 x2, .slice B119 p107.length d120, .int .i64 x4, .int .i64 x5, .int .i64 x6, .int .i64 x7] rfl))) ?_
    obtain rfl := Option.some.inj hM
    exact ⟨B117, p103.length, d118, B119, p107.length, d120, rfl, rfl, rfl, S.sel [0, 1] rfl rfl⟩

set_option maxHeartbeats 4000000 in
theorem c_impl_Poll_take {x0 : Int} {x1 : List Int} {x2 : Int} {x3 : List Int} {x4 : Int} {x5 : Int} {x6 : Int} {x7 : Int} {A1 : Option Addr} {n1 c1 : Nat} {A3 : Option Addr} {n3 c3 : Nat} {g0 : Nat} {w : World} {r : Int × List Int × Int × List Int × Int × Int × Int × Int} {w0 : World} {X : List Asn} (h1 : n1 = x1.length) (h3 : n3 = x3.length) (S : St w0 w (Asn.box g0 25 #[.int .i64 x0, .slice A1 n1 c1, .int .i64 x2, .slice A3 n3 c3, .int .i64 x4, .int .i64 x5, .int .i64 x6, .int .i64 x7] :: Asn.row 3 1 (.slice A1 n1 c1) n1 (x1.flatMap eI) :: Asn.row 3 1 (.slice A3 n3 c3) n3 (x3.flatMap eI) :: X)) (hM : m_impl_Poll_take x0 x1 x2 x3 x4 x5 x6 x7 = some r) :
    Calls Tryd.prog 42 #[.pointer (some ⟨g0, 0, none⟩)] w (fun e w' => ∃ (B0 : Option Addr) (N0 D0 : Nat) (B1 : Option Addr) (N1 D1 : Nat), e = .returned (.tuple #[]) ∧ N0 = r.2.1.length ∧ N1 = r.2.2.2.1.length ∧ St w0 w' (Asn.box g0 25 #[.int .i64 r.1, .slice B0 N0 D0, .int .i64 r.2.2.1, .slice B1 N1 D1, .int .i64 r.2.2.2.2.1, .int .i64 r.2.2.2.2.2.1, .int .i64 r.2.2.2.2.2.2.1, .int .i64 r.2.2.2.2.2.2.2] :: Asn.row 3 1 (.slice B0 N0 D0) N0 (r.2.1.flatMap eI) :: Asn.row 3 1 (.slice B1 N1 D1) N1 (r.2.2.2.1.flatMap eI) :: X)) := by
  obtain rfl := h1
  obtain rfl := h3
  unfold m_impl_Poll_take at hM
  refine calls_gw Tryd.func42 Tryd.ntmps42 rfl [(0, .pointer (some ⟨g0, 0, none⟩))] ⟨rfl, trivial⟩ rfl ?_
  intro a hF
  refine wp_seq ?_
  refine wp_seq ?_
  refine region_gw (D := [2, 3, 4, 5, 6, 7, 8, 9, 10]) (Lr := (Asn.box g0 25 #[.int .i64 x0, .slice A1 x1.length c1, .int .i64 x2, .slice A3 x3.length c3, .int .i64 x4, .int .i64 x5, .int .i64 x6, .int .i64 x7] :: Asn.row 3 1 (.slice A1 x1.length c1) x1.length (x1.flatMap eI) :: Asn.row 3 1 (.slice A3 x3.length c3) x3.length (x3.flatMap eI) :: X)) (deps := (fun | 0 => [2] | 1 => [3] | 2 => [4] | 3 => [5] | 4 => [6] | 5 => [7] | 6 => [8] | 7 => [9] | 8 => [10] | _ => [])) (rd := (fun _ => [])) (zr := (fun _ => []))
    (φ := fun i vs => match i, vs with | 0, [v2] => v2 = .pointer (some ⟨g0, 0, none⟩) | 1, [v3] => v3 = .pointer (some ⟨g0, 0, none⟩) | 2, [v4] => v4 = .pointer (some ⟨g0, 6, none⟩) | 3, [v5] => v5 = .int .i64 x6 | 4, [v6] => v6 = .pointer (some ⟨g0, 0, none⟩) | 5, [v7] => v7 = .pointer (some ⟨g0, 0, none⟩) | 6, [v8] => v8 = .pointer (some ⟨g0, 0, none⟩) | 7, [v9] => v9 = .int .i64 x0 | 8, [v10] => v10 = .bool (x6 != x0) | _, _ => True)
    (C := fun _ _ => [])
    (κ := (fun _ => none)) (Z := (fun _ => [])) mixed hF (by kernel_rfl) S ?_ ?_
  · refine ⟨?_, ?_, ?_, ?_, ?_, ?_, ?_, ?_, ?_, trivial⟩
    · intro a u X' hB hu hp hr hz hl S
      replace S : St w0 u ([] ++ X') := S
      exact .inl ⟨rfl, .pointer (some ⟨g0, 0, none⟩), u, (run_move rfl (hF.evB hB rfl rfl)), rfl, S⟩
    · intro a u X' hB hu hp hr hz hl S
      replace S : St w0 u ([] ++ X') := S
      have e2 : sl a 2 = .pointer (some ⟨g0, 0, none⟩) := hp 0 rfl
      exact .inl ⟨rfl, .pointer (some ⟨g0, 0, none⟩), u, (run_nilCheck rfl (ev_sl e2)), rfl, S⟩
    · intro a u X' hB hu hp hr hz hl S
      replace S : St w0 u ([] ++ X') := S
      have e3 : sl a 3 = .pointer (some ⟨g0, 0, none⟩) := hp 1 rfl
      exact .inl ⟨rfl, .pointer (some ⟨g0, 6, none⟩), u, (run_fieldAddr rfl fl25_6 (ev_sl e3) rfl), rfl, S⟩
    · intro a u X' hB hu hp hr hz hl S
      replace S : St w0 u ([] ++ X') := S
      have e4 : sl a 4 = .pointer (some ⟨g0, 6, none⟩) := hp 2 rfl
      exact .inl ⟨rfl, .int .i64 x6, u, (run_load1 rfl one3 (ev_sl e4) ((gr_box S hl 0 rfl).cell rfl)), rfl, S⟩
    · intro a u X' hB hu hp hr hz hl S
      replace S : St w0 u ([] ++ X') := S
      exact .inl ⟨rfl, .pointer (some ⟨g0, 0, none⟩), u, (run_move rfl (hF.evB hB rfl rfl)), rfl, S⟩
    · intro a u X' hB hu hp hr hz hl S
      replace S : St w0 u ([] ++ X') := S
      have e6 : sl a 6 = .pointer (some ⟨g0, 0, none⟩) := hp 4 rfl
      exact .inl ⟨rfl, .pointer (some ⟨g0, 0, none⟩), u, (run_nilCheck rfl (ev_sl e6)), rfl, S⟩
    · intro a u X' hB hu hp hr hz hl S
      replace S : St w0 u ([] ++ X') := S
      have e7 : sl a 7 = .pointer (some ⟨g0, 0, none⟩) := hp 5 rfl
      exact .inl ⟨rfl, .pointer (some ⟨g0, 0, none⟩), u, (run_fieldAddr rfl fl25_0 (ev_sl e7) rfl), rfl, S⟩
    · intro a u X' hB hu hp hr hz hl S
      replace S : St w0 u ([] ++ X') := S
      have e8 : sl a 8 = .pointer (some ⟨g0, 0, none⟩) := hp 6 rfl
      exact .inl ⟨rfl, .int .i64 x0, u, (run_load1 rfl one3 (ev_sl e8) ((gr_box S hl 0 rfl).cell rfl)), rfl, S⟩
    · intro a u X' hB hu hp hr hz hl S
      replace S : St w0 u ([] ++ X') := S
      have e5 : sl a 5 = .int .i64 x6 := hp 3 rfl
      have e9 : sl a 9 = .int .i64 x0 := hp 7 rfl
      exact .inl ⟨rfl, .bool (x6 != x0), u, (run_neq (ev_sl e5) (ev_sl e9) rfl), rfl, S⟩
  · intro a u hB hp S
    obtain ⟨q0, q1, q2, q3, q4, q5, q6, q7, q8, _⟩ := hp
    have e2 : sl a 2 = .pointer (some ⟨g0, 0, none⟩) := q0
    have e3 : sl a 3 = .pointer (some ⟨g0, 0, none⟩) := q1
    have e4 : sl a 4 = .pointer (some ⟨g0, 6, none⟩) := q2
    have e5 : sl a 5 = .int .i64 x6 := q3
    have e6 : sl a 6 = .pointer (some ⟨g0, 0, none⟩) := q4
    have e7 : sl a 7 = .pointer (some ⟨g0, 0, none⟩) := q5
    have e8 : sl a 8 = .pointer (some ⟨g0, 0, none⟩) := q6
    have e9 : sl a 9 = .int .i64 x0 := q7
    have e10 : sl a 10 = .bool (x6 != x0) := q8
    replace S : St w0 u (Asn.box g0 25 #[.int .i64 x0, .slice A1 x1.length c1, .int .i64 x2, .slice A3 x3.length c3, .int .i64 x4, .int .i64 x5, .int .i64 x6, .int .i64 x7] :: Asn.row 3 1 (.slice A1 x1.length c1) x1.length (x1.flatMap eI) :: Asn.row 3 1 (.slice A3 x3.length c3) x3.length (x3.flatMap eI) :: X) := S
    clear q0 q1 q2 q3 q4 q5 q6 q7 q8
    have hF := hF.region hB [(2, .pointer (some ⟨g0, 0, none⟩)), (3, .pointer (some ⟨g0, 0, none⟩)), (4, .pointer (some ⟨g0, 6, none⟩)), (5, .int .i64 x6), (6, .pointer (some ⟨g0, 0, none⟩)), (7, .pointer (some ⟨g0, 0, none⟩)), (8, .pointer (some ⟨g0, 0, none⟩)), (9, .int .i64 x0), (10, .bool (x6 != x0))] (allSl_mem ⟨e2, e3, e4, e5, e6, e7, e8, e9, e10, trivial⟩) rfl
    clear hB e2 e3 e4 e5 e6 e7 e8 e9 e10
    cases hc101 : (x6 != x0)
    · replace hM := bif_f hc101 hM
      refine cond_f hF rfl hc101 ?_
      refine wp_skip ?_
      refine wp_seq ?_
      refine wp_region_lit ?_
      refine op_val (v := .pointer (some ⟨g0, 0, none⟩)) rfl rfl hF rfl (run_move rfl (hF.ev rfl)) ?_; clear hF; intro a hF
      refine op_val (v := .pointer (some ⟨g0, 0, none⟩)) rfl rfl hF rfl (run_move rfl (hF.ev rfl)) ?_; clear hF; intro a hF
      refine op_val (v := .pointer (some ⟨g0, 0, none⟩)) rfl rfl hF rfl (run_nilCheck rfl (hF.ev rfl)) ?_; clear hF; intro a hF
      refine op_val (v := .pointer (some ⟨g0, 0, none⟩)) rfl rfl hF rfl (run_fieldAddr rfl fl25_0 (hF.ev rfl) rfl) ?_; clear hF; intro a hF
      refine op_val (v := .int .i64 x0) rfl rfl hF rfl (run_load1 rfl one3 (hF.ev rfl) ((S.free 0 rfl).cell rfl)) ?_; clear hF; intro a hF
      refine op_val (v := .int .i64 (w64 (1 - x0))) rfl rfl hF rfl (run_sub (z := w64 (1 - x0)) rfl (hF.ev rfl) rfl rfl) ?_; clear hF; intro a hF
      refine op_val (v := .pointer (some ⟨g0, 0, none⟩)) rfl rfl hF rfl (run_nilCheck rfl (hF.ev rfl)) ?_; clear hF; intro a hF
      refine op_val (v := .pointer (some ⟨g0, 0, none⟩)) rfl rfl hF rfl (run_fieldAddr rfl fl25_0 (hF.ev rfl) rfl) ?_; clear hF; intro a hF
      refine op_do rfl rfl (run_store (cs' := #[.int .i64 (w64 (1 - x0)), .slice A1 x1.length c1, .int .i64 x2, .slice A3 x3.length c3, .int .i64 x4, .int .i64 x5, .int .i64 x6, .int .i64 x7]) rfl sz3 (hF.ev rfl) (hF.ev rfl) rfl rfl rfl (S.free 0 rfl) rfl rfl) ?_; replace S := S.put 0 rfl (#[.int .i64 (w64 (1 - x0)), .slice A1 x1.length c1, .int .i64 x2, .slice A3 x3.length c3, .int .i64 x4, .int .i64 x5, .int .i64 x6, .int .i64 x7])
      generalize World.setRow _ _ _ = u at S ⊢
      refine wpList_nil ?_
      refine wp_seq ?_
      refine wp_region_lit ?_
      refine op_val (v := .pointer (some ⟨g0, 0, none⟩)) rfl rfl hF rfl (run_move rfl (hF.ev rfl)) ?_; clear hF; intro a hF
      refine op_val (v := .pointer (some ⟨g0, 0, none⟩)) rfl rfl hF rfl (run_nilCheck rfl (hF.ev rfl)) ?_; clear hF; intro a hF
      refine op_val (v := .pointer (some ⟨g0, 7, none⟩)) rfl rfl hF rfl (run_fieldAddr rfl fl25_7 (hF.ev rfl) rfl) ?_; clear hF; intro a hF
      refine op_val (v := .int .i64 x7) rfl rfl hF rfl (run_load1 rfl one3 (hF.ev rfl) ((S.free 0 rfl).cell rfl)) ?_; clear hF; intro a hF
      refine op_val (v := .bool (x7 != (-1))) rfl rfl hF rfl (run_neq (hF.ev rfl) rfl rfl) ?_; clear hF; intro a hF
      refine wpList_nil ?_
      obtain ⟨o103, hM106, hM⟩ := bind_ex hM
      refine wp_cut (fun a u => ∃ (p102 : List Int) (B104 : Option Addr) (d105 : Nat), p102 = o103 ∧ Fr a 37 [] ∧ St w0 u (Asn.box g0 25 #[.int .i64 (w64 (1 - x0)), .slice B104 p102.length d105, .int .i64 x2, .slice A3 x3.length c3, .int .i64 x4, .int .i64 x5, .int .i64 x6, .int .i64 x7] :: Asn.row 3 1 (.slice B104 p102.length d105) p102.length (p102.flatMap eI) :: Asn.row 3 1 (.slice A3 x3.length c3) x3.length (x3.flatMap eI) :: X)) ?_ ?_
      · have _ := trivial
        cases hc107 : (x7 != (-1))
        · replace hM106 := bif_f hc107 hM106
          refine cond_f hF rfl hc107 ?_
          refine wp_skip ?_
          obtain rfl := Option.some.inj hM106
          exact ⟨x1, A1, c1, rfl, hF.keep _ trivial, S.selT (M := [.box g0 25 #[.int .i64 (w64 (1 - x0)), .slice A1 x1.length c1, .int .i64 x2, .slice A3 x3.length c3, .int .i64 x4, .int .i64 x5, .int .i64 x6, .int .i64 x7], .row 3 1 (.slice A1 x1.length c1) x1.length (x1.flatMap eI), .row 3 1 (.slice A3 x3.length c3) x3.length (x3.flatMap eI)]) 3 [0, 1, 2] rfl rfl rfl⟩
        · replace hM106 := bif_t hc107 hM106
          refine cond_t hF rfl hc107 ?_
          obtain ⟨hk108, hM106⟩ := chk_ex hM106
          replace hk108 := apB_t hk108
          refine region_gw (D := [24, 25, 26, 27, 28, 29, 30, 31, 32, 33, 34, 35, 36]) (Lr := (Asn.row 3 1 (.slice A3 x3.length c3) x3.length (x3.flatMap eI) :: X)) (deps := (fun | 0 => [24] | 1 => [25] | 2 => [26] | 3 => [27] | 4 => [28] | 5 => [29] | 6 => [30] | 7 => [31] | 8 => [32] | 9 => [33] | 10 => [34] | 11 => [35] | 12 => [36] | 13 => [36, 34] | _ => [])) (rd := (fun | 10 => [9] | _ => [])) (zr := (fun | 4 => [13] | 8 => [13] | _ => []))
            (φ := fun i vs => match i, vs with | 0, [v24] => v24 = .pointer (some ⟨g0, 0, none⟩) | 1, [v25] => v25 = .pointer (some ⟨g0, 0, none⟩) | 2, [v26] => v26 = .pointer (some ⟨g0, 0, none⟩) | 3, [v27] => v27 = .pointer (some ⟨g0, 1, none⟩) | 4, [v28] => v28 = .slice A1 x1.length c1 | 5, [v29] => v29 = .pointer (some ⟨g0, 0, none⟩) | 6, [v30] => v30 = .pointer (some ⟨g0, 0, none⟩) | 7, [v31] => v31 = .pointer (some ⟨g0, 7, none⟩) | 8, [v32] => v32 = .int .i64 x7 | 9, [v33] => v33 = .slice (slA v33) ((([x7] : List Int) : List Int).length) ((([x7] : List Int) : List Int).length) | 10, [v34] => v34 = .slice (slA v34) ((x1 ++ ([x7] : List Int)).length) (slC v34) | 11, [v35] => v35 = .pointer (some ⟨g0, 0, none⟩) | 12, [v36] => v36 = .pointer (some ⟨g0, 1, none⟩) | _, _ => True)
            (C := fun i vs => match i, vs with | 9, [v33] => [.row 3 1 (.slice (slA v33) ((([x7] : List Int) : List Int).length) ((([x7] : List Int) : List Int).length)) ((([x7] : List Int) : List Int).length) (([x7] : List Int).flatMap eI)] | 10, [v34] => [.row 3 1 (.slice (slA v34) ((x1 ++ ([x7] : List Int)).length) (slC v34)) ((x1 ++ ([x7] : List Int)).length) ((x1 ++ ([x7] : List Int)).flatMap eI)] | 13, [v36, v34] => [.box g0 25 #[.int .i64 (w64 (1 - x0)), .slice (slA v34) ((x1 ++ ([x7] : List Int)).length) (slC v34), .int .i64 x2, .slice A3 x3.length c3, .int .i64 x4, .int .i64 x5, .int .i64 x6, .int .i64 x7]] | _, _ => [])
            (κ := (fun _ => none)) (Z := (fun | 10 => [.row 3 1 (.slice A1 x1.length c1) x1.length (x1.flatMap eI)] | 13 => [.box g0 25 #[.int .i64 (w64 (1 - x0)), .slice A1 x1.length c1, .int .i64 x2, .slice A3 x3.length c3, .int .i64 x4, .int .i64 x5, .int .i64 x6, .int .i64 x7]] | _ => [])) mixed hF (by kernel_rfl) (show St w0 _ (Asn.row 3 1 (.slice A1 x1.length c1) x1.length (x1.flatMap eI) :: Asn.box g0 25 #[.int .i64 (w64 (1 - x0)), .slice A1 x1.length c1, .int .i64 x2, .slice A3 x3.length c3, .int .i64 x4, .int .i64 x5, .int .i64 x6, .int .i64 x7] :: Asn.row 3 1 (.slice A3 x3.length c3) x3.length (x3.flatMap eI) :: X) from S.selT (M := [.row 3 1 (.slice A1 x1.length c1) x1.length (x1.flatMap eI), .box g0 25 #[.int .i64 (w64 (1 - x0)), .slice A1 x1.length c1, .int .i64 x2, .slice A3 x3.length c3, .int .i64 x4, .int .i64 x5, .int .i64 x6, .int .i64 x7], .row 3 1 (.slice A3 x3.length c3) x3.length (x3.flatMap eI)]) 3 [1, 0, 2] rfl rfl rfl) ?_ ?_
          · refine ⟨?_, ?_, ?_, ?_, ?_, ?_, ?_, ?_, ?_, ?_, ?_, ?_, ?_, ?_, trivial⟩
            · intro a u X' hB hu hp hr hz hl S
              replace S : St w0 u ([] ++ X') := S
              exact .inl ⟨rfl, .pointer (some ⟨g0, 0, none⟩), u, (run_move rfl (hF.evB hB rfl rfl)), rfl, S⟩
            · intro a u X' hB hu hp hr hz hl S
              replace S : St w0 u ([] ++ X') := S
              exact .inl ⟨rfl, .pointer (some ⟨g0, 0, none⟩), u, (run_move rfl (hF.evB hB rfl rfl)), rfl, S⟩
            · intro a u X' hB hu hp hr hz hl S
              replace S : St w0 u ([] ++ X') := S
              have e25 : sl a 25 = .pointer (some ⟨g0, 0, none⟩) := hp 1 rfl
              exact .inl ⟨rfl, .pointer (some ⟨g0, 0, none⟩), u, (run_nilCheck rfl (ev_sl e25)), rfl, S⟩
            · intro a u X' hB hu hp hr hz hl S
              replace S : St w0 u ([] ++ X') := S
              have e26 : sl a 26 = .pointer (some ⟨g0, 0, none⟩) := hp 2 rfl
              exact .inl ⟨rfl, .pointer (some ⟨g0, 1, none⟩), u, (run_fieldAddr rfl fl25_1 (ev_sl e26) rfl), rfl, S⟩
            · intro a u X' hB hu hp hr hz hl S
              replace S : St w0 u ([] ++ X') := S
              have e27 : sl a 27 = .pointer (some ⟨g0, 1, none⟩) := hp 3 rfl
              exact .inl ⟨rfl, .slice A1 x1.length c1, u, (run_load1 rfl one23 (ev_sl e27) ((show Bk _ _ _ _ from S.mem (List.mem_append_right _ (hz 13 (List.mem_of_getElem? (i := 0) rfl) _ (List.mem_of_getElem? (i := 0) rfl)))).cell rfl)), rfl, S⟩
            · intro a u X' hB hu hp hr hz hl S
              replace S : St w0 u ([] ++ X') := S
              exact .inl ⟨rfl, .pointer (some ⟨g0, 0, none⟩), u, (run_move rfl (hF.evB hB rfl rfl)), rfl, S⟩
            · intro a u X' hB hu hp hr hz hl S
              replace S : St w0 u ([] ++ X') := S
              have e29 : sl a 29 = .pointer (some ⟨g0, 0, none⟩) := hp 5 rfl
              exact .inl ⟨rfl, .pointer (some ⟨g0, 0, none⟩), u, (run_nilCheck rfl (ev_sl e29)), rfl, S⟩
            · intro a u X' hB hu hp hr hz hl S
              replace S : St w0 u ([] ++ X') := S
              have e30 : sl a 30 = .pointer (some ⟨g0, 0, none⟩) := hp 6 rfl
              exact .inl ⟨rfl, .pointer (some ⟨g0, 7, none⟩), u, (run_fieldAddr rfl fl25_7 (ev_sl e30) rfl), rfl, S⟩
            · intro a u X' hB hu hp hr hz hl S
              replace S : St w0 u ([] ++ X') := S
              have e31 : sl a 31 = .pointer (some ⟨g0, 7, none⟩) := hp 7 rfl
              exact .inl ⟨rfl, .int .i64 x7, u, (run_load1 rfl one3 (ev_sl e31) ((show Bk _ _ _ _ from S.mem (List.mem_append_right _ (hz 13 (List.mem_of_getElem? (i := 0) rfl) _ (List.mem_of_getElem? (i := 0) rfl)))).cell rfl)), rfl, S⟩
            · intro a u X' hB hu hp hr hz hl S
              replace S : St w0 u ([] ++ X') := S
              have e32 : sl a 32 = .int .i64 x7 := hp 8 rfl
              exact .inl ⟨rfl, _, _, run_buildS (vs := [(0, .int .i64 x7)]) rfl ⟨⟨rfl, (ev_sl e32)⟩, trivial⟩ (bs23_1_0 rfl), rfl, S.newrowL (e := eI) (ls := ([x7] : List Int)) rfl eI_len (Nat.le_of_ble_eq_true rfl)⟩
            · intro a u X' hB hu hp hr hz hl S
              replace S : St w0 u ([.row 3 1 (.slice A1 x1.length c1) x1.length (x1.flatMap eI)] ++ X') := S
              have e28 : sl a 28 = .slice A1 x1.length c1 := hp 4 rfl
              have e33 : sl a 33 = .slice (slA (sl a 33)) ((([x7] : List Int) : List Int).length) ((([x7] : List Int) : List Int).length) := hp 9 rfl
              obtain ⟨B, d, w', hrun, S'⟩ := S.appendL (i := 0) (P := Tryd.prog) (ty := 23) (lx := x1) (ly := ([x7] : List Int)) (c' := ((([x7] : List Int) : List Int).length)) rfl rfl Tryd.underlying23 inf3 rfl (by decide) (own_rc (show Ow _ _ _ _ _ _ from S.mem (List.mem_append_right _ (hr 9 (List.mem_of_getElem? (i := 0) rfl) _ (List.mem_of_getElem? (i := 0) rfl))))).rd rfl eI_one hk108 (by decide)
              exact .inl ⟨rfl, _, w', run_append rfl (ev_sl e28) (ev_sl e33) hrun, rfl, S'⟩
            · intro a u X' hB hu hp hr hz hl S
              replace S : St w0 u ([] ++ X') := S
              have e24 : sl a 24 = .pointer (some ⟨g0, 0, none⟩) := hp 0 rfl
              exact .inl ⟨rfl, .pointer (some ⟨g0, 0, none⟩), u, (run_nilCheck rfl (ev_sl e24)), rfl, S⟩
            · intro a u X' hB hu hp hr hz hl S
              replace S : St w0 u ([] ++ X') := S
              have e35 : sl a 35 = .pointer (some ⟨g0, 0, none⟩) := hp 11 rfl
              exact .inl ⟨rfl, .pointer (some ⟨g0, 1, none⟩), u, (run_fieldAddr rfl fl25_1 (ev_sl e35) rfl), rfl, S⟩
            · intro a u X' hB hu hp hr hz hl S
              replace S : St w0 u ([.box g0 25 #[.int .i64 (w64 (1 - x0)), .slice A1 x1.length c1, .int .i64 x2, .slice A3 x3.length c3, .int .i64 x4, .int .i64 x5, .int .i64 x6, .int .i64 x7]] ++ X') := S
              have e34 : sl a 34 = .slice (slA (sl a 34)) ((x1 ++ ([x7] : List Int)).length) (slC (sl a 34)) := hp 10 rfl
              have e36 : sl a 36 = .pointer (some ⟨g0, 1, none⟩) := hp 12 rfl
              exact .inr (.inl ⟨rfl, _, run_store (cs' := #[.int .i64 (w64 (1 - x0)), .slice (slA (sl a 34)) ((x1 ++ ([x7] : List Int)).length) (slC (sl a 34)), .int .i64 x2, .slice A3 x3.length c3, .int .i64 x4, .int .i64 x5, .int .i64 x6, .int .i64 x7]) rfl sz23 (ev_sl e36) (ev_sl e34) rfl rfl rfl (S.free 0 rfl) rfl rfl, trivial, S.put 0 rfl (#[.int .i64 (w64 (1 - x0)), .slice (slA (sl a 34)) ((x1 ++ ([x7] : List Int)).length) (slC (sl a 34)), .int .i64 x2, .slice A3 x3.length c3, .int .i64 x4, .int .i64 x5, .int .i64 x6, .int .i64 x7])⟩)
          · intro a u hB hp S
            obtain ⟨q0, q1, q2, q3, q4, q5, q6, q7, q8, q9, q10, q11, q12, q13, _⟩ := hp
            have e24 : sl a 24 = .pointer (some ⟨g0, 0, none⟩) := q0
            have e25 : sl a 25 = .pointer (some ⟨g0, 0, none⟩) := q1
            have e26 : sl a 26 = .pointer (some ⟨g0, 0, none⟩) := q2
            have e27 : sl a 27 = .pointer (some ⟨g0, 1, none⟩) := q3
            have e28 : sl a 28 = .slice A1 x1.length c1 := q4
            have e29 : sl a 29 = .pointer (some ⟨g0, 0, none⟩) := q5
            have e30 : sl a 30 = .pointer (some ⟨g0, 0, none⟩) := q6
            have e31 : sl a 31 = .pointer (some ⟨g0, 7, none⟩) := q7
            have e32 : sl a 32 = .int .i64 x7 := q8
            have e33 : sl a 33 = .slice (slA (sl a 33)) ((([x7] : List Int) : List Int).length) ((([x7] : List Int) : List Int).length) := q9
            have e34 : sl a 34 = .slice (slA (sl a 34)) ((x1 ++ ([x7] : List Int)).length) (slC (sl a 34)) := q10
            have e35 : sl a 35 = .pointer (some ⟨g0, 0, none⟩) := q11
            have e36 : sl a 36 = .pointer (some ⟨g0, 1, none⟩) := q12
            replace S : St w0 u (Asn.row 3 1 (.slice (slA (sl a 33)) ((([x7] : List Int) : List Int).length) ((([x7] : List Int) : List Int).length)) ((([x7] : List Int) : List Int).length) (([x7] : List Int).flatMap eI) :: Asn.row 3 1 (.slice (slA (sl a 34)) ((x1 ++ ([x7] : List Int)).length) (slC (sl a 34))) ((x1 ++ ([x7] : List Int)).length) ((x1 ++ ([x7] : List Int)).flatMap eI) :: Asn.box g0 25 #[.int .i64 (w64 (1 - x0)), .slice (slA (sl a 34)) ((x1 ++ ([x7] : List Int)).length) (slC (sl a 34)), .int .i64 x2, .slice A3 x3.length c3, .int .i64 x4, .int .i64 x5, .int .i64 x6, .int .i64 x7] :: Asn.row 3 1 (.slice A3 x3.length c3) x3.length (x3.flatMap eI) :: X) := S
            clear q0 q1 q2 q3 q4 q5 q6 q7 q8 q9 q10 q11 q12 q13
            generalize slA (sl a 33) = B109 at *
            generalize slA (sl a 34) = B110 at *
            generalize slC (sl a 34) = d111 at *
            have hF := hF.region hB [(24, .pointer (some ⟨g0, 0, none⟩)), (25, .pointer (some ⟨g0, 0, none⟩)), (26, .pointer (some ⟨g0, 0, none⟩)), (27, .pointer (some ⟨g0, 1, none⟩)), (28, .slice A1 x1.length c1), (29, .pointer (some ⟨g0, 0, none⟩)), (30, .pointer (some ⟨g0, 0, none⟩)), (31, .pointer (some ⟨g0, 7, none⟩)), (32, .int .i64 x7), (33, .slice B109 ((([x7] : List Int) : List Int).length) ((([x7] : List Int) : List Int).length)), (34, .slice B110 ((x1 ++ ([x7] : List Int)).length) d111), (35, .pointer (some ⟨g0, 0, none⟩)), (36, .pointer (some ⟨g0, 1, none⟩))] (allSl_mem ⟨e24, e25, e26, e27, e28, e29, e30, e31, e32, e33, e34, e35, e36, trivial⟩) rfl
            clear hB e24 e25 e26 e27 e28 e29 e30 e31 e32 e33 e34 e35 e36
            obtain rfl := Option.some.inj hM106
            exact ⟨x1 ++ ([x7] : List Int), B110, d111, rfl, hF.keep _ trivial, S.selT (M := [.box g0 25 #[.int .i64 (w64 (1 - x0)), .slice B110 ((x1 ++ ([x7] : List Int)).length) d111, .int .i64 x2, .slice A3 x3.length c3, .int .i64 x4, .int .i64 x5, .int .i64 x6, .int .i64 x7], .row 3 1 (.slice B110 ((x1 ++ ([x7] : List Int)).length) d111) ((x1 ++ ([x7] : List Int)).length) ((x1 ++ ([x7] : List Int)).flatMap eI), .row 3 1 (.slice A3 x3.length c3) x3.length (x3.flatMap eI)]) 4 [2, 1, 3] rfl rfl rfl⟩
      · rintro a u ⟨p102, B104, d105, rfl, hF, S⟩
        repeat with_reducible (first | refine then_ret ?_ | refine in_ret ?_ | refine in_nrm ?_)
        refine ret0_gw (.inr rfl) hF rfl  ?_
        obtain rfl := Option.some.inj hM
        exact ⟨B104, p102.length, d105, A3, x3.length, c3, rfl, rfl, rfl, S.selT (M := [.box g0 25 #[.int .i64 (w64 (1 - x0)), .slice B104 p102.length d105, .int .i64 x2, .slice A3 x3.length c3, .int .i64 x4, .int .i64 x5, .int .i64 x6, .int .i64 x7], .row 3 1 (.slice B104 p102.length d105) p102.length (p102.flatMap eI), .row 3 1 (.slice A3 x3.length c3) x3.length (x3.flatMap eI)]) 3 [0, 1, 2] rfl rfl rfl⟩
    · replace hM := bif_t hc101 hM
      refine cond_t hF rfl hc101 ?_
      refine wp_ret ?_
      repeat with_reducible (first | refine then_ret ?_ | refine in_ret ?_ | refine in_nrm ?_)
      refine ret0_gw (.inl rfl) hF rfl  ?_
      obtain rfl := Option.some.inj hM
      exact ⟨A1, x1.length, c1, A3, x3.length, c3, rfl, rfl, rfl, S.selT (M := [.box g0 25 #[.int .i64 x0, .slice A1 x1.length c1, .int .i64 x2, .slice A3 x3.length c3, .int .i64 x4, .int .i64 x5, .int .i64 x6, .int .i64 x7], .row 3 1 (.slice A1 x1.length c1) x1.length (x1.flatMap eI), .row 3 1 (.slice A3 x3.length c3) x3.length (x3.flatMap eI)]) 3 [0, 1, 2] rfl rfl rfl⟩

set_option maxHeartbeats 4000000 in
theorem c_impl_Poll_hear {x0 : Int} {x1 : List Int} {x2 : Int} {x3 : List Int} {x4 : Int} {x5 : Int} {x6 : Int} {x7 : Int} {A1 : Option Addr} {n1 c1 : Nat} {A3 : Option Addr} {n3 c3 : Nat} {g0 : Nat} {w : World} {r : Int × List Int × Int × List Int × Int × Int × Int × Int} {w0 : World} {X : List Asn} (h1 : n1 = x1.length) (h3 : n3 = x3.length) (S : St w0 w (Asn.box g0 25 #[.int .i64 x0, .slice A1 n1 c1, .int .i64 x2, .slice A3 n3 c3, .int .i64 x4, .int .i64 x5, .int .i64 x6, .int .i64 x7] :: Asn.row 3 1 (.slice A1 n1 c1) n1 (x1.flatMap eI) :: Asn.row 3 1 (.slice A3 n3 c3) n3 (x3.flatMap eI) :: X)) (hM : m_impl_Poll_hear x0 x1 x2 x3 x4 x5 x6 x7 = some r) :
    Calls Tryd.prog 41 #[.pointer (some ⟨g0, 0, none⟩)] w (fun e w' => ∃ (B0 : Option Addr) (N0 D0 : Nat) (B1 : Option Addr) (N1 D1 : Nat), e = .returned (.tuple #[]) ∧ N0 = r.2.1.length ∧ N1 = r.2.2.2.1.length ∧ St w0 w' (Asn.box g0 25 #[.int .i64 r.1, .slice B0 N0 D0, .int .i64 r.2.2.1, .slice B1 N1 D1, .int .i64 r.2.2.2.2.1, .int .i64 r.2.2.2.2.2.1, .int .i64 r.2.2.2.2.2.2.1, .int .i64 r.2.2.2.2.2.2.2] :: Asn.row 3 1 (.slice B0 N0 D0) N0 (r.2.1.flatMap eI) :: Asn.row 3 1 (.slice B1 N1 D1) N1 (r.2.2.2.1.flatMap eI) :: X)) := by
  obtain rfl := h1
  obtain rfl := h3
  unfold m_impl_Poll_hear at hM
  refine calls_gw Tryd.func41 Tryd.ntmps41 rfl [(0, .pointer (some ⟨g0, 0, none⟩))] ⟨rfl, trivial⟩ rfl ?_
  intro a hF
  refine wp_seq ?_
  refine wp_seq ?_
  refine region_gw (D := [2, 3, 4, 5, 6, 7, 8, 9, 10]) (Lr := (Asn.box g0 25 #[.int .i64 x0, .slice A1 x1.length c1, .int .i64 x2, .slice A3 x3.length c3, .int .i64 x4, .int .i64 x5, .int .i64 x6, .int .i64 x7] :: Asn.row 3 1 (.slice A1 x1.length c1) x1.length (x1.flatMap eI) :: Asn.row 3 1 (.slice A3 x3.length c3) x3.length (x3.flatMap eI) :: X)) (deps := (fun | 0 => [2] | 1 => [3] | 2 => [4] | 3 => [5] | 4 => [6] | 5 => [7] | 6 => [8] | 7 => [9] | 8 => [10] | _ => [])) (rd := (fun _ => [])) (zr := (fun _ => []))
    (φ := fun i vs => match i, vs with | 0, [v2] => v2 = .pointer (some ⟨g0, 0, none⟩) | 1, [v3] => v3 = .pointer (some ⟨g0, 0, none⟩) | 2, [v4] => v4 = .pointer (some ⟨g0, 5, none⟩) | 3, [v5] => v5 = .int .i64 x5 | 4, [v6] => v6 = .pointer (some ⟨g0, 0, none⟩) | 5, [v7] => v7 = .pointer (some ⟨g0, 0, none⟩) | 6, [v8] => v8 = .pointer (some ⟨g0, 2, none⟩) | 7, [v9] => v9 = .int .i64 x2 | 8, [v10] => v10 = .bool (x5 != x2) | _, _ => True)
    (C := fun _ _ => [])
    (κ := (fun _ => none)) (Z := (fun _ => [])) mixed hF (by kernel_rfl) S ?_ ?_
  · refine ⟨?_, ?_, ?_, ?_, ?_, ?_, ?_, ?_, ?_, trivial⟩
    · intro a u X' hB hu hp hr hz hl S
      replace S : St w0 u ([] ++ X') := S
      exact .inl ⟨rfl, .pointer (some ⟨g0, 0, none⟩), u, (run_move rfl (hF.evB hB rfl rfl)), rfl, S⟩
    · intro a u X' hB hu hp hr hz hl S
      replace S : St w0 u ([] ++ X') := S
      have e2 : sl a 2 = .pointer (some ⟨g0, 0, none⟩) := hp 0 rfl
      exact .inl ⟨rfl, .pointer (some ⟨g0, 0, none⟩), u, (run_nilCheck rfl (ev_sl e2)), rfl, S⟩
    · intro a u X' hB hu hp hr hz hl S
      replace S : St w0 u ([] ++ X') := S
      have e3 : sl a 3 = .pointer (some ⟨g0, 0, none⟩) := hp 1 rfl
      exact .inl ⟨rfl, .pointer (some ⟨g0, 5, none⟩), u, (run_fieldAddr rfl fl25_5 (ev_sl e3) rfl), rfl, S⟩
    · intro a u X' hB hu hp hr hz hl S
      replace S : St w0 u ([] ++ X') := S
      have e4 : sl a 4 = .pointer (some ⟨g0, 5, none⟩) := hp 2 rfl
      exact .inl ⟨rfl, .int .i64 x5, u, (run_load1 rfl one3 (ev_sl e4) ((gr_box S hl 0 rfl).cell rfl)), rfl, S⟩
    · intro a u X' hB hu hp hr hz hl S
      replace S : St w0 u ([] ++ X') := S
      exact .inl ⟨rfl, .pointer (some ⟨g0, 0, none⟩), u, (run_move rfl (hF.evB hB rfl rfl)), rfl, S⟩
    · intro a u X' hB hu hp hr hz hl S
      replace S : St w0 u ([] ++ X') := S
      have e6 : sl a 6 = .pointer (some ⟨g0, 0, none⟩) := hp 4 rfl
      exact .inl ⟨rfl, .pointer (some ⟨g0, 0, none⟩), u, (run_nilCheck rfl (ev_sl e6)), rfl, S⟩
    · intro a u X' hB hu hp hr hz hl S
      replace S : St w0 u ([] ++ X') := S
      have e7 : sl a 7 = .pointer (some ⟨g0, 0, none⟩) := hp 5 rfl
      exact .inl ⟨rfl, .pointer (some ⟨g0, 2, none⟩), u, (run_fieldAddr rfl fl25_2 (ev_sl e7) rfl), rfl, S⟩
    · intro a u X' hB hu hp hr hz hl S
      replace S : St w0 u ([] ++ X') := S
      have e8 : sl a 8 = .pointer (some ⟨g0, 2, none⟩) := hp 6 rfl
      exact .inl ⟨rfl, .int .i64 x2, u, (run_load1 rfl one3 (ev_sl e8) ((gr_box S hl 0 rfl).cell rfl)), rfl, S⟩
    · intro a u X' hB hu hp hr hz hl S
      replace S : St w0 u ([] ++ X') := S
      have e5 : sl a 5 = .int .i64 x5 := hp 3 rfl
      have e9 : sl a 9 = .int .i64 x2 := hp 7 rfl
      exact .inl ⟨rfl, .bool (x5 != x2), u, (run_neq (ev_sl e5) (ev_sl e9) rfl), rfl, S⟩
  · intro a u hB hp S
    obtain ⟨q0, q1, q2, q3, q4, q5, q6, q7, q8, _⟩ := hp
    have e2 : sl a 2 = .pointer (some ⟨g0, 0, none⟩) := q0
    have e3 : sl a 3 = .pointer (some ⟨g0, 0, none⟩) := q1
    have e4 : sl a 4 = .pointer (some ⟨g0, 5, none⟩) := q2
    have e5 : sl a 5 = .int .i64 x5 := q3
    have e6 : sl a 6 = .pointer (some ⟨g0, 0, none⟩) := q4
    have e7 : sl a 7 = .pointer (some ⟨g0, 0, none⟩) := q5
    have e8 : sl a 8 = .pointer (some ⟨g0, 2, none⟩) := q6
    have e9 : sl a 9 = .int .i64 x2 := q7
    have e10 : sl a 10 = .bool (x5 != x2) := q8
    replace S : St w0 u (Asn.box g0 25 #[.int .i64 x0, .slice A1 x1.length c1, .int .i64 x2, .slice A3 x3.length c3, .int .i64 x4, .int .i64 x5, .int .i64 x6, .int .i64 x7] :: Asn.row 3 1 (.slice A1 x1.length c1) x1.length (x1.flatMap eI) :: Asn.row 3 1 (.slice A3 x3.length c3) x3.length (x3.flatMap eI) :: X) := S
    clear q0 q1 q2 q3 q4 q5 q6 q7 q8
    have hF := hF.region hB [(2, .pointer (some ⟨g0, 0, none⟩)), (3, .pointer (some ⟨g0, 0, none⟩)), (4, .pointer (some ⟨g0, 5, none⟩)), (5, .int .i64 x5), (6, .pointer (some ⟨g0, 0, none⟩)), (7, .pointer (some ⟨g0, 0, none⟩)), (8, .pointer (some ⟨g0, 2, none⟩)), (9, .int .i64 x2), (10, .bool (x5 != x2))] (allSl_mem ⟨e2, e3, e4, e5, e6, e7, e8, e9, e10, trivial⟩) rfl
    clear hB e2 e3 e4 e5 e6 e7 e8 e9 e10
    obtain ⟨o102, hM105, hM⟩ := bind_ex hM
    refine wp_cut (fun a u => ∃ (p101 : Int × List Int × Int) (B103 : Option Addr) (d104 : Nat), p101 = o102 ∧ Fr a 58 [(0, .pointer (some ⟨g0, 0, none⟩))] ∧ St w0 u (Asn.box g0 25 #[.int .i64 x0, .slice A1 x1.length c1, .int .i64 p101.1, .slice B103 p101.2.1.length d104, .int .i64 p101.2.2, .int .i64 x5, .int .i64 x6, .int .i64 x7] :: Asn.row 3 1 (.slice A1 x1.length c1) x1.length (x1.flatMap eI) :: Asn.row 3 1 (.slice B103 p101.2.1.length d104) p101.2.1.length (p101.2.1.flatMap eI) :: X)) ?_ ?_
    · have _ := trivial
      cases hc106 : (x5 != x2)
      · replace hM105 := bif_f hc106 hM105
        refine cond_f hF rfl hc106 ?_
        refine wp_skip ?_
        obtain rfl := Option.some.inj hM105
        exact ⟨(x2, x3, x4), A3, c3, rfl, hF.keep _ ⟨rfl, trivial⟩, S.selT (M := [.box g0 25 #[.int .i64 x0, .slice A1 x1.length c1, .int .i64 x2, .slice A3 x3.length c3, .int .i64 x4, .int .i64 x5, .int .i64 x6, .int .i64 x7], .row 3 1 (.slice A1 x1.length c1) x1.length (x1.flatMap eI), .row 3 1 (.slice A3 x3.length c3) x3.length (x3.flatMap eI)]) 3 [0, 1, 2] rfl rfl rfl⟩
      · replace hM105 := bif_t hc106 hM105
        refine cond_t hF rfl hc106 ?_
        refine wp_seq ?_
        refine wp_region_lit ?_
        refine op_val (v := .pointer (some ⟨g0, 0, none⟩)) rfl rfl hF rfl (run_move rfl (hF.ev rfl)) ?_; clear hF; intro a hF
        refine op_val (v := .pointer (some ⟨g0, 0, none⟩)) rfl rfl hF rfl (run_move rfl (hF.ev rfl)) ?_; clear hF; intro a hF
        refine op_val (v := .pointer (some ⟨g0, 0, none⟩)) rfl rfl hF rfl (run_move rfl (hF.ev rfl)) ?_; clear hF; intro a hF
        refine op_val (v := .pointer (some ⟨g0, 0, none⟩)) rfl rfl hF rfl (run_nilCheck rfl (hF.ev rfl)) ?_; clear hF; intro a hF
        refine op_val (v := .pointer (some ⟨g0, 5, none⟩)) rfl rfl hF rfl (run_fieldAddr rfl fl25_5 (hF.ev rfl) rfl) ?_; clear hF; intro a hF
        refine op_val (v := .int .i64 x5) rfl rfl hF rfl (run_load1 rfl one3 (hF.ev rfl) ((S.free 0 rfl).cell rfl)) ?_; clear hF; intro a hF
        refine op_val (v := .pointer (some ⟨g0, 0, none⟩)) rfl rfl hF rfl (run_nilCheck rfl (hF.ev rfl)) ?_; clear hF; intro a hF
        refine op_val (v := .pointer (some ⟨g0, 2, none⟩)) rfl rfl hF rfl (run_fieldAddr rfl fl25_2 (hF.ev rfl) rfl) ?_; clear hF; intro a hF
        refine op_do rfl rfl (run_store (cs' := #[.int .i64 x0, .slice A1 x1.length c1, .int .i64 x5, .slice A3 x3.length c3, .int .i64 x4, .int .i64 x5, .int .i64 x6, .int .i64 x7]) rfl sz3 (hF.ev rfl) (hF.ev rfl) rfl rfl rfl (S.free 0 rfl) rfl rfl) ?_; replace S := S.put 0 rfl (#[.int .i64 x0, .slice A1 x1.length c1, .int .i64 x5, .slice A3 x3.length c3, .int .i64 x4, .int .i64 x5, .int .i64 x6, .int .i64 x7])
        generalize World.setRow _ _ _ = u at S ⊢
        refine op_val (v := .pointer (some ⟨g0, 0, none⟩)) rfl rfl hF rfl (run_nilCheck rfl (hF.ev rfl)) ?_; clear hF; intro a hF
        refine op_val (v := .pointer (some ⟨g0, 4, none⟩)) rfl rfl hF rfl (run_fieldAddr rfl fl25_4 (hF.ev rfl) rfl) ?_; clear hF; intro a hF
        refine op_do rfl rfl (run_store (cs' := #[.int .i64 x0, .slice A1 x1.length c1, .int .i64 x5, .slice A3 x3.length c3, .int .i64 (-1), .int .i64 x5, .int .i64 x6, .int .i64 x7]) rfl sz3 (hF.ev rfl) rfl rfl rfl rfl (S.free 0 rfl) rfl rfl) ?_; replace S := S.put 0 rfl (#[.int .i64 x0, .slice A1 x1.length c1, .int .i64 x5, .slice A3 x3.length c3, .int .i64 (-1), .int .i64 x5, .int .i64 x6, .int .i64 x7])
        generalize World.setRow _ _ _ = u at S ⊢
        refine wpList_nil ?_
        refine wp_seq ?_
        refine wp_region_lit ?_
        refine op_val (v := .pointer (some ⟨g0, 0, none⟩)) rfl rfl hF rfl (run_move rfl (hF.ev rfl)) ?_; clear hF; intro a hF
        refine op_val (v := .pointer (some ⟨g0, 0, none⟩)) rfl rfl hF rfl (run_nilCheck rfl (hF.ev rfl)) ?_; clear hF; intro a hF
        refine op_val (v := .pointer (some ⟨g0, 3, none⟩)) rfl rfl hF rfl (run_fieldAddr rfl fl25_3 (hF.ev rfl) rfl) ?_; clear hF; intro a hF
        refine op_val (v := .slice A3 x3.length c3) rfl rfl hF rfl (run_load1 rfl one23 (hF.ev rfl) ((S.free 0 rfl).cell rfl)) ?_; clear hF; intro a hF
        refine op_val (v := .int .i64 (x3.length : Int)) rfl rfl hF rfl (run_lenL rfl rfl Tryd.underlying23 (hF.ev rfl)) ?_; clear hF; intro a hF
        refine op_val (v := .bool (ltB 0 (x3.length : Int))) rfl rfl hF rfl (run_gtr (hF.ev rfl) rfl rfl) ?_; clear hF; intro a hF
        refine wpList_nil ?_
        obtain ⟨o108, hM111, hM105⟩ := bind_ex hM105
        refine wp_cut (fun a u => ∃ (p107 : List Int × Int) (B109 : Option Addr) (d110 : Nat), p107 = o108 ∧ Fr a 58 [(0, .pointer (some ⟨g0, 0, none⟩))] ∧ St w0 u (Asn.box g0 25 #[.int .i64 x0, .slice A1 x1.length c1, .int .i64 x5, .slice B109 p107.1.length d110, .int .i64 p107.2, .int .i64 x5, .int .i64 x6, .int .i64 x7] :: Asn.row 3 1 (.slice A1 x1.length c1) x1.length (x1.flatMap eI) :: Asn.row 3 1 (.slice B109 p107.1.length d110) p107.1.length (p107.1.flatMap eI) :: X)) ?_ ?_
        · have _ := trivial
          cases hc112 : (ltB 0 (x3.length : Int))
          · replace hM111 := bif_f hc112 hM111
            refine cond_f hF rfl hc112 ?_
            refine wp_skip ?_
            obtain rfl := Option.some.inj hM111
            exact ⟨(x3, -1), A3, c3, rfl, hF.keep _ ⟨rfl, trivial⟩, S.selT (M := [.box g0 25 #[.int .i64 x0, .slice A1 x1.length c1, .int .i64 x5, .slice A3 x3.length c3, .int .i64 (-1), .int .i64 x5, .int .i64 x6, .int .i64 x7], .row 3 1 (.slice A1 x1.length c1) x1.length (x1.flatMap eI), .row 3 1 (.slice A3 x3.length c3) x3.length (x3.flatMap eI)]) 3 [0, 1, 2] rfl rfl rfl⟩
          · replace hM111 := bif_t hc112 hM111
            refine cond_t hF rfl hc112 ?_
            obtain ⟨hk113, hM111⟩ := chk_ex hM111
            replace hk113 := ixB_t hk113
            obtain ⟨hk114, hM111⟩ := chk_ex hM111
            replace hk114 := slB_t hk114
            refine region_gw (D := [27, 28, 29, 30, 31, 32, 33, 34, 35, 36, 37, 38, 39, 40, 41, 42, 43]) (Lr := (Asn.row 3 1 (.slice A1 x1.length c1) x1.length (x1.flatMap eI) :: X)) (deps := (fun | 0 => [27] | 1 => [28] | 2 => [29] | 3 => [30] | 4 => [31] | 5 => [32] | 6 => [33] | 7 => [34] | 8 => [35] | 9 => [36] | 10 => [37] | 11 => [38] | 12 => [39] | 13 => [40] | 14 => [41] | 15 => [41] | 16 => [42] | 17 => [43] | 18 => [43] | _ => [])) (rd := (fun _ => [])) (zr := (fun | 5 => [15] | 6 => [18] | 7 => [18] | 11 => [15] | 12 => [18] | _ => []))
              (φ := fun i vs => match i, vs with | 0, [v27] => v27 = .pointer (some ⟨g0, 0, none⟩) | 1, [v28] => v28 = .pointer (some ⟨g0, 0, none⟩) | 2, [v29] => v29 = .pointer (some ⟨g0, 0, none⟩) | 3, [v30] => v30 = .pointer (some ⟨g0, 0, none⟩) | 4, [v31] => v31 = .pointer (some ⟨g0, 3, none⟩) | 5, [v32] => v32 = .slice A3 x3.length c3 | 6, [v33] => v33 = .pointer (some ⟨adB A3, adO A3 + ((0 : Int).toNat) * 1, none⟩) | 7, [v34] => v34 = .int .i64 (x3.getD ((0 : Int).toNat) (0 : Int)) | 8, [v35] => v35 = .pointer (some ⟨g0, 0, none⟩) | 9, [v36] => v36 = .pointer (some ⟨g0, 0, none⟩) | 10, [v37] => v37 = .pointer (some ⟨g0, 3, none⟩) | 11, [v38] => v38 = .slice A3 x3.length c3 | 12, [v39] => v39 = .slice (subA c3 ((1 : Int).toNat) 1 A3) ((subL x3 1 (x3.length : Int)).length) (c3 - (1 : Int).toNat) | 13, [v40] => v40 = .pointer (some ⟨g0, 0, none⟩) | 14, [v41] => v41 = .pointer (some ⟨g0, 4, none⟩) | 16, [v42] => v42 = .pointer (some ⟨g0, 0, none⟩) | 17, [v43] => v43 = .pointer (some ⟨g0, 3, none⟩) | _, _ => True)
              (C := fun i vs => match i, vs with | 15, [v41] => [.box g0 25 #[.int .i64 x0, .slice A1 x1.length c1, .int .i64 x5, .slice A3 x3.length c3, .int .i64 (x3.getD ((0 : Int).toNat) (0 : Int)), .int .i64 x5, .int .i64 x6, .int .i64 x7]] | 18, [v43] => [.row 3 1 (.slice (subA c3 ((1 : Int).toNat) 1 A3) ((subL x3 1 (x3.length : Int)).length) (c3 - (1 : Int).toNat)) ((subL x3 1 (x3.length : Int)).length) ((subL x3 1 (x3.length : Int)).flatMap eI), .box g0 25 #[.int .i64 x0, .slice A1 x1.length c1, .int .i64 x5, .slice (subA c3 ((1 : Int).toNat) 1 A3) ((subL x3 1 (x3.length : Int)).length) (c3 - (1 : Int).toNat), .int .i64 (x3.getD ((0 : Int).toNat) (0 : Int)), .int .i64 x5, .int .i64 x6, .int .i64 x7]] | _, _ => [])
              (κ := (fun | 15 => some 18 | _ => none)) (Z := (fun | 15 => [.box g0 25 #[.int .i64 x0, .slice A1 x1.length c1, .int .i64 x5, .slice A3 x3.length c3, .int .i64 (-1), .int .i64 x5, .int .i64 x6, .int .i64 x7]] | 18 => [.row 3 1 (.slice A3 x3.length c3) x3.length (x3.flatMap eI)] | _ => [])) mixed hF (by kernel_rfl) (show St w0 _ (Asn.box g0 25 #[.int .i64 x0, .slice A1 x1.length c1, .int .i64 x5, .slice A3 x3.length c3, .int .i64 (-1), .int .i64 x5, .int .i64 x6, .int .i64 x7] :: Asn.row 3 1 (.slice A3 x3.length c3) x3.length (x3.flatMap eI) :: Asn.row 3 1 (.slice A1 x1.length c1) x1.length (x1.flatMap eI) :: X) from S.selT (M := [.box g0 25 #[.int .i64 x0, .slice A1 x1.length c1, .int .i64 x5, .slice A3 x3.length c3, .int .i64 (-1), .int .i64 x5, .int .i64 x6, .int .i64 x7], .row 3 1 (.slice A3 x3.length c3) x3.length (x3.flatMap eI), .row 3 1 (.slice A1 x1.length c1) x1.length (x1.flatMap eI)]) 3 [0, 2, 1] rfl rfl rfl) ?_ ?_
            · refine ⟨?_, ?_, ?_, ?_, ?_, ?_, ?_, ?_, ?_, ?_, ?_, ?_, ?_, ?_, ?_, ?_, ?_, ?_, ?_, trivial⟩
              · intro a u X' hB hu hp hr hz hl S
                replace S : St w0 u ([] ++ X') := S
                exact .inl ⟨rfl, .pointer (some ⟨g0, 0, none⟩), u, (run_move rfl (hF.evB hB rfl rfl)), rfl, S⟩
              · intro a u X' hB hu hp hr hz hl S
                replace S : St w0 u ([] ++ X') := S
                exact .inl ⟨rfl, .pointer (some ⟨g0, 0, none⟩), u, (run_move rfl (hF.evB hB rfl rfl)), rfl, S⟩
              · intro a u X' hB hu hp hr hz hl S
                replace S : St w0 u ([] ++ X') := S
                exact .inl ⟨rfl, .pointer (some ⟨g0, 0, none⟩), u, (run_move rfl (hF.evB hB rfl rfl)), rfl, S⟩
              · intro a u X' hB hu hp hr hz hl S
                replace S : St w0 u ([] ++ X') := S
                have e29 : sl a 29 = .pointer (some ⟨g0, 0, none⟩) := hp 2 rfl
                exact .inl ⟨rfl, .pointer (some ⟨g0, 0, none⟩), u, (run_nilCheck rfl (ev_sl e29)), rfl, S⟩
              · intro a u X' hB hu hp hr hz hl S
                replace S : St w0 u ([] ++ X') := S
                have e30 : sl a 30 = .pointer (some ⟨g0, 0, none⟩) := hp 3 rfl
                exact .inl ⟨rfl, .pointer (some ⟨g0, 3, none⟩), u, (run_fieldAddr rfl fl25_3 (ev_sl e30) rfl), rfl, S⟩
              · intro a u X' hB hu hp hr hz hl S
                replace S : St w0 u ([] ++ X') := S
                have e31 : sl a 31 = .pointer (some ⟨g0, 3, none⟩) := hp 4 rfl
                exact .inl ⟨rfl, .slice A3 x3.length c3, u, (run_load1 rfl one23 (ev_sl e31) ((show Bk _ _ _ _ from S.mem (List.mem_append_right _ (hz 15 (List.mem_of_getElem? (i := 0) rfl) _ (List.mem_of_getElem? (i := 0) rfl)))).cell rfl)), rfl, S⟩
              · intro a u X' hB hu hp hr hz hl S
                replace S : St w0 u ([] ++ X') := S
                have e32 : sl a 32 = .slice A3 x3.length c3 := hp 5 rfl
                exact .inl ⟨rfl, .pointer (some ⟨adB A3, adO A3 + ((0 : Int).toNat) * 1, none⟩), u, (run_indexAddr (b := adB A3) (off := adO A3) rfl Tryd.underlying23 sz3 ((ev_sl e32).trans (congrArg (fun A => Value.slice A x3.length c3) ((own_rc (show Ow _ _ _ _ _ _ from S.mem (List.mem_append_right _ (hz 18 (List.mem_of_getElem? (i := 0) rfl) _ (List.mem_of_getElem? (i := 0) rfl))))).rd.ad (ix_pos hk113)))) (ev_const _ _) hk113.1 hk113.2 (k' := adO A3 + ((0 : Int).toNat) * 1) rfl), rfl, S⟩
              · intro a u X' hB hu hp hr hz hl S
                replace S : St w0 u ([] ++ X') := S
                have e33 : sl a 33 = .pointer (some ⟨adB A3, adO A3 + ((0 : Int).toNat) * 1, none⟩) := hp 6 rfl
                exact .inl ⟨rfl, .int .i64 (x3.getD ((0 : Int).toNat) (0 : Int)), u, (run_load1 rfl one3 (ev_sl e33) (rd_el0 (l := x3) (own_rc (show Ow _ _ _ _ _ _ from S.mem (List.mem_append_right _ (hz 18 (List.mem_of_getElem? (i := 0) rfl) _ (List.mem_of_getElem? (i := 0) rfl))))).rd rfl eI_len (0 : Int) (ix_ltn hk113 rfl) rfl)), rfl, S⟩
              · intro a u X' hB hu hp hr hz hl S
                replace S : St w0 u ([] ++ X') := S
                exact .inl ⟨rfl, .pointer (some ⟨g0, 0, none⟩), u, (run_move rfl (hF.evB hB rfl rfl)), rfl, S⟩
              · intro a u X' hB hu hp hr hz hl S
                replace S : St w0 u ([] ++ X') := S
                have e35 : sl a 35 = .pointer (some ⟨g0, 0, none⟩) := hp 8 rfl
                exact .inl ⟨rfl, .pointer (some ⟨g0, 0, none⟩), u, (run_nilCheck rfl (ev_sl e35)), rfl, S⟩
              · intro a u X' hB hu hp hr hz hl S
                replace S : St w0 u ([] ++ X') := S
                have e36 : sl a 36 = .pointer (some ⟨g0, 0, none⟩) := hp 9 rfl
                exact .inl ⟨rfl, .pointer (some ⟨g0, 3, none⟩), u, (run_fieldAddr rfl fl25_3 (ev_sl e36) rfl), rfl, S⟩
              · intro a u X' hB hu hp hr hz hl S
                replace S : St w0 u ([] ++ X') := S
                have e37 : sl a 37 = .pointer (some ⟨g0, 3, none⟩) := hp 10 rfl
                exact .inl ⟨rfl, .slice A3 x3.length c3, u, (run_load1 rfl one23 (ev_sl e37) ((show Bk _ _ _ _ from S.mem (List.mem_append_right _ (hz 15 (List.mem_of_getElem? (i := 0) rfl) _ (List.mem_of_getElem? (i := 0) rfl)))).cell rfl)), rfl, S⟩
              · intro a u X' hB hu hp hr hz hl S
                replace S : St w0 u ([] ++ X') := S
                have e38 : sl a 38 = .slice A3 x3.length c3 := hp 11 rfl
                exact .inl ⟨rfl, .slice (subA c3 ((1 : Int).toNat) 1 A3) ((subL x3 1 (x3.length : Int)).length) (c3 - (1 : Int).toNat), u, (run_slicefrom (l := x3) rfl Tryd.underlying23 sz3 (ev_sl e38) (ev_const _ _) hk114 rfl (own_rc (show Ow _ _ _ _ _ _ from S.mem (List.mem_append_right _ (hz 18 (List.mem_of_getElem? (i := 0) rfl) _ (List.mem_of_getElem? (i := 0) rfl))))).cap), rfl, S⟩
              · intro a u X' hB hu hp hr hz hl S
                replace S : St w0 u ([] ++ X') := S
                have e27 : sl a 27 = .pointer (some ⟨g0, 0, none⟩) := hp 0 rfl
                exact .inl ⟨rfl, .pointer (some ⟨g0, 0, none⟩), u, (run_nilCheck rfl (ev_sl e27)), rfl, S⟩
              · intro a u X' hB hu hp hr hz hl S
                replace S : St w0 u ([] ++ X') := S
                have e40 : sl a 40 = .pointer (some ⟨g0, 0, none⟩) := hp 13 rfl
                exact .inl ⟨rfl, .pointer (some ⟨g0, 4, none⟩), u, (run_fieldAddr rfl fl25_4 (ev_sl e40) rfl), rfl, S⟩
              · intro a u X' hB hu hp hr hz hl S
                replace S : St w0 u ([.box g0 25 #[.int .i64 x0, .slice A1 x1.length c1, .int .i64 x5, .slice A3 x3.length c3, .int .i64 (-1), .int .i64 x5, .int .i64 x6, .int .i64 x7]] ++ X') := S
                have e34 : sl a 34 = .int .i64 (x3.getD ((0 : Int).toNat) (0 : Int)) := hp 7 rfl
                have e41 : sl a 41 = .pointer (some ⟨g0, 4, none⟩) := hp 14 rfl
                exact .inr (.inl ⟨rfl, _, run_store (cs' := #[.int .i64 x0, .slice A1 x1.length c1, .int .i64 x5, .slice A3 x3.length c3, .int .i64 (x3.getD ((0 : Int).toNat) (0 : Int)), .int .i64 x5, .int .i64 x6, .int .i64 x7]) rfl sz3 (ev_sl e41) (ev_sl e34) rfl rfl rfl (S.free 0 rfl) rfl rfl, trivial, S.put 0 rfl (#[.int .i64 x0, .slice A1 x1.length c1, .int .i64 x5, .slice A3 x3.length c3, .int .i64 (x3.getD ((0 : Int).toNat) (0 : Int)), .int .i64 x5, .int .i64 x6, .int .i64 x7])⟩)
              · intro a u X' hB hu hp hr hz hl S
                replace S : St w0 u ([] ++ X') := S
                have e28 : sl a 28 = .pointer (some ⟨g0, 0, none⟩) := hp 1 rfl
                exact .inl ⟨rfl, .pointer (some ⟨g0, 0, none⟩), u, (run_nilCheck rfl (ev_sl e28)), rfl, S⟩
              · intro a u X' hB hu hp hr hz hl S
                replace S : St w0 u ([] ++ X') := S
                have e42 : sl a 42 = .pointer (some ⟨g0, 0, none⟩) := hp 16 rfl
                exact .inl ⟨rfl, .pointer (some ⟨g0, 3, none⟩), u, (run_fieldAddr rfl fl25_3 (ev_sl e42) rfl), rfl, S⟩
              · intro a u X' hB hu hp hr hz hl S
                replace S : St w0 u ([.row 3 1 (.slice A3 x3.length c3) x3.length (x3.flatMap eI), .box g0 25 #[.int .i64 x0, .slice A1 x1.length c1, .int .i64 x5, .slice A3 x3.length c3, .int .i64 (x3.getD ((0 : Int).toNat) (0 : Int)), .int .i64 x5, .int .i64 x6, .int .i64 x7]] ++ X') := S
                have e39 : sl a 39 = .slice (subA c3 ((1 : Int).toNat) 1 A3) ((subL x3 1 (x3.length : Int)).length) (c3 - (1 : Int).toNat) := hp 12 rfl
                have e43 : sl a 43 = .pointer (some ⟨g0, 3, none⟩) := hp 17 rfl
                replace S := S.subrow 0 rfl eI_len rfl hk114
                exact .inr (.inl ⟨rfl, _, run_store (cs' := #[.int .i64 x0, .slice A1 x1.length c1, .int .i64 x5, .slice (subA c3 ((1 : Int).toNat) 1 A3) ((subL x3 1 (x3.length : Int)).length) (c3 - (1 : Int).toNat), .int .i64 (x3.getD ((0 : Int).toNat) (0 : Int)), .int .i64 x5, .int .i64 x6, .int .i64 x7]) rfl sz23 (ev_sl e43) (ev_sl e39) rfl rfl rfl (S.free 1 rfl) rfl rfl, trivial, S.put 1 rfl (#[.int .i64 x0, .slice A1 x1.length c1, .int .i64 x5, .slice (subA c3 ((1 : Int).toNat) 1 A3) ((subL x3 1 (x3.length : Int)).length) (c3 - (1 : Int).toNat), .int .i64 (x3.getD ((0 : Int).toNat) (0 : Int)), .int .i64 x5, .int .i64 x6, .int .i64 x7])⟩)
            · intro a u hB hp S
              obtain ⟨q0, q1, q2, q3, q4, q5, q6, q7, q8, q9, q10, q11, q12, q13, q14, q15, q16, q17, q18, _⟩ := hp
              have e27 : sl a 27 = .pointer (some ⟨g0, 0, none⟩) := q0
              have e28 : sl a 28 = .pointer (some ⟨g0, 0, none⟩) := q1
              have e29 : sl a 29 = .pointer (some ⟨g0, 0, none⟩) := q2
              have e30 : sl a 30 = .pointer (some ⟨g0, 0, none⟩) := q3
              have e31 : sl a 31 = .pointer (some ⟨g0, 3, none⟩) := q4
              have e32 : sl a 32 = .slice A3 x3.length c3 := q5
              have e33 : sl a 33 = .pointer (some ⟨adB A3, adO A3 + ((0 : Int).toNat) * 1, none⟩) := q6
              have e34 : sl a 34 = .int .i64 (x3.getD ((0 : Int).toNat) (0 : Int)) := q7
              have e35 : sl a 35 = .pointer (some ⟨g0, 0, none⟩) := q8
              have e36 : sl a 36 = .pointer (some ⟨g0, 0, none⟩) := q9
              have e37 : sl a 37 = .pointer (some ⟨g0, 3, none⟩) := q10
              have e38 : sl a 38 = .slice A3 x3.length c3 := q11
              have e39 : sl a 39 = .slice (subA c3 ((1 : Int).toNat) 1 A3) ((subL x3 1 (x3.length : Int)).length) (c3 - (1 : Int).toNat) := q12
              have e40 : sl a 40 = .pointer (some ⟨g0, 0, none⟩) := q13
              have e41 : sl a 41 = .pointer (some ⟨g0, 4, none⟩) := q14
              have e42 : sl a 42 = .pointer (some ⟨g0, 0, none⟩) := q16
              have e43 : sl a 43 = .pointer (some ⟨g0, 3, none⟩) := q17
              replace S : St w0 u (Asn.row 3 1 (.slice (subA c3 ((1 : Int).toNat) 1 A3) ((subL x3 1 (x3.length : Int)).length) (c3 - (1 : Int).toNat)) ((subL x3 1 (x3.length : Int)).length) ((subL x3 1 (x3.length : Int)).flatMap eI) :: Asn.box g0 25 #[.int .i64 x0, .slice A1 x1.length c1, .int .i64 x5, .slice (subA c3 ((1 : Int).toNat) 1 A3) ((subL x3 1 (x3.length : Int)).length) (c3 - (1 : Int).toNat), .int .i64 (x3.getD ((0 : Int).toNat) (0 : Int)), .int .i64 x5, .int .i64 x6, .int .i64 x7] :: Asn.row 3 1 (.slice A1 x1.length c1) x1.length (x1.flatMap eI) :: X) := S
              clear q0 q1 q2 q3 q4 q5 q6 q7 q8 q9 q10 q11 q12 q13 q14 q15 q16 q17 q18
              have hF := hF.region hB [(27, .pointer (some ⟨g0, 0, none⟩)), (28, .pointer (some ⟨g0, 0, none⟩)), (29, .pointer (some ⟨g0, 0, none⟩)), (30, .pointer (some ⟨g0, 0, none⟩)), (31, .pointer (some ⟨g0, 3, none⟩)), (32, .slice A3 x3.length c3), (33, .pointer (some ⟨adB A3, adO A3 + ((0 : Int).toNat) * 1, none⟩)), (34, .int .i64 (x3.getD ((0 : Int).toNat) (0 : Int))), (35, .pointer (some ⟨g0, 0, none⟩)), (36, .pointer (some ⟨g0, 0, none⟩)), (37, .pointer (some ⟨g0, 3, none⟩)), (38, .slice A3 x3.length c3), (39, .slice (subA c3 ((1 : Int).toNat) 1 A3) ((subL x3 1 (x3.length : Int)).length) (c3 - (1 : Int).toNat)), (40, .pointer (some ⟨g0, 0, none⟩)), (41, .pointer (some ⟨g0, 4, none⟩)), (42, .pointer (some ⟨g0, 0, none⟩)), (43, .pointer (some ⟨g0, 3, none⟩))] (allSl_mem ⟨e27, e28, e29, e30, e31, e32, e33, e34, e35, e36, e37, e38, e39, e40, e41, e42, e43, trivial⟩) rfl
              clear hB e27 e28 e29 e30 e31 e32 e33 e34 e35 e36 e37 e38 e39 e40 e41 e42 e43
              obtain rfl := Option.some.inj hM111
              exact ⟨(subL x3 1 (x3.length : Int), (x3.getD ((0 : Int).toNat) (0 : Int))), (subA c3 ((1 : Int).toNat) 1 A3), (c3 - (1 : Int).toNat), rfl, hF.keep _ ⟨rfl, trivial⟩, S.selT (M := [.box g0 25 #[.int .i64 x0, .slice A1 x1.length c1, .int .i64 x5, .slice (subA c3 ((1 : Int).toNat) 1 A3) ((subL x3 1 (x3.length : Int)).length) (c3 - (1 : Int).toNat), .int .i64 (x3.getD ((0 : Int).toNat) (0 : Int)), .int .i64 x5, .int .i64 x6, .int .i64 x7], .row 3 1 (.slice A1 x1.length c1) x1.length (x1.flatMap eI), .row 3 1 (.slice (subA c3 ((1 : Int).toNat) 1 A3) ((subL x3 1 (x3.length : Int)).length) (c3 - (1 : Int).toNat)) ((subL x3 1 (x3.length : Int)).length) ((subL x3 1 (x3.length : Int)).flatMap eI)]) 3 [1, 2, 0] rfl rfl rfl⟩
        · rintro a u ⟨p107, B109, d110, rfl, hF, S⟩
          obtain rfl := Option.some.inj hM105
          exact ⟨(x5, p107.1, p107.2), B109, d110, rfl, hF.keep _ ⟨rfl, trivial⟩, S.selT (M := [.box g0 25 #[.int .i64 x0, .slice A1 x1.length c1, .int .i64 x5, .slice B109 p107.1.length d110, .int .i64 p107.2, .int .i64 x5, .int .i64 x6, .int .i64 x7], .row 3 1 (.slice A1 x1.length c1) x1.length (x1.flatMap eI), .row 3 1 (.slice B109 p107.1.length d110) p107.1.length (p107.1.flatMap eI)]) 3 [0, 1, 2] rfl rfl rfl⟩
    · rintro a u ⟨p101, B103, d104, rfl, hF, S⟩
      refine region_gw (D := [44, 45, 46, 47, 48, 49, 50, 51, 52, 53, 54, 55, 56, 57]) (Lr := (Asn.row 3 1 (.slice A1 x1.length c1) x1.length (x1.flatMap eI) :: Asn.row 3 1 (.slice B103 p101.2.1.length d104) p101.2.1.length (p101.2.1.flatMap eI) :: X)) (deps := (fun | 0 => [44] | 1 => [45] | 2 => [46] | 3 => [47] | 4 => [48] | 5 => [49] | 6 => [50] | 7 => [51] | 8 => [52] | 9 => [53] | 10 => [54] | 11 => [55] | 12 => [55] | 13 => [56] | 14 => [57] | 15 => [57] | _ => [])) (rd := (fun _ => [])) (zr := (fun | 5 => [12] | 9 => [12] | _ => []))
        (φ := fun i vs => match i, vs with | 0, [v44] => v44 = .pointer (some ⟨g0, 0, none⟩) | 1, [v45] => v45 = .pointer (some ⟨g0, 0, none⟩) | 2, [v46] => v46 = .pointer (some ⟨g0, 0, none⟩) | 3, [v47] => v47 = .pointer (some ⟨g0, 0, none⟩) | 4, [v48] => v48 = .pointer (some ⟨g0, 2, none⟩) | 5, [v49] => v49 = .int .i64 p101.1 | 6, [v50] => v50 = .pointer (some ⟨g0, 0, none⟩) | 7, [v51] => v51 = .pointer (some ⟨g0, 0, none⟩) | 8, [v52] => v52 = .pointer (some ⟨g0, 4, none⟩) | 9, [v53] => v53 = .int .i64 p101.2.2 | 10, [v54] => v54 = .pointer (some ⟨g0, 0, none⟩) | 11, [v55] => v55 = .pointer (some ⟨g0, 6, none⟩) | 13, [v56] => v56 = .pointer (some ⟨g0, 0, none⟩) | 14, [v57] => v57 = .pointer (some ⟨g0, 7, none⟩) | _, _ => True)
        (C := fun i vs => match i, vs with | 12, [v55] => [.box g0 25 #[.int .i64 x0, .slice A1 x1.length c1, .int .i64 p101.1, .slice B103 p101.2.1.length d104, .int .i64 p101.2.2, .int .i64 x5, .int .i64 p101.1, .int .i64 x7]] | 15, [v57] => [.box g0 25 #[.int .i64 x0, .slice A1 x1.length c1, .int .i64 p101.1, .slice B103 p101.2.1.length d104, .int .i64 p101.2.2, .int .i64 x5, .int .i64 p101.1, .int .i64 p101.2.2]] | _, _ => [])
        (κ := (fun | 12 => some 15 | _ => none)) (Z := (fun | 12 => [.box g0 25 #[.int .i64 x0, .slice A1 x1.length c1, .int .i64 p101.1, .slice B103 p101.2.1.length d104, .int .i64 p101.2.2, .int .i64 x5, .int .i64 x6, .int .i64 x7]] | _ => [])) mixed hF (by kernel_rfl) (show St w0 _ (Asn.box g0 25 #[.int .i64 x0, .slice A1 x1.length c1, .int .i64 p101.1, .slice B103 p101.2.1.length d104, .int .i64 p101.2.2, .int .i64 x5, .int .i64 x6, .int .i64 x7] :: Asn.row 3 1 (.slice A1 x1.length c1) x1.length (x1.flatMap eI) :: Asn.row 3 1 (.slice B103 p101.2.1.length d104) p101.2.1.length (p101.2.1.flatMap eI) :: X) from S.selT (M := [.box g0 25 #[.int .i64 x0, .slice A1 x1.length c1, .int .i64 p101.1, .slice B103 p101.2.1.length d104, .int .i64 p101.2.2, .int .i64 x5, .int .i64 x6, .int .i64 x7], .row 3 1 (.slice A1 x1.length c1) x1.length (x1.flatMap eI), .row 3 1 (.slice B103 p101.2.1.length d104) p101.2.1.length (p101.2.1.flatMap eI)]) 3 [0, 1, 2] rfl rfl rfl) ?_ ?_
      · refine ⟨?_, ?_, ?_, ?_, ?_, ?_, ?_, ?_, ?_, ?_, ?_, ?_, ?_, ?_, ?_, ?_, trivial⟩
        · intro a u X' hB hu hp hr hz hl S
          replace S : St w0 u ([] ++ X') := S
          exact .inl ⟨rfl, .pointer (some ⟨g0, 0, none⟩), u, (run_move rfl (hF.evB hB rfl rfl)), rfl, S⟩
        · intro a u X' hB hu hp hr hz hl S
          replace S : St w0 u ([] ++ X') := S
          exact .inl ⟨rfl, .pointer (some ⟨g0, 0, none⟩), u, (run_move rfl (hF.evB hB rfl rfl)), rfl, S⟩
        · intro a u X' hB hu hp hr hz hl S
          replace S : St w0 u ([] ++ X') := S
          exact .inl ⟨rfl, .pointer (some ⟨g0, 0, none⟩), u, (run_move rfl (hF.evB hB rfl rfl)), rfl, S⟩
        · intro a u X' hB hu hp hr hz hl S
          replace S : St w0 u ([] ++ X') := S
          have e46 : sl a 46 = .pointer (some ⟨g0, 0, none⟩) := hp 2 rfl
          exact .inl ⟨rfl, .pointer (some ⟨g0, 0, none⟩), u, (run_nilCheck rfl (ev_sl e46)), rfl, S⟩
        · intro a u X' hB hu hp hr hz hl S
          replace S : St w0 u ([] ++ X') := S
          have e47 : sl a 47 = .pointer (some ⟨g0, 0, none⟩) := hp 3 rfl
          exact .inl ⟨rfl, .pointer (some ⟨g0, 2, none⟩), u, (run_fieldAddr rfl fl25_2 (ev_sl e47) rfl), rfl, S⟩
        · intro a u X' hB hu hp hr hz hl S
          replace S : St w0 u ([] ++ X') := S
          have e48 : sl a 48 = .pointer (some ⟨g0, 2, none⟩) := hp 4 rfl
          exact .inl ⟨rfl, .int .i64 p101.1, u, (run_load1 rfl one3 (ev_sl e48) ((show Bk _ _ _ _ from S.mem (List.mem_append_right _ (hz 12 (List.mem_of_getElem? (i := 0) rfl) _ (List.mem_of_getElem? (i := 0) rfl)))).cell rfl)), rfl, S⟩
        · intro a u X' hB hu hp hr hz hl S
          replace S : St w0 u ([] ++ X') := S
          exact .inl ⟨rfl, .pointer (some ⟨g0, 0, none⟩), u, (run_move rfl (hF.evB hB rfl rfl)), rfl, S⟩
        · intro a u X' hB hu hp hr hz hl S
          replace S : St w0 u ([] ++ X') := S
          have e50 : sl a 50 = .pointer (some ⟨g0, 0, none⟩) := hp 6 rfl
          exact .inl ⟨rfl, .pointer (some ⟨g0, 0, none⟩), u, (run_nilCheck rfl (ev_sl e50)), rfl, S⟩
        · intro a u X' hB hu hp hr hz hl S
          replace S : St w0 u ([] ++ X') := S
          have e51 : sl a 51 = .pointer (some ⟨g0, 0, none⟩) := hp 7 rfl
          exact .inl ⟨rfl, .pointer (some ⟨g0, 4, none⟩), u, (run_fieldAddr rfl fl25_4 (ev_sl e51) rfl), rfl, S⟩
        · intro a u X' hB hu hp hr hz hl S
          replace S : St w0 u ([] ++ X') := S
          have e52 : sl a 52 = .pointer (some ⟨g0, 4, none⟩) := hp 8 rfl
          exact .inl ⟨rfl, .int .i64 p101.2.2, u, (run_load1 rfl one3 (ev_sl e52) ((show Bk _ _ _ _ from S.mem (List.mem_append_right _ (hz 12 (List.mem_of_getElem? (i := 0) rfl) _ (List.mem_of_getElem? (i := 0) rfl)))).cell rfl)), rfl, S⟩
        · intro a u X' hB hu hp hr hz hl S
          replace S : St w0 u ([] ++ X') := S
          have e44 : sl a 44 = .pointer (some ⟨g0, 0, none⟩) := hp 0 rfl
          exact .inl ⟨rfl, .pointer (some ⟨g0, 0, none⟩), u, (run_nilCheck rfl (ev_sl e44)), rfl, S⟩
        · intro a u X' hB hu hp hr hz hl S
          replace S : St w0 u ([] ++ X') := S
          have e54 : sl a 54 = .pointer (some ⟨g0, 0, none⟩) := hp 10 rfl
          exact .inl ⟨rfl, .pointer (some ⟨g0, 6, none⟩), u, (run_fieldAddr rfl fl25_6 (ev_sl e54) rfl), rfl, S⟩
        · intro a u X' hB hu hp hr hz hl S
          replace S : St w0 u ([.box g0 25 #[.int .i64 x0, .slice A1 x1.length c1, .int .i64 p101.1, .slice B103 p101.2.1.length d104, .int .i64 p101.2.2, .int .i64 x5, .int .i64 x6, .int .i64 x7]] ++ X') := S
          have e49 : sl a 49 = .int .i64 p101.1 := hp 5 rfl
          have e55 : sl a 55 = .pointer (some ⟨g0, 6, none⟩) := hp 11 rfl
          exact .inr (.inl ⟨rfl, _, run_store (cs' := #[.int .i64 x0, .slice A1 x1.length c1, .int .i64 p101.1, .slice B103 p101.2.1.length d104, .int .i64 p101.2.2, .int .i64 x5, .int .i64 p101.1, .int .i64 x7]) rfl sz3 (ev_sl e55) (ev_sl e49) rfl rfl rfl (S.free 0 rfl) rfl rfl, trivial, S.put 0 rfl (#[.int .i64 x0, .slice A1 x1.length c1, .int .i64 p101.1, .slice B103 p101.2.1.length d104, .int .i64 p101.2.2, .int .i64 x5, .int .i64 p101.1, .int .i64 x7])⟩)
        · intro a u X' hB hu hp hr hz hl S
          replace S : St w0 u ([] ++ X') := S
          have e45 : sl a 45 = .pointer (some ⟨g0, 0, none⟩) := hp 1 rfl
          exact .inl ⟨rfl, .pointer (some ⟨g0, 0, none⟩), u, (run_nilCheck rfl (ev_sl e45)), rfl, S⟩
        · intro a u X' hB hu hp hr hz hl S
          replace S : St w0 u ([] ++ X') := S
          have e56 : sl a 56 = .pointer (some ⟨g0, 0, none⟩) := hp 13 rfl
          exact .inl ⟨rfl, .pointer (some ⟨g0, 7, none⟩), u, (run_fieldAddr rfl fl25_7 (ev_sl e56) rfl), rfl, S⟩
        · intro a u X' hB hu hp hr hz hl S
          replace S : St w0 u ([.box g0 25 #[.int .i64 x0, .slice A1 x1.length c1, .int .i64 p101.1, .slice B103 p101.2.1.length d104, .int .i64 p101.2.2, .int .i64 x5, .int .i64 p101.1, .int .i64 x7]] ++ X') := S
          have e53 : sl a 53 = .int .i64 p101.2.2 := hp 9 rfl
          have e57 : sl a 57 = .pointer (some ⟨g0, 7, none⟩) := hp 14 rfl
          exact .inr (.inl ⟨rfl, _, run_store (cs' := #[.int .i64 x0, .slice A1 x1.length c1, .int .i64 p101.1, .slice B103 p101.2.1.length d104, .int .i64 p101.2.2, .int .i64 x5, .int .i64 p101.1, .int .i64 p101.2.2]) rfl sz3 (ev_sl e57) (ev_sl e53) rfl rfl rfl (S.free 0 rfl) rfl rfl, trivial, S.put 0 rfl (#[.int .i64 x0, .slice A1 x1.length c1, .int .i64 p101.1, .slice B103 p101.2.1.length d104, .int .i64 p101.2.2, .int .i64 x5, .int .i64 p101.1, .int .i64 p101.2.2])⟩)
      · intro a u hB hp S
        obtain ⟨q0, q1, q2, q3, q4, q5, q6, q7, q8, q9, q10, q11, q12, q13, q14, q15, _⟩ := hp
        have e44 : sl a 44 = .pointer (some ⟨g0, 0, none⟩) := q0
        have e45 : sl a 45 = .pointer (some ⟨g0, 0, none⟩) := q1
        have e46 : sl a 46 = .pointer (some ⟨g0, 0, none⟩) := q2
        have e47 : sl a 47 = .pointer (some ⟨g0, 0, none⟩) := q3
        have e48 : sl a 48 = .pointer (some ⟨g0, 2, none⟩) := q4
        have e49 : sl a 49 = .int .i64 p101.1 := q5
        have e50 : sl a 50 = .pointer (some ⟨g0, 0, none⟩) := q6
        have e51 : sl a 51 = .pointer (some ⟨g0, 0, none⟩) := q7
        have e52 : sl a 52 = .pointer (some ⟨g0, 4, none⟩) := q8
        have e53 : sl a 53 = .int .i64 p101.2.2 := q9
        have e54 : sl a 54 = .pointer (some ⟨g0, 0, none⟩) := q10
        have e55 : sl a 55 = .pointer (some ⟨g0, 6, none⟩) := q11
        have e56 : sl a 56 = .pointer (some ⟨g0, 0, none⟩) := q13
        have e57 : sl a 57 = .pointer (some ⟨g0, 7, none⟩) := q14
        replace S : St w0 u (Asn.box g0 25 #[.int .i64 x0, .slice A1 x1.length c1, .int .i64 p101.1, .slice B103 p101.2.1.length d104, .int .i64 p101.2.2, .int .i64 x5, .int .i64 p101.1, .int .i64 p101.2.2] :: Asn.row 3 1 (.slice A1 x1.length c1) x1.length (x1.flatMap eI) :: Asn.row 3 1 (.slice B103 p101.2.1.length d104) p101.2.1.length (p101.2.1.flatMap eI) :: X) := S
        clear q0 q1 q2 q3 q4 q5 q6 q7 q8 q9 q10 q11 q12 q13 q14 q15
        have hF := hF.region hB [(44, .pointer (some ⟨g0, 0, none⟩)), (45, .pointer (some ⟨g0, 0, none⟩)), (46, .pointer (some ⟨g0, 0, none⟩)), (47, .pointer (some ⟨g0, 0, none⟩)), (48, .pointer (some ⟨g0, 2, none⟩)), (49, .int .i64 p101.1), (50, .pointer (some ⟨g0, 0, none⟩)), (51, .pointer (some ⟨g0, 0, none⟩)), (52, .pointer (some ⟨g0, 4, none⟩)), (53, .int .i64 p101.2.2), (54, .pointer (some ⟨g0, 0, none⟩)), (55, .pointer (some ⟨g0, 6, none⟩)), (56, .pointer (some ⟨g0, 0, none⟩)), (57, .pointer (some ⟨g0, 7, none⟩))] (allSl_mem ⟨e44, e45, e46, e47, e48, e49, e50, e51, e52, e53, e54, e55, e56, e57, trivial⟩) rfl
        clear hB e44 e45 e46 e47 e48 e49 e50 e51 e52 e53 e54 e55 e56 e57
        repeat with_reducible (first | refine then_ret ?_ | refine in_ret ?_ | refine in_nrm ?_)
        refine ret0_gw (.inr rfl) hF rfl  ?_
        obtain rfl := Option.some.inj hM
        exact ⟨A1, x1.length, c1, B103, p101.2.1.length, d104, rfl, rfl, rfl, S.selT (M := [.box g0 25 #[.int .i64 x0, .slice A1 x1.length c1, .int .i64 p101.1, .slice B103 p101.2.1.length d104, .int .i64 p101.2.2, .int .i64 x5, .int .i64 p101.1, .int .i64 p101.2.2], .row 3 1 (.slice A1 x1.length c1) x1.length (x1.flatMap eI), .row 3 1 (.slice B103 p101.2.1.length d104) p101.2.1.length (p101.2.1.flatMap eI)]) 3 [0, 1, 2] rfl rfl rfl⟩

set_option maxHeartbeats 4000000 in
theorem c_impl_Poll_do {x0 : Int} {x1 : List Int} {x2 : Int} {x3 : List Int} {x4 : Int} {x5 : Int} {x6 : Int} {x7 : Int} {x8 : Int} {x9 : Int} {A1 : Option Addr} {n1 c1 : Nat} {A3 : Option Addr} {n3 c3 : Nat} {g0 : Nat} {w : World} {r : Bool × Int × List Int × Int × List Int × Int × Int × Int × Int} {w0 : World} {X : List Asn} (h1 : n1 = x1.length) (h3 : n3 = x3.length) (S : St w0 w (Asn.box g0 25 #[.int .i64 x0, .slice A1 n1 c1, .int .i64 x2, .slice A3 n3 c3, .int .i64 x4, .int .i64 x5, .int .i64 x6, .int .i64 x7] :: Asn.row 3 1 (.slice A1 n1 c1) n1 (x1.flatMap eI) :: Asn.row 3 1 (.slice A3 n3 c3) n3 (x3.flatMap eI) :: X)) (hM : m_impl_Poll_do x0 x1 x2 x3 x4 x5 x6 x7 x8 x9 = some r) :
    Calls Tryd.prog 25 #[.pointer (some ⟨g0, 0, none⟩), .agg #[.int .i64 x8, .int .i64 x9]] w (fun e w' => ∃ (B0 : Option Addr) (N0 D0 : Nat) (B1 : Option Addr) (N1 D1 : Nat), e = .returned (.bool r.1) ∧ N0 = r.2.2.1.length ∧ N1 = r.2.2.2.2.1.length ∧ St w0 w' (Asn.box g0 25 #[.int .i64 r.2.1, .slice B0 N0 D0, .int .i64 r.2.2.2.1, .slice B1 N1 D1, .int .i64 r.2.2.2.2.2.1, .int .i64 r.2.2.2.2.2.2.1, .int .i64 r.2.2.2.2.2.2.2.1, .int .i64 r.2.2.2.2.2.2.2.2] :: Asn.row 3 1 (.slice B0 N0 D0) N0 (r.2.2.1.flatMap eI) :: Asn.row 3 1 (.slice B1 N1 D1) N1 (r.2.2.2.2.1.flatMap eI) :: X)) := by
  obtain rfl := h1
  obtain rfl := h3
  unfold m_impl_Poll_do at hM
  refine calls_gw Tryd.func25 Tryd.ntmps25 rfl [(0, .pointer (some ⟨g0, 0, none⟩)), (1, .agg #[.int .i64 x8, .int .i64 x9])] ⟨rfl, rfl, trivial⟩ rfl ?_
  intro a hF
  refine wp_seq ?_
  refine wp_region_lit ?_
  refine op_new (cs := #[.int .i64 x8, .int .i64 x9]) rfl rfl hF rfl S (run_box rfl (hF.ev rfl) rfl) ?_; clear hF S; intro a g101 u hF S
  refine op_val (v := .bool false) rfl rfl hF rfl (run_assign rfl rfl) ?_; clear hF; intro a hF
  refine wpList_nil ?_
  refine wp_seq ?_
  refine wp_seq ?_
  refine wp_region_lit ?_
  refine op_val (v := .pointer (some ⟨g101, 0, none⟩)) rfl rfl hF rfl (run_fieldAddr rfl fl31_0 (hF.ev rfl) rfl) ?_; clear hF; intro a hF
  refine op_val (v := .int .i64 x8) rfl rfl hF rfl (run_load1 rfl one3 (hF.ev rfl) ((S.free 0 rfl).cell rfl)) ?_; clear hF; intro a hF
  refine wpList_nil ?_
  refine wp_block ?_
  refine wp_seq ?_
  refine wp_region_lit ?_
  refine op_val (v := .bool (x8 == 0)) rfl rfl hF rfl (run_eql (hF.ev rfl) rfl rfl) ?_; clear hF; intro a hF
  refine op_val (v := .bool (x8 == 0)) rfl rfl hF rfl (run_assign rfl (hF.ev rfl)) ?_; clear hF; intro a hF
  refine wpList_nil ?_
  obtain ⟨o103, hM108, hM⟩ := bind_ex hM
  refine wp_cut (fun a u => ∃ (p102 : Int × List Int × Int × List Int × Int × Int × Int × Int) (B104 : Option Addr) (d105 : Nat) (B106 : Option Addr) (d107 : Nat), (Sum.inl p102) = o103 ∧ Fr a 70 [(4, .bool false)] ∧ St w0 u (Asn.box g0 25 #[.int .i64 p102.1, .slice B104 p102.2.1.length d105, .int .i64 p102.2.2.1, .slice B106 p102.2.2.2.1.length d107, .int .i64 p102.2.2.2.2.1, .int .i64 p102.2.2.2.2.2.1, .int .i64 p102.2.2.2.2.2.2.1, .int .i64 p102.2.2.2.2.2.2.2] :: Asn.row 3 1 (.slice B104 p102.2.1.length d105) p102.2.1.length (p102.2.1.flatMap eI) :: Asn.row 3 1 (.slice B106 p102.2.2.2.1.length d107) p102.2.2.2.1.length (p102.2.2.2.1.flatMap eI) :: X)) ?_ ?_
  · have _ := trivial
    cases hc109 : (x8 == 0)
    · replace hM108 := bif_f hc109 hM108
      refine cond_f hF rfl hc109 ?_
      refine wp_seq ?_
      refine wp_region_lit ?_
      refine op_val (v := .bool (x8 == 1)) rfl rfl hF rfl (run_eql (hF.ev rfl) rfl rfl) ?_; clear hF; intro a hF
      refine op_val (v := .bool (x8 == 1)) rfl rfl hF rfl (run_assign rfl (hF.ev rfl)) ?_; clear hF; intro a hF
      refine wpList_nil ?_
      obtain ⟨o111, hM116, hM108⟩ := bind_ex hM108
      refine wp_cut (fun a u => ∃ (p110 : Int × List Int × Int × List Int × Int × Int × Int × Int) (B112 : Option Addr) (d113 : Nat) (B114 : Option Addr) (d115 : Nat), (Sum.inl p110) = o111 ∧ Fr a 70 [(4, .bool false)] ∧ St w0 u (Asn.box g0 25 #[.int .i64 p110.1, .slice B112 p110.2.1.length d113, .int .i64 p110.2.2.1, .slice B114 p110.2.2.2.1.length d115, .int .i64 p110.2.2.2.2.1, .int .i64 p110.2.2.2.2.2.1, .int .i64 p110.2.2.2.2.2.2.1, .int .i64 p110.2.2.2.2.2.2.2] :: Asn.row 3 1 (.slice B112 p110.2.1.length d113) p110.2.1.length (p110.2.1.flatMap eI) :: Asn.row 3 1 (.slice B114 p110.2.2.2.1.length d115) p110.2.2.2.1.length (p110.2.2.2.1.flatMap eI) :: X)) ?_ ?_
      · have _ := trivial
        cases hc117 : (x8 == 1)
        · replace hM116 := bif_f hc117 hM116
          refine cond_f hF rfl hc117 ?_
          refine wp_seq ?_
          refine wp_region_lit ?_
          refine op_val (v := .bool (x8 == 2)) rfl rfl hF rfl (run_eql (hF.ev rfl) rfl rfl) ?_; clear hF; intro a hF
          refine op_val (v := .bool (x8 == 2)) rfl rfl hF rfl (run_assign rfl (hF.ev rfl)) ?_; clear hF; intro a hF
          refine wpList_nil ?_
          obtain ⟨o119, hM124, hM116⟩ := bind_ex hM116
          refine wp_cut (fun a u => ∃ (p118 : Int × List Int × Int × List Int × Int × Int × Int × Int) (B120 : Option Addr) (d121 : Nat) (B122 : Option Addr) (d123 : Nat), (Sum.inl p118) = o119 ∧ Fr a 70 [(4, .bool false)] ∧ St w0 u (Asn.box g0 25 #[.int .i64 p118.1, .slice B120 p118.2.1.length d121, .int .i64 p118.2.2.1, .slice B122 p118.2.2.2.1.length d123, .int .i64 p118.2.2.2.2.1, .int .i64 p118.2.2.2.2.2.1, .int .i64 p118.2.2.2.2.2.2.1, .int .i64 p118.2.2.2.2.2.2.2] :: Asn.row 3 1 (.slice B120 p118.2.1.length d121) p118.2.1.length (p118.2.1.flatMap eI) :: Asn.row 3 1 (.slice B122 p118.2.2.2.1.length d123) p118.2.2.2.1.length (p118.2.2.2.1.flatMap eI) :: X)) ?_ ?_
          · have _ := trivial
            cases hc125 : (x8 == 2)
            · replace hM124 := bif_f hc125 hM124
              refine cond_f hF rfl hc125 ?_
              refine wp_seq ?_
              refine wp_region_lit ?_
              refine op_val (v := .bool (x8 == 3)) rfl rfl hF rfl (run_eql (hF.ev rfl) rfl rfl) ?_; clear hF; intro a hF
              refine op_val (v := .bool (x8 == 3)) rfl rfl hF rfl (run_assign rfl (hF.ev rfl)) ?_; clear hF; intro a hF
              refine wpList_nil ?_
              obtain ⟨o127, hM132, hM124⟩ := bind_ex hM124
              refine wp_cut (fun a u => ∃ (p126 : Int × List Int × Int × List Int × Int × Int × Int × Int) (B128 : Option Addr) (d129 : Nat) (B130 : Option Addr) (d131 : Nat), (Sum.inl p126) = o127 ∧ Fr a 70 [(4, .bool false)] ∧ St w0 u (Asn.box g0 25 #[.int .i64 p126.1, .slice B128 p126.2.1.length d129, .int .i64 p126.2.2.1, .slice B130 p126.2.2.2.1.length d131, .int .i64 p126.2.2.2.2.1, .int .i64 p126.2.2.2.2.2.1, .int .i64 p126.2.2.2.2.2.2.1, .int .i64 p126.2.2.2.2.2.2.2] :: Asn.row 3 1 (.slice B128 p126.2.1.length d129) p126.2.1.length (p126.2.1.flatMap eI) :: Asn.row 3 1 (.slice B130 p126.2.2.2.1.length d131) p126.2.2.2.1.length (p126.2.2.2.1.flatMap eI) :: X)) ?_ ?_
              · have _ := trivial
                cases hc133 : (x8 == 3)
                · replace hM132 := bif_f hc133 hM132
                  refine cond_f hF rfl hc133 ?_
                  refine wp_seq ?_
                  refine wp_region_lit ?_
                  refine op_val (v := .bool (x8 == 4)) rfl rfl hF rfl (run_eql (hF.ev rfl) rfl rfl) ?_; clear hF; intro a hF
                  refine op_val (v := .bool (x8 == 4)) rfl rfl hF rfl (run_assign rfl (hF.ev rfl)) ?_; clear hF; intro a hF
                  refine wpList_nil ?_
                  obtain ⟨o135, hM136, hM132⟩ := bind_ex hM132
                  refine wp_cut (fun a u => ∃ (p134 : Int × Int × Int), (Sum.inl p134) = o135 ∧ Fr a 70 [(4, .bool false)] ∧ St w0 u (Asn.box g0 25 #[.int .i64 x0, .slice A1 x1.length c1, .int .i64 x2, .slice A3 x3.length c3, .int .i64 x4, .int .i64 p134.1, .int .i64 p134.2.1, .int .i64 p134.2.2] :: Asn.row 3 1 (.slice A1 x1.length c1) x1.length (x1.flatMap eI) :: Asn.row 3 1 (.slice A3 x3.length c3) x3.length (x3.flatMap eI) :: X)) ?_ ?_
                  · have _ := trivial
                    cases hc137 : (x8 == 4)
                    · replace hM136 := bif_f hc137 hM136
                      refine cond_f hF rfl hc137 ?_
                      refine wp_seq ?_
                      refine wp_region_lit ?_
                      refine op_val (v := .bool (x8 == 5)) rfl rfl hF rfl (run_eql (hF.ev rfl) rfl rfl) ?_; clear hF; intro a hF
                      refine op_val (v := .bool (x8 == 5)) rfl rfl hF rfl (run_assign rfl (hF.ev rfl)) ?_; clear hF; intro a hF
                      refine wpList_nil ?_
                      cases hc138 : (x8 == 5)
                      · replace hM136 := bif_f hc138 hM136
                        refine cond_f hF rfl hc138 ?_
                        refine wp_seq ?_
                        refine wp_region_lit ?_
                        refine op_val (v := .bool false) rfl rfl hF rfl (run_assign rfl rfl) ?_; clear hF; intro a hF
                        refine wpList_nil ?_
                        refine wp_ret ?_
                        repeat with_reducible (first | refine then_ret ?_ | refine in_ret ?_ | refine in_nrm ?_)
                        refine ret1_gw (.inl rfl) hF rfl (res_tmp (hF.ev rfl)) ?_
                        obtain rfl := Option.some.inj hM136
                        obtain rfl := Option.some.inj hM132
                        obtain rfl := Option.some.inj hM124
                        obtain rfl := Option.some.inj hM116
                        obtain rfl := Option.some.inj hM108
                        obtain rfl := Option.some.inj hM
                        exact ⟨A1, x1.length, c1, A3, x3.length, c3, rfl, rfl, rfl, S.selT (M := [.box g0 25 #[.int .i64 x0, .slice A1 x1.length c1, .int .i64 x2, .slice A3 x3.length c3, .int .i64 x4, .int .i64 x5, .int .i64 x6, .int .i64 x7], .row 3 1 (.slice A1 x1.length c1) x1.length (x1.flatMap eI), .row 3 1 (.slice A3 x3.length c3) x3.length (x3.flatMap eI)]) 4 [1, 2, 3] rfl rfl rfl⟩
                      · replace hM136 := bif_t hc138 hM136
                        refine cond_t hF rfl hc138 ?_
                        refine wp_seq ?_
                        refine wp_seq ?_
                        refine wp_region_lit ?_
                        refine op_val (v := .pointer (some ⟨g0, 0, none⟩)) rfl rfl hF rfl (run_move rfl (hF.ev rfl)) ?_; clear hF; intro a hF
                        refine op_val (v := .pointer (some ⟨g0, 0, none⟩)) rfl rfl hF rfl (run_nilCheck rfl (hF.ev rfl)) ?_; clear hF; intro a hF
                        refine op_val (v := .pointer (some ⟨g0, 6, none⟩)) rfl rfl hF rfl (run_fieldAddr rfl fl25_6 (hF.ev rfl) rfl) ?_; clear hF; intro a hF
                        refine op_val (v := .int .i64 x6) rfl rfl hF rfl (run_load1 rfl one3 (hF.ev rfl) ((S.free 1 rfl).cell rfl)) ?_; clear hF; intro a hF
                        refine op_val (v := .bool (x6 == (-1))) rfl rfl hF rfl (run_eql (hF.ev rfl) rfl rfl) ?_; clear hF; intro a hF
                        refine wpList_nil ?_
                        cases hc139 : (x6 == (-1))
                        · replace hM136 := bif_f hc139 hM136
                          refine cond_f hF rfl hc139 ?_
                          refine wp_skip ?_
                          refine wp_region_lit ?_
                          refine op_val (v := .pointer (some ⟨g0, 0, none⟩)) rfl rfl hF rfl (run_move rfl (hF.ev rfl)) ?_; clear hF; intro a hF
                          refine op_val (v := .pointer (some ⟨g0, 0, none⟩)) rfl rfl hF rfl (run_move rfl (hF.ev rfl)) ?_; clear hF; intro a hF
                          refine op_val (v := .pointer (some ⟨g0, 0, none⟩)) rfl rfl hF rfl (run_nilCheck rfl (hF.ev rfl)) ?_; clear hF; intro a hF
                          refine op_val (v := .pointer (some ⟨g0, 6, none⟩)) rfl rfl hF rfl (run_fieldAddr rfl fl25_6 (hF.ev rfl) rfl) ?_; clear hF; intro a hF
                          refine op_do rfl rfl (run_store (cs' := #[.int .i64 x0, .slice A1 x1.length c1, .int .i64 x2, .slice A3 x3.length c3, .int .i64 x4, .int .i64 x5, .int .i64 (-1), .int .i64 x7]) rfl sz3 (hF.ev rfl) rfl rfl rfl rfl (S.free 1 rfl) rfl rfl) ?_; replace S := S.put 1 rfl (#[.int .i64 x0, .slice A1 x1.length c1, .int .i64 x2, .slice A3 x3.length c3, .int .i64 x4, .int .i64 x5, .int .i64 (-1), .int .i64 x7])
                          generalize World.setRow _ _ _ = u at S ⊢
                          refine op_val (v := .pointer (some ⟨g0, 0, none⟩)) rfl rfl hF rfl (run_nilCheck rfl (hF.ev rfl)) ?_; clear hF; intro a hF
                          refine op_val (v := .pointer (some ⟨g0, 7, none⟩)) rfl rfl hF rfl (run_fieldAddr rfl fl25_7 (hF.ev rfl) rfl) ?_; clear hF; intro a hF
                          refine op_do rfl rfl (run_store (cs' := #[.int .i64 x0, .slice A1 x1.length c1, .int .i64 x2, .slice A3 x3.length c3, .int .i64 x4, .int .i64 x5, .int .i64 (-1), .int .i64 (-1)]) rfl sz3 (hF.ev rfl) rfl rfl rfl rfl (S.free 1 rfl) rfl rfl) ?_; replace S := S.put 1 rfl (#[.int .i64 x0, .slice A1 x1.length c1, .int .i64 x2, .slice A3 x3.length c3, .int .i64 x4, .int .i64 x5, .int .i64 (-1), .int .i64 (-1)])
                          generalize World.setRow _ _ _ = u at S ⊢
                          refine wpList_nil ?_
                          obtain rfl := Option.some.inj hM136
                          exact ⟨(x5, -1, -1), rfl, hF.keep _ ⟨rfl, trivial⟩, S.selT (M := [.box g0 25 #[.int .i64 x0, .slice A1 x1.length c1, .int .i64 x2, .slice A3 x3.length c3, .int .i64 x4, .int .i64 x5, .int .i64 (-1), .int .i64 (-1)], .row 3 1 (.slice A1 x1.length c1) x1.length (x1.flatMap eI), .row 3 1 (.slice A3 x3.length c3) x3.length (x3.flatMap eI)]) 4 [1, 2, 3] rfl rfl rfl⟩
                        · replace hM136 := bif_t hc139 hM136
                          refine cond_t hF rfl hc139 ?_
                          refine wp_seq ?_
                          refine wp_region_lit ?_
                          refine op_val (v := .bool false) rfl rfl hF rfl (run_assign rfl rfl) ?_; clear hF; intro a hF
                          refine wpList_nil ?_
                          refine wp_ret ?_
                          repeat with_reducible (first | refine then_ret ?_ | refine in_ret ?_ | refine in_nrm ?_)
                          refine ret1_gw (.inl rfl) hF rfl (res_tmp (hF.ev rfl)) ?_
                          obtain rfl := Option.some.inj hM136
                          obtain rfl := Option.some.inj hM132
                          obtain rfl := Option.some.inj hM124
                          obtain rfl := Option.some.inj hM116
                          obtain rfl := Option.some.inj hM108
                          obtain rfl := Option.some.inj hM
                          exact ⟨A1, x1.length, c1, A3, x3.length, c3, rfl, rfl, rfl, S.selT (M := [.box g0 25 #[.int .i64 x0, .slice A1 x1.length c1, .int .i64 x2, .slice A3 x3.length c3, .int .i64 x4, .int .i64 x5, .int .i64 x6, .int .i64 x7], .row 3 1 (.slice A1 x1.length c1) x1.length (x1.flatMap eI), .row 3 1 (.slice A3 x3.length c3) x3.length (x3.flatMap eI)]) 4 [1, 2, 3] rfl rfl rfl⟩
                    · replace hM136 := bif_t hc137 hM136
                      refine cond_t hF rfl hc137 ?_
                      refine wp_seq ?_
                      refine wp_seq ?_
                      refine wp_region_lit ?_
                      refine op_val (v := .pointer (some ⟨g0, 0, none⟩)) rfl rfl hF rfl (run_move rfl (hF.ev rfl)) ?_; clear hF; intro a hF
                      refine op_val (v := .pointer (some ⟨g0, 0, none⟩)) rfl rfl hF rfl (run_nilCheck rfl (hF.ev rfl)) ?_; clear hF; intro a hF
                      refine op_val (v := .pointer (some ⟨g0, 5, none⟩)) rfl rfl hF rfl (run_fieldAddr rfl fl25_5 (hF.ev rfl) rfl) ?_; clear hF; intro a hF
                      refine op_val (v := .int .i64 x5) rfl rfl hF rfl (run_load1 rfl one3 (hF.ev rfl) ((S.free 1 rfl).cell rfl)) ?_; clear hF; intro a hF
                      refine op_val (v := .bool (x5 == (-1))) rfl rfl hF rfl (run_eql (hF.ev rfl) rfl rfl) ?_; clear hF; intro a hF
                      refine wpList_nil ?_
                      cases hc140 : (x5 == (-1))
                      · replace hM136 := bif_f hc140 hM136
                        refine cond_f hF rfl hc140 ?_
                        refine wp_skip ?_
                        refine wp_region_lit ?_
                        refine op_val (v := .pointer (some ⟨g0, 0, none⟩)) rfl rfl hF rfl (run_move rfl (hF.ev rfl)) ?_; clear hF; intro a hF
                        refine op_val (v := .pointer (some ⟨g0, 0, none⟩)) rfl rfl hF rfl (run_nilCheck rfl (hF.ev rfl)) ?_; clear hF; intro a hF
                        refine op_val (v := .pointer (some ⟨g0, 5, none⟩)) rfl rfl hF rfl (run_fieldAddr rfl fl25_5 (hF.ev rfl) rfl) ?_; clear hF; intro a hF
                        refine op_do rfl rfl (run_store (cs' := #[.int .i64 x0, .slice A1 x1.length c1, .int .i64 x2, .slice A3 x3.length c3, .int .i64 x4, .int .i64 (-1), .int .i64 x6, .int .i64 x7]) rfl sz3 (hF.ev rfl) rfl rfl rfl rfl (S.free 1 rfl) rfl rfl) ?_; replace S := S.put 1 rfl (#[.int .i64 x0, .slice A1 x1.length c1, .int .i64 x2, .slice A3 x3.length c3, .int .i64 x4, .int .i64 (-1), .int .i64 x6, .int .i64 x7])
                        generalize World.setRow _ _ _ = u at S ⊢
                        refine wpList_nil ?_
                        obtain rfl := Option.some.inj hM136
                        exact ⟨(-1, x6, x7), rfl, hF.keep _ ⟨rfl, trivial⟩, S.selT (M := [.box g0 25 #[.int .i64 x0, .slice A1 x1.length c1, .int .i64 x2, .slice A3 x3.length c3, .int .i64 x4, .int .i64 (-1), .int .i64 x6, .int .i64 x7], .row 3 1 (.slice A1 x1.length c1) x1.length (x1.flatMap eI), .row 3 1 (.slice A3 x3.length c3) x3.length (x3.flatMap eI)]) 4 [1, 2, 3] rfl rfl rfl⟩
                      · replace hM136 := bif_t hc140 hM136
                        refine cond_t hF rfl hc140 ?_
                        refine wp_seq ?_
                        refine wp_region_lit ?_
                        refine op_val (v := .bool false) rfl rfl hF rfl (run_assign rfl rfl) ?_; clear hF; intro a hF
                        refine wpList_nil ?_
                        refine wp_ret ?_
                        repeat with_reducible (first | refine then_ret ?_ | refine in_ret ?_ | refine in_nrm ?_)
                        refine ret1_gw (.inl rfl) hF rfl (res_tmp (hF.ev rfl)) ?_
                        obtain rfl := Option.some.inj hM136
                        obtain rfl := Option.some.inj hM132
                        obtain rfl := Option.some.inj hM124
                        obtain rfl := Option.some.inj hM116
                        obtain rfl := Option.some.inj hM108
                        obtain rfl := Option.some.inj hM
                        exact ⟨A1, x1.length, c1, A3, x3.length, c3, rfl, rfl, rfl, S.selT (M := [.box g0 25 #[.int .i64 x0, .slice A1 x1.length c1, .int .i64 x2, .slice A3 x3.length c3, .int .i64 x4, .int .i64 x5, .int .i64 x6, .int .i64 x7], .row 3 1 (.slice A1 x1.length c1) x1.length (x1.flatMap eI), .row 3 1 (.slice A3 x3.length c3) x3.length (x3.flatMap eI)]) 4 [1, 2, 3] rfl rfl rfl⟩
                  · rintro a u ⟨p134, rfl, hF, S⟩
                    replace hM132 := elim_l hM132
                    obtain rfl := Option.some.inj hM132
                    exact ⟨(x0, x1, x2, x3, x4, p134.1, p134.2.1, p134.2.2), A1, c1, A3, c3, rfl, hF.keep _ ⟨rfl, trivial⟩, S.selT (M := [.box g0 25 #[.int .i64 x0, .slice A1 x1.length c1, .int .i64 x2, .slice A3 x3.length c3, .int .i64 x4, .int .i64 p134.1, .int .i64 p134.2.1, .int .i64 p134.2.2], .row 3 1 (.slice A1 x1.length c1) x1.length (x1.flatMap eI), .row 3 1 (.slice A3 x3.length c3) x3.length (x3.flatMap eI)]) 3 [0, 1, 2] rfl rfl rfl⟩
                · replace hM132 := bif_t hc133 hM132
                  refine cond_t hF rfl hc133 ?_
                  refine wp_seq ?_
                  refine wp_seq ?_
                  refine wp_region_lit ?_
                  refine op_val (v := .pointer (some ⟨g0, 0, none⟩)) rfl rfl hF rfl (run_move rfl (hF.ev rfl)) ?_; clear hF; intro a hF
                  refine op_val (v := .pointer (some ⟨g0, 0, none⟩)) rfl rfl hF rfl (run_nilCheck rfl (hF.ev rfl)) ?_; clear hF; intro a hF
                  refine op_val (v := .pointer (some ⟨g0, 6, none⟩)) rfl rfl hF rfl (run_fieldAddr rfl fl25_6 (hF.ev rfl) rfl) ?_; clear hF; intro a hF
                  refine op_val (v := .int .i64 x6) rfl rfl hF rfl (run_load1 rfl one3 (hF.ev rfl) ((S.free 1 rfl).cell rfl)) ?_; clear hF; intro a hF
                  refine op_val (v := .bool (x6 == (-1))) rfl rfl hF rfl (run_eql (hF.ev rfl) rfl rfl) ?_; clear hF; intro a hF
                  refine wpList_nil ?_
                  cases hc141 : (x6 == (-1))
                  · replace hM132 := bif_f hc141 hM132
                    refine cond_f hF rfl hc141 ?_
                    refine wp_skip ?_
                    refine wp_region_lit ?_
                    refine op_val (v := .pointer (some ⟨g0, 0, none⟩)) rfl rfl hF rfl (run_move rfl (hF.ev rfl)) ?_; clear hF; intro a hF
                    obtain ⟨p142, h142, hM132⟩ := bind_ex hM132
                    refine op_call rfl rfl hF rfl (run_call (vs := [.pointer (some ⟨g0, 0, none⟩)]) rfl rfl co42 ⟨(hF.ev rfl), trivial⟩) (c_impl_Poll_take (x0 := x0) (x1 := x1) (x2 := x2) (x3 := x3) (x4 := x4) (x5 := x5) (x6 := x6) (x7 := x7) rfl rfl (show St w0 _ (Asn.box g0 25 #[.int .i64 x0, .slice A1 x1.length c1, .int .i64 x2, .slice A3 x3.length c3, .int .i64 x4, .int .i64 x5, .int .i64 x6, .int .i64 x7] :: Asn.row 3 1 (.slice A1 x1.length c1) x1.length (x1.flatMap eI) :: Asn.row 3 1 (.slice A3 x3.length c3) x3.length (x3.flatMap eI) :: Asn.box g101 31 #[.int .i64 x8, .int .i64 x9] :: X) from S.selT (M := [.box g0 25 #[.int .i64 x0, .slice A1 x1.length c1, .int .i64 x2, .slice A3 x3.length c3, .int .i64 x4, .int .i64 x5, .int .i64 x6, .int .i64 x7], .row 3 1 (.slice A1 x1.length c1) x1.length (x1.flatMap eI), .row 3 1 (.slice A3 x3.length c3) x3.length (x3.flatMap eI), .box g101 31 #[.int .i64 x8, .int .i64 x9]]) 4 [1, 2, 3, 0] rfl rfl rfl) h142) ?_
                    rintro e u ⟨B143, n144, d145, B146, n147, d148, rfl, rfl, rfl, T⟩
                    refine ⟨_, rfl, ?_⟩
                    clear hF; intro a hF
                    clear S; have S := T; clear T
                    refine wpList_nil ?_
                    obtain rfl := Option.some.inj hM132
                    exact ⟨(p142.1, p142.2.1, p142.2.2.1, p142.2.2.2.1, p142.2.2.2.2.1, p142.2.2.2.2.2.1, p142.2.2.2.2.2.2.1, p142.2.2.2.2.2.2.2), B143, d145, B146, d148, rfl, hF.keep _ ⟨rfl, trivial⟩, S.selT (M := [.box g0 25 #[.int .i64 p142.1, .slice B143 p142.2.1.length d145, .int .i64 p142.2.2.1, .slice B146 p142.2.2.2.1.length d148, .int .i64 p142.2.2.2.2.1, .int .i64 p142.2.2.2.2.2.1, .int .i64 p142.2.2.2.2.2.2.1, .int .i64 p142.2.2.2.2.2.2.2], .row 3 1 (.slice B143 p142.2.1.length d145) p142.2.1.length (p142.2.1.flatMap eI), .row 3 1 (.slice B146 p142.2.2.2.1.length d148) p142.2.2.2.1.length (p142.2.2.2.1.flatMap eI)]) 4 [0, 1, 2] rfl rfl rfl⟩
                  · replace hM132 := bif_t hc141 hM132
                    refine cond_t hF rfl hc141 ?_
                    refine wp_seq ?_
                    refine wp_region_lit ?_
                    refine op_val (v := .bool false) rfl rfl hF rfl (run_assign rfl rfl) ?_; clear hF; intro a hF
                    refine wpList_nil ?_
                    refine wp_ret ?_
                    repeat with_reducible (first | refine then_ret ?_ | refine in_ret ?_ | refine in_nrm ?_)
                    refine ret1_gw (.inl rfl) hF rfl (res_tmp (hF.ev rfl)) ?_
                    obtain rfl := Option.some.inj hM132
                    obtain rfl := Option.some.inj hM124
                    obtain rfl := Option.some.inj hM116
                    obtain rfl := Option.some.inj hM108
                    obtain rfl := Option.some.inj hM
                    exact ⟨A1, x1.length, c1, A3, x3.length, c3, rfl, rfl, rfl, S.selT (M := [.box g0 25 #[.int .i64 x0, .slice A1 x1.length c1, .int .i64 x2, .slice A3 x3.length c3, .int .i64 x4, .int .i64 x5, .int .i64 x6, .int .i64 x7], .row 3 1 (.slice A1 x1.length c1) x1.length (x1.flatMap eI), .row 3 1 (.slice A3 x3.length c3) x3.length (x3.flatMap eI)]) 4 [1, 2, 3] rfl rfl rfl⟩
              · rintro a u ⟨p126, B128, d129, B130, d131, rfl, hF, S⟩
                replace hM124 := elim_l hM124
                obtain rfl := Option.some.inj hM124
                exact ⟨(p126.1, p126.2.1, p126.2.2.1, p126.2.2.2.1, p126.2.2.2.2.1, p126.2.2.2.2.2.1, p126.2.2.2.2.2.2.1, p126.2.2.2.2.2.2.2), B128, d129, B130, d131, rfl, hF.keep _ ⟨rfl, trivial⟩, S.selT (M := [.box g0 25 #[.int .i64 p126.1, .slice B128 p126.2.1.length d129, .int .i64 p126.2.2.1, .slice B130 p126.2.2.2.1.length d131, .int .i64 p126.2.2.2.2.1, .int .i64 p126.2.2.2.2.2.1, .int .i64 p126.2.2.2.2.2.2.1, .int .i64 p126.2.2.2.2.2.2.2], .row 3 1 (.slice B128 p126.2.1.length d129) p126.2.1.length (p126.2.1.flatMap eI), .row 3 1 (.slice B130 p126.2.2.2.1.length d131) p126.2.2.2.1.length (p126.2.2.2.1.flatMap eI)]) 3 [0, 1, 2] rfl rfl rfl⟩
            · replace hM124 := bif_t hc125 hM124
              refine cond_t hF rfl hc125 ?_
              refine wp_seq ?_
              refine wp_seq ?_
              refine wp_region_lit ?_
              refine op_val (v := .pointer (some ⟨g0, 0, none⟩)) rfl rfl hF rfl (run_move rfl (hF.ev rfl)) ?_; clear hF; intro a hF
              refine op_val (v := .pointer (some ⟨g0, 0, none⟩)) rfl rfl hF rfl (run_nilCheck rfl (hF.ev rfl)) ?_; clear hF; intro a hF
              refine op_val (v := .pointer (some ⟨g0, 5, none⟩)) rfl rfl hF rfl (run_fieldAddr rfl fl25_5 (hF.ev rfl) rfl) ?_; clear hF; intro a hF
              refine op_val (v := .int .i64 x5) rfl rfl hF rfl (run_load1 rfl one3 (hF.ev rfl) ((S.free 1 rfl).cell rfl)) ?_; clear hF; intro a hF
              refine op_val (v := .bool (x5 == (-1))) rfl rfl hF rfl (run_eql (hF.ev rfl) rfl rfl) ?_; clear hF; intro a hF
              refine wpList_nil ?_
              cases hc149 : (x5 == (-1))
              · replace hM124 := bif_f hc149 hM124
                refine cond_f hF rfl hc149 ?_
                refine wp_skip ?_
                refine wp_region_lit ?_
                refine op_val (v := .pointer (some ⟨g0, 0, none⟩)) rfl rfl hF rfl (run_move rfl (hF.ev rfl)) ?_; clear hF; intro a hF
                obtain ⟨p150, h150, hM124⟩ := bind_ex hM124
                refine op_call rfl rfl hF rfl (run_call (vs := [.pointer (some ⟨g0, 0, none⟩)]) rfl rfl co41 ⟨(hF.ev rfl), trivial⟩) (c_impl_Poll_hear (x0 := x0) (x1 := x1) (x2 := x2) (x3 := x3) (x4 := x4) (x5 := x5) (x6 := x6) (x7 := x7) rfl rfl (show St w0 _ (Asn.box g0 25 #[.int .i64 x0, .slice A1 x1.length c1, .int .i64 x2, .slice A3 x3.length c3, .int .i64 x4, .int .i64 x5, .int .i64 x6, .int .i64 x7] :: Asn.row 3 1 (.slice A1 x1.length c1) x1.length (x1.flatMap eI) :: Asn.row 3 1 (.slice A3 x3.length c3) x3.length (x3.flatMap eI) :: Asn.box g101 31 #[.int .i64 x8, .int .i64 x9] :: X) from S.selT (M := [.box g0 25 #[.int .i64 x0, .slice A1 x1.length c1, .int .i64 x2, .slice A3 x3.length c3, .int .i64 x4, .int .i64 x5, .int .i64 x6, .int .i64 x7], .row 3 1 (.slice A1 x1.length c1) x1.length (x1.flatMap eI), .row 3 1 (.slice A3 x3.length c3) x3.length (x3.flatMap eI), .box g101 31 #[.int .i64 x8, .int .i64 x9]]) 4 [1, 2, 3, 0] rfl rfl rfl) h150) ?_
                rintro e u ⟨B151, n152, d153, B154, n155, d156, rfl, rfl, rfl, T⟩
                refine ⟨_, rfl, ?_⟩
                clear hF; intro a hF
                clear S; have S := T; clear T
                refine wpList_nil ?_
                obtain rfl := Option.some.inj hM124
                exact ⟨(p150.1, p150.2.1, p150.2.2.1, p150.2.2.2.1, p150.2.2.2.2.1, p150.2.2.2.2.2.1, p150.2.2.2.2.2.2.1, p150.2.2.2.2.2.2.2), B151, d153, B154, d156, rfl, hF.keep _ ⟨rfl, trivial⟩, S.selT (M := [.box g0 25 #[.int .i64 p150.1, .slice B151 p150.2.1.length d153, .int .i64 p150.2.2.1, .slice B154 p150.2.2.2.1.length d156, .int .i64 p150.2.2.2.2.1, .int .i64 p150.2.2.2.2.2.1, .int .i64 p150.2.2.2.2.2.2.1, .int .i64 p150.2.2.2.2.2.2.2], .row 3 1 (.slice B151 p150.2.1.length d153) p150.2.1.length (p150.2.1.flatMap eI), .row 3 1 (.slice B154 p150.2.2.2.1.length d156) p150.2.2.2.1.length (p150.2.2.2.1.flatMap eI)]) 4 [0, 1, 2] rfl rfl rfl⟩
              · replace hM124 := bif_t hc149 hM124
                refine cond_t hF rfl hc149 ?_
                refine wp_seq ?_
                refine wp_region_lit ?_
                refine op_val (v := .bool false) rfl rfl hF rfl (run_assign rfl rfl) ?_; clear hF; intro a hF
                refine wpList_nil ?_
                refine wp_ret ?_
                repeat with_reducible (first | refine then_ret ?_ | refine in_ret ?_ | refine in_nrm ?_)
                refine ret1_gw (.inl rfl) hF rfl (res_tmp (hF.ev rfl)) ?_
                obtain rfl := Option.some.inj hM124
                obtain rfl := Option.some.inj hM116
                obtain rfl := Option.some.inj hM108
                obtain rfl := Option.some.inj hM
                exact ⟨A1, x1.length, c1, A3, x3.length, c3, rfl, rfl, rfl, S.selT (M := [.box g0 25 #[.int .i64 x0, .slice A1 x1.length c1, .int .i64 x2, .slice A3 x3.length c3, .int .i64 x4, .int .i64 x5, .int .i64 x6, .int .i64 x7], .row 3 1 (.slice A1 x1.length c1) x1.length (x1.flatMap eI), .row 3 1 (.slice A3 x3.length c3) x3.length (x3.flatMap eI)]) 4 [1, 2, 3] rfl rfl rfl⟩
          · rintro a u ⟨p118, B120, d121, B122, d123, rfl, hF, S⟩
            replace hM116 := elim_l hM116
            obtain rfl := Option.some.inj hM116
            exact ⟨(p118.1, p118.2.1, p118.2.2.1, p118.2.2.2.1, p118.2.2.2.2.1, p118.2.2.2.2.2.1, p118.2.2.2.2.2.2.1, p118.2.2.2.2.2.2.2), B120, d121, B122, d123, rfl, hF.keep _ ⟨rfl, trivial⟩, S.selT (M := [.box g0 25 #[.int .i64 p118.1, .slice B120 p118.2.1.length d121, .int .i64 p118.2.2.1, .slice B122 p118.2.2.2.1.length d123, .int .i64 p118.2.2.2.2.1, .int .i64 p118.2.2.2.2.2.1, .int .i64 p118.2.2.2.2.2.2.1, .int .i64 p118.2.2.2.2.2.2.2], .row 3 1 (.slice B120 p118.2.1.length d121) p118.2.1.length (p118.2.1.flatMap eI), .row 3 1 (.slice B122 p118.2.2.2.1.length d123) p118.2.2.2.1.length (p118.2.2.2.1.flatMap eI)]) 3 [0, 1, 2] rfl rfl rfl⟩
        · replace hM116 := bif_t hc117 hM116
          refine cond_t hF rfl hc117 ?_
          refine wp_region_lit ?_
          refine op_val (v := .pointer (some ⟨g0, 0, none⟩)) rfl rfl hF rfl (run_move rfl (hF.ev rfl)) ?_; clear hF; intro a hF
          refine op_val (v := .pointer (some ⟨g0, 0, none⟩)) rfl rfl hF rfl (run_move rfl (hF.ev rfl)) ?_; clear hF; intro a hF
          refine op_val (v := .pointer (some ⟨g0, 0, none⟩)) rfl rfl hF rfl (run_nilCheck rfl (hF.ev rfl)) ?_; clear hF; intro a hF
          refine op_val (v := .pointer (some ⟨g0, 0, none⟩)) rfl rfl hF rfl (run_fieldAddr rfl fl25_0 (hF.ev rfl) rfl) ?_; clear hF; intro a hF
          refine op_val (v := .int .i64 x0) rfl rfl hF rfl (run_load1 rfl one3 (hF.ev rfl) ((S.free 1 rfl).cell rfl)) ?_; clear hF; intro a hF
          refine op_val (v := .pointer (some ⟨g0, 0, none⟩)) rfl rfl hF rfl (run_nilCheck rfl (hF.ev rfl)) ?_; clear hF; intro a hF
          refine op_val (v := .pointer (some ⟨g0, 5, none⟩)) rfl rfl hF rfl (run_fieldAddr rfl fl25_5 (hF.ev rfl) rfl) ?_; clear hF; intro a hF
          refine op_do rfl rfl (run_store (cs' := #[.int .i64 x0, .slice A1 x1.length c1, .int .i64 x2, .slice A3 x3.length c3, .int .i64 x4, .int .i64 x0, .int .i64 x6, .int .i64 x7]) rfl sz3 (hF.ev rfl) (hF.ev rfl) rfl rfl rfl (S.free 1 rfl) rfl rfl) ?_; replace S := S.put 1 rfl (#[.int .i64 x0, .slice A1 x1.length c1, .int .i64 x2, .slice A3 x3.length c3, .int .i64 x4, .int .i64 x0, .int .i64 x6, .int .i64 x7])
          generalize World.setRow _ _ _ = u at S ⊢
          refine wpList_nil ?_
          obtain rfl := Option.some.inj hM116
          exact ⟨(x0, x1, x2, x3, x4, x0, x6, x7), A1, c1, A3, c3, rfl, hF.keep _ ⟨rfl, trivial⟩, S.selT (M := [.box g0 25 #[.int .i64 x0, .slice A1 x1.length c1, .int .i64 x2, .slice A3 x3.length c3, .int .i64 x4, .int .i64 x0, .int .i64 x6, .int .i64 x7], .row 3 1 (.slice A1 x1.length c1) x1.length (x1.flatMap eI), .row 3 1 (.slice A3 x3.length c3) x3.length (x3.flatMap eI)]) 4 [1, 2, 3] rfl rfl rfl⟩
      · rintro a u ⟨p110, B112, d113, B114, d115, rfl, hF, S⟩
        replace hM108 := elim_l hM108
        obtain rfl := Option.some.inj hM108
        exact ⟨(p110.1, p110.2.1, p110.2.2.1, p110.2.2.2.1, p110.2.2.2.2.1, p110.2.2.2.2.2.1, p110.2.2.2.2.2.2.1, p110.2.2.2.2.2.2.2), B112, d113, B114, d115, rfl, hF.keep _ ⟨rfl, trivial⟩, S.selT (M := [.box g0 25 #[.int .i64 p110.1, .slice B112 p110.2.1.length d113, .int .i64 p110.2.2.1, .slice B114 p110.2.2.2.1.length d115, .int .i64 p110.2.2.2.2.1, .int .i64 p110.2.2.2.2.2.1, .int .i64 p110.2.2.2.2.2.2.1, .int .i64 p110.2.2.2.2.2.2.2], .row 3 1 (.slice B112 p110.2.1.length d113) p110.2.1.length (p110.2.1.flatMap eI), .row 3 1 (.slice B114 p110.2.2.2.1.length d115) p110.2.2.2.1.length (p110.2.2.2.1.flatMap eI)]) 3 [0, 1, 2] rfl rfl rfl⟩
    · replace hM108 := bif_t hc109 hM108
      refine cond_t hF rfl hc109 ?_
      obtain ⟨hk157, hM108⟩ := chk_ex hM108
      replace hk157 := apB_t hk157
      refine region_gw (D := [9, 10, 11, 12, 13, 14, 15, 16, 17, 18, 19]) (Lr := (Asn.box g101 31 #[.int .i64 x8, .int .i64 x9] :: Asn.row 3 1 (.slice A1 x1.length c1) x1.length (x1.flatMap eI) :: X)) (deps := (fun | 0 => [9] | 1 => [10] | 2 => [11] | 3 => [12] | 4 => [13] | 5 => [14] | 6 => [15] | 7 => [16] | 8 => [17] | 9 => [18] | 10 => [19] | 11 => [19, 17] | _ => [])) (rd := (fun | 8 => [7] | _ => [])) (zr := (fun | 4 => [11] | _ => []))
        (φ := fun i vs => match i, vs with | 0, [v9] => v9 = .pointer (some ⟨g0, 0, none⟩) | 1, [v10] => v10 = .pointer (some ⟨g0, 0, none⟩) | 2, [v11] => v11 = .pointer (some ⟨g0, 0, none⟩) | 3, [v12] => v12 = .pointer (some ⟨g0, 3, none⟩) | 4, [v13] => v13 = .slice A3 x3.length c3 | 5, [v14] => v14 = .pointer (some ⟨g101, 1, none⟩) | 6, [v15] => v15 = .int .i64 x9 | 7, [v16] => v16 = .slice (slA v16) ((([x9] : List Int) : List Int).length) ((([x9] : List Int) : List Int).length) | 8, [v17] => v17 = .slice (slA v17) ((x3 ++ ([x9] : List Int)).length) (slC v17) | 9, [v18] => v18 = .pointer (some ⟨g0, 0, none⟩) | 10, [v19] => v19 = .pointer (some ⟨g0, 3, none⟩) | _, _ => True)
        (C := fun i vs => match i, vs with | 7, [v16] => [.row 3 1 (.slice (slA v16) ((([x9] : List Int) : List Int).length) ((([x9] : List Int) : List Int).length)) ((([x9] : List Int) : List Int).length) (([x9] : List Int).flatMap eI)] | 8, [v17] => [.row 3 1 (.slice (slA v17) ((x3 ++ ([x9] : List Int)).length) (slC v17)) ((x3 ++ ([x9] : List Int)).length) ((x3 ++ ([x9] : List Int)).flatMap eI)] | 11, [v19, v17] => [.box g0 25 #[.int .i64 x0, .slice A1 x1.length c1, .int .i64 x2, .slice (slA v17) ((x3 ++ ([x9] : List Int)).length) (slC v17), .int .i64 x4, .int .i64 x5, .int .i64 x6, .int .i64 x7]] | _, _ => [])
        (κ := (fun _ => none)) (Z := (fun | 8 => [.row 3 1 (.slice A3 x3.length c3) x3.length (x3.flatMap eI)] | 11 => [.box g0 25 #[.int .i64 x0, .slice A1 x1.length c1, .int .i64 x2, .slice A3 x3.length c3, .int .i64 x4, .int .i64 x5, .int .i64 x6, .int .i64 x7]] | _ => [])) mixed hF (by kernel_rfl) (show St w0 _ (Asn.row 3 1 (.slice A3 x3.length c3) x3.length (x3.flatMap eI) :: Asn.box g0 25 #[.int .i64 x0, .slice A1 x1.length c1, .int .i64 x2, .slice A3 x3.length c3, .int .i64 x4, .int .i64 x5, .int .i64 x6, .int .i64 x7] :: Asn.box g101 31 #[.int .i64 x8, .int .i64 x9] :: Asn.row 3 1 (.slice A1 x1.length c1) x1.length (x1.flatMap eI) :: X) from S.selT (M := [.row 3 1 (.slice A3 x3.length c3) x3.length (x3.flatMap eI), .box g0 25 #[.int .i64 x0, .slice A1 x1.length c1, .int .i64 x2, .slice A3 x3.length c3, .int .i64 x4, .int .i64 x5, .int .i64 x6, .int .i64 x7], .box g101 31 #[.int .i64 x8, .int .i64 x9], .row 3 1 (.slice A1 x1.length c1) x1.length (x1.flatMap eI)]) 4 [3, 1, 0, 2] rfl rfl rfl) ?_ ?_
      · refine ⟨?_, ?_, ?_, ?_, ?_, ?_, ?_, ?_, ?_, ?_, ?_, ?_, trivial⟩
        · intro a u X' hB hu hp hr hz hl S
          replace S : St w0 u ([] ++ X') := S
          exact .inl ⟨rfl, .pointer (some ⟨g0, 0, none⟩), u, (run_move rfl (hF.evB hB rfl rfl)), rfl, S⟩
        · intro a u X' hB hu hp hr hz hl S
          replace S : St w0 u ([] ++ X') := S
          exact .inl ⟨rfl, .pointer (some ⟨g0, 0, none⟩), u, (run_move rfl (hF.evB hB rfl rfl)), rfl, S⟩
        · intro a u X' hB hu hp hr hz hl S
          replace S : St w0 u ([] ++ X') := S
          have e10 : sl a 10 = .pointer (some ⟨g0, 0, none⟩) := hp 1 rfl
          exact .inl ⟨rfl, .pointer (some ⟨g0, 0, none⟩), u, (run_nilCheck rfl (ev_sl e10)), rfl, S⟩
        · intro a u X' hB hu hp hr hz hl S
          replace S : St w0 u ([] ++ X') := S
          have e11 : sl a 11 = .pointer (some ⟨g0, 0, none⟩) := hp 2 rfl
          exact .inl ⟨rfl, .pointer (some ⟨g0, 3, none⟩), u, (run_fieldAddr rfl fl25_3 (ev_sl e11) rfl), rfl, S⟩
        · intro a u X' hB hu hp hr hz hl S
          replace S : St w0 u ([] ++ X') := S
          have e12 : sl a 12 = .pointer (some ⟨g0, 3, none⟩) := hp 3 rfl
          exact .inl ⟨rfl, .slice A3 x3.length c3, u, (run_load1 rfl one23 (ev_sl e12) ((show Bk _ _ _ _ from S.mem (List.mem_append_right _ (hz 11 (List.mem_of_getElem? (i := 0) rfl) _ (List.mem_of_getElem? (i := 0) rfl)))).cell rfl)), rfl, S⟩
        · intro a u X' hB hu hp hr hz hl S
          replace S : St w0 u ([] ++ X') := S
          exact .inl ⟨rfl, .pointer (some ⟨g101, 1, none⟩), u, (run_fieldAddr rfl fl31_1 (hF.evB hB rfl rfl) rfl), rfl, S⟩
        · intro a u X' hB hu hp hr hz hl S
          replace S : St w0 u ([] ++ X') := S
          have e14 : sl a 14 = .pointer (some ⟨g101, 1, none⟩) := hp 5 rfl
          exact .inl ⟨rfl, .int .i64 x9, u, (run_load1 rfl one3 (ev_sl e14) ((gr_box S hl 0 rfl).cell rfl)), rfl, S⟩
        · intro a u X' hB hu hp hr hz hl S
          replace S : St w0 u ([] ++ X') := S
          have e15 : sl a 15 = .int .i64 x9 := hp 6 rfl
          exact .inl ⟨rfl, _, _, run_buildS (vs := [(0, .int .i64 x9)]) rfl ⟨⟨rfl, (ev_sl e15)⟩, trivial⟩ (bs23_1_0 rfl), rfl, S.newrowL (e := eI) (ls := ([x9] : List Int)) rfl eI_len (Nat.le_of_ble_eq_true rfl)⟩
        · intro a u X' hB hu hp hr hz hl S
          replace S : St w0 u ([.row 3 1 (.slice A3 x3.length c3) x3.length (x3.flatMap eI)] ++ X') := S
          have e13 : sl a 13 = .slice A3 x3.length c3 := hp 4 rfl
          have e16 : sl a 16 = .slice (slA (sl a 16)) ((([x9] : List Int) : List Int).length) ((([x9] : List Int) : List Int).length) := hp 7 rfl
          obtain ⟨B, d, w', hrun, S'⟩ := S.appendL (i := 0) (P := Tryd.prog) (ty := 23) (lx := x3) (ly := ([x9] : List Int)) (c' := ((([x9] : List Int) : List Int).length)) rfl rfl Tryd.underlying23 inf3 rfl (by decide) (own_rc (show Ow _ _ _ _ _ _ from S.mem (List.mem_append_right _ (hr 7 (List.mem_of_getElem? (i := 0) rfl) _ (List.mem_of_getElem? (i := 0) rfl))))).rd rfl eI_one hk157 (by decide)
          exact .inl ⟨rfl, _, w', run_append rfl (ev_sl e13) (ev_sl e16) hrun, rfl, S'⟩
        · intro a u X' hB hu hp hr hz hl S
          replace S : St w0 u ([] ++ X') := S
          have e9 : sl a 9 = .pointer (some ⟨g0, 0, none⟩) := hp 0 rfl
          exact .inl ⟨rfl, .pointer (some ⟨g0, 0, none⟩), u, (run_nilCheck rfl (ev_sl e9)), rfl, S⟩
        · intro a u X' hB hu hp hr hz hl S
          replace S : St w0 u ([] ++ X') := S
          have e18 : sl a 18 = .pointer (some ⟨g0, 0, none⟩) := hp 9 rfl
          exact .inl ⟨rfl, .pointer (some ⟨g0, 3, none⟩), u, (run_fieldAddr rfl fl25_3 (ev_sl e18) rfl), rfl, S⟩
        · intro a u X' hB hu hp hr hz hl S
          replace S : St w0 u ([.box g0 25 #[.int .i64 x0, .slice A1 x1.length c1, .int .i64 x2, .slice A3 x3.length c3, .int .i64 x4, .int .i64 x5, .int .i64 x6, .int .i64 x7]] ++ X') := S
          have e17 : sl a 17 = .slice (slA (sl a 17)) ((x3 ++ ([x9] : List Int)).length) (slC (sl a 17)) := hp 8 rfl
          have e19 : sl a 19 = .pointer (some ⟨g0, 3, none⟩) := hp 10 rfl
          exact .inr (.inl ⟨rfl, _, run_store (cs' := #[.int .i64 x0, .slice A1 x1.length c1, .int .i64 x2, .slice (slA (sl a 17)) ((x3 ++ ([x9] : List Int)).length) (slC (sl a 17)), .int .i64 x4, .int .i64 x5, .int .i64 x6, .int .i64 x7]) rfl sz23 (ev_sl e19) (ev_sl e17) rfl rfl rfl (S.free 0 rfl) rfl rfl, trivial, S.put 0 rfl (#[.int .i64 x0, .slice A1 x1.length c1, .int .i64 x2, .slice (slA (sl a 17)) ((x3 ++ ([x9] : List Int)).length) (slC (sl a 17)), .int .i64 x4, .int .i64 x5, .int .i64 x6, .int .i64 x7])⟩)
      · intro a u hB hp S
        obtain ⟨q0, q1, q2, q3, q4, q5, q6, q7, q8, q9, q10, q11, _⟩ := hp
        have e9 : sl a 9 = .pointer (some ⟨g0, 0, none⟩) := q0
        have e10 : sl a 10 = .pointer (some ⟨g0, 0, none⟩) := q1
        have e11 : sl a 11 = .pointer (some ⟨g0, 0, none⟩) := q2
        have e12 : sl a 12 = .pointer (some ⟨g0, 3, none⟩) := q3
        have e13 : sl a 13 = .slice A3 x3.length c3 := q4
        have e14 : sl a 14 = .pointer (some ⟨g101, 1, none⟩) := q5
        have e15 : sl a 15 = .int .i64 x9 := q6
        have e16 : sl a 16 = .slice (slA (sl a 16)) ((([x9] : List Int) : List Int).length) ((([x9] : List Int) : List Int).length) := q7
        have e17 : sl a 17 = .slice (slA (sl a 17)) ((x3 ++ ([x9] : List Int)).length) (slC (sl a 17)) := q8
        have e18 : sl a 18 = .pointer (some ⟨g0, 0, none⟩) := q9
        have e19 : sl a 19 = .pointer (some ⟨g0, 3, none⟩) := q10
        replace S : St w0 u (Asn.row 3 1 (.slice (slA (sl a 16)) ((([x9] : List Int) : List Int).length) ((([x9] : List Int) : List Int).length)) ((([x9] : List Int) : List Int).length) (([x9] : List Int).flatMap eI) :: Asn.row 3 1 (.slice (slA (sl a 17)) ((x3 ++ ([x9] : List Int)).length) (slC (sl a 17))) ((x3 ++ ([x9] : List Int)).length) ((x3 ++ ([x9] : List Int)).flatMap eI) :: Asn.box g0 25 #[.int .i64 x0, .slice A1 x1.length c1, .int .i64 x2, .slice (slA (sl a 17)) ((x3 ++ ([x9] : List Int)).length) (slC (sl a 17)), .int .i64 x4, .int .i64 x5, .int .i64 x6, .int .i64 x7] :: Asn.box g101 31 #[.int .i64 x8, .int .i64 x9] :: Asn.row 3 1 (.slice A1 x1.length c1) x1.length (x1.flatMap eI) :: X) := S
        clear q0 q1 q2 q3 q4 q5 q6 q7 q8 q9 q10 q11
        generalize slA (sl a 16) = B158 at *
        generalize slA (sl a 17) = B159 at *
        generalize slC (sl a 17) = d160 at *
        have hF := hF.region hB [(9, .pointer (some ⟨g0, 0, none⟩)), (10, .pointer (some ⟨g0, 0, none⟩)), (11, .pointer (some ⟨g0, 0, none⟩)), (12, .pointer (some ⟨g0, 3, none⟩)), (13, .slice A3 x3.length c3), (14, .pointer (some ⟨g101, 1, none⟩)), (15, .int .i64 x9), (16, .slice B158 ((([x9] : List Int) : List Int).length) ((([x9] : List Int) : List Int).length)), (17, .slice B159 ((x3 ++ ([x9] : List Int)).length) d160), (18, .pointer (some ⟨g0, 0, none⟩)), (19, .pointer (some ⟨g0, 3, none⟩))] (allSl_mem ⟨e9, e10, e11, e12, e13, e14, e15, e16, e17, e18, e19, trivial⟩) rfl
        clear hB e9 e10 e11 e12 e13 e14 e15 e16 e17 e18 e19
        obtain rfl := Option.some.inj hM108
        exact ⟨(x0, x1, x2, x3 ++ ([x9] : List Int), x4, x5, x6, x7), A1, c1, B159, d160, rfl, hF.keep _ ⟨rfl, trivial⟩, S.selT (M := [.box g0 25 #[.int .i64 x0, .slice A1 x1.length c1, .int .i64 x2, .slice B159 ((x3 ++ ([x9] : List Int)).length) d160, .int .i64 x4, .int .i64 x5, .int .i64 x6, .int .i64 x7], .row 3 1 (.slice A1 x1.length c1) x1.length (x1.flatMap eI), .row 3 1 (.slice B159 ((x3 ++ ([x9] : List Int)).length) d160) ((x3 ++ ([x9] : List Int)).length) ((x3 ++ ([x9] : List Int)).flatMap eI)]) 5 [2, 4, 1] rfl rfl rfl⟩
  · rintro a u ⟨p102, B104, d105, B106, d107, rfl, hF, S⟩
    replace hM := elim_l hM
    refine wp_seq ?_
    refine wp_region_lit ?_
    refine op_val (v := .bool true) rfl rfl hF rfl (run_assign rfl rfl) ?_; clear hF; intro a hF
    refine wpList_nil ?_
    refine wp_ret ?_
    repeat with_reducible (first | refine then_ret ?_ | refine in_ret ?_ | refine in_nrm ?_)
    refine ret1_gw (.inl rfl) hF rfl (res_tmp (hF.ev rfl)) ?_
    obtain rfl := Option.some.inj hM
    exact ⟨B104, p102.2.1.length, d105, B106, p102.2.2.2.1.length, d107, rfl, rfl, rfl, S.selT (M := [.box g0 25 #[.int .i64 p102.1, .slice B104 p102.2.1.length d105, .int .i64 p102.2.2.1, .slice B106 p102.2.2.2.1.length d107, .int .i64 p102.2.2.2.2.1, .int .i64 p102.2.2.2.2.2.1, .int .i64 p102.2.2.2.2.2.2.1, .int .i64 p102.2.2.2.2.2.2.2], .row 3 1 (.slice B104 p102.2.1.length d105) p102.2.1.length (p102.2.1.flatMap eI), .row 3 1 (.slice B106 p102.2.2.2.1.length d107) p102.2.2.2.1.length (p102.2.2.2.1.flatMap eI)]) 3 [0, 1, 2] rfl rfl rfl⟩

end Go.Proofs.YtceghkdjpkegaaaDoor
