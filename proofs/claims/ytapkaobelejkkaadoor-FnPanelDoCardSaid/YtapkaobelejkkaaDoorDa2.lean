/- Calls return what the models say. -/
import Derived.Test.YtapkaobelejkkaaDoorDa1
namespace Go.Proofs.YtapkaobelejkkaaDoor
open Go.ChangeShapes Go.WideShapes Go.ChangeAt Go.RowKit
set_option linter.unusedVariables false
set_option linter.unusedSimpArgs false

set_option maxHeartbeats 4000000 in
theorem c_spec_PanelDo {x0 : List Bool} {x1 : Int} {x2 : Int} {x3 : Bool} {x4 : Int} {x5 : Int} {x6 : Int} {x7 : Int} {x8 : Bool} {A0 : Option Addr} {n0 c0 : Nat} {w : World} {r : List Bool × Int × Int × Bool × Int × Bool} (h0 : Rt w 1 eB A0 n0 c0 x0) (hM : m_spec_PanelDo x0 x1 x2 x3 x4 x5 x6 x7 x8 = some r) :
    Calls Tryd.prog 8 #[.agg #[.slice A0 n0 c0, .int .i64 x1, .int .i64 x2, .bool x3, .int .i64 x4], .agg #[.int .i64 x5, .int .i64 x6, .int .i64 x7, .bool x8]] w (fun e w' => ∃ (B0 : Option Addr) (N0 D0 : Nat), e = .returned (.tuple #[.agg #[.slice B0 N0 D0, .int .i64 r.2.1, .int .i64 r.2.2.1, .bool r.2.2.2.1, .int .i64 r.2.2.2.2.1], .bool r.2.2.2.2.2]) ∧ N0 = r.1.length ∧ St w w' [.row 4 1 (.slice B0 N0 D0) N0 (r.1.flatMap eB)]) := by
  obtain rfl := h0.len
  unfold m_spec_PanelDo at hM
  refine calls_gw Tryd.func8 Tryd.ntmps8 rfl [(0, .agg #[.slice A0 x0.length c0, .int .i64 x1, .int .i64 x2, .bool x3, .int .i64 x4]), (1, .agg #[.int .i64 x5, .int .i64 x6, .int .i64 x7, .bool x8])] ⟨rfl, rfl, trivial⟩ rfl ?_
  intro a hF
  have S := St.nil w
  refine wp_seq ?_
  refine wp_region_lit ?_
  refine op_new (cs := #[.slice A0 x0.length c0, .int .i64 x1, .int .i64 x2, .bool x3, .int .i64 x4]) rfl rfl hF rfl S (run_box rfl (hF.ev rfl) rfl) ?_; clear hF S; intro a g101 u hF S
  refine op_new (cs := #[.int .i64 x5, .int .i64 x6, .int .i64 x7, .bool x8]) rfl rfl hF rfl S (run_box rfl (hF.ev rfl) rfl) ?_; clear hF S; intro a g102 u hF S
  refine op_new (cs := #[.slice none 0 0, .int .i64 0, .int .i64 0, .bool false, .int .i64 0]) rfl rfl hF rfl S (run_allocZ rfl zr25) ?_; clear hF S; intro a g103 u hF S
  refine op_val (v := .bool false) rfl rfl hF rfl (run_assign rfl rfl) ?_; clear hF; intro a hF
  refine wpList_nil ?_
  refine wp_seq ?_
  refine wp_seq ?_
  refine wp_region_lit ?_
  refine op_val (v := .agg #[.slice A0 x0.length c0, .int .i64 x1, .int .i64 x2, .bool x3, .int .i64 x4]) rfl rfl hF rfl (run_loadN rfl ag25 (hF.ev rfl) rfl ((S.free 2 rfl).cells 0 #[.slice A0 x0.length c0, .int .i64 x1, .int .i64 x2, .bool x3, .int .i64 x4] rfl)) ?_; clear hF; intro a hF
  obtain ⟨p104, h104, hM⟩ := bind_ex hM
  refine op_call rfl rfl hF rfl (run_call (vs := [.agg #[.slice A0 x0.length c0, .int .i64 x1, .int .i64 x2, .bool x3, .int .i64 x4]]) rfl rfl co18 ⟨(hF.ev rfl), trivial⟩) (c_spec_PanelValid (x0 := x0) (x1 := x1) (x2 := x2) (x3 := x3) (x4 := x4) ⟨(S.rc0 h0.rc), rfl⟩ h104) ?_
  rintro e u ⟨rfl, T⟩
  refine ⟨_, rfl, ?_⟩
  clear hF; intro a hF
  replace S := S.call0 T; clear T
  refine op_val (v := .bool (!p104)) rfl rfl hF rfl (run_not rfl (hF.ev rfl)) ?_; clear hF; intro a hF
  refine wpList_nil ?_
  cases hc105 : (p104)
  · replace hM := bif_f hc105 hM
    refine cond_t hF rfl (not_t hc105) ?_
    refine wp_seq ?_
    refine wp_region_lit ?_
    refine op_val (v := .agg #[.slice none 0 0, .int .i64 0, .int .i64 0, .bool false, .int .i64 0]) rfl rfl hF rfl (run_build (vs := []) rfl trivial (bd25 )) ?_; clear hF; intro a hF
    refine op_do rfl rfl (run_store (cs' := #[.slice none 0 0, .int .i64 0, .int .i64 0, .bool false, .int .i64 0]) rfl sz25 (hF.ev rfl) (hF.ev rfl) rfl rfl rfl (S.free 0 rfl) rfl rfl) ?_; replace S := S.put 0 rfl (#[.slice none 0 0, .int .i64 0, .int .i64 0, .bool false, .int .i64 0])
    generalize World.setRow _ _ _ = u at S ⊢
    refine op_val (v := .bool false) rfl rfl hF rfl (run_assign rfl rfl) ?_; clear hF; intro a hF
    refine wpList_nil ?_
    refine wp_ret ?_
    repeat with_reducible (first | refine then_ret ?_ | refine in_ret ?_ | refine in_nrm ?_)
    refine ret2_gw (.inl rfl) hF rfl (res_cell (hF.ev rfl) (res_loadN ag25 rfl (S.cells 0 rfl 0 #[.slice none 0 0, .int .i64 0, .int .i64 0, .bool false, .int .i64 0] rfl))) (res_tmp (hF.ev rfl)) ?_
    obtain rfl := Option.some.inj hM
    replace S := S.nilrow 4 1
    exact ⟨none, 0, 0, rfl, rfl, S.sel [0] rfl rfl⟩
  · replace hM := bif_t hc105 hM
    refine cond_f hF rfl (not_f hc105) ?_
    refine wp_skip ?_
    refine wp_seq ?_
    refine wp_region_lit ?_
    refine op_val (v := .agg #[.slice A0 x0.length c0, .int .i64 x1, .int .i64 x2, .bool x3, .int .i64 x4]) rfl rfl hF rfl (run_loadN rfl ag25 (hF.ev rfl) rfl ((S.free 2 rfl).cells 0 #[.slice A0 x0.length c0, .int .i64 x1, .int .i64 x2, .bool x3, .int .i64 x4] rfl)) ?_; clear hF; intro a hF
    obtain ⟨p106, h106, hM⟩ := bind_ex hM
    refine op_call rfl rfl hF rfl (run_call (vs := [.agg #[.slice A0 x0.length c0, .int .i64 x1, .int .i64 x2, .bool x3, .int .i64 x4]]) rfl rfl co29 ⟨(hF.ev rfl), trivial⟩) (c_spec_l29Copy (x0 := x0) (x1 := x1) (x2 := x2) (x3 := x3) (x4 := x4) ⟨(S.rc0 h0.rc), rfl⟩ h106) ?_
    rintro e u ⟨B107, n108, d109, rfl, rfl, T⟩
    refine ⟨_, rfl, ?_⟩
    clear hF; intro a hF
    replace S := S.call1 T; clear T
    refine op_new (cs := #[.slice none 0 0, .int .i64 0, .int .i64 0, .bool false, .int .i64 0]) rfl rfl hF rfl S (run_allocZ rfl zr25) ?_; clear hF S; intro a g110 u hF S
    refine op_do rfl rfl (run_store (cs' := #[.slice B107 p106.1.length d109, .int .i64 p106.2.1, .int .i64 p106.2.2.1, .bool p106.2.2.2.1, .int .i64 p106.2.2.2.2]) rfl sz25 (hF.ev rfl) (hF.ev rfl) rfl rfl rfl (S.free 0 rfl) rfl rfl) ?_; replace S := S.put 0 rfl (#[.slice B107 p106.1.length d109, .int .i64 p106.2.1, .int .i64 p106.2.2.1, .bool p106.2.2.2.1, .int .i64 p106.2.2.2.2])
    generalize World.setRow _ _ _ = u at S ⊢
    refine wpList_nil ?_
    refine wp_seq ?_
    refine wp_block ?_
    refine wp_seq ?_
    obtain ⟨p111, h111, hM⟩ := bind_ex hM
    obtain ⟨p112, h112, hM⟩ := bind_ex hM
    obtain ⟨hk113, hM⟩ := chk_ex hM
    replace hk113 := fun hg => ixB_t (imp_t hk113 hg)
    refine region_gw (D := [15, 16, 17, 18, 19, 20, 21, 22, 23, 24, 25, 26, 27, 28, 29, 30, 31, 32, 33, 34, 35, 36, 37, 38, 39, 40, 41, 42, 43, 44, 45, 46, 47, 14]) (Lr := [.box g110 25 #[.slice B107 p106.1.length d109, .int .i64 p106.2.1, .int .i64 p106.2.2.1, .bool p106.2.2.2.1, .int .i64 p106.2.2.2.2], .row 4 1 (.slice B107 p106.1.length d109) p106.1.length (p106.1.flatMap eB), .box g103 25 #[.slice none 0 0, .int .i64 0, .int .i64 0, .bool false, .int .i64 0], .box g102 27 #[.int .i64 x5, .int .i64 x6, .int .i64 x7, .bool x8], .box g101 25 #[.slice A0 x0.length c0, .int .i64 x1, .int .i64 x2, .bool x3, .int .i64 x4]]) (deps := (fun | 0 => [15] | 1 => [16] | 2 => [17] | 3 => [18] | 4 => [19] | 5 => [20] | 6 => [21] | 7 => [22] | 8 => [23] | 9 => [24] | 10 => [25] | 11 => [26] | 12 => [27] | 13 => [28] | 14 => [29] | 15 => [30] | 16 => [31] | 17 => [32] | 18 => [33] | 19 => [34] | 20 => [35] | 21 => [36] | 22 => [37] | 23 => [38] | 24 => [39] | 25 => [40] | 26 => [41] | 27 => [42] | 28 => [43] | 29 => [44] | 30 => [45] | 31 => [46] | 32 => [47] | 33 => [14] | _ => [])) (rd := (fun _ => [])) (zr := (fun _ => []))
      (φ := fun i vs => match i, vs with | 0, [v15] => v15 = .pointer (some ⟨g102, 0, none⟩) | 1, [v16] => v16 = .int .i64 x5 | 2, [v17] => v17 = .bool (x5 == 0) | 3, [v18] => v18 = .bool (x5 == 0) | 4, [v19] => v19 = gv (x5 == 0) (.pointer (some ⟨g101, 1, none⟩)) | 5, [v20] => v20 = gv (x5 == 0) (.int .i64 x1) | 6, [v21] => v21 = gv (x5 == 0) (.bool (x1 == (-1))) | 7, [v22] => v22 = .bool ((x5 == 0) && (x1 == (-1))) | 8, [v23] => v23 = .bool ((x5 == 0) && (x1 == (-1))) | 9, [v24] => v24 = gv ((x5 == 0) && (x1 == (-1))) (.pointer (some ⟨g102, 1, none⟩)) | 10, [v25] => v25 = gv ((x5 == 0) && (x1 == (-1))) (.int .i64 x6) | 11, [v26] => v26 = gv ((x5 == 0) && (x1 == (-1))) (.bool p111) | 12, [v27] => v27 = .bool (((x5 == 0) && (x1 == (-1))) && p111) | 13, [v28] => v28 = .bool (((x5 == 0) && (x1 == (-1))) && p111) | 14, [v29] => v29 = gv (((x5 == 0) && (x1 == (-1))) && p111) (.pointer (some ⟨g102, 2, none⟩)) | 15, [v30] => v30 = gv (((x5 == 0) && (x1 == (-1))) && p111) (.int .i64 x7) | 16, [v31] => v31 = gv (((x5 == 0) && (x1 == (-1))) && p111) (.pointer (some ⟨g101, 0, none⟩)) | 17, [v32] => v32 = gv (((x5 == 0) && (x1 == (-1))) && p111) (.slice A0 x0.length c0) | 18, [v33] => v33 = gv (((x5 == 0) && (x1 == (-1))) && p111) (.int .i64 (x0.length : Int)) | 19, [v34] => v34 = gv (((x5 == 0) && (x1 == (-1))) && p111) (.int .i64 (w64 ((x0.length : Int) - 1))) | 20, [v35] => v35 = gv (((x5 == 0) && (x1 == (-1))) && p111) (.bool p112) | 21, [v36] => v36 = .bool ((((x5 == 0) && (x1 == (-1))) && p111) && p112) | 22, [v37] => v37 = .bool ((((x5 == 0) && (x1 == (-1))) && p111) && p112) | 23, [v38] => v38 = gv ((((x5 == 0) && (x1 == (-1))) && p111) && p112) (.pointer (some ⟨g101, 0, none⟩)) | 24, [v39] => v39 = gv ((((x5 == 0) && (x1 == (-1))) && p111) && p112) (.slice A0 x0.length c0) | 25, [v40] => v40 = gv ((((x5 == 0) && (x1 == (-1))) && p111) && p112) (.pointer (some ⟨g102, 2, none⟩)) | 26, [v41] => v41 = gv ((((x5 == 0) && (x1 == (-1))) && p111) && p112) (.int .i64 x7) | 27, [v42] => v42 = gv ((((x5 == 0) && (x1 == (-1))) && p111) && p112) (.pointer (some ⟨adB A0, adO A0 + x7.toNat * 1, none⟩)) | 28, [v43] => v43 = gv ((((x5 == 0) && (x1 == (-1))) && p111) && p112) (.bool (x0.getD x7.toNat false)) | 29, [v44] => v44 = gv ((((x5 == 0) && (x1 == (-1))) && p111) && p112) (.pointer (some ⟨g102, 3, none⟩)) | 30, [v45] => v45 = gv ((((x5 == 0) && (x1 == (-1))) && p111) && p112) (.bool x8) | 31, [v46] => v46 = gv ((((x5 == 0) && (x1 == (-1))) && p111) && p112) (.bool ((x0.getD x7.toNat false) != x8)) | 32, [v47] => v47 = .bool (((((x5 == 0) && (x1 == (-1))) && p111) && p112) && ((x0.getD x7.toNat false) != x8)) | 33, [v14] => v14 = .bool (((((x5 == 0) && (x1 == (-1))) && p111) && p112) && ((x0.getD x7.toNat false) != x8)) | _, _ => True)
      (C := fun _ _ => [])
      (κ := (fun _ => none)) (Z := (fun _ => [])) mixed hF (by kernel_rfl) S ?_ ?_
    · refine ⟨?_, ?_, ?_, ?_, ?_, ?_, ?_, ?_, ?_, ?_, ?_, ?_, ?_, ?_, ?_, ?_, ?_, ?_, ?_, ?_, ?_, ?_, ?_, ?_, ?_, ?_, ?_, ?_, ?_, ?_, ?_, ?_, ?_, ?_, trivial⟩
      · intro a u X hB hu hp hr hz hl S
        replace S : St w u ([] ++ X) := S
        exact .inl ⟨rfl, .pointer (some ⟨g102, 0, none⟩), u, (run_fieldAddr rfl fl27_0 (hF.evB hB rfl rfl) rfl), rfl, S⟩
      · intro a u X hB hu hp hr hz hl S
        replace S : St w u ([] ++ X) := S
        have e15 : sl a 15 = .pointer (some ⟨g102, 0, none⟩) := hp 0 rfl
        exact .inl ⟨rfl, .int .i64 x5, u, (run_load1 rfl one3 (ev_sl e15) ((gr_box S hl 3 rfl).cell rfl)), rfl, S⟩
      · intro a u X hB hu hp hr hz hl S
        replace S : St w u ([] ++ X) := S
        have e16 : sl a 16 = .int .i64 x5 := hp 1 rfl
        exact .inl ⟨rfl, .bool (x5 == 0), u, (run_eql (ev_sl e16) (ev_const _ _) rfl), rfl, S⟩
      · intro a u X hB hu hp hr hz hl S
        replace S : St w u ([] ++ X) := S
        have e17 : sl a 17 = .bool (x5 == 0) := hp 2 rfl
        exact .inl ⟨rfl, .bool (x5 == 0), u, (run_move rfl (ev_sl e17)), rfl, S⟩
      · intro a u X hB hu hp hr hz hl S
        replace S : St w u ([] ++ X) := S
        have e18 : sl a 18 = .bool (x5 == 0) := hp 3 rfl
        rcases (Bool.eq_false_or_eq_true (x5 == 0)).symm with hg | hg
        · exact .inr (.inr (.inr ⟨gr_eg rfl (yt (gr_yield rfl rfl e18)) hg, (gv_f hg).symm, S⟩))
        · exact .inl ⟨gr_eg rfl (yt (gr_yield rfl rfl e18)) hg, .pointer (some ⟨g101, 1, none⟩), u, (run_fieldAddr rfl fl25_1 (hF.evB hB rfl rfl) rfl), (gv_t hg).symm, S⟩
      · intro a u X hB hu hp hr hz hl S
        replace S : St w u ([] ++ X) := S
        have e18 : sl a 18 = .bool (x5 == 0) := hp 3 rfl
        have e19 : sl a 19 = gv (x5 == 0) (.pointer (some ⟨g101, 1, none⟩)) := hp 4 rfl
        rcases (Bool.eq_false_or_eq_true (x5 == 0)).symm with hg | hg
        · exact .inr (.inr (.inr ⟨gr_eg rfl (yt (gr_yield rfl rfl e18)) hg, (gv_f hg).symm, S⟩))
        · exact .inl ⟨gr_eg rfl (yt (gr_yield rfl rfl e18)) hg, .int .i64 x1, u, (run_load1 rfl one3 ((ev_sl e19).trans (gv_t hg)) ((gr_box S hl 4 rfl).cell rfl)), (gv_t hg).symm, S⟩
      · intro a u X hB hu hp hr hz hl S
        replace S : St w u ([] ++ X) := S
        have e18 : sl a 18 = .bool (x5 == 0) := hp 3 rfl
        have e20 : sl a 20 = gv (x5 == 0) (.int .i64 x1) := hp 5 rfl
        rcases (Bool.eq_false_or_eq_true (x5 == 0)).symm with hg | hg
        · exact .inr (.inr (.inr ⟨gr_eg rfl (yt (gr_yield rfl rfl e18)) hg, (gv_f hg).symm, S⟩))
        · exact .inl ⟨gr_eg rfl (yt (gr_yield rfl rfl e18)) hg, .bool (x1 == (-1)), u, (run_eql ((ev_sl e20).trans (gv_t hg)) (ev_const _ _) rfl), (gv_t hg).symm, S⟩
      · intro a u X hB hu hp hr hz hl S
        replace S : St w u ([] ++ X) := S
        have e18 : sl a 18 = .bool (x5 == 0) := hp 3 rfl
        have e21 : sl a 21 = gv (x5 == 0) (.bool (x1 == (-1))) := hp 6 rfl
        exact .inl ⟨rfl, .bool ((x5 == 0) && (x1 == (-1))), u, (run_pick_and rfl (ev_sl e18) (fun hp => ((ev_sl e21).trans (gv_t hp))) (ev_const _ _)), rfl, S⟩
      · intro a u X hB hu hp hr hz hl S
        replace S : St w u ([] ++ X) := S
        have e22 : sl a 22 = .bool ((x5 == 0) && (x1 == (-1))) := hp 7 rfl
        exact .inl ⟨rfl, .bool ((x5 == 0) && (x1 == (-1))), u, (run_move rfl (ev_sl e22)), rfl, S⟩
      · intro a u X hB hu hp hr hz hl S
        replace S : St w u ([] ++ X) := S
        have e23 : sl a 23 = .bool ((x5 == 0) && (x1 == (-1))) := hp 8 rfl
        rcases (Bool.eq_false_or_eq_true ((x5 == 0) && (x1 == (-1)))).symm with hg | hg
        · exact .inr (.inr (.inr ⟨gr_eg rfl (yt (gr_yield rfl rfl e23)) hg, (gv_f hg).symm, S⟩))
        · exact .inl ⟨gr_eg rfl (yt (gr_yield rfl rfl e23)) hg, .pointer (some ⟨g102, 1, none⟩), u, (run_fieldAddr rfl fl27_1 (hF.evB hB rfl rfl) rfl), (gv_t hg).symm, S⟩
      · intro a u X hB hu hp hr hz hl S
        replace S : St w u ([] ++ X) := S
        have e23 : sl a 23 = .bool ((x5 == 0) && (x1 == (-1))) := hp 8 rfl
        have e24 : sl a 24 = gv ((x5 == 0) && (x1 == (-1))) (.pointer (some ⟨g102, 1, none⟩)) := hp 9 rfl
        rcases (Bool.eq_false_or_eq_true ((x5 == 0) && (x1 == (-1)))).symm with hg | hg
        · exact .inr (.inr (.inr ⟨gr_eg rfl (yt (gr_yield rfl rfl e23)) hg, (gv_f hg).symm, S⟩))
        · exact .inl ⟨gr_eg rfl (yt (gr_yield rfl rfl e23)) hg, .int .i64 x6, u, (run_load1 rfl one3 ((ev_sl e24).trans (gv_t hg)) ((gr_box S hl 3 rfl).cell rfl)), (gv_t hg).symm, S⟩
      · intro a u X hB hu hp hr hz hl S
        replace S : St w u ([] ++ X) := S
        have e23 : sl a 23 = .bool ((x5 == 0) && (x1 == (-1))) := hp 8 rfl
        have e25 : sl a 25 = gv ((x5 == 0) && (x1 == (-1))) (.int .i64 x6) := hp 10 rfl
        rcases (Bool.eq_false_or_eq_true ((x5 == 0) && (x1 == (-1)))).symm with hg | hg
        · exact .inr (.inr (.inr ⟨gr_eg rfl (yt (gr_yield rfl rfl e23)) hg, (gv_f hg).symm, S⟩))
        · refine .inr (.inr (.inl ⟨gr_eg rfl (yt (gr_yield rfl rfl e23)) hg, _, _, (run_call (vs := [.int .i64 x6, .int .i64 0, .int .i64 9]) rfl rfl co30 ⟨((ev_sl e25).trans (gv_t hg)), (ev_const _ _), (ev_const _ _), trivial⟩), ?_⟩))
          refine Calls.mono (c_spec_l1In (x0 := x6) (x1 := 0) (x2 := 9)  (gb_t h111 hg)) ?_
          rintro e w1 ⟨rfl, T⟩
          exact ⟨_, rfl, (gv_t hg).symm, S.call0 T⟩
      · intro a u X hB hu hp hr hz hl S
        replace S : St w u ([] ++ X) := S
        have e23 : sl a 23 = .bool ((x5 == 0) && (x1 == (-1))) := hp 8 rfl
        have e26 : sl a 26 = gv ((x5 == 0) && (x1 == (-1))) (.bool p111) := hp 11 rfl
        exact .inl ⟨rfl, .bool (((x5 == 0) && (x1 == (-1))) && p111), u, (run_pick_and rfl (ev_sl e23) (fun hp => ((ev_sl e26).trans (gv_t hp))) (ev_const _ _)), rfl, S⟩
      · intro a u X hB hu hp hr hz hl S
        replace S : St w u ([] ++ X) := S
        have e27 : sl a 27 = .bool (((x5 == 0) && (x1 == (-1))) && p111) := hp 12 rfl
        exact .inl ⟨rfl, .bool (((x5 == 0) && (x1 == (-1))) && p111), u, (run_move rfl (ev_sl e27)), rfl, S⟩
      · intro a u X hB hu hp hr hz hl S
        replace S : St w u ([] ++ X) := S
        have e28 : sl a 28 = .bool (((x5 == 0) && (x1 == (-1))) && p111) := hp 13 rfl
        rcases (Bool.eq_false_or_eq_true (((x5 == 0) && (x1 == (-1))) && p111)).symm with hg | hg
        · exact .inr (.inr (.inr ⟨gr_eg rfl (yt (gr_yield rfl rfl e28)) hg, (gv_f hg).symm, S⟩))
        · exact .inl ⟨gr_eg rfl (yt (gr_yield rfl rfl e28)) hg, .pointer (some ⟨g102, 2, none⟩), u, (run_fieldAddr rfl fl27_2 (hF.evB hB rfl rfl) rfl), (gv_t hg).symm, S⟩
      · intro a u X hB hu hp hr hz hl S
        replace S : St w u ([] ++ X) := S
        have e28 : sl a 28 = .bool (((x5 == 0) && (x1 == (-1))) && p111) := hp 13 rfl
        have e29 : sl a 29 = gv (((x5 == 0) && (x1 == (-1))) && p111) (.pointer (some ⟨g102, 2, none⟩)) := hp 14 rfl
        rcases (Bool.eq_false_or_eq_true (((x5 == 0) && (x1 == (-1))) && p111)).symm with hg | hg
        · exact .inr (.inr (.inr ⟨gr_eg rfl (yt (gr_yield rfl rfl e28)) hg, (gv_f hg).symm, S⟩))
        · exact .inl ⟨gr_eg rfl (yt (gr_yield rfl rfl e28)) hg, .int .i64 x7, u, (run_load1 rfl one3 ((ev_sl e29).trans (gv_t hg)) ((gr_box S hl 3 rfl).cell rfl)), (gv_t hg).symm, S⟩
      · intro a u X hB hu hp hr hz hl S
        replace S : St w u ([] ++ X) := S
        have e28 : sl a 28 = .bool (((x5 == 0) && (x1 == (-1))) && p111) := hp 13 rfl
        rcases (Bool.eq_false_or_eq_true (((x5 == 0) && (x1 == (-1))) && p111)).symm with hg | hg
        · exact .inr (.inr (.inr ⟨gr_eg rfl (yt (gr_yield rfl rfl e28)) hg, (gv_f hg).symm, S⟩))
        · exact .inl ⟨gr_eg rfl (yt (gr_yield rfl rfl e28)) hg, .pointer (some ⟨g101, 0, none⟩), u, (run_fieldAddr rfl fl25_0 (hF.evB hB rfl rfl) rfl), (gv_t hg).symm, S⟩
      · intro a u X hB hu hp hr hz hl S
        replace S : St w u ([] ++ X) := S
        have e28 : sl a 28 = .bool (((x5 == 0) && (x1 == (-1))) && p111) := hp 13 rfl
        have e31 : sl a 31 = gv (((x5 == 0) && (x1 == (-1))) && p111) (.pointer (some ⟨g101, 0, none⟩)) := hp 16 rfl
        rcases (Bool.eq_false_or_eq_true (((x5 == 0) && (x1 == (-1))) && p111)).symm with hg | hg
        · exact .inr (.inr (.inr ⟨gr_eg rfl (yt (gr_yield rfl rfl e28)) hg, (gv_f hg).symm, S⟩))
        · exact .inl ⟨gr_eg rfl (yt (gr_yield rfl rfl e28)) hg, .slice A0 x0.length c0, u, (run_load1 rfl one23 ((ev_sl e31).trans (gv_t hg)) ((gr_box S hl 4 rfl).cell rfl)), (gv_t hg).symm, S⟩
      · intro a u X hB hu hp hr hz hl S
        replace S : St w u ([] ++ X) := S
        have e28 : sl a 28 = .bool (((x5 == 0) && (x1 == (-1))) && p111) := hp 13 rfl
        have e32 : sl a 32 = gv (((x5 == 0) && (x1 == (-1))) && p111) (.slice A0 x0.length c0) := hp 17 rfl
        rcases (Bool.eq_false_or_eq_true (((x5 == 0) && (x1 == (-1))) && p111)).symm with hg | hg
        · exact .inr (.inr (.inr ⟨gr_eg rfl (yt (gr_yield rfl rfl e28)) hg, (gv_f hg).symm, S⟩))
        · exact .inl ⟨gr_eg rfl (yt (gr_yield rfl rfl e28)) hg, .int .i64 (x0.length : Int), u, (run_lenL rfl rfl Tryd.underlying23 ((ev_sl e32).trans (gv_t hg))), (gv_t hg).symm, S⟩
      · intro a u X hB hu hp hr hz hl S
        replace S : St w u ([] ++ X) := S
        have e28 : sl a 28 = .bool (((x5 == 0) && (x1 == (-1))) && p111) := hp 13 rfl
        have e33 : sl a 33 = gv (((x5 == 0) && (x1 == (-1))) && p111) (.int .i64 (x0.length : Int)) := hp 18 rfl
        rcases (Bool.eq_false_or_eq_true (((x5 == 0) && (x1 == (-1))) && p111)).symm with hg | hg
        · exact .inr (.inr (.inr ⟨gr_eg rfl (yt (gr_yield rfl rfl e28)) hg, (gv_f hg).symm, S⟩))
        · exact .inl ⟨gr_eg rfl (yt (gr_yield rfl rfl e28)) hg, .int .i64 (w64 ((x0.length : Int) - 1)), u, (run_sub (z := w64 ((x0.length : Int) - 1)) ((ev_sl e33).trans (gv_t hg)) (ev_const _ _) rfl rfl), (gv_t hg).symm, S⟩
      · intro a u X hB hu hp hr hz hl S
        replace S : St w u ([] ++ X) := S
        have e28 : sl a 28 = .bool (((x5 == 0) && (x1 == (-1))) && p111) := hp 13 rfl
        have e30 : sl a 30 = gv (((x5 == 0) && (x1 == (-1))) && p111) (.int .i64 x7) := hp 15 rfl
        have e34 : sl a 34 = gv (((x5 == 0) && (x1 == (-1))) && p111) (.int .i64 (w64 ((x0.length : Int) - 1))) := hp 19 rfl
        rcases (Bool.eq_false_or_eq_true (((x5 == 0) && (x1 == (-1))) && p111)).symm with hg | hg
        · exact .inr (.inr (.inr ⟨gr_eg rfl (yt (gr_yield rfl rfl e28)) hg, (gv_f hg).symm, S⟩))
        · refine .inr (.inr (.inl ⟨gr_eg rfl (yt (gr_yield rfl rfl e28)) hg, _, _, (run_call (vs := [.int .i64 x7, .int .i64 0, .int .i64 (w64 ((x0.length : Int) - 1))]) rfl rfl co30 ⟨((ev_sl e30).trans (gv_t hg)), (ev_const _ _), ((ev_sl e34).trans (gv_t hg)), trivial⟩), ?_⟩))
          refine Calls.mono (c_spec_l1In (x0 := x7) (x1 := 0) (x2 := w64 ((x0.length : Int) - 1))  (gb_t h112 hg)) ?_
          rintro e w1 ⟨rfl, T⟩
          exact ⟨_, rfl, (gv_t hg).symm, S.call0 T⟩
      · intro a u X hB hu hp hr hz hl S
        replace S : St w u ([] ++ X) := S
        have e28 : sl a 28 = .bool (((x5 == 0) && (x1 == (-1))) && p111) := hp 13 rfl
        have e35 : sl a 35 = gv (((x5 == 0) && (x1 == (-1))) && p111) (.bool p112) := hp 20 rfl
        exact .inl ⟨rfl, .bool ((((x5 == 0) && (x1 == (-1))) && p111) && p112), u, (run_pick_and rfl (ev_sl e28) (fun hp => ((ev_sl e35).trans (gv_t hp))) (ev_const _ _)), rfl, S⟩
      · intro a u X hB hu hp hr hz hl S
        replace S : St w u ([] ++ X) := S
        have e36 : sl a 36 = .bool ((((x5 == 0) && (x1 == (-1))) && p111) && p112) := hp 21 rfl
        exact .inl ⟨rfl, .bool ((((x5 == 0) && (x1 == (-1))) && p111) && p112), u, (run_move rfl (ev_sl e36)), rfl, S⟩
      · intro a u X hB hu hp hr hz hl S
        replace S : St w u ([] ++ X) := S
        have e37 : sl a 37 = .bool ((((x5 == 0) && (x1 == (-1))) && p111) && p112) := hp 22 rfl
        rcases (Bool.eq_false_or_eq_true ((((x5 == 0) && (x1 == (-1))) && p111) && p112)).symm with hg | hg
        · exact .inr (.inr (.inr ⟨gr_eg rfl (yt (gr_yield rfl rfl e37)) hg, (gv_f hg).symm, S⟩))
        · exact .inl ⟨gr_eg rfl (yt (gr_yield rfl rfl e37)) hg, .pointer (some ⟨g101, 0, none⟩), u, (run_fieldAddr rfl fl25_0 (hF.evB hB rfl rfl) rfl), (gv_t hg).symm, S⟩
      · intro a u X hB hu hp hr hz hl S
        replace S : St w u ([] ++ X) := S
        have e37 : sl a 37 = .bool ((((x5 == 0) && (x1 == (-1))) && p111) && p112) := hp 22 rfl
        have e38 : sl a 38 = gv ((((x5 == 0) && (x1 == (-1))) && p111) && p112) (.pointer (some ⟨g101, 0, none⟩)) := hp 23 rfl
        rcases (Bool.eq_false_or_eq_true ((((x5 == 0) && (x1 == (-1))) && p111) && p112)).symm with hg | hg
        · exact .inr (.inr (.inr ⟨gr_eg rfl (yt (gr_yield rfl rfl e37)) hg, (gv_f hg).symm, S⟩))
        · exact .inl ⟨gr_eg rfl (yt (gr_yield rfl rfl e37)) hg, .slice A0 x0.length c0, u, (run_load1 rfl one23 ((ev_sl e38).trans (gv_t hg)) ((gr_box S hl 4 rfl).cell rfl)), (gv_t hg).symm, S⟩
      · intro a u X hB hu hp hr hz hl S
        replace S : St w u ([] ++ X) := S
        have e37 : sl a 37 = .bool ((((x5 == 0) && (x1 == (-1))) && p111) && p112) := hp 22 rfl
        rcases (Bool.eq_false_or_eq_true ((((x5 == 0) && (x1 == (-1))) && p111) && p112)).symm with hg | hg
        · exact .inr (.inr (.inr ⟨gr_eg rfl (yt (gr_yield rfl rfl e37)) hg, (gv_f hg).symm, S⟩))
        · exact .inl ⟨gr_eg rfl (yt (gr_yield rfl rfl e37)) hg, .pointer (some ⟨g102, 2, none⟩), u, (run_fieldAddr rfl fl27_2 (hF.evB hB rfl rfl) rfl), (gv_t hg).symm, S⟩
      · intro a u X hB hu hp hr hz hl S
        replace S : St w u ([] ++ X) := S
        have e37 : sl a 37 = .bool ((((x5 == 0) && (x1 == (-1))) && p111) && p112) := hp 22 rfl
        have e40 : sl a 40 = gv ((((x5 == 0) && (x1 == (-1))) && p111) && p112) (.pointer (some ⟨g102, 2, none⟩)) := hp 25 rfl
        rcases (Bool.eq_false_or_eq_true ((((x5 == 0) && (x1 == (-1))) && p111) && p112)).symm with hg | hg
        · exact .inr (.inr (.inr ⟨gr_eg rfl (yt (gr_yield rfl rfl e37)) hg, (gv_f hg).symm, S⟩))
        · exact .inl ⟨gr_eg rfl (yt (gr_yield rfl rfl e37)) hg, .int .i64 x7, u, (run_load1 rfl one3 ((ev_sl e40).trans (gv_t hg)) ((gr_box S hl 3 rfl).cell rfl)), (gv_t hg).symm, S⟩
      · intro a u X hB hu hp hr hz hl S
        replace S : St w u ([] ++ X) := S
        have e37 : sl a 37 = .bool ((((x5 == 0) && (x1 == (-1))) && p111) && p112) := hp 22 rfl
        have e39 : sl a 39 = gv ((((x5 == 0) && (x1 == (-1))) && p111) && p112) (.slice A0 x0.length c0) := hp 24 rfl
        have e41 : sl a 41 = gv ((((x5 == 0) && (x1 == (-1))) && p111) && p112) (.int .i64 x7) := hp 26 rfl
        rcases (Bool.eq_false_or_eq_true ((((x5 == 0) && (x1 == (-1))) && p111) && p112)).symm with hg | hg
        · exact .inr (.inr (.inr ⟨gr_eg rfl (yt (gr_yield rfl rfl e37)) hg, (gv_f hg).symm, S⟩))
        · exact .inl ⟨gr_eg rfl (yt (gr_yield rfl rfl e37)) hg, .pointer (some ⟨adB A0, adO A0 + x7.toNat * 1, none⟩), u, (run_indexAddr (b := adB A0) (off := adO A0) rfl Tryd.underlying23 sz4 (((ev_sl e39).trans (gv_t hg)).trans (congrArg (fun A => Value.slice A x0.length c0) ((S.rc0 h0.rc).rd.ad (ix_pos (hk113 hg))))) ((ev_sl e41).trans (gv_t hg)) (hk113 hg).1 (hk113 hg).2 (k' := adO A0 + x7.toNat * 1) rfl), (gv_t hg).symm, S⟩
      · intro a u X hB hu hp hr hz hl S
        replace S : St w u ([] ++ X) := S
        have e37 : sl a 37 = .bool ((((x5 == 0) && (x1 == (-1))) && p111) && p112) := hp 22 rfl
        have e42 : sl a 42 = gv ((((x5 == 0) && (x1 == (-1))) && p111) && p112) (.pointer (some ⟨adB A0, adO A0 + x7.toNat * 1, none⟩)) := hp 27 rfl
        rcases (Bool.eq_false_or_eq_true ((((x5 == 0) && (x1 == (-1))) && p111) && p112)).symm with hg | hg
        · exact .inr (.inr (.inr ⟨gr_eg rfl (yt (gr_yield rfl rfl e37)) hg, (gv_f hg).symm, S⟩))
        · exact .inl ⟨gr_eg rfl (yt (gr_yield rfl rfl e37)) hg, .bool (x0.getD x7.toNat false), u, (run_load1 rfl one4 ((ev_sl e42).trans (gv_t hg)) (rd_el0 (l := x0) (S.rc0 h0.rc).rd rfl eB_len false (ix_ltn (hk113 hg) rfl) rfl)), (gv_t hg).symm, S⟩
      · intro a u X hB hu hp hr hz hl S
        replace S : St w u ([] ++ X) := S
        have e37 : sl a 37 = .bool ((((x5 == 0) && (x1 == (-1))) && p111) && p112) := hp 22 rfl
        rcases (Bool.eq_false_or_eq_true ((((x5 == 0) && (x1 == (-1))) && p111) && p112)).symm with hg | hg
        · exact .inr (.inr (.inr ⟨gr_eg rfl (yt (gr_yield rfl rfl e37)) hg, (gv_f hg).symm, S⟩))
        · exact .inl ⟨gr_eg rfl (yt (gr_yield rfl rfl e37)) hg, .pointer (some ⟨g102, 3, none⟩), u, (run_fieldAddr rfl fl27_3 (hF.evB hB rfl rfl) rfl), (gv_t hg).symm, S⟩
      · intro a u X hB hu hp hr hz hl S
        replace S : St w u ([] ++ X) := S
        have e37 : sl a 37 = .bool ((((x5 == 0) && (x1 == (-1))) && p111) && p112) := hp 22 rfl
        have e44 : sl a 44 = gv ((((x5 == 0) && (x1 == (-1))) && p111) && p112) (.pointer (some ⟨g102, 3, none⟩)) := hp 29 rfl
        rcases (Bool.eq_false_or_eq_true ((((x5 == 0) && (x1 == (-1))) && p111) && p112)).symm with hg | hg
        · exact .inr (.inr (.inr ⟨gr_eg rfl (yt (gr_yield rfl rfl e37)) hg, (gv_f hg).symm, S⟩))
        · exact .inl ⟨gr_eg rfl (yt (gr_yield rfl rfl e37)) hg, .bool x8, u, (run_load1 rfl one4 ((ev_sl e44).trans (gv_t hg)) ((gr_box S hl 3 rfl).cell rfl)), (gv_t hg).symm, S⟩
      · intro a u X hB hu hp hr hz hl S
        replace S : St w u ([] ++ X) := S
        have e37 : sl a 37 = .bool ((((x5 == 0) && (x1 == (-1))) && p111) && p112) := hp 22 rfl
        have e43 : sl a 43 = gv ((((x5 == 0) && (x1 == (-1))) && p111) && p112) (.bool (x0.getD x7.toNat false)) := hp 28 rfl
        have e45 : sl a 45 = gv ((((x5 == 0) && (x1 == (-1))) && p111) && p112) (.bool x8) := hp 30 rfl
        rcases (Bool.eq_false_or_eq_true ((((x5 == 0) && (x1 == (-1))) && p111) && p112)).symm with hg | hg
        · exact .inr (.inr (.inr ⟨gr_eg rfl (yt (gr_yield rfl rfl e37)) hg, (gv_f hg).symm, S⟩))
        · exact .inl ⟨gr_eg rfl (yt (gr_yield rfl rfl e37)) hg, .bool ((x0.getD x7.toNat false) != x8), u, (run_neqB ((ev_sl e43).trans (gv_t hg)) ((ev_sl e45).trans (gv_t hg)) Tryd.underlying4 rfl), (gv_t hg).symm, S⟩
      · intro a u X hB hu hp hr hz hl S
        replace S : St w u ([] ++ X) := S
        have e37 : sl a 37 = .bool ((((x5 == 0) && (x1 == (-1))) && p111) && p112) := hp 22 rfl
        have e46 : sl a 46 = gv ((((x5 == 0) && (x1 == (-1))) && p111) && p112) (.bool ((x0.getD x7.toNat false) != x8)) := hp 31 rfl
        exact .inl ⟨rfl, .bool (((((x5 == 0) && (x1 == (-1))) && p111) && p112) && ((x0.getD x7.toNat false) != x8)), u, (run_pick_and rfl (ev_sl e37) (fun hp => ((ev_sl e46).trans (gv_t hp))) (ev_const _ _)), rfl, S⟩
      · intro a u X hB hu hp hr hz hl S
        replace S : St w u ([] ++ X) := S
        have e47 : sl a 47 = .bool (((((x5 == 0) && (x1 == (-1))) && p111) && p112) && ((x0.getD x7.toNat false) != x8)) := hp 32 rfl
        exact .inl ⟨rfl, .bool (((((x5 == 0) && (x1 == (-1))) && p111) && p112) && ((x0.getD x7.toNat false) != x8)), u, (run_assign rfl (ev_sl e47)), rfl, S⟩
    · intro a u hB hp S
      obtain ⟨q0, q1, q2, q3, q4, q5, q6, q7, q8, q9, q10, q11, q12, q13, q14, q15, q16, q17, q18, q19, q20, q21, q22, q23, q24, q25, q26, q27, q28, q29, q30, q31, q32, q33, _⟩ := hp
      have e15 : sl a 15 = .pointer (some ⟨g102, 0, none⟩) := q0
      have e16 : sl a 16 = .int .i64 x5 := q1
      have e17 : sl a 17 = .bool (x5 == 0) := q2
      have e18 : sl a 18 = .bool (x5 == 0) := q3
      have e19 : sl a 19 = gv (x5 == 0) (.pointer (some ⟨g101, 1, none⟩)) := q4
      have e20 : sl a 20 = gv (x5 == 0) (.int .i64 x1) := q5
      have e21 : sl a 21 = gv (x5 == 0) (.bool (x1 == (-1))) := q6
      have e22 : sl a 22 = .bool ((x5 == 0) && (x1 == (-1))) := q7
      have e23 : sl a 23 = .bool ((x5 == 0) && (x1 == (-1))) := q8
      have e24 : sl a 24 = gv ((x5 == 0) && (x1 == (-1))) (.pointer (some ⟨g102, 1, none⟩)) := q9
      have e25 : sl a 25 = gv ((x5 == 0) && (x1 == (-1))) (.int .i64 x6) := q10
      have e26 : sl a 26 = gv ((x5 == 0) && (x1 == (-1))) (.bool p111) := q11
      have e27 : sl a 27 = .bool (((x5 == 0) && (x1 == (-1))) && p111) := q12
      have e28 : sl a 28 = .bool (((x5 == 0) && (x1 == (-1))) && p111) := q13
      have e29 : sl a 29 = gv (((x5 == 0) && (x1 == (-1))) && p111) (.pointer (some ⟨g102, 2, none⟩)) := q14
      have e30 : sl a 30 = gv (((x5 == 0) && (x1 == (-1))) && p111) (.int .i64 x7) := q15
      have e31 : sl a 31 = gv (((x5 == 0) && (x1 == (-1))) && p111) (.pointer (some ⟨g101, 0, none⟩)) := q16
      have e32 : sl a 32 = gv (((x5 == 0) && (x1 == (-1))) && p111) (.slice A0 x0.length c0) := q17
      have e33 : sl a 33 = gv (((x5 == 0) && (x1 == (-1))) && p111) (.int .i64 (x0.length : Int)) := q18
      have e34 : sl a 34 = gv (((x5 == 0) && (x1 == (-1))) && p111) (.int .i64 (w64 ((x0.length : Int) - 1))) := q19
      have e35 : sl a 35 = gv (((x5 == 0) && (x1 == (-1))) && p111) (.bool p112) := q20
      have e36 : sl a 36 = .bool ((((x5 == 0) && (x1 == (-1))) && p111) && p112) := q21
      have e37 : sl a 37 = .bool ((((x5 == 0) && (x1 == (-1))) && p111) && p112) := q22
      have e38 : sl a 38 = gv ((((x5 == 0) && (x1 == (-1))) && p111) && p112) (.pointer (some ⟨g101, 0, none⟩)) := q23
      have e39 : sl a 39 = gv ((((x5 == 0) && (x1 == (-1))) && p111) && p112) (.slice A0 x0.length c0) := q24
      have e40 : sl a 40 = gv ((((x5 == 0) && (x1 == (-1))) && p111) && p112) (.pointer (some ⟨g102, 2, none⟩)) := q25
      have e41 : sl a 41 = gv ((((x5 == 0) && (x1 == (-1))) && p111) && p112) (.int .i64 x7) := q26
      have e42 : sl a 42 = gv ((((x5 == 0) && (x1 == (-1))) && p111) && p112) (.pointer (some ⟨adB A0, adO A0 + x7.toNat * 1, none⟩)) := q27
      have e43 : sl a 43 = gv ((((x5 == 0) && (x1 == (-1))) && p111) && p112) (.bool (x0.getD x7.toNat false)) := q28
      have e44 : sl a 44 = gv ((((x5 == 0) && (x1 == (-1))) && p111) && p112) (.pointer (some ⟨g102, 3, none⟩)) := q29
      have e45 : sl a 45 = gv ((((x5 == 0) && (x1 == (-1))) && p111) && p112) (.bool x8) := q30
      have e46 : sl a 46 = gv ((((x5 == 0) && (x1 == (-1))) && p111) && p112) (.bool ((x0.getD x7.toNat false) != x8)) := q31
      have e47 : sl a 47 = .bool (((((x5 == 0) && (x1 == (-1))) && p111) && p112) && ((x0.getD x7.toNat false) != x8)) := q32
      have e14 : sl a 14 = .bool (((((x5 == 0) && (x1 == (-1))) && p111) && p112) && ((x0.getD x7.toNat false) != x8)) := q33
      replace S : St w u [.box g110 25 #[.slice B107 p106.1.length d109, .int .i64 p106.2.1, .int .i64 p106.2.2.1, .bool p106.2.2.2.1, .int .i64 p106.2.2.2.2], .row 4 1 (.slice B107 p106.1.length d109) p106.1.length (p106.1.flatMap eB), .box g103 25 #[.slice none 0 0, .int .i64 0, .int .i64 0, .bool false, .int .i64 0], .box g102 27 #[.int .i64 x5, .int .i64 x6, .int .i64 x7, .bool x8], .box g101 25 #[.slice A0 x0.length c0, .int .i64 x1, .int .i64 x2, .bool x3, .int .i64 x4]] := S
      clear q0 q1 q2 q3 q4 q5 q6 q7 q8 q9 q10 q11 q12 q13 q14 q15 q16 q17 q18 q19 q20 q21 q22 q23 q24 q25 q26 q27 q28 q29 q30 q31 q32 q33
      have hF := hF.region hB [(15, .pointer (some ⟨g102, 0, none⟩)), (16, .int .i64 x5), (17, .bool (x5 == 0)), (18, .bool (x5 == 0)), (19, gv (x5 == 0) (.pointer (some ⟨g101, 1, none⟩))), (20, gv (x5 == 0) (.int .i64 x1)), (21, gv (x5 == 0) (.bool (x1 == (-1)))), (22, .bool ((x5 == 0) && (x1 == (-1)))), (23, .bool ((x5 == 0) && (x1 == (-1)))), (24, gv ((x5 == 0) && (x1 == (-1))) (.pointer (some ⟨g102, 1, none⟩))), (25, gv ((x5 == 0) && (x1 == (-1))) (.int .i64 x6)), (26, gv ((x5 == 0) && (x1 == (-1))) (.bool p111)), (27, .bool (((x5 == 0) && (x1 == (-1))) && p111)), (28, .bool (((x5 == 0) && (x1 == (-1))) && p111)), (29, gv (((x5 == 0) && (x1 == (-1))) && p111) (.pointer (some ⟨g102, 2, none⟩))), (30, gv (((x5 == 0) && (x1 == (-1))) && p111) (.int .i64 x7)), (31, gv (((x5 == 0) && (x1 == (-1))) && p111) (.pointer (some ⟨g101, 0, none⟩))), (32, gv (((x5 == 0) && (x1 == (-1))) && p111) (.slice A0 x0.length c0)), (33, gv (((x5 == 0) && (x1 == (-1))) && p111) (.int .i64 (x0.length : Int))), (34, gv (((x5 == 0) && (x1 == (-1))) && p111) (.int .i64 (w64 ((x0.length : Int) - 1)))), (35, gv (((x5 == 0) && (x1 == (-1))) && p111) (.bool p112)), (36, .bool ((((x5 == 0) && (x1 == (-1))) && p111) && p112)), (37, .bool ((((x5 == 0) && (x1 == (-1))) && p111) && p112)), (38, gv ((((x5 == 0) && (x1 == (-1))) && p111) && p112) (.pointer (some ⟨g101, 0, none⟩))), (39, gv ((((x5 == 0) && (x1 == (-1))) && p111) && p112) (.slice A0 x0.length c0)), (40, gv ((((x5 == 0) && (x1 == (-1))) && p111) && p112) (.pointer (some ⟨g102, 2, none⟩))), (41, gv ((((x5 == 0) && (x1 == (-1))) && p111) && p112) (.int .i64 x7)), (42, gv ((((x5 == 0) && (x1 == (-1))) && p111) && p112) (.pointer (some ⟨adB A0, adO A0 + x7.toNat * 1, none⟩))), (43, gv ((((x5 == 0) && (x1 == (-1))) && p111) && p112) (.bool (x0.getD x7.toNat false))), (44, gv ((((x5 == 0) && (x1 == (-1))) && p111) && p112) (.pointer (some ⟨g102, 3, none⟩))), (45, gv ((((x5 == 0) && (x1 == (-1))) && p111) && p112) (.bool x8)), (46, gv ((((x5 == 0) && (x1 == (-1))) && p111) && p112) (.bool ((x0.getD x7.toNat false) != x8))), (47, .bool (((((x5 == 0) && (x1 == (-1))) && p111) && p112) && ((x0.getD x7.toNat false) != x8))), (14, .bool (((((x5 == 0) && (x1 == (-1))) && p111) && p112) && ((x0.getD x7.toNat false) != x8)))] (allSl_mem ⟨e15, e16, e17, e18, e19, e20, e21, e22, e23, e24, e25, e26, e27, e28, e29, e30, e31, e32, e33, e34, e35, e36, e37, e38, e39, e40, e41, e42, e43, e44, e45, e46, e47, e14, trivial⟩) rfl
      clear hB e15 e16 e17 e18 e19 e20 e21 e22 e23 e24 e25 e26 e27 e28 e29 e30 e31 e32 e33 e34 e35 e36 e37 e38 e39 e40 e41 e42 e43 e44 e45 e46 e47 e14
      obtain ⟨o115, hM118, hM⟩ := bind_ex hM
      refine wp_cut (fun a u => ∃ (p114 : List Bool × Int × Int × Bool × Int) (B116 : Option Addr) (d117 : Nat), (Sum.inl p114) = o115 ∧ Fr a 135 [(4, .pointer (some ⟨g103, 0, none⟩)), (5, .bool false), (6, .pointer (some ⟨g110, 0, none⟩))] ∧ St w u [.box g110 25 #[.slice B116 p114.1.length d117, .int .i64 p114.2.1, .int .i64 p114.2.2.1, .bool p114.2.2.2.1, .int .i64 p114.2.2.2.2], .box g103 25 #[.slice none 0 0, .int .i64 0, .int .i64 0, .bool false, .int .i64 0], .box g102 27 #[.int .i64 x5, .int .i64 x6, .int .i64 x7, .bool x8], .box g101 25 #[.slice A0 x0.length c0, .int .i64 x1, .int .i64 x2, .bool x3, .int .i64 x4], .row 4 1 (.slice B116 p114.1.length d117) p114.1.length (p114.1.flatMap eB)]) ?_ ?_
      · have _ := trivial
        cases hc119 : (((((x5 == 0) && (x1 == (-1))) && p111) && p112) && ((x0.getD x7.toNat false) != x8))
        · replace hM118 := bif_f hc119 hM118
          refine cond_f hF rfl hc119 ?_
          refine wp_seq ?_
          refine wp_region_lit ?_
          refine op_val (v := .pointer (some ⟨g102, 0, none⟩)) rfl rfl hF rfl (run_fieldAddr rfl fl27_0 (hF.ev rfl) rfl) ?_; clear hF; intro a hF
          refine op_val (v := .int .i64 x5) rfl rfl hF rfl (run_load1 rfl one3 (hF.ev rfl) ((S.free 3 rfl).cell rfl)) ?_; clear hF; intro a hF
          refine op_val (v := .bool (x5 == 1)) rfl rfl hF rfl (run_eql (hF.ev rfl) rfl rfl) ?_; clear hF; intro a hF
          refine op_val (v := .bool (x5 == 1)) rfl rfl hF rfl (run_move rfl (hF.ev rfl)) ?_; clear hF; intro a hF
          refine op_gv (v := .pointer (some ⟨g101, 1, none⟩)) rfl rfl hF rfl (yt (gw_yield hF rfl rfl rfl)) (fun hg => (run_fieldAddr rfl fl25_1 (hF.ev rfl) rfl)) ?_; clear hF; intro a hF
          refine op_gv (v := .int .i64 x1) rfl rfl hF rfl (yt (gw_yield hF rfl rfl rfl)) (fun hg => (run_load1 rfl one3 ((hF.ev rfl).trans (gv_t hg)) ((S.free 4 rfl).cell rfl))) ?_; clear hF; intro a hF
          refine op_gv (v := .bool (leB 0 x1)) rfl rfl hF rfl (yt (gw_yield hF rfl rfl rfl)) (fun hg => (run_geq ((hF.ev rfl).trans (gv_t hg)) rfl rfl)) ?_; clear hF; intro a hF
          refine op_val (v := .bool ((x5 == 1) && (leB 0 x1))) rfl rfl hF rfl (run_pick_and rfl (hF.ev rfl) (fun hp => ((hF.ev rfl).trans (gv_t hp))) rfl) ?_; clear hF; intro a hF
          refine op_val (v := .bool ((x5 == 1) && (leB 0 x1))) rfl rfl hF rfl (run_move rfl (hF.ev rfl)) ?_; clear hF; intro a hF
          refine op_gv (v := .pointer (some ⟨g102, 1, none⟩)) rfl rfl hF rfl (yt (gw_yield hF rfl rfl rfl)) (fun hg => (run_fieldAddr rfl fl27_1 (hF.ev rfl) rfl)) ?_; clear hF; intro a hF
          refine op_gv (v := .int .i64 x6) rfl rfl hF rfl (yt (gw_yield hF rfl rfl rfl)) (fun hg => (run_load1 rfl one3 ((hF.ev rfl).trans (gv_t hg)) ((S.free 3 rfl).cell rfl))) ?_; clear hF; intro a hF
          refine op_gv (v := .pointer (some ⟨g101, 1, none⟩)) rfl rfl hF rfl (yt (gw_yield hF rfl rfl rfl)) (fun hg => (run_fieldAddr rfl fl25_1 (hF.ev rfl) rfl)) ?_; clear hF; intro a hF
          refine op_gv (v := .int .i64 x1) rfl rfl hF rfl (yt (gw_yield hF rfl rfl rfl)) (fun hg => (run_load1 rfl one3 ((hF.ev rfl).trans (gv_t hg)) ((S.free 4 rfl).cell rfl))) ?_; clear hF; intro a hF
          refine op_gv (v := .bool (x6 == x1)) rfl rfl hF rfl (yt (gw_yield hF rfl rfl rfl)) (fun hg => (run_eql ((hF.ev rfl).trans (gv_t hg)) ((hF.ev rfl).trans (gv_t hg)) rfl)) ?_; clear hF; intro a hF
          refine op_val (v := .bool (((x5 == 1) && (leB 0 x1)) && (x6 == x1))) rfl rfl hF rfl (run_pick_and rfl (hF.ev rfl) (fun hp => ((hF.ev rfl).trans (gv_t hp))) rfl) ?_; clear hF; intro a hF
          refine op_val (v := .bool (((x5 == 1) && (leB 0 x1)) && (x6 == x1))) rfl rfl hF rfl (run_move rfl (hF.ev rfl)) ?_; clear hF; intro a hF
          refine op_gv (v := .pointer (some ⟨g102, 2, none⟩)) rfl rfl hF rfl (yt (gw_yield hF rfl rfl rfl)) (fun hg => (run_fieldAddr rfl fl27_2 (hF.ev rfl) rfl)) ?_; clear hF; intro a hF
          refine op_gv (v := .int .i64 x7) rfl rfl hF rfl (yt (gw_yield hF rfl rfl rfl)) (fun hg => (run_load1 rfl one3 ((hF.ev rfl).trans (gv_t hg)) ((S.free 3 rfl).cell rfl))) ?_; clear hF; intro a hF
          refine op_gv (v := .pointer (some ⟨g101, 2, none⟩)) rfl rfl hF rfl (yt (gw_yield hF rfl rfl rfl)) (fun hg => (run_fieldAddr rfl fl25_2 (hF.ev rfl) rfl)) ?_; clear hF; intro a hF
          refine op_gv (v := .int .i64 x2) rfl rfl hF rfl (yt (gw_yield hF rfl rfl rfl)) (fun hg => (run_load1 rfl one3 ((hF.ev rfl).trans (gv_t hg)) ((S.free 4 rfl).cell rfl))) ?_; clear hF; intro a hF
          refine op_gv (v := .bool (x7 == x2)) rfl rfl hF rfl (yt (gw_yield hF rfl rfl rfl)) (fun hg => (run_eql ((hF.ev rfl).trans (gv_t hg)) ((hF.ev rfl).trans (gv_t hg)) rfl)) ?_; clear hF; intro a hF
          refine op_val (v := .bool ((((x5 == 1) && (leB 0 x1)) && (x6 == x1)) && (x7 == x2))) rfl rfl hF rfl (run_pick_and rfl (hF.ev rfl) (fun hp => ((hF.ev rfl).trans (gv_t hp))) rfl) ?_; clear hF; intro a hF
          refine op_val (v := .bool ((((x5 == 1) && (leB 0 x1)) && (x6 == x1)) && (x7 == x2))) rfl rfl hF rfl (run_move rfl (hF.ev rfl)) ?_; clear hF; intro a hF
          refine op_gv (v := .pointer (some ⟨g102, 3, none⟩)) rfl rfl hF rfl (yt (gw_yield hF rfl rfl rfl)) (fun hg => (run_fieldAddr rfl fl27_3 (hF.ev rfl) rfl)) ?_; clear hF; intro a hF
          refine op_gv (v := .bool x8) rfl rfl hF rfl (yt (gw_yield hF rfl rfl rfl)) (fun hg => (run_load1 rfl one4 ((hF.ev rfl).trans (gv_t hg)) ((S.free 3 rfl).cell rfl))) ?_; clear hF; intro a hF
          refine op_gv (v := .pointer (some ⟨g101, 3, none⟩)) rfl rfl hF rfl (yt (gw_yield hF rfl rfl rfl)) (fun hg => (run_fieldAddr rfl fl25_3 (hF.ev rfl) rfl)) ?_; clear hF; intro a hF
          refine op_gv (v := .bool x3) rfl rfl hF rfl (yt (gw_yield hF rfl rfl rfl)) (fun hg => (run_load1 rfl one4 ((hF.ev rfl).trans (gv_t hg)) ((S.free 4 rfl).cell rfl))) ?_; clear hF; intro a hF
          refine op_gv (v := .bool (x8 == x3)) rfl rfl hF rfl (yt (gw_yield hF rfl rfl rfl)) (fun hg => (run_eqlB ((hF.ev rfl).trans (gv_t hg)) ((hF.ev rfl).trans (gv_t hg)) Tryd.underlying4 rfl)) ?_; clear hF; intro a hF
          refine op_val (v := .bool (((((x5 == 1) && (leB 0 x1)) && (x6 == x1)) && (x7 == x2)) && (x8 == x3))) rfl rfl hF rfl (run_pick_and rfl (hF.ev rfl) (fun hp => ((hF.ev rfl).trans (gv_t hp))) rfl) ?_; clear hF; intro a hF
          refine op_val (v := .bool (((((x5 == 1) && (leB 0 x1)) && (x6 == x1)) && (x7 == x2)) && (x8 == x3))) rfl rfl hF rfl (run_assign rfl (hF.ev rfl)) ?_; clear hF; intro a hF
          refine wpList_nil ?_
          obtain ⟨o121, hM124, hM118⟩ := bind_ex hM118
          refine wp_cut (fun a u => ∃ (p120 : List Bool × Int × Int × Bool × Int) (B122 : Option Addr) (d123 : Nat), (Sum.inl p120) = o121 ∧ Fr a 135 [(4, .pointer (some ⟨g103, 0, none⟩)), (5, .bool false), (6, .pointer (some ⟨g110, 0, none⟩))] ∧ St w u [.box g110 25 #[.slice B122 p120.1.length d123, .int .i64 p120.2.1, .int .i64 p120.2.2.1, .bool p120.2.2.2.1, .int .i64 p120.2.2.2.2], .box g103 25 #[.slice none 0 0, .int .i64 0, .int .i64 0, .bool false, .int .i64 0], .box g102 27 #[.int .i64 x5, .int .i64 x6, .int .i64 x7, .bool x8], .box g101 25 #[.slice A0 x0.length c0, .int .i64 x1, .int .i64 x2, .bool x3, .int .i64 x4], .row 4 1 (.slice B122 p120.1.length d123) p120.1.length (p120.1.flatMap eB)]) ?_ ?_
          · have _ := trivial
            cases hc125 : (((((x5 == 1) && (leB 0 x1)) && (x6 == x1)) && (x7 == x2)) && (x8 == x3))
            · replace hM124 := bif_f hc125 hM124
              refine cond_f hF rfl hc125 ?_
              refine wp_seq ?_
              refine wp_region_lit ?_
              refine op_val (v := .pointer (some ⟨g102, 0, none⟩)) rfl rfl hF rfl (run_fieldAddr rfl fl27_0 (hF.ev rfl) rfl) ?_; clear hF; intro a hF
              refine op_val (v := .int .i64 x5) rfl rfl hF rfl (run_load1 rfl one3 (hF.ev rfl) ((S.free 3 rfl).cell rfl)) ?_; clear hF; intro a hF
              refine op_val (v := .bool (x5 == 2)) rfl rfl hF rfl (run_eql (hF.ev rfl) rfl rfl) ?_; clear hF; intro a hF
              refine op_val (v := .bool (x5 == 2)) rfl rfl hF rfl (run_move rfl (hF.ev rfl)) ?_; clear hF; intro a hF
              refine op_gv (v := .pointer (some ⟨g101, 1, none⟩)) rfl rfl hF rfl (yt (gw_yield hF rfl rfl rfl)) (fun hg => (run_fieldAddr rfl fl25_1 (hF.ev rfl) rfl)) ?_; clear hF; intro a hF
              refine op_gv (v := .int .i64 x1) rfl rfl hF rfl (yt (gw_yield hF rfl rfl rfl)) (fun hg => (run_load1 rfl one3 ((hF.ev rfl).trans (gv_t hg)) ((S.free 4 rfl).cell rfl))) ?_; clear hF; intro a hF
              refine op_gv (v := .bool (leB 0 x1)) rfl rfl hF rfl (yt (gw_yield hF rfl rfl rfl)) (fun hg => (run_geq ((hF.ev rfl).trans (gv_t hg)) rfl rfl)) ?_; clear hF; intro a hF
              refine op_val (v := .bool ((x5 == 2) && (leB 0 x1))) rfl rfl hF rfl (run_pick_and rfl (hF.ev rfl) (fun hp => ((hF.ev rfl).trans (gv_t hp))) rfl) ?_; clear hF; intro a hF
              refine op_val (v := .bool ((x5 == 2) && (leB 0 x1))) rfl rfl hF rfl (run_move rfl (hF.ev rfl)) ?_; clear hF; intro a hF
              refine op_gv (v := .pointer (some ⟨g102, 1, none⟩)) rfl rfl hF rfl (yt (gw_yield hF rfl rfl rfl)) (fun hg => (run_fieldAddr rfl fl27_1 (hF.ev rfl) rfl)) ?_; clear hF; intro a hF
              refine op_gv (v := .int .i64 x6) rfl rfl hF rfl (yt (gw_yield hF rfl rfl rfl)) (fun hg => (run_load1 rfl one3 ((hF.ev rfl).trans (gv_t hg)) ((S.free 3 rfl).cell rfl))) ?_; clear hF; intro a hF
              refine op_gv (v := .pointer (some ⟨g101, 1, none⟩)) rfl rfl hF rfl (yt (gw_yield hF rfl rfl rfl)) (fun hg => (run_fieldAddr rfl fl25_1 (hF.ev rfl) rfl)) ?_; clear hF; intro a hF
              refine op_gv (v := .int .i64 x1) rfl rfl hF rfl (yt (gw_yield hF rfl rfl rfl)) (fun hg => (run_load1 rfl one3 ((hF.ev rfl).trans (gv_t hg)) ((S.free 4 rfl).cell rfl))) ?_; clear hF; intro a hF
              refine op_gv (v := .bool (x6 == x1)) rfl rfl hF rfl (yt (gw_yield hF rfl rfl rfl)) (fun hg => (run_eql ((hF.ev rfl).trans (gv_t hg)) ((hF.ev rfl).trans (gv_t hg)) rfl)) ?_; clear hF; intro a hF
              refine op_val (v := .bool (((x5 == 2) && (leB 0 x1)) && (x6 == x1))) rfl rfl hF rfl (run_pick_and rfl (hF.ev rfl) (fun hp => ((hF.ev rfl).trans (gv_t hp))) rfl) ?_; clear hF; intro a hF
              refine op_val (v := .bool (((x5 == 2) && (leB 0 x1)) && (x6 == x1))) rfl rfl hF rfl (run_assign rfl (hF.ev rfl)) ?_; clear hF; intro a hF
              refine wpList_nil ?_
              obtain ⟨o127, hM130, hM124⟩ := bind_ex hM124
              refine wp_cut (fun a u => ∃ (p126 : List Bool × Int × Int × Bool × Int) (B128 : Option Addr) (d129 : Nat), (Sum.inl p126) = o127 ∧ Fr a 135 [(4, .pointer (some ⟨g103, 0, none⟩)), (5, .bool false), (6, .pointer (some ⟨g110, 0, none⟩))] ∧ St w u [.box g110 25 #[.slice B128 p126.1.length d129, .int .i64 p126.2.1, .int .i64 p126.2.2.1, .bool p126.2.2.2.1, .int .i64 p126.2.2.2.2], .box g103 25 #[.slice none 0 0, .int .i64 0, .int .i64 0, .bool false, .int .i64 0], .box g102 27 #[.int .i64 x5, .int .i64 x6, .int .i64 x7, .bool x8], .box g101 25 #[.slice A0 x0.length c0, .int .i64 x1, .int .i64 x2, .bool x3, .int .i64 x4], .row 4 1 (.slice B128 p126.1.length d129) p126.1.length (p126.1.flatMap eB)]) ?_ ?_
              · have _ := trivial
                cases hc131 : (((x5 == 2) && (leB 0 x1)) && (x6 == x1))
                · replace hM130 := bif_f hc131 hM130
                  refine cond_f hF rfl hc131 ?_
                  refine wp_seq ?_
                  refine wp_region_lit ?_
                  refine op_val (v := .pointer (some ⟨g102, 0, none⟩)) rfl rfl hF rfl (run_fieldAddr rfl fl27_0 (hF.ev rfl) rfl) ?_; clear hF; intro a hF
                  refine op_val (v := .int .i64 x5) rfl rfl hF rfl (run_load1 rfl one3 (hF.ev rfl) ((S.free 3 rfl).cell rfl)) ?_; clear hF; intro a hF
                  refine op_val (v := .bool (x5 == 3)) rfl rfl hF rfl (run_eql (hF.ev rfl) rfl rfl) ?_; clear hF; intro a hF
                  refine op_val (v := .bool (x5 == 3)) rfl rfl hF rfl (run_move rfl (hF.ev rfl)) ?_; clear hF; intro a hF
                  refine op_gv (v := .pointer (some ⟨g101, 4, none⟩)) rfl rfl hF rfl (yt (gw_yield hF rfl rfl rfl)) (fun hg => (run_fieldAddr rfl fl25_4 (hF.ev rfl) rfl)) ?_; clear hF; intro a hF
                  refine op_gv (v := .int .i64 x4) rfl rfl hF rfl (yt (gw_yield hF rfl rfl rfl)) (fun hg => (run_load1 rfl one3 ((hF.ev rfl).trans (gv_t hg)) ((S.free 4 rfl).cell rfl))) ?_; clear hF; intro a hF
                  refine op_gv (v := .bool (ltB 1 x4)) rfl rfl hF rfl (yt (gw_yield hF rfl rfl rfl)) (fun hg => (run_gtr ((hF.ev rfl).trans (gv_t hg)) rfl rfl)) ?_; clear hF; intro a hF
                  refine op_val (v := .bool ((x5 == 3) && (ltB 1 x4))) rfl rfl hF rfl (run_pick_and rfl (hF.ev rfl) (fun hp => ((hF.ev rfl).trans (gv_t hp))) rfl) ?_; clear hF; intro a hF
                  refine op_val (v := .bool ((x5 == 3) && (ltB 1 x4))) rfl rfl hF rfl (run_assign rfl (hF.ev rfl)) ?_; clear hF; intro a hF
                  refine wpList_nil ?_
                  obtain ⟨o133, hM136, hM130⟩ := bind_ex hM130
                  refine wp_cut (fun a u => ∃ (p132 : List Bool × Int × Int × Bool × Int) (B134 : Option Addr) (d135 : Nat), (Sum.inl p132) = o133 ∧ Fr a 135 [(4, .pointer (some ⟨g103, 0, none⟩)), (5, .bool false), (6, .pointer (some ⟨g110, 0, none⟩))] ∧ St w u [.box g110 25 #[.slice B134 p132.1.length d135, .int .i64 p132.2.1, .int .i64 p132.2.2.1, .bool p132.2.2.2.1, .int .i64 p132.2.2.2.2], .box g103 25 #[.slice none 0 0, .int .i64 0, .int .i64 0, .bool false, .int .i64 0], .box g102 27 #[.int .i64 x5, .int .i64 x6, .int .i64 x7, .bool x8], .box g101 25 #[.slice A0 x0.length c0, .int .i64 x1, .int .i64 x2, .bool x3, .int .i64 x4], .row 4 1 (.slice B134 p132.1.length d135) p132.1.length (p132.1.flatMap eB)]) ?_ ?_
                  · have _ := trivial
                    cases hc137 : ((x5 == 3) && (ltB 1 x4))
                    · replace hM136 := bif_f hc137 hM136
                      refine cond_f hF rfl hc137 ?_
                      refine wp_seq ?_
                      refine wp_region_lit ?_
                      refine op_val (v := .pointer (some ⟨g102, 0, none⟩)) rfl rfl hF rfl (run_fieldAddr rfl fl27_0 (hF.ev rfl) rfl) ?_; clear hF; intro a hF
                      refine op_val (v := .int .i64 x5) rfl rfl hF rfl (run_load1 rfl one3 (hF.ev rfl) ((S.free 3 rfl).cell rfl)) ?_; clear hF; intro a hF
                      refine op_val (v := .bool (x5 == 3)) rfl rfl hF rfl (run_eql (hF.ev rfl) rfl rfl) ?_; clear hF; intro a hF
                      refine op_val (v := .bool (x5 == 3)) rfl rfl hF rfl (run_assign rfl (hF.ev rfl)) ?_; clear hF; intro a hF
                      refine wpList_nil ?_
                      cases hc138 : (x5 == 3)
                      · replace hM136 := bif_f hc138 hM136
                        refine cond_f hF rfl hc138 ?_
                        refine wp_seq ?_
                        refine wp_region_lit ?_
                        refine op_val (v := .agg #[.slice B107 p106.1.length d109, .int .i64 p106.2.1, .int .i64 p106.2.2.1, .bool p106.2.2.2.1, .int .i64 p106.2.2.2.2]) rfl rfl hF rfl (run_loadN rfl ag25 (hF.ev rfl) rfl ((S.free 0 rfl).cells 0 #[.slice B107 p106.1.length d109, .int .i64 p106.2.1, .int .i64 p106.2.2.1, .bool p106.2.2.2.1, .int .i64 p106.2.2.2.2] rfl)) ?_; clear hF; intro a hF
                        refine op_do rfl rfl (run_store (cs' := #[.slice B107 p106.1.length d109, .int .i64 p106.2.1, .int .i64 p106.2.2.1, .bool p106.2.2.2.1, .int .i64 p106.2.2.2.2]) rfl sz25 (hF.ev rfl) (hF.ev rfl) rfl rfl rfl (S.free 2 rfl) rfl rfl) ?_; replace S := S.put 2 rfl (#[.slice B107 p106.1.length d109, .int .i64 p106.2.1, .int .i64 p106.2.2.1, .bool p106.2.2.2.1, .int .i64 p106.2.2.2.2])
                        generalize World.setRow _ _ _ = u at S ⊢
                        refine op_val (v := .bool false) rfl rfl hF rfl (run_assign rfl rfl) ?_; clear hF; intro a hF
                        refine wpList_nil ?_
                        refine wp_ret ?_
                        repeat with_reducible (first | refine then_ret ?_ | refine in_ret ?_ | refine in_nrm ?_)
                        refine ret2_gw (.inl rfl) hF rfl (res_cell (hF.ev rfl) (res_loadN ag25 rfl (S.cells 2 rfl 0 #[.slice B107 p106.1.length d109, .int .i64 p106.2.1, .int .i64 p106.2.2.1, .bool p106.2.2.2.1, .int .i64 p106.2.2.2.2] rfl))) (res_tmp (hF.ev rfl)) ?_
                        obtain rfl := Option.some.inj hM136
                        obtain rfl := Option.some.inj hM130
                        obtain rfl := Option.some.inj hM124
                        obtain rfl := Option.some.inj hM118
                        obtain rfl := Option.some.inj hM
                        exact ⟨B107, p106.1.length, d109, rfl, rfl, S.sel [1] rfl rfl⟩
                      · replace hM136 := bif_t hc138 hM136
                        refine cond_t hF rfl hc138 ?_
                        refine wp_region_lit ?_
                        refine op_val (v := .agg #[.slice A0 x0.length c0, .int .i64 x1, .int .i64 x2, .bool x3, .int .i64 x4]) rfl rfl hF rfl (run_loadN rfl ag25 (hF.ev rfl) rfl ((S.free 4 rfl).cells 0 #[.slice A0 x0.length c0, .int .i64 x1, .int .i64 x2, .bool x3, .int .i64 x4] rfl)) ?_; clear hF; intro a hF
                        obtain ⟨p139, h139, hM136⟩ := bind_ex hM136
                        refine op_call rfl rfl hF rfl (run_call (vs := [.agg #[.slice A0 x0.length c0, .int .i64 x1, .int .i64 x2, .bool x3, .int .i64 x4]]) rfl rfl co31 ⟨(hF.ev rfl), trivial⟩) (c_spec_l29Clear (x0 := x0) (x1 := x1) (x2 := x2) (x3 := x3) (x4 := x4) ⟨(S.rc0 h0.rc), rfl⟩ h139) ?_
                        rintro e u ⟨B140, n141, d142, rfl, rfl, T⟩
                        refine ⟨_, rfl, ?_⟩
                        clear hF; intro a hF
                        replace S := S.call1 T; clear T
                        refine op_do rfl rfl (run_store (cs' := #[.slice B140 p139.1.length d142, .int .i64 p139.2.1, .int .i64 p139.2.2.1, .bool p139.2.2.2.1, .int .i64 p139.2.2.2.2]) rfl sz25 (hF.ev rfl) (hF.ev rfl) rfl rfl rfl (S.free 1 rfl) rfl rfl) ?_; replace S := S.put 1 rfl (#[.slice B140 p139.1.length d142, .int .i64 p139.2.1, .int .i64 p139.2.2.1, .bool p139.2.2.2.1, .int .i64 p139.2.2.2.2])
                        generalize World.setRow _ _ _ = u at S ⊢
                        refine wpList_nil ?_
                        obtain rfl := Option.some.inj hM136
                        exact ⟨(p139.1, p139.2.1, p139.2.2.1, p139.2.2.2.1, p139.2.2.2.2), B140, d142, rfl, hF.keep _ ⟨rfl, rfl, rfl, trivial⟩, S.sel [1, 3, 4, 5, 0] rfl rfl⟩
                    · replace hM136 := bif_t hc137 hM136
                      refine cond_t hF rfl hc137 ?_
                      refine wp_region_lit ?_
                      refine op_val (v := .pointer (some ⟨g101, 4, none⟩)) rfl rfl hF rfl (run_fieldAddr rfl fl25_4 (hF.ev rfl) rfl) ?_; clear hF; intro a hF
                      refine op_val (v := .int .i64 x4) rfl rfl hF rfl (run_load1 rfl one3 (hF.ev rfl) ((S.free 4 rfl).cell rfl)) ?_; clear hF; intro a hF
                      refine op_val (v := .int .i64 (w64 (x4 - 1))) rfl rfl hF rfl (run_sub (z := w64 (x4 - 1)) (hF.ev rfl) rfl rfl rfl) ?_; clear hF; intro a hF
                      refine op_val (v := .pointer (some ⟨g110, 4, none⟩)) rfl rfl hF rfl (run_fieldAddr rfl fl25_4 (hF.ev rfl) rfl) ?_; clear hF; intro a hF
                      refine op_do rfl rfl (run_store (cs' := #[.slice B107 p106.1.length d109, .int .i64 p106.2.1, .int .i64 p106.2.2.1, .bool p106.2.2.2.1, .int .i64 (w64 (x4 - 1))]) rfl sz3 (hF.ev rfl) (hF.ev rfl) rfl rfl rfl (S.free 0 rfl) rfl rfl) ?_; replace S := S.put 0 rfl (#[.slice B107 p106.1.length d109, .int .i64 p106.2.1, .int .i64 p106.2.2.1, .bool p106.2.2.2.1, .int .i64 (w64 (x4 - 1))])
                      generalize World.setRow _ _ _ = u at S ⊢
                      refine wpList_nil ?_
                      obtain rfl := Option.some.inj hM136
                      exact ⟨(p106.1, p106.2.1, p106.2.2.1, p106.2.2.2.1, w64 (x4 - 1)), B107, d109, rfl, hF.keep _ ⟨rfl, rfl, rfl, trivial⟩, S.sel [0, 2, 3, 4, 1] rfl rfl⟩
                  · rintro a u ⟨p132, B134, d135, rfl, hF, S⟩
                    replace hM130 := elim_l hM130
                    obtain rfl := Option.some.inj hM130
                    exact ⟨(p132.1, p132.2.1, p132.2.2.1, p132.2.2.2.1, p132.2.2.2.2), B134, d135, rfl, hF.keep _ ⟨rfl, rfl, rfl, trivial⟩, S.sel [0, 1, 2, 3, 4] rfl rfl⟩
                · replace hM130 := bif_t hc131 hM130
                  refine cond_t hF rfl hc131 ?_
                  refine wp_region_lit ?_
                  refine op_val (v := .agg #[.slice A0 x0.length c0, .int .i64 x1, .int .i64 x2, .bool x3, .int .i64 x4]) rfl rfl hF rfl (run_loadN rfl ag25 (hF.ev rfl) rfl ((S.free 4 rfl).cells 0 #[.slice A0 x0.length c0, .int .i64 x1, .int .i64 x2, .bool x3, .int .i64 x4] rfl)) ?_; clear hF; intro a hF
                  obtain ⟨p143, h143, hM130⟩ := bind_ex hM130
                  refine op_call rfl rfl hF rfl (run_call (vs := [.agg #[.slice A0 x0.length c0, .int .i64 x1, .int .i64 x2, .bool x3, .int .i64 x4]]) rfl rfl co31 ⟨(hF.ev rfl), trivial⟩) (c_spec_l29Clear (x0 := x0) (x1 := x1) (x2 := x2) (x3 := x3) (x4 := x4) ⟨(S.rc0 h0.rc), rfl⟩ h143) ?_
                  rintro e u ⟨B144, n145, d146, rfl, rfl, T⟩
                  refine ⟨_, rfl, ?_⟩
                  clear hF; intro a hF
                  replace S := S.call1 T; clear T
                  refine op_do rfl rfl (run_store (cs' := #[.slice B144 p143.1.length d146, .int .i64 p143.2.1, .int .i64 p143.2.2.1, .bool p143.2.2.2.1, .int .i64 p143.2.2.2.2]) rfl sz25 (hF.ev rfl) (hF.ev rfl) rfl rfl rfl (S.free 1 rfl) rfl rfl) ?_; replace S := S.put 1 rfl (#[.slice B144 p143.1.length d146, .int .i64 p143.2.1, .int .i64 p143.2.2.1, .bool p143.2.2.2.1, .int .i64 p143.2.2.2.2])
                  generalize World.setRow _ _ _ = u at S ⊢
                  refine wpList_nil ?_
                  obtain rfl := Option.some.inj hM130
                  exact ⟨(p143.1, p143.2.1, p143.2.2.1, p143.2.2.2.1, p143.2.2.2.2), B144, d146, rfl, hF.keep _ ⟨rfl, rfl, rfl, trivial⟩, S.sel [1, 3, 4, 5, 0] rfl rfl⟩
              · rintro a u ⟨p126, B128, d129, rfl, hF, S⟩
                replace hM124 := elim_l hM124
                obtain rfl := Option.some.inj hM124
                exact ⟨(p126.1, p126.2.1, p126.2.2.1, p126.2.2.2.1, p126.2.2.2.2), B128, d129, rfl, hF.keep _ ⟨rfl, rfl, rfl, trivial⟩, S.sel [0, 1, 2, 3, 4] rfl rfl⟩
            · replace hM124 := bif_t hc125 hM124
              refine cond_t hF rfl hc125 ?_
              refine wp_seq ?_
              refine wp_region_lit ?_
              refine op_val (v := .agg #[.slice A0 x0.length c0, .int .i64 x1, .int .i64 x2, .bool x3, .int .i64 x4]) rfl rfl hF rfl (run_loadN rfl ag25 (hF.ev rfl) rfl ((S.free 4 rfl).cells 0 #[.slice A0 x0.length c0, .int .i64 x1, .int .i64 x2, .bool x3, .int .i64 x4] rfl)) ?_; clear hF; intro a hF
              obtain ⟨p147, h147, hM124⟩ := bind_ex hM124
              refine op_call rfl rfl hF rfl (run_call (vs := [.agg #[.slice A0 x0.length c0, .int .i64 x1, .int .i64 x2, .bool x3, .int .i64 x4]]) rfl rfl co31 ⟨(hF.ev rfl), trivial⟩) (c_spec_l29Clear (x0 := x0) (x1 := x1) (x2 := x2) (x3 := x3) (x4 := x4) ⟨(S.rc0 h0.rc), rfl⟩ h147) ?_
              rintro e u ⟨B148, n149, d150, rfl, rfl, T⟩
              refine ⟨_, rfl, ?_⟩
              clear hF; intro a hF
              replace S := S.call1 T; clear T
              refine op_do rfl rfl (run_store (cs' := #[.slice B148 p147.1.length d150, .int .i64 p147.2.1, .int .i64 p147.2.2.1, .bool p147.2.2.2.1, .int .i64 p147.2.2.2.2]) rfl sz25 (hF.ev rfl) (hF.ev rfl) rfl rfl rfl (S.free 1 rfl) rfl rfl) ?_; replace S := S.put 1 rfl (#[.slice B148 p147.1.length d150, .int .i64 p147.2.1, .int .i64 p147.2.2.1, .bool p147.2.2.2.1, .int .i64 p147.2.2.2.2])
              generalize World.setRow _ _ _ = u at S ⊢
              refine wpList_nil ?_
              refine wp_region_lit ?_
              refine op_val (v := .pointer (some ⟨g110, 0, none⟩)) rfl rfl hF rfl (run_fieldAddr rfl fl25_0 (hF.ev rfl) rfl) ?_; clear hF; intro a hF
              refine op_val (v := .slice B148 p147.1.length d150) rfl rfl hF rfl (run_load1 rfl one23 (hF.ev rfl) ((S.free 1 rfl).cell rfl)) ?_; clear hF; intro a hF
              refine op_val (v := .pointer (some ⟨g101, 2, none⟩)) rfl rfl hF rfl (run_fieldAddr rfl fl25_2 (hF.ev rfl) rfl) ?_; clear hF; intro a hF
              refine op_val (v := .int .i64 x2) rfl rfl hF rfl (run_load1 rfl one3 (hF.ev rfl) ((S.free 5 rfl).cell rfl)) ?_; clear hF; intro a hF
              refine op_val (v := .pointer (some ⟨g101, 3, none⟩)) rfl rfl hF rfl (run_fieldAddr rfl fl25_3 (hF.ev rfl) rfl) ?_; clear hF; intro a hF
              refine op_val (v := .bool x3) rfl rfl hF rfl (run_load1 rfl one4 (hF.ev rfl) ((S.free 5 rfl).cell rfl)) ?_; clear hF; intro a hF
              obtain ⟨hk151, hM124⟩ := chk_ex hM124
              replace hk151 := ixB_t hk151
              refine op_val (v := .pointer (some ⟨adB B148, adO B148 + x2.toNat * 1, none⟩)) rfl rfl hF rfl (run_indexAddr (b := adB B148) (off := adO B148) rfl Tryd.underlying23 sz4 ((hF.ev rfl).trans (congrArg (fun A => Value.slice A p147.1.length d150) ((S.rc 0 rfl).rd.ad (ix_pos hk151)))) (hF.ev rfl) hk151.1 hk151.2 (k' := adO B148 + x2.toNat * 1) rfl) ?_; clear hF; intro a hF
              obtain ⟨w', hrun, S'⟩ := run_storeElN (P := Tryd.prog) (ρ := a.eval) (y0 := x3) (off := 0) S 4 (.tmp 96) (.tmp 95) (i := 0) sz4 (hF.ev rfl) (hF.ev rfl) rfl rfl rfl rfl rfl eB_len false (ix_ltn hk151 rfl) rfl rfl
              refine op_do rfl rfl (hrun _ rfl) ?_; clear hrun S; have S := S'; clear S'; generalize w' = u at S ⊢
              refine wpList_nil ?_
              obtain rfl := Option.some.inj hM124
              try rw [show p147.1.length = (p147.1.set x2.toNat x3).length from (len_set rfl)] at hF
              try rw [show p147.1.length = (p147.1.set x2.toNat x3).length from (len_set rfl)] at S
              exact ⟨(p147.1.set x2.toNat x3, p147.2.1, p147.2.2.1, p147.2.2.2.1, p147.2.2.2.2), B148, d150, rfl, hF.keep _ ⟨rfl, rfl, rfl, trivial⟩, S.sel [1, 3, 4, 5, 0] rfl rfl⟩
          · rintro a u ⟨p120, B122, d123, rfl, hF, S⟩
            replace hM118 := elim_l hM118
            obtain rfl := Option.some.inj hM118
            exact ⟨(p120.1, p120.2.1, p120.2.2.1, p120.2.2.2.1, p120.2.2.2.2), B122, d123, rfl, hF.keep _ ⟨rfl, rfl, rfl, trivial⟩, S.sel [0, 1, 2, 3, 4] rfl rfl⟩
        · replace hM118 := bif_t hc119 hM118
          refine cond_t hF rfl hc119 ?_
          refine wp_seq ?_
          refine wp_region_lit ?_
          refine op_val (v := .pointer (some ⟨g102, 1, none⟩)) rfl rfl hF rfl (run_fieldAddr rfl fl27_1 (hF.ev rfl) rfl) ?_; clear hF; intro a hF
          refine op_val (v := .int .i64 x6) rfl rfl hF rfl (run_load1 rfl one3 (hF.ev rfl) ((S.free 3 rfl).cell rfl)) ?_; clear hF; intro a hF
          refine op_val (v := .pointer (some ⟨g110, 1, none⟩)) rfl rfl hF rfl (run_fieldAddr rfl fl25_1 (hF.ev rfl) rfl) ?_; clear hF; intro a hF
          refine op_do rfl rfl (run_store (cs' := #[.slice B107 p106.1.length d109, .int .i64 x6, .int .i64 p106.2.2.1, .bool p106.2.2.2.1, .int .i64 p106.2.2.2.2]) rfl sz3 (hF.ev rfl) (hF.ev rfl) rfl rfl rfl (S.free 0 rfl) rfl rfl) ?_; replace S := S.put 0 rfl (#[.slice B107 p106.1.length d109, .int .i64 x6, .int .i64 p106.2.2.1, .bool p106.2.2.2.1, .int .i64 p106.2.2.2.2])
          generalize World.setRow _ _ _ = u at S ⊢
          refine wpList_nil ?_
          refine wp_seq ?_
          refine wp_region_lit ?_
          refine op_val (v := .pointer (some ⟨g102, 2, none⟩)) rfl rfl hF rfl (run_fieldAddr rfl fl27_2 (hF.ev rfl) rfl) ?_; clear hF; intro a hF
          refine op_val (v := .int .i64 x7) rfl rfl hF rfl (run_load1 rfl one3 (hF.ev rfl) ((S.free 3 rfl).cell rfl)) ?_; clear hF; intro a hF
          refine op_val (v := .pointer (some ⟨g110, 2, none⟩)) rfl rfl hF rfl (run_fieldAddr rfl fl25_2 (hF.ev rfl) rfl) ?_; clear hF; intro a hF
          refine op_do rfl rfl (run_store (cs' := #[.slice B107 p106.1.length d109, .int .i64 x6, .int .i64 x7, .bool p106.2.2.2.1, .int .i64 p106.2.2.2.2]) rfl sz3 (hF.ev rfl) (hF.ev rfl) rfl rfl rfl (S.free 0 rfl) rfl rfl) ?_; replace S := S.put 0 rfl (#[.slice B107 p106.1.length d109, .int .i64 x6, .int .i64 x7, .bool p106.2.2.2.1, .int .i64 p106.2.2.2.2])
          generalize World.setRow _ _ _ = u at S ⊢
          refine wpList_nil ?_
          refine wp_seq ?_
          refine wp_region_lit ?_
          refine op_val (v := .pointer (some ⟨g102, 3, none⟩)) rfl rfl hF rfl (run_fieldAddr rfl fl27_3 (hF.ev rfl) rfl) ?_; clear hF; intro a hF
          refine op_val (v := .bool x8) rfl rfl hF rfl (run_load1 rfl one4 (hF.ev rfl) ((S.free 3 rfl).cell rfl)) ?_; clear hF; intro a hF
          refine op_val (v := .pointer (some ⟨g110, 3, none⟩)) rfl rfl hF rfl (run_fieldAddr rfl fl25_3 (hF.ev rfl) rfl) ?_; clear hF; intro a hF
          refine op_do rfl rfl (run_store (cs' := #[.slice B107 p106.1.length d109, .int .i64 x6, .int .i64 x7, .bool x8, .int .i64 p106.2.2.2.2]) rfl sz4 (hF.ev rfl) (hF.ev rfl) rfl rfl rfl (S.free 0 rfl) rfl rfl) ?_; replace S := S.put 0 rfl (#[.slice B107 p106.1.length d109, .int .i64 x6, .int .i64 x7, .bool x8, .int .i64 p106.2.2.2.2])
          generalize World.setRow _ _ _ = u at S ⊢
          refine wpList_nil ?_
          refine wp_region_lit ?_
          refine op_val (v := .pointer (some ⟨g110, 4, none⟩)) rfl rfl hF rfl (run_fieldAddr rfl fl25_4 (hF.ev rfl) rfl) ?_; clear hF; intro a hF
          refine op_do rfl rfl (run_store (cs' := #[.slice B107 p106.1.length d109, .int .i64 x6, .int .i64 x7, .bool x8, .int .i64 3]) rfl sz3 (hF.ev rfl) rfl rfl rfl rfl (S.free 0 rfl) rfl rfl) ?_; replace S := S.put 0 rfl (#[.slice B107 p106.1.length d109, .int .i64 x6, .int .i64 x7, .bool x8, .int .i64 3])
          generalize World.setRow _ _ _ = u at S ⊢
          refine wpList_nil ?_
          obtain rfl := Option.some.inj hM118
          exact ⟨(p106.1, x6, x7, x8, 3), B107, d109, rfl, hF.keep _ ⟨rfl, rfl, rfl, trivial⟩, S.sel [0, 2, 3, 4, 1] rfl rfl⟩
      · rintro a u ⟨p114, B116, d117, rfl, hF, S⟩
        replace hM := elim_l hM
        refine wp_seq ?_
        refine wp_region_lit ?_
        refine op_val (v := .agg #[.slice B116 p114.1.length d117, .int .i64 p114.2.1, .int .i64 p114.2.2.1, .bool p114.2.2.2.1, .int .i64 p114.2.2.2.2]) rfl rfl hF rfl (run_loadN rfl ag25 (hF.ev rfl) rfl ((S.free 0 rfl).cells 0 #[.slice B116 p114.1.length d117, .int .i64 p114.2.1, .int .i64 p114.2.2.1, .bool p114.2.2.2.1, .int .i64 p114.2.2.2.2] rfl)) ?_; clear hF; intro a hF
        refine op_do rfl rfl (run_store (cs' := #[.slice B116 p114.1.length d117, .int .i64 p114.2.1, .int .i64 p114.2.2.1, .bool p114.2.2.2.1, .int .i64 p114.2.2.2.2]) rfl sz25 (hF.ev rfl) (hF.ev rfl) rfl rfl rfl (S.free 1 rfl) rfl rfl) ?_; replace S := S.put 1 rfl (#[.slice B116 p114.1.length d117, .int .i64 p114.2.1, .int .i64 p114.2.2.1, .bool p114.2.2.2.1, .int .i64 p114.2.2.2.2])
        generalize World.setRow _ _ _ = u at S ⊢
        refine op_val (v := .bool true) rfl rfl hF rfl (run_assign rfl rfl) ?_; clear hF; intro a hF
        refine wpList_nil ?_
        refine wp_ret ?_
        repeat with_reducible (first | refine then_ret ?_ | refine in_ret ?_ | refine in_nrm ?_)
        refine ret2_gw (.inl rfl) hF rfl (res_cell (hF.ev rfl) (res_loadN ag25 rfl (S.cells 1 rfl 0 #[.slice B116 p114.1.length d117, .int .i64 p114.2.1, .int .i64 p114.2.2.1, .bool p114.2.2.2.1, .int .i64 p114.2.2.2.2] rfl))) (res_tmp (hF.ev rfl)) ?_
        obtain rfl := Option.some.inj hM
        exact ⟨B116, p114.1.length, d117, rfl, rfl, S.sel [4] rfl rfl⟩

set_option maxHeartbeats 4000000 in
theorem c_spec_l20Panel {x0 : List Int} {x1 : Int} {x2 : Int} {A0 : Option Addr} {n0 c0 : Nat} {g0 : Nat} {w : World} {r : List Bool × Int × Int × Bool × Int × Int} {w0 : World} {X : List Asn} (h0 : Rt w0 1 eU A0 n0 c0 x0) (S : St w0 w (Asn.box g0 67 #[.slice A0 n0 c0, .int .i64 x1] :: X)) (hM : m_spec_l20Panel x0 x1 x2 = some r) :
    Calls Tryd.prog 25 #[.pointer (some ⟨g0, 0, none⟩), .int .i64 x2] w (fun e w' => ∃ (B0 : Option Addr) (N0 D0 : Nat), e = .returned (.agg #[.slice B0 N0 D0, .int .i64 r.2.1, .int .i64 r.2.2.1, .bool r.2.2.2.1, .int .i64 r.2.2.2.2.1]) ∧ N0 = r.1.length ∧ St w0 w' (Asn.row 4 1 (.slice B0 N0 D0) N0 (r.1.flatMap eB) :: Asn.box g0 67 #[.slice A0 n0 c0, .int .i64 r.2.2.2.2.2] :: X)) := by
  obtain rfl := h0.len
  unfold m_spec_l20Panel at hM
  refine calls_gw Tryd.func25 Tryd.ntmps25 rfl [(0, .pointer (some ⟨g0, 0, none⟩)), (1, .int .i64 x2)] ⟨rfl, rfl, trivial⟩ rfl ?_
  intro a hF
  refine wp_seq ?_
  refine wp_region_lit ?_
  refine op_new (cs := #[.slice none 0 0, .int .i64 0, .int .i64 0, .bool false, .int .i64 0]) rfl rfl hF rfl S (run_allocZ rfl zr25) ?_; clear hF S; intro a g101 u hF S
  refine wpList_nil ?_
  refine wp_seq ?_
  refine wp_region_lit ?_
  refine op_val (v := .agg #[.slice none 0 0, .int .i64 (-1), .int .i64 0, .bool false, .int .i64 0]) rfl rfl hF rfl (run_build (vs := [(1, .int .i64 (-1))]) rfl ⟨⟨rfl, rfl⟩, trivial⟩ (bd25_1 rfl)) ?_; clear hF; intro a hF
  refine op_new (cs := #[.slice none 0 0, .int .i64 0, .int .i64 0, .bool false, .int .i64 0]) rfl rfl hF rfl S (run_allocZ rfl zr25) ?_; clear hF S; intro a g102 u hF S
  refine op_do rfl rfl (run_store (cs' := #[.slice none 0 0, .int .i64 (-1), .int .i64 0, .bool false, .int .i64 0]) rfl sz25 (hF.ev rfl) (hF.ev rfl) rfl rfl rfl (S.free 0 rfl) rfl rfl) ?_; replace S := S.put 0 rfl (#[.slice none 0 0, .int .i64 (-1), .int .i64 0, .bool false, .int .i64 0])
  generalize World.setRow _ _ _ = u at S ⊢
  refine wpList_nil ?_
  refine wp_seq ?_
  refine wp_seq ?_
  refine wp_region_lit ?_
  refine op_val (v := .pointer (some ⟨g0, 0, none⟩)) rfl rfl hF rfl (run_move rfl (hF.ev rfl)) ?_; clear hF; intro a hF
  obtain ⟨p103, h103, hM⟩ := bind_ex hM
  refine op_call rfl rfl hF rfl (run_call (vs := [.pointer (some ⟨g0, 0, none⟩), .int .i64 4]) rfl rfl co34 ⟨(hF.ev rfl), rfl, trivial⟩) (c_spec_l20Rd_pick (x0 := x0) (x1 := x1) (x2 := 4) ⟨h0.rc, rfl⟩ (show St w0 _ (Asn.box g0 67 #[.slice A0 x0.length c0, .int .i64 x1] :: Asn.box g102 25 #[.slice none 0 0, .int .i64 (-1), .int .i64 0, .bool false, .int .i64 0] :: Asn.box g101 25 #[.slice none 0 0, .int .i64 0, .int .i64 0, .bool false, .int .i64 0] :: X) from S.selT (M := [.box g0 67 #[.slice A0 x0.length c0, .int .i64 x1], .box g102 25 #[.slice none 0 0, .int .i64 (-1), .int .i64 0, .bool false, .int .i64 0], .box g101 25 #[.slice none 0 0, .int .i64 0, .int .i64 0, .bool false, .int .i64 0]]) 3 [2, 0, 1] rfl rfl rfl) h103) ?_
  rintro e u ⟨rfl, T⟩
  refine ⟨_, rfl, ?_⟩
  clear hF; intro a hF
  clear S; have S := T; clear T
  refine op_val (v := .int .i64 (w64 (1 + p103.1))) rfl rfl hF rfl (run_add (z := w64 (1 + p103.1)) rfl (hF.ev rfl) rfl rfl) ?_; clear hF; intro a hF
  refine op_val (v := .int .i64 (w64 (1 + p103.1))) rfl rfl hF rfl (run_assign rfl (hF.ev rfl)) ?_; clear hF; intro a hF
  refine wpList_nil ?_
  obtain ⟨o105, hM108, hM⟩ := bind_ex hM
  refine wp_cut (fun a u => ∃ (p104 : Int × List Bool) (B106 : Option Addr) (d107 : Nat), p104 = o105 ∧ Fr a 70 [(0, .pointer (some ⟨g0, 0, none⟩)), (1, .int .i64 x2), (4, .pointer (some ⟨g101, 0, none⟩)), (5, .pointer (some ⟨g102, 0, none⟩))] ∧ St w0 u (Asn.box g0 67 #[.slice A0 x0.length c0, .int .i64 p104.1] :: Asn.box g102 25 #[.slice B106 p104.2.length d107, .int .i64 (-1), .int .i64 0, .bool false, .int .i64 0] :: Asn.box g101 25 #[.slice none 0 0, .int .i64 0, .int .i64 0, .bool false, .int .i64 0] :: Asn.row 4 1 (.slice B106 p104.2.length d107) p104.2.length (p104.2.flatMap eB) :: X)) ?_ ?_
  · have _ := trivial
    refine wp_block ?_
    replace S := S.nilrow 4 1
    refine loop_gw (fun m a u => ∃ (p109 : Int × Int × List Bool) (B110 : Option Addr) (d111 : Nat), m_spec_l20Panel_l1 x0 m p109 = some _ ∧ Fr a 70 [(0, .pointer (some ⟨g0, 0, none⟩)), (1, .int .i64 x2), (4, .pointer (some ⟨g101, 0, none⟩)), (5, .pointer (some ⟨g102, 0, none⟩)), (6, .int .i64 p109.1)] ∧ St w0 u (Asn.box g0 67 #[.slice A0 x0.length c0, .int .i64 p109.2.1] :: Asn.box g102 25 #[.slice B110 p109.2.2.length d111, .int .i64 (-1), .int .i64 0, .bool false, .int .i64 0] :: Asn.box g101 25 #[.slice none 0 0, .int .i64 0, .int .i64 0, .bool false, .int .i64 0] :: Asn.row 4 1 (.slice B110 p109.2.2.length d111) p109.2.2.length (p109.2.2.flatMap eB) :: X)) FUEL ⟨(w64 (1 + p103.1), p103.2, ([] : List Bool)), none, 0, hM108, hF.keep _ ⟨rfl, rfl, rfl, rfl, rfl, trivial⟩, S.selT (M := [.box g0 67 #[.slice A0 x0.length c0, .int .i64 p103.2], .box g102 25 #[.slice none 0 0, .int .i64 (-1), .int .i64 0, .bool false, .int .i64 0], .box g101 25 #[.slice none 0 0, .int .i64 0, .int .i64 0, .bool false, .int .i64 0], .row 4 1 (.slice none 0 0) 0 (([] : List Bool).flatMap eB)]) 4 [1, 2, 3, 0] rfl rfl rfl⟩ ?_
    clear hF S hM108; rintro m a u ⟨p109, B110, d111, hM108, hF, S⟩
    rcases m with _ | f1
    · exact none_some hM108
    rw [m_spec_l20Panel_l1.eq_2] at hM108
    refine wp_seq ?_
    refine wp_seq ?_
    refine wp_region_lit ?_
    refine op_val (v := .int .i64 p109.1) rfl rfl hF rfl (run_move rfl (hF.ev rfl)) ?_; clear hF; intro a hF
    refine op_val (v := .bool (ltB 0 p109.1)) rfl rfl hF rfl (run_gtr (hF.ev rfl) rfl rfl) ?_; clear hF; intro a hF
    refine wpList_nil ?_
    cases hc112 : (ltB 0 p109.1)
    · replace hM108 := bif_f hc112 hM108
      refine cond_f hF rfl hc112 ?_
      refine wp_exit ?_
      repeat with_reducible (first | refine then_exit ?_ | refine in_hit ?_ | refine in_miss rfl ?_)
      obtain rfl := Option.some.inj hM108
      exact ⟨(p109.2.1, p109.2.2), B110, d111, rfl, hF.keep _ ⟨rfl, rfl, rfl, rfl, trivial⟩, S.selT (M := [.box g0 67 #[.slice A0 x0.length c0, .int .i64 p109.2.1], .box g102 25 #[.slice B110 p109.2.2.length d111, .int .i64 (-1), .int .i64 0, .bool false, .int .i64 0], .box g101 25 #[.slice none 0 0, .int .i64 0, .int .i64 0, .bool false, .int .i64 0], .row 4 1 (.slice B110 p109.2.2.length d111) p109.2.2.length (p109.2.2.flatMap eB)]) 4 [0, 1, 2, 3] rfl rfl rfl⟩
    · replace hM108 := bif_t hc112 hM108
      refine cond_t hF rfl hc112 ?_
      refine wp_skip ?_
      refine wp_seq ?_
      refine wp_block ?_
      obtain ⟨p113, h113, hM108⟩ := bind_ex hM108
      obtain ⟨hk114, hM108⟩ := chk_ex hM108
      replace hk114 := apB_t hk114
      refine region_gw (D := [18, 19, 20, 21, 22, 23, 24, 25]) (Lr := (Asn.box g101 25 #[.slice none 0 0, .int .i64 0, .int .i64 0, .bool false, .int .i64 0] :: X)) (deps := (fun | 0 => [18] | 1 => [19] | 2 => [20] | 3 => [21] | 4 => [22] | 5 => [23] | 6 => [24] | 7 => [25] | 8 => [25, 24] | _ => [])) (rd := (fun | 6 => [5] | _ => [])) (zr := (fun | 1 => [8] | _ => []))
        (φ := fun i vs => match i, vs with | 0, [v18] => v18 = .pointer (some ⟨g102, 0, none⟩) | 1, [v19] => v19 = .slice B110 p109.2.2.length d111 | 2, [v20] => v20 = .pointer (some ⟨g0, 0, none⟩) | 3, [v21] => v21 = .int .i64 p113.1 | 4, [v22] => v22 = .bool (p113.1 == 0) | 5, [v23] => v23 = .slice (slA v23) (([p113.1 == 0] : List Bool).length) (([p113.1 == 0] : List Bool).length) | 6, [v24] => v24 = .slice (slA v24) ((p109.2.2 ++ ([p113.1 == 0])).length) (slC v24) | 7, [v25] => v25 = .pointer (some ⟨g102, 0, none⟩) | _, _ => True)
        (C := fun i vs => match i, vs with | 3, [v21] => [.box g0 67 #[.slice A0 x0.length c0, .int .i64 p113.2]] | 5, [v23] => [.row 4 1 (.slice (slA v23) (([p113.1 == 0] : List Bool).length) (([p113.1 == 0] : List Bool).length)) (([p113.1 == 0] : List Bool).length) (([p113.1 == 0]).flatMap eB)] | 6, [v24] => [.row 4 1 (.slice (slA v24) ((p109.2.2 ++ ([p113.1 == 0])).length) (slC v24)) ((p109.2.2 ++ ([p113.1 == 0])).length) ((p109.2.2 ++ ([p113.1 == 0])).flatMap eB)] | 8, [v25, v24] => [.box g102 25 #[.slice (slA v24) ((p109.2.2 ++ ([p113.1 == 0])).length) (slC v24), .int .i64 (-1), .int .i64 0, .bool false, .int .i64 0]] | _, _ => [])
        (κ := (fun _ => none)) (Z := (fun | 3 => [.box g0 67 #[.slice A0 x0.length c0, .int .i64 p109.2.1]] | 6 => [.row 4 1 (.slice B110 p109.2.2.length d111) p109.2.2.length (p109.2.2.flatMap eB)] | 8 => [.box g102 25 #[.slice B110 p109.2.2.length d111, .int .i64 (-1), .int .i64 0, .bool false, .int .i64 0]] | _ => [])) mixed hF (by kernel_rfl) (show St w0 _ (Asn.box g0 67 #[.slice A0 x0.length c0, .int .i64 p109.2.1] :: Asn.row 4 1 (.slice B110 p109.2.2.length d111) p109.2.2.length (p109.2.2.flatMap eB) :: Asn.box g102 25 #[.slice B110 p109.2.2.length d111, .int .i64 (-1), .int .i64 0, .bool false, .int .i64 0] :: Asn.box g101 25 #[.slice none 0 0, .int .i64 0, .int .i64 0, .bool false, .int .i64 0] :: X) from S.selT (M := [.box g0 67 #[.slice A0 x0.length c0, .int .i64 p109.2.1], .row 4 1 (.slice B110 p109.2.2.length d111) p109.2.2.length (p109.2.2.flatMap eB), .box g102 25 #[.slice B110 p109.2.2.length d111, .int .i64 (-1), .int .i64 0, .bool false, .int .i64 0], .box g101 25 #[.slice none 0 0, .int .i64 0, .int .i64 0, .bool false, .int .i64 0]]) 4 [0, 3, 1, 2] rfl rfl rfl) ?_ ?_
      · refine ⟨?_, ?_, ?_, ?_, ?_, ?_, ?_, ?_, ?_, trivial⟩
        · intro a u X' hB hu hp hr hz hl S
          replace S : St w0 u ([] ++ X') := S
          exact .inl ⟨rfl, .pointer (some ⟨g102, 0, none⟩), u, (run_fieldAddr rfl fl25_0 (hF.evB hB rfl rfl) rfl), rfl, S⟩
        · intro a u X' hB hu hp hr hz hl S
          replace S : St w0 u ([] ++ X') := S
          have e18 : sl a 18 = .pointer (some ⟨g102, 0, none⟩) := hp 0 rfl
          exact .inl ⟨rfl, .slice B110 p109.2.2.length d111, u, (run_load1 rfl one23 (ev_sl e18) ((show Bk _ _ _ _ from S.mem (List.mem_append_right _ (hz 8 (List.mem_of_getElem? (i := 0) rfl) _ (List.mem_of_getElem? (i := 0) rfl)))).cell rfl)), rfl, S⟩
        · intro a u X' hB hu hp hr hz hl S
          replace S : St w0 u ([] ++ X') := S
          exact .inl ⟨rfl, .pointer (some ⟨g0, 0, none⟩), u, (run_move rfl (hF.evB hB rfl rfl)), rfl, S⟩
        · intro a u X' hB hu hp hr hz hl S
          replace S : St w0 u ([.box g0 67 #[.slice A0 x0.length c0, .int .i64 p109.2.1]] ++ X') := S
          have e20 : sl a 20 = .pointer (some ⟨g0, 0, none⟩) := hp 2 rfl
          refine .inr (.inr (.inl ⟨rfl, _, _, (run_call (vs := [.pointer (some ⟨g0, 0, none⟩), .int .i64 2]) rfl rfl co34 ⟨(ev_sl e20), (ev_const _ _), trivial⟩), ?_⟩))
          refine Calls.mono (c_spec_l20Rd_pick (x0 := x0) (x1 := p109.2.1) (x2 := 2) ⟨h0.rc, rfl⟩ S h113) ?_
          rintro e w1 ⟨rfl, T⟩
          exact ⟨_, rfl, rfl, T⟩
        · intro a u X' hB hu hp hr hz hl S
          replace S : St w0 u ([] ++ X') := S
          have e21 : sl a 21 = .int .i64 p113.1 := hp 3 rfl
          exact .inl ⟨rfl, .bool (p113.1 == 0), u, (run_eql (ev_sl e21) (ev_const _ _) rfl), rfl, S⟩
        · intro a u X' hB hu hp hr hz hl S
          replace S : St w0 u ([] ++ X') := S
          have e22 : sl a 22 = .bool (p113.1 == 0) := hp 4 rfl
          exact .inl ⟨rfl, _, _, run_buildS (vs := [(0, .bool (p113.1 == 0))]) rfl ⟨⟨rfl, (ev_sl e22)⟩, trivial⟩ (bs23_1_0 rfl), rfl, S.newrowL (e := eB) (ls := [p113.1 == 0]) rfl eB_len (Nat.le_of_ble_eq_true rfl)⟩
        · intro a u X' hB hu hp hr hz hl S
          replace S : St w0 u ([.row 4 1 (.slice B110 p109.2.2.length d111) p109.2.2.length (p109.2.2.flatMap eB)] ++ X') := S
          have e19 : sl a 19 = .slice B110 p109.2.2.length d111 := hp 1 rfl
          have e23 : sl a 23 = .slice (slA (sl a 23)) (([p113.1 == 0] : List Bool).length) (([p113.1 == 0] : List Bool).length) := hp 5 rfl
          obtain ⟨B, d, w', hrun, S'⟩ := S.appendL (i := 0) (P := Tryd.prog) (ty := 23) (lx := p109.2.2) (ly := [p113.1 == 0]) (c' := (([p113.1 == 0] : List Bool).length)) rfl rfl Tryd.underlying23 inf4 rfl (by decide) (own_rc (show World.ownsRow _ 0 _ _ _ _ _ from S.mem (List.mem_append_right _ (hr 5 (List.mem_of_getElem? (i := 0) rfl) _ (List.mem_of_getElem? (i := 0) rfl))))).rd rfl eB_one hk114 (by decide)
          exact .inl ⟨rfl, _, w', run_append rfl (ev_sl e19) (ev_sl e23) hrun, rfl, S'⟩
        · intro a u X' hB hu hp hr hz hl S
          replace S : St w0 u ([] ++ X') := S
          exact .inl ⟨rfl, .pointer (some ⟨g102, 0, none⟩), u, (run_fieldAddr rfl fl25_0 (hF.evB hB rfl rfl) rfl), rfl, S⟩
        · intro a u X' hB hu hp hr hz hl S
          replace S : St w0 u ([.box g102 25 #[.slice B110 p109.2.2.length d111, .int .i64 (-1), .int .i64 0, .bool false, .int .i64 0]] ++ X') := S
          have e24 : sl a 24 = .slice (slA (sl a 24)) ((p109.2.2 ++ ([p113.1 == 0])).length) (slC (sl a 24)) := hp 6 rfl
          have e25 : sl a 25 = .pointer (some ⟨g102, 0, none⟩) := hp 7 rfl
          exact .inr (.inl ⟨rfl, _, run_store (cs' := #[.slice (slA (sl a 24)) ((p109.2.2 ++ ([p113.1 == 0])).length) (slC (sl a 24)), .int .i64 (-1), .int .i64 0, .bool false, .int .i64 0]) rfl sz23 (ev_sl e25) (ev_sl e24) rfl rfl rfl (S.free 0 rfl) rfl rfl, trivial, S.put 0 rfl (#[.slice (slA (sl a 24)) ((p109.2.2 ++ ([p113.1 == 0])).length) (slC (sl a 24)), .int .i64 (-1), .int .i64 0, .bool false, .int .i64 0])⟩)
      · intro a u hB hp S
        obtain ⟨q0, q1, q2, q3, q4, q5, q6, q7, q8, _⟩ := hp
        have e18 : sl a 18 = .pointer (some ⟨g102, 0, none⟩) := q0
        have e19 : sl a 19 = .slice B110 p109.2.2.length d111 := q1
        have e20 : sl a 20 = .pointer (some ⟨g0, 0, none⟩) := q2
        have e21 : sl a 21 = .int .i64 p113.1 := q3
        have e22 : sl a 22 = .bool (p113.1 == 0) := q4
        have e23 : sl a 23 = .slice (slA (sl a 23)) (([p113.1 == 0] : List Bool).length) (([p113.1 == 0] : List Bool).length) := q5
        have e24 : sl a 24 = .slice (slA (sl a 24)) ((p109.2.2 ++ ([p113.1 == 0])).length) (slC (sl a 24)) := q6
        have e25 : sl a 25 = .pointer (some ⟨g102, 0, none⟩) := q7
        replace S : St w0 u (Asn.box g0 67 #[.slice A0 x0.length c0, .int .i64 p113.2] :: Asn.row 4 1 (.slice (slA (sl a 23)) (([p113.1 == 0] : List Bool).length) (([p113.1 == 0] : List Bool).length)) (([p113.1 == 0] : List Bool).length) (([p113.1 == 0]).flatMap eB) :: Asn.row 4 1 (.slice (slA (sl a 24)) ((p109.2.2 ++ ([p113.1 == 0])).length) (slC (sl a 24))) ((p109.2.2 ++ ([p113.1 == 0])).length) ((p109.2.2 ++ ([p113.1 == 0])).flatMap eB) :: Asn.box g102 25 #[.slice (slA (sl a 24)) ((p109.2.2 ++ ([p113.1 == 0])).length) (slC (sl a 24)), .int .i64 (-1), .int .i64 0, .bool false, .int .i64 0] :: Asn.box g101 25 #[.slice none 0 0, .int .i64 0, .int .i64 0, .bool false, .int .i64 0] :: X) := S
        clear q0 q1 q2 q3 q4 q5 q6 q7 q8
        generalize slA (sl a 23) = B115 at *
        generalize slA (sl a 24) = B116 at *
        generalize slC (sl a 24) = d117 at *
        have hF := hF.region hB [(18, .pointer (some ⟨g102, 0, none⟩)), (19, .slice B110 p109.2.2.length d111), (20, .pointer (some ⟨g0, 0, none⟩)), (21, .int .i64 p113.1), (22, .bool (p113.1 == 0)), (23, .slice B115 (([p113.1 == 0] : List Bool).length) (([p113.1 == 0] : List Bool).length)), (24, .slice B116 ((p109.2.2 ++ ([p113.1 == 0])).length) d117), (25, .pointer (some ⟨g102, 0, none⟩))] (allSl_mem ⟨e18, e19, e20, e21, e22, e23, e24, e25, trivial⟩) rfl
        clear hB e18 e19 e20 e21 e22 e23 e24 e25
        refine wp_region_lit ?_
        refine op_val (v := .int .i64 p109.1) rfl rfl hF rfl (run_move rfl (hF.ev rfl)) ?_; clear hF; intro a hF
        refine op_val (v := .int .i64 (w64 (p109.1 - 1))) rfl rfl hF rfl (run_sub (z := w64 (p109.1 - 1)) (hF.ev rfl) rfl rfl rfl) ?_; clear hF; intro a hF
        refine op_val (v := .int .i64 (w64 (p109.1 - 1))) rfl rfl hF rfl (run_assign rfl (hF.ev rfl)) ?_; clear hF; intro a hF
        refine wpList_nil ?_
        exact ⟨f1, Nat.lt_succ_self _, (w64 (p109.1 - 1), p113.2, p109.2.2 ++ ([p113.1 == 0])), B116, d117, hM108, hF.keep _ ⟨rfl, rfl, rfl, rfl, rfl, trivial⟩, S.selT (M := [.box g0 67 #[.slice A0 x0.length c0, .int .i64 p113.2], .box g102 25 #[.slice B116 ((p109.2.2 ++ ([p113.1 == 0])).length) d117, .int .i64 (-1), .int .i64 0, .bool false, .int .i64 0], .box g101 25 #[.slice none 0 0, .int .i64 0, .int .i64 0, .bool false, .int .i64 0], .row 4 1 (.slice B116 ((p109.2.2 ++ ([p113.1 == 0])).length) d117) ((p109.2.2 ++ ([p113.1 == 0])).length) ((p109.2.2 ++ ([p113.1 == 0])).flatMap eB)]) 5 [0, 3, 4, 2] rfl rfl rfl⟩
  · rintro a u ⟨p104, B106, d107, rfl, hF, S⟩
    refine wp_seq ?_
    refine wp_seq ?_
    refine wp_region_lit ?_
    refine op_val (v := .pointer (some ⟨g0, 0, none⟩)) rfl rfl hF rfl (run_move rfl (hF.ev rfl)) ?_; clear hF; intro a hF
    obtain ⟨p118, h118, hM⟩ := bind_ex hM
    refine op_call rfl rfl hF rfl (run_call (vs := [.pointer (some ⟨g0, 0, none⟩), .int .i64 4]) rfl rfl co34 ⟨(hF.ev rfl), rfl, trivial⟩) (c_spec_l20Rd_pick (x0 := x0) (x1 := p104.1) (x2 := 4) ⟨h0.rc, rfl⟩ (show St w0 _ (Asn.box g0 67 #[.slice A0 x0.length c0, .int .i64 p104.1] :: Asn.box g102 25 #[.slice B106 p104.2.length d107, .int .i64 (-1), .int .i64 0, .bool false, .int .i64 0] :: Asn.box g101 25 #[.slice none 0 0, .int .i64 0, .int .i64 0, .bool false, .int .i64 0] :: Asn.row 4 1 (.slice B106 p104.2.length d107) p104.2.length (p104.2.flatMap eB) :: X) from S.selT (M := [.box g0 67 #[.slice A0 x0.length c0, .int .i64 p104.1], .box g102 25 #[.slice B106 p104.2.length d107, .int .i64 (-1), .int .i64 0, .bool false, .int .i64 0], .box g101 25 #[.slice none 0 0, .int .i64 0, .int .i64 0, .bool false, .int .i64 0], .row 4 1 (.slice B106 p104.2.length d107) p104.2.length (p104.2.flatMap eB)]) 4 [0, 1, 2, 3] rfl rfl rfl) h118) ?_
    rintro e u ⟨rfl, T⟩
    refine ⟨_, rfl, ?_⟩
    clear hF; intro a hF
    clear S; have S := T; clear T
    refine op_val (v := .int .i64 p118.1) rfl rfl hF rfl (run_assign rfl (hF.ev rfl)) ?_; clear hF; intro a hF
    refine wpList_nil ?_
    obtain ⟨o120, hM123, hM⟩ := bind_ex hM
    refine wp_cut (fun a u => ∃ (p119 : Int × List Bool × Int × Int × Bool × Int) (B121 : Option Addr) (d122 : Nat), p119 = o120 ∧ Fr a 70 [(0, .pointer (some ⟨g0, 0, none⟩)), (1, .int .i64 x2), (4, .pointer (some ⟨g101, 0, none⟩)), (5, .pointer (some ⟨g102, 0, none⟩))] ∧ St w0 u (Asn.box g0 67 #[.slice A0 x0.length c0, .int .i64 p119.1] :: Asn.box g102 25 #[.slice B121 p119.2.1.length d122, .int .i64 p119.2.2.1, .int .i64 p119.2.2.2.1, .bool p119.2.2.2.2.1, .int .i64 p119.2.2.2.2.2] :: Asn.box g101 25 #[.slice none 0 0, .int .i64 0, .int .i64 0, .bool false, .int .i64 0] :: Asn.row 4 1 (.slice B121 p119.2.1.length d122) p119.2.1.length (p119.2.1.flatMap eB) :: X)) ?_ ?_
    · have _ := trivial
      refine wp_block ?_
      refine loop_gw (fun m a u => ∃ (p124 : Int × Int × List Bool × Int × Int × Bool × Int) (B125 : Option Addr) (d126 : Nat), m_spec_l20Panel_l2 x0 m p124 = some _ ∧ Fr a 70 [(0, .pointer (some ⟨g0, 0, none⟩)), (1, .int .i64 x2), (4, .pointer (some ⟨g101, 0, none⟩)), (5, .pointer (some ⟨g102, 0, none⟩)), (7, .int .i64 p124.1)] ∧ St w0 u (Asn.box g0 67 #[.slice A0 x0.length c0, .int .i64 p124.2.1] :: Asn.box g102 25 #[.slice B125 p124.2.2.1.length d126, .int .i64 p124.2.2.2.1, .int .i64 p124.2.2.2.2.1, .bool p124.2.2.2.2.2.1, .int .i64 p124.2.2.2.2.2.2] :: Asn.box g101 25 #[.slice none 0 0, .int .i64 0, .int .i64 0, .bool false, .int .i64 0] :: Asn.row 4 1 (.slice B125 p124.2.2.1.length d126) p124.2.2.1.length (p124.2.2.1.flatMap eB) :: X)) FUEL ⟨(p118.1, p118.2, p104.2, -1, 0, false, 0), B106, d107, hM123, hF.keep _ ⟨rfl, rfl, rfl, rfl, rfl, trivial⟩, S.selT (M := [.box g0 67 #[.slice A0 x0.length c0, .int .i64 p118.2], .box g102 25 #[.slice B106 p104.2.length d107, .int .i64 (-1), .int .i64 0, .bool false, .int .i64 0], .box g101 25 #[.slice none 0 0, .int .i64 0, .int .i64 0, .bool false, .int .i64 0], .row 4 1 (.slice B106 p104.2.length d107) p104.2.length (p104.2.flatMap eB)]) 4 [0, 1, 2, 3] rfl rfl rfl⟩ ?_
      clear hF S hM123; rintro m a u ⟨p124, B125, d126, hM123, hF, S⟩
      rcases m with _ | f2
      · exact none_some hM123
      rw [m_spec_l20Panel_l2.eq_2] at hM123
      refine wp_seq ?_
      refine wp_seq ?_
      refine wp_region_lit ?_
      refine op_val (v := .int .i64 p124.1) rfl rfl hF rfl (run_move rfl (hF.ev rfl)) ?_; clear hF; intro a hF
      refine op_val (v := .bool (ltB 0 p124.1)) rfl rfl hF rfl (run_gtr (hF.ev rfl) rfl rfl) ?_; clear hF; intro a hF
      refine wpList_nil ?_
      cases hc127 : (ltB 0 p124.1)
      · replace hM123 := bif_f hc127 hM123
        refine cond_f hF rfl hc127 ?_
        refine wp_exit ?_
        repeat with_reducible (first | refine then_exit ?_ | refine in_hit ?_ | refine in_miss rfl ?_)
        obtain rfl := Option.some.inj hM123
        exact ⟨(p124.2.1, p124.2.2.1, p124.2.2.2.1, p124.2.2.2.2.1, p124.2.2.2.2.2.1, p124.2.2.2.2.2.2), B125, d126, rfl, hF.keep _ ⟨rfl, rfl, rfl, rfl, trivial⟩, S.selT (M := [.box g0 67 #[.slice A0 x0.length c0, .int .i64 p124.2.1], .box g102 25 #[.slice B125 p124.2.2.1.length d126, .int .i64 p124.2.2.2.1, .int .i64 p124.2.2.2.2.1, .bool p124.2.2.2.2.2.1, .int .i64 p124.2.2.2.2.2.2], .box g101 25 #[.slice none 0 0, .int .i64 0, .int .i64 0, .bool false, .int .i64 0], .row 4 1 (.slice B125 p124.2.2.1.length d126) p124.2.2.1.length (p124.2.2.1.flatMap eB)]) 4 [0, 1, 2, 3] rfl rfl rfl⟩
      · replace hM123 := bif_t hc127 hM123
        refine cond_t hF rfl hc127 ?_
        refine wp_skip ?_
        refine wp_seq ?_
        refine wp_block ?_
        refine wp_seq ?_
        obtain ⟨p128, h128, hM123⟩ := bind_ex hM123
        obtain ⟨p129, h129, hM123⟩ := bind_ex hM123
        refine region_gw (D := [33, 34, 35, 36, 37, 32, 38, 39, 8, 9]) (Lr := (Asn.box g102 25 #[.slice B125 p124.2.2.1.length d126, .int .i64 p124.2.2.2.1, .int .i64 p124.2.2.2.2.1, .bool p124.2.2.2.2.2.1, .int .i64 p124.2.2.2.2.2.2] :: Asn.box g101 25 #[.slice none 0 0, .int .i64 0, .int .i64 0, .bool false, .int .i64 0] :: X)) (deps := (fun | 0 => [33] | 1 => [34] | 2 => [35] | 3 => [36] | 4 => [37] | 5 => [32, 37] | 6 => [38, 37] | 7 => [39] | 8 => [8] | 9 => [8, 37] | 10 => [9] | _ => [])) (rd := (fun | 4 => [3] | _ => [])) (zr := (fun _ => []))
          (φ := fun i vs => match i, vs with | 0, [v33] => v33 = .agg #[.slice B125 p124.2.2.1.length d126, .int .i64 p124.2.2.2.1, .int .i64 p124.2.2.2.2.1, .bool p124.2.2.2.2.2.1, .int .i64 p124.2.2.2.2.2.2] | 1, [v34] => v34 = .pointer (some ⟨g0, 0, none⟩) | 2, [v35] => v35 = .agg #[.slice B125 p124.2.2.1.length d126, .int .i64 p124.2.2.2.1, .int .i64 p124.2.2.2.2.1, .bool p124.2.2.2.2.2.1, .int .i64 p124.2.2.2.2.2.2] | 3, [v36] => v36 = .agg #[.int .i64 p128.1, .int .i64 p128.2.1, .int .i64 p128.2.2.1, .bool p128.2.2.2.1] | 4, [v37] => v37 = .tuple #[.agg #[.slice (slA (vtup (vtup v37 0) 0)) p129.1.length (slC (vtup (vtup v37 0) 0)), .int .i64 p129.2.1, .int .i64 p129.2.2.1, .bool p129.2.2.2.1, .int .i64 p129.2.2.2.2.1], .bool p129.2.2.2.2.2] | 5, [v32, v37] => v32 = .tuple #[.agg #[.slice (slA (vtup (vtup v37 0) 0)) p129.1.length (slC (vtup (vtup v37 0) 0)), .int .i64 p129.2.1, .int .i64 p129.2.2.1, .bool p129.2.2.2.1, .int .i64 p129.2.2.2.2.1], .bool p129.2.2.2.2.2] | 6, [v38, v37] => v38 = .agg #[.slice (slA (vtup (vtup v37 0) 0)) p129.1.length (slC (vtup (vtup v37 0) 0)), .int .i64 p129.2.1, .int .i64 p129.2.2.1, .bool p129.2.2.2.1, .int .i64 p129.2.2.2.2.1] | 7, [v39] => v39 = .bool p129.2.2.2.2.2 | 8, [v8] => v8 = .pointer (some ⟨ptB v8, 0, none⟩) | 10, [v9] => v9 = .bool p129.2.2.2.2.2 | _, _ => True)
          (C := fun i vs => match i, vs with | 3, [v36] => [.box g0 67 #[.slice A0 x0.length c0, .int .i64 p128.2.2.2.2], .row 4 1 (.slice B125 p124.2.2.1.length d126) p124.2.2.1.length (p124.2.2.1.flatMap eB)] | 4, [v37] => [.row 4 1 (.slice (slA (vtup (vtup v37 0) 0)) p129.1.length (slC (vtup (vtup v37 0) 0))) p129.1.length (p129.1.flatMap eB)] | 8, [v8] => [.box (ptB v8) 25 #[.slice none 0 0, .int .i64 0, .int .i64 0, .bool false, .int .i64 0]] | 9, [v8, v37] => [.box (ptB v8) 25 #[.slice (slA (vtup (vtup v37 0) 0)) p129.1.length (slC (vtup (vtup v37 0) 0)), .int .i64 p129.2.1, .int .i64 p129.2.2.1, .bool p129.2.2.2.1, .int .i64 p129.2.2.2.2.1]] | _, _ => [])
          (κ := (fun | 8 => some 9 | _ => none)) (Z := (fun | 3 => [.box g0 67 #[.slice A0 x0.length c0, .int .i64 p124.2.1], .row 4 1 (.slice B125 p124.2.2.1.length d126) p124.2.2.1.length (p124.2.2.1.flatMap eB)] | _ => [])) mixed hF (by kernel_rfl) (show St w0 _ (Asn.box g0 67 #[.slice A0 x0.length c0, .int .i64 p124.2.1] :: Asn.row 4 1 (.slice B125 p124.2.2.1.length d126) p124.2.2.1.length (p124.2.2.1.flatMap eB) :: Asn.box g102 25 #[.slice B125 p124.2.2.1.length d126, .int .i64 p124.2.2.2.1, .int .i64 p124.2.2.2.2.1, .bool p124.2.2.2.2.2.1, .int .i64 p124.2.2.2.2.2.2] :: Asn.box g101 25 #[.slice none 0 0, .int .i64 0, .int .i64 0, .bool false, .int .i64 0] :: X) from S.selT (M := [.box g0 67 #[.slice A0 x0.length c0, .int .i64 p124.2.1], .row 4 1 (.slice B125 p124.2.2.1.length d126) p124.2.2.1.length (p124.2.2.1.flatMap eB), .box g102 25 #[.slice B125 p124.2.2.1.length d126, .int .i64 p124.2.2.2.1, .int .i64 p124.2.2.2.2.1, .bool p124.2.2.2.2.2.1, .int .i64 p124.2.2.2.2.2.2], .box g101 25 #[.slice none 0 0, .int .i64 0, .int .i64 0, .bool false, .int .i64 0]]) 4 [0, 3, 1, 2] rfl rfl rfl) ?_ ?_
        · refine ⟨?_, ?_, ?_, ?_, ?_, ?_, ?_, ?_, ?_, ?_, ?_, trivial⟩
          · intro a u X' hB hu hp hr hz hl S
            replace S : St w0 u ([] ++ X') := S
            exact .inl ⟨rfl, .agg #[.slice B125 p124.2.2.1.length d126, .int .i64 p124.2.2.2.1, .int .i64 p124.2.2.2.2.1, .bool p124.2.2.2.2.2.1, .int .i64 p124.2.2.2.2.2.2], u, (run_loadN rfl ag25 (hF.evB hB rfl rfl) rfl ((gr_box S hl 0 rfl).cells 0 #[.slice B125 p124.2.2.1.length d126, .int .i64 p124.2.2.2.1, .int .i64 p124.2.2.2.2.1, .bool p124.2.2.2.2.2.1, .int .i64 p124.2.2.2.2.2.2] rfl)), rfl, S⟩
          · intro a u X' hB hu hp hr hz hl S
            replace S : St w0 u ([] ++ X') := S
            exact .inl ⟨rfl, .pointer (some ⟨g0, 0, none⟩), u, (run_move rfl (hF.evB hB rfl rfl)), rfl, S⟩
          · intro a u X' hB hu hp hr hz hl S
            replace S : St w0 u ([] ++ X') := S
            exact .inl ⟨rfl, .agg #[.slice B125 p124.2.2.1.length d126, .int .i64 p124.2.2.2.1, .int .i64 p124.2.2.2.2.1, .bool p124.2.2.2.2.2.1, .int .i64 p124.2.2.2.2.2.2], u, (run_loadN rfl ag25 (hF.evB hB rfl rfl) rfl ((gr_box S hl 0 rfl).cells 0 #[.slice B125 p124.2.2.1.length d126, .int .i64 p124.2.2.2.1, .int .i64 p124.2.2.2.2.1, .bool p124.2.2.2.2.2.1, .int .i64 p124.2.2.2.2.2.2] rfl)), rfl, S⟩
          · intro a u X' hB hu hp hr hz hl S
            replace S : St w0 u ([.box g0 67 #[.slice A0 x0.length c0, .int .i64 p124.2.1], .row 4 1 (.slice B125 p124.2.2.1.length d126) p124.2.2.1.length (p124.2.2.1.flatMap eB)] ++ X') := S
            have e34 : sl a 34 = .pointer (some ⟨g0, 0, none⟩) := hp 1 rfl
            have e35 : sl a 35 = .agg #[.slice B125 p124.2.2.1.length d126, .int .i64 p124.2.2.2.1, .int .i64 p124.2.2.2.2.1, .bool p124.2.2.2.2.2.1, .int .i64 p124.2.2.2.2.2.2] := hp 2 rfl
            refine .inr (.inr (.inl ⟨rfl, _, _, (run_call (vs := [.pointer (some ⟨g0, 0, none⟩), .agg #[.slice B125 p124.2.2.1.length d126, .int .i64 p124.2.2.2.1, .int .i64 p124.2.2.2.2.1, .bool p124.2.2.2.2.2.1, .int .i64 p124.2.2.2.2.2.2]]) rfl rfl co26 ⟨(ev_sl e34), (ev_sl e35), trivial⟩), ?_⟩))
            refine Calls.mono (c_spec_l20Command (x0 := x0) (x1 := p124.2.1) (x2 := p124.2.2.1) (Y2 := .row 4 1 (.slice B125 p124.2.2.1.length d126) p124.2.2.1.length (p124.2.2.1.flatMap eB)) (x3 := p124.2.2.2.1) (x4 := p124.2.2.2.2.1) (x5 := p124.2.2.2.2.2.1) (x6 := p124.2.2.2.2.2.2) ⟨h0.rc, rfl⟩ rfl (fun u h => (own_rc (show u.ownsRow 0 _ _ _ _ _ from h))) S h128) ?_
            rintro e w1 ⟨rfl, T⟩
            exact ⟨_, rfl, rfl, T⟩
          · intro a u X' hB hu hp hr hz hl S
            replace S : St w0 u ([] ++ X') := S
            have e33 : sl a 33 = .agg #[.slice B125 p124.2.2.1.length d126, .int .i64 p124.2.2.2.1, .int .i64 p124.2.2.2.2.1, .bool p124.2.2.2.2.2.1, .int .i64 p124.2.2.2.2.2.2] := hp 0 rfl
            have e36 : sl a 36 = .agg #[.int .i64 p128.1, .int .i64 p128.2.1, .int .i64 p128.2.2.1, .bool p128.2.2.2.1] := hp 3 rfl
            refine .inr (.inr (.inl ⟨rfl, _, _, (run_call (vs := [.agg #[.slice B125 p124.2.2.1.length d126, .int .i64 p124.2.2.2.1, .int .i64 p124.2.2.2.2.1, .bool p124.2.2.2.2.2.1, .int .i64 p124.2.2.2.2.2.2], .agg #[.int .i64 p128.1, .int .i64 p128.2.1, .int .i64 p128.2.2.1, .bool p128.2.2.2.1]]) rfl rfl co8 ⟨(ev_sl e33), (ev_sl e36), trivial⟩), ?_⟩))
            refine Calls.mono (c_spec_PanelDo (x0 := p124.2.2.1) (x1 := p124.2.2.2.1) (x2 := p124.2.2.2.2.1) (x3 := p124.2.2.2.2.2.1) (x4 := p124.2.2.2.2.2.2) (x5 := p128.1) (x6 := p128.2.1) (x7 := p128.2.2.1) (x8 := p128.2.2.2.1) ⟨(own_rc (show World.ownsRow _ 0 _ _ _ _ _ from S.mem (List.mem_append_right _ (hr 3 (List.mem_of_getElem? (i := 0) rfl) _ (List.mem_of_getElem? (i := 1) rfl))))), rfl⟩ h129) ?_
            rintro e w1 ⟨B130, n131, d132, rfl, rfl, T⟩
            exact ⟨_, rfl, rfl, S.call1 T⟩
          · intro a u X' hB hu hp hr hz hl S
            replace S : St w0 u ([] ++ X') := S
            have e37 : sl a 37 = .tuple #[.agg #[.slice (slA (vtup (vtup (sl a 37) 0) 0)) p129.1.length (slC (vtup (vtup (sl a 37) 0) 0)), .int .i64 p129.2.1, .int .i64 p129.2.2.1, .bool p129.2.2.2.1, .int .i64 p129.2.2.2.2.1], .bool p129.2.2.2.2.2] := hp 4 rfl
            exact .inl ⟨rfl, .tuple #[.agg #[.slice (slA (vtup (vtup (sl a 37) 0) 0)) p129.1.length (slC (vtup (vtup (sl a 37) 0) 0)), .int .i64 p129.2.1, .int .i64 p129.2.2.1, .bool p129.2.2.2.1, .int .i64 p129.2.2.2.2.1], .bool p129.2.2.2.2.2], u, (run_move rfl (ev_sl e37)), rfl, S⟩
          · intro a u X' hB hu hp hr hz hl S
            replace S : St w0 u ([] ++ X') := S
            have e32 : sl a 32 = .tuple #[.agg #[.slice (slA (vtup (vtup (sl a 37) 0) 0)) p129.1.length (slC (vtup (vtup (sl a 37) 0) 0)), .int .i64 p129.2.1, .int .i64 p129.2.2.1, .bool p129.2.2.2.1, .int .i64 p129.2.2.2.2.1], .bool p129.2.2.2.2.2] := hp 5 rfl
            exact .inl ⟨rfl, .agg #[.slice (slA (vtup (vtup (sl a 37) 0) 0)) p129.1.length (slC (vtup (vtup (sl a 37) 0) 0)), .int .i64 p129.2.1, .int .i64 p129.2.2.1, .bool p129.2.2.2.1, .int .i64 p129.2.2.2.2.1], u, (run_extract rfl (ev_sl e32) rfl), rfl, S⟩
          · intro a u X' hB hu hp hr hz hl S
            replace S : St w0 u ([] ++ X') := S
            have e32 : sl a 32 = .tuple #[.agg #[.slice (slA (vtup (vtup (sl a 37) 0) 0)) p129.1.length (slC (vtup (vtup (sl a 37) 0) 0)), .int .i64 p129.2.1, .int .i64 p129.2.2.1, .bool p129.2.2.2.1, .int .i64 p129.2.2.2.2.1], .bool p129.2.2.2.2.2] := hp 5 rfl
            exact .inl ⟨rfl, .bool p129.2.2.2.2.2, u, (run_extract rfl (ev_sl e32) rfl), rfl, S⟩
          · intro a u X' hB hu hp hr hz hl S
            replace S : St w0 u ([] ++ X') := S
            exact .inl ⟨rfl, _, _, (run_allocZ rfl zr25), rfl, S.alloc _ _⟩
          · intro a u X' hB hu hp hr hz hl S
            replace S : St w0 u ([.box (ptB (sl a 8)) 25 #[.slice none 0 0, .int .i64 0, .int .i64 0, .bool false, .int .i64 0]] ++ X') := S
            have e8 : sl a 8 = .pointer (some ⟨ptB (sl a 8), 0, none⟩) := hp 8 rfl
            have e38 : sl a 38 = .agg #[.slice (slA (vtup (vtup (sl a 37) 0) 0)) p129.1.length (slC (vtup (vtup (sl a 37) 0) 0)), .int .i64 p129.2.1, .int .i64 p129.2.2.1, .bool p129.2.2.2.1, .int .i64 p129.2.2.2.2.1] := hp 6 rfl
            exact .inr (.inl ⟨rfl, _, run_store (cs' := #[.slice (slA (vtup (vtup (sl a 37) 0) 0)) p129.1.length (slC (vtup (vtup (sl a 37) 0) 0)), .int .i64 p129.2.1, .int .i64 p129.2.2.1, .bool p129.2.2.2.1, .int .i64 p129.2.2.2.2.1]) rfl sz25 (ev_sl e8) (ev_sl e38) rfl rfl rfl (S.free 0 rfl) rfl rfl, trivial, S.put 0 rfl (#[.slice (slA (vtup (vtup (sl a 37) 0) 0)) p129.1.length (slC (vtup (vtup (sl a 37) 0) 0)), .int .i64 p129.2.1, .int .i64 p129.2.2.1, .bool p129.2.2.2.1, .int .i64 p129.2.2.2.2.1])⟩)
          · intro a u X' hB hu hp hr hz hl S
            replace S : St w0 u ([] ++ X') := S
            have e39 : sl a 39 = .bool p129.2.2.2.2.2 := hp 7 rfl
            exact .inl ⟨rfl, .bool p129.2.2.2.2.2, u, (run_assign rfl (ev_sl e39)), rfl, S⟩
        · intro a u hB hp S
          obtain ⟨q0, q1, q2, q3, q4, q5, q6, q7, q8, q9, q10, _⟩ := hp
          have e33 : sl a 33 = .agg #[.slice B125 p124.2.2.1.length d126, .int .i64 p124.2.2.2.1, .int .i64 p124.2.2.2.2.1, .bool p124.2.2.2.2.2.1, .int .i64 p124.2.2.2.2.2.2] := q0
          have e34 : sl a 34 = .pointer (some ⟨g0, 0, none⟩) := q1
          have e35 : sl a 35 = .agg #[.slice B125 p124.2.2.1.length d126, .int .i64 p124.2.2.2.1, .int .i64 p124.2.2.2.2.1, .bool p124.2.2.2.2.2.1, .int .i64 p124.2.2.2.2.2.2] := q2
          have e36 : sl a 36 = .agg #[.int .i64 p128.1, .int .i64 p128.2.1, .int .i64 p128.2.2.1, .bool p128.2.2.2.1] := q3
          have e37 : sl a 37 = .tuple #[.agg #[.slice (slA (vtup (vtup (sl a 37) 0) 0)) p129.1.length (slC (vtup (vtup (sl a 37) 0) 0)), .int .i64 p129.2.1, .int .i64 p129.2.2.1, .bool p129.2.2.2.1, .int .i64 p129.2.2.2.2.1], .bool p129.2.2.2.2.2] := q4
          have e32 : sl a 32 = .tuple #[.agg #[.slice (slA (vtup (vtup (sl a 37) 0) 0)) p129.1.length (slC (vtup (vtup (sl a 37) 0) 0)), .int .i64 p129.2.1, .int .i64 p129.2.2.1, .bool p129.2.2.2.1, .int .i64 p129.2.2.2.2.1], .bool p129.2.2.2.2.2] := q5
          have e38 : sl a 38 = .agg #[.slice (slA (vtup (vtup (sl a 37) 0) 0)) p129.1.length (slC (vtup (vtup (sl a 37) 0) 0)), .int .i64 p129.2.1, .int .i64 p129.2.2.1, .bool p129.2.2.2.1, .int .i64 p129.2.2.2.2.1] := q6
          have e39 : sl a 39 = .bool p129.2.2.2.2.2 := q7
          have e8 : sl a 8 = .pointer (some ⟨ptB (sl a 8), 0, none⟩) := q8
          have e9 : sl a 9 = .bool p129.2.2.2.2.2 := q10
          replace S : St w0 u (Asn.box g0 67 #[.slice A0 x0.length c0, .int .i64 p128.2.2.2.2] :: Asn.row 4 1 (.slice B125 p124.2.2.1.length d126) p124.2.2.1.length (p124.2.2.1.flatMap eB) :: Asn.row 4 1 (.slice (slA (vtup (vtup (sl a 37) 0) 0)) p129.1.length (slC (vtup (vtup (sl a 37) 0) 0))) p129.1.length (p129.1.flatMap eB) :: Asn.box (ptB (sl a 8)) 25 #[.slice (slA (vtup (vtup (sl a 37) 0) 0)) p129.1.length (slC (vtup (vtup (sl a 37) 0) 0)), .int .i64 p129.2.1, .int .i64 p129.2.2.1, .bool p129.2.2.2.1, .int .i64 p129.2.2.2.2.1] :: Asn.box g102 25 #[.slice B125 p124.2.2.1.length d126, .int .i64 p124.2.2.2.1, .int .i64 p124.2.2.2.2.1, .bool p124.2.2.2.2.2.1, .int .i64 p124.2.2.2.2.2.2] :: Asn.box g101 25 #[.slice none 0 0, .int .i64 0, .int .i64 0, .bool false, .int .i64 0] :: X) := S
          clear q0 q1 q2 q3 q4 q5 q6 q7 q8 q9 q10
          generalize slA (vtup (vtup (sl a 37) 0) 0) = B133 at *
          generalize slC (vtup (vtup (sl a 37) 0) 0) = d134 at *
          generalize ptB (sl a 8) = g135 at *
          have hF := hF.region hB [(33, .agg #[.slice B125 p124.2.2.1.length d126, .int .i64 p124.2.2.2.1, .int .i64 p124.2.2.2.2.1, .bool p124.2.2.2.2.2.1, .int .i64 p124.2.2.2.2.2.2]), (34, .pointer (some ⟨g0, 0, none⟩)), (35, .agg #[.slice B125 p124.2.2.1.length d126, .int .i64 p124.2.2.2.1, .int .i64 p124.2.2.2.2.1, .bool p124.2.2.2.2.2.1, .int .i64 p124.2.2.2.2.2.2]), (36, .agg #[.int .i64 p128.1, .int .i64 p128.2.1, .int .i64 p128.2.2.1, .bool p128.2.2.2.1]), (37, .tuple #[.agg #[.slice B133 p129.1.length d134, .int .i64 p129.2.1, .int .i64 p129.2.2.1, .bool p129.2.2.2.1, .int .i64 p129.2.2.2.2.1], .bool p129.2.2.2.2.2]), (32, .tuple #[.agg #[.slice B133 p129.1.length d134, .int .i64 p129.2.1, .int .i64 p129.2.2.1, .bool p129.2.2.2.1, .int .i64 p129.2.2.2.2.1], .bool p129.2.2.2.2.2]), (38, .agg #[.slice B133 p129.1.length d134, .int .i64 p129.2.1, .int .i64 p129.2.2.1, .bool p129.2.2.2.1, .int .i64 p129.2.2.2.2.1]), (39, .bool p129.2.2.2.2.2), (8, .pointer (some ⟨g135, 0, none⟩)), (9, .bool p129.2.2.2.2.2)] (allSl_mem ⟨e33, e34, e35, e36, e37, e32, e38, e39, e8, e9, trivial⟩) rfl
          clear hB e33 e34 e35 e36 e37 e32 e38 e39 e8 e9
          refine wp_region_lit ?_
          refine op_val (v := .agg #[.slice B133 p129.1.length d134, .int .i64 p129.2.1, .int .i64 p129.2.2.1, .bool p129.2.2.2.1, .int .i64 p129.2.2.2.2.1]) rfl rfl hF rfl (run_loadN rfl ag25 (hF.ev rfl) rfl ((S.free 3 rfl).cells 0 #[.slice B133 p129.1.length d134, .int .i64 p129.2.1, .int .i64 p129.2.2.1, .bool p129.2.2.2.1, .int .i64 p129.2.2.2.2.1] rfl)) ?_; clear hF; intro a hF
          refine op_do rfl rfl (run_store (cs' := #[.slice B133 p129.1.length d134, .int .i64 p129.2.1, .int .i64 p129.2.2.1, .bool p129.2.2.2.1, .int .i64 p129.2.2.2.2.1]) rfl sz25 (hF.ev rfl) (hF.ev rfl) rfl rfl rfl (S.free 4 rfl) rfl rfl) ?_; replace S := S.put 4 rfl (#[.slice B133 p129.1.length d134, .int .i64 p129.2.1, .int .i64 p129.2.2.1, .bool p129.2.2.2.1, .int .i64 p129.2.2.2.2.1])
          generalize World.setRow _ _ _ = u at S ⊢
          refine wpList_nil ?_
          refine wp_region_lit ?_
          refine op_val (v := .int .i64 p124.1) rfl rfl hF rfl (run_move rfl (hF.ev rfl)) ?_; clear hF; intro a hF
          refine op_val (v := .int .i64 (w64 (p124.1 - 1))) rfl rfl hF rfl (run_sub (z := w64 (p124.1 - 1)) (hF.ev rfl) rfl rfl rfl) ?_; clear hF; intro a hF
          refine op_val (v := .int .i64 (w64 (p124.1 - 1))) rfl rfl hF rfl (run_assign rfl (hF.ev rfl)) ?_; clear hF; intro a hF
          refine wpList_nil ?_
          exact ⟨f2, Nat.lt_succ_self _, (w64 (p124.1 - 1), p128.2.2.2.2, p129.1, p129.2.1, p129.2.2.1, p129.2.2.2.1, p129.2.2.2.2.1), B133, d134, hM123, hF.keep _ ⟨rfl, rfl, rfl, rfl, rfl, trivial⟩, S.selT (M := [.box g0 67 #[.slice A0 x0.length c0, .int .i64 p128.2.2.2.2], .box g102 25 #[.slice B133 p129.1.length d134, .int .i64 p129.2.1, .int .i64 p129.2.2.1, .bool p129.2.2.2.1, .int .i64 p129.2.2.2.2.1], .box g101 25 #[.slice none 0 0, .int .i64 0, .int .i64 0, .bool false, .int .i64 0], .row 4 1 (.slice B133 p129.1.length d134) p129.1.length (p129.1.flatMap eB)]) 6 [0, 4, 5, 2] rfl rfl rfl⟩
    · rintro a u ⟨p119, B121, d122, rfl, hF, S⟩
      refine wp_seq ?_
      refine wp_seq ?_
      refine wp_region_lit ?_
      refine op_val (v := .pointer (some ⟨g0, 0, none⟩)) rfl rfl hF rfl (run_move rfl (hF.ev rfl)) ?_; clear hF; intro a hF
      refine op_val (v := .int .i64 x2) rfl rfl hF rfl (run_move rfl (hF.ev rfl)) ?_; clear hF; intro a hF
      obtain ⟨p136, h136, hM⟩ := bind_ex hM
      refine op_call rfl rfl hF rfl (run_call (vs := [.pointer (some ⟨g0, 0, none⟩), .int .i64 x2]) rfl rfl co35 ⟨(hF.ev rfl), (hF.ev rfl), trivial⟩) (c_spec_l20Rd_odd (x0 := x0) (x1 := p119.1) (x2 := x2) ⟨h0.rc, rfl⟩ (show St w0 _ (Asn.box g0 67 #[.slice A0 x0.length c0, .int .i64 p119.1] :: Asn.box g102 25 #[.slice B121 p119.2.1.length d122, .int .i64 p119.2.2.1, .int .i64 p119.2.2.2.1, .bool p119.2.2.2.2.1, .int .i64 p119.2.2.2.2.2] :: Asn.box g101 25 #[.slice none 0 0, .int .i64 0, .int .i64 0, .bool false, .int .i64 0] :: Asn.row 4 1 (.slice B121 p119.2.1.length d122) p119.2.1.length (p119.2.1.flatMap eB) :: X) from S.selT (M := [.box g0 67 #[.slice A0 x0.length c0, .int .i64 p119.1], .box g102 25 #[.slice B121 p119.2.1.length d122, .int .i64 p119.2.2.1, .int .i64 p119.2.2.2.1, .bool p119.2.2.2.2.1, .int .i64 p119.2.2.2.2.2], .box g101 25 #[.slice none 0 0, .int .i64 0, .int .i64 0, .bool false, .int .i64 0], .row 4 1 (.slice B121 p119.2.1.length d122) p119.2.1.length (p119.2.1.flatMap eB)]) 4 [0, 1, 2, 3] rfl rfl rfl) h136) ?_
      rintro e u ⟨rfl, T⟩
      refine ⟨_, rfl, ?_⟩
      clear hF; intro a hF
      clear S; have S := T; clear T
      refine wpList_nil ?_
      obtain ⟨o138, hM141, hM⟩ := bind_ex hM
      refine wp_cut (fun a u => ∃ (p137 : Int × List Bool × Int × Int × Bool × Int) (B139 : Option Addr) (d140 : Nat), p137 = o138 ∧ Fr a 70 [(4, .pointer (some ⟨g101, 0, none⟩)), (5, .pointer (some ⟨g102, 0, none⟩))] ∧ St w0 u (Asn.box g0 67 #[.slice A0 x0.length c0, .int .i64 p137.1] :: Asn.box g102 25 #[.slice B139 p137.2.1.length d140, .int .i64 p137.2.2.1, .int .i64 p137.2.2.2.1, .bool p137.2.2.2.2.1, .int .i64 p137.2.2.2.2.2] :: Asn.box g101 25 #[.slice none 0 0, .int .i64 0, .int .i64 0, .bool false, .int .i64 0] :: Asn.row 4 1 (.slice B139 p137.2.1.length d140) p137.2.1.length (p137.2.1.flatMap eB) :: X)) ?_ ?_
      · have _ := trivial
        cases hc142 : (p136.1)
        · replace hM141 := bif_f hc142 hM141
          refine cond_f hF rfl hc142 ?_
          refine wp_skip ?_
          obtain rfl := Option.some.inj hM141
          exact ⟨(p136.2, p119.2.1, p119.2.2.1, p119.2.2.2.1, p119.2.2.2.2.1, p119.2.2.2.2.2), B121, d122, rfl, hF.keep _ ⟨rfl, rfl, trivial⟩, S.selT (M := [.box g0 67 #[.slice A0 x0.length c0, .int .i64 p136.2], .box g102 25 #[.slice B121 p119.2.1.length d122, .int .i64 p119.2.2.1, .int .i64 p119.2.2.2.1, .bool p119.2.2.2.2.1, .int .i64 p119.2.2.2.2.2], .box g101 25 #[.slice none 0 0, .int .i64 0, .int .i64 0, .bool false, .int .i64 0], .row 4 1 (.slice B121 p119.2.1.length d122) p119.2.1.length (p119.2.1.flatMap eB)]) 4 [0, 1, 2, 3] rfl rfl rfl⟩
        · replace hM141 := bif_t hc142 hM141
          refine cond_t hF rfl hc142 ?_
          refine wp_seq ?_
          refine wp_region_lit ?_
          refine op_val (v := .pointer (some ⟨g0, 0, none⟩)) rfl rfl hF rfl (run_move rfl (hF.ev rfl)) ?_; clear hF; intro a hF
          obtain ⟨p143, h143, hM141⟩ := bind_ex hM141
          refine op_call rfl rfl hF rfl (run_call (vs := [.pointer (some ⟨g0, 0, none⟩), .int .i64 4]) rfl rfl co34 ⟨(hF.ev rfl), rfl, trivial⟩) (c_spec_l20Rd_pick (x0 := x0) (x1 := p136.2) (x2 := 4) ⟨h0.rc, rfl⟩ (show St w0 _ (Asn.box g0 67 #[.slice A0 x0.length c0, .int .i64 p136.2] :: Asn.box g102 25 #[.slice B121 p119.2.1.length d122, .int .i64 p119.2.2.1, .int .i64 p119.2.2.2.1, .bool p119.2.2.2.2.1, .int .i64 p119.2.2.2.2.2] :: Asn.box g101 25 #[.slice none 0 0, .int .i64 0, .int .i64 0, .bool false, .int .i64 0] :: Asn.row 4 1 (.slice B121 p119.2.1.length d122) p119.2.1.length (p119.2.1.flatMap eB) :: X) from S.selT (M := [.box g0 67 #[.slice A0 x0.length c0, .int .i64 p136.2], .box g102 25 #[.slice B121 p119.2.1.length d122, .int .i64 p119.2.2.1, .int .i64 p119.2.2.2.1, .bool p119.2.2.2.2.1, .int .i64 p119.2.2.2.2.2], .box g101 25 #[.slice none 0 0, .int .i64 0, .int .i64 0, .bool false, .int .i64 0], .row 4 1 (.slice B121 p119.2.1.length d122) p119.2.1.length (p119.2.1.flatMap eB)]) 4 [0, 1, 2, 3] rfl rfl rfl) h143) ?_
          rintro e u ⟨rfl, T⟩
          refine ⟨_, rfl, ?_⟩
          clear hF; intro a hF
          clear S; have S := T; clear T
          refine wpList_nil ?_
          refine wp_block ?_
          refine wp_seq ?_
          refine wp_region_lit ?_
          refine op_val (v := .bool (p143.1 == 0)) rfl rfl hF rfl (run_eql (hF.ev rfl) rfl rfl) ?_; clear hF; intro a hF
          refine op_val (v := .bool (p143.1 == 0)) rfl rfl hF rfl (run_assign rfl (hF.ev rfl)) ?_; clear hF; intro a hF
          refine wpList_nil ?_
          obtain ⟨o145, hM148, hM141⟩ := bind_ex hM141
          refine wp_cut (fun a u => ∃ (p144 : Int × List Bool × Int × Int × Bool × Int) (B146 : Option Addr) (d147 : Nat), p144 = o145 ∧ Fr a 70 [(4, .pointer (some ⟨g101, 0, none⟩)), (5, .pointer (some ⟨g102, 0, none⟩))] ∧ St w0 u (Asn.box g0 67 #[.slice A0 x0.length c0, .int .i64 p144.1] :: Asn.box g102 25 #[.slice B146 p144.2.1.length d147, .int .i64 p144.2.2.1, .int .i64 p144.2.2.2.1, .bool p144.2.2.2.2.1, .int .i64 p144.2.2.2.2.2] :: Asn.box g101 25 #[.slice none 0 0, .int .i64 0, .int .i64 0, .bool false, .int .i64 0] :: Asn.row 4 1 (.slice B146 p144.2.1.length d147) p144.2.1.length (p144.2.1.flatMap eB) :: X)) ?_ ?_
          · have _ := trivial
            cases hc149 : (p143.1 == 0)
            · replace hM148 := bif_f hc149 hM148
              refine cond_f hF rfl hc149 ?_
              refine wp_seq ?_
              refine wp_region_lit ?_
              refine op_val (v := .bool (p143.1 == 1)) rfl rfl hF rfl (run_eql (hF.ev rfl) rfl rfl) ?_; clear hF; intro a hF
              refine op_val (v := .bool (p143.1 == 1)) rfl rfl hF rfl (run_assign rfl (hF.ev rfl)) ?_; clear hF; intro a hF
              refine wpList_nil ?_
              obtain ⟨o151, hM152, hM148⟩ := bind_ex hM148
              refine wp_cut (fun a u => ∃ (p150 : Int × Int × Int × Bool × Int), p150 = o151 ∧ Fr a 70 [(4, .pointer (some ⟨g101, 0, none⟩)), (5, .pointer (some ⟨g102, 0, none⟩))] ∧ St w0 u (Asn.box g0 67 #[.slice A0 x0.length c0, .int .i64 p150.1] :: Asn.box g102 25 #[.slice B121 p119.2.1.length d122, .int .i64 p150.2.1, .int .i64 p150.2.2.1, .bool p150.2.2.2.1, .int .i64 p150.2.2.2.2] :: Asn.box g101 25 #[.slice none 0 0, .int .i64 0, .int .i64 0, .bool false, .int .i64 0] :: Asn.row 4 1 (.slice B121 p119.2.1.length d122) p119.2.1.length (p119.2.1.flatMap eB) :: X)) ?_ ?_
              · have _ := trivial
                cases hc153 : (p143.1 == 1)
                · replace hM152 := bif_f hc153 hM152
                  refine cond_f hF rfl hc153 ?_
                  refine wp_seq ?_
                  refine wp_region_lit ?_
                  refine op_val (v := .bool (p143.1 == 2)) rfl rfl hF rfl (run_eql (hF.ev rfl) rfl rfl) ?_; clear hF; intro a hF
                  refine op_val (v := .bool (p143.1 == 2)) rfl rfl hF rfl (run_assign rfl (hF.ev rfl)) ?_; clear hF; intro a hF
                  refine wpList_nil ?_
                  obtain ⟨o155, hM156, hM152⟩ := bind_ex hM152
                  refine wp_cut (fun a u => ∃ (p154 : Int × Int × Int × Bool × Int), p154 = o155 ∧ Fr a 70 [(4, .pointer (some ⟨g101, 0, none⟩)), (5, .pointer (some ⟨g102, 0, none⟩))] ∧ St w0 u (Asn.box g0 67 #[.slice A0 x0.length c0, .int .i64 p154.1] :: Asn.box g102 25 #[.slice B121 p119.2.1.length d122, .int .i64 p154.2.1, .int .i64 p154.2.2.1, .bool p154.2.2.2.1, .int .i64 p154.2.2.2.2] :: Asn.box g101 25 #[.slice none 0 0, .int .i64 0, .int .i64 0, .bool false, .int .i64 0] :: Asn.row 4 1 (.slice B121 p119.2.1.length d122) p119.2.1.length (p119.2.1.flatMap eB) :: X)) ?_ ?_
                  · have _ := trivial
                    cases hc157 : (p143.1 == 2)
                    · replace hM156 := bif_f hc157 hM156
                      refine cond_f hF rfl hc157 ?_
                      refine wp_seq ?_
                      refine wp_region_lit ?_
                      refine op_val (v := .pointer (some ⟨g102, 1, none⟩)) rfl rfl hF rfl (run_fieldAddr rfl fl25_1 (hF.ev rfl) rfl) ?_; clear hF; intro a hF
                      refine op_do rfl rfl (run_store (cs' := #[.slice B121 p119.2.1.length d122, .int .i64 1, .int .i64 p119.2.2.2.1, .bool p119.2.2.2.2.1, .int .i64 p119.2.2.2.2.2]) rfl sz3 (hF.ev rfl) rfl rfl rfl rfl (S.free 1 rfl) rfl rfl) ?_; replace S := S.put 1 rfl (#[.slice B121 p119.2.1.length d122, .int .i64 1, .int .i64 p119.2.2.2.1, .bool p119.2.2.2.2.1, .int .i64 p119.2.2.2.2.2])
                      generalize World.setRow _ _ _ = u at S ⊢
                      refine wpList_nil ?_
                      refine wp_seq ?_
                      refine wp_region_lit ?_
                      refine op_val (v := .pointer (some ⟨g102, 2, none⟩)) rfl rfl hF rfl (run_fieldAddr rfl fl25_2 (hF.ev rfl) rfl) ?_; clear hF; intro a hF
                      refine op_do rfl rfl (run_store (cs' := #[.slice B121 p119.2.1.length d122, .int .i64 1, .int .i64 0, .bool p119.2.2.2.2.1, .int .i64 p119.2.2.2.2.2]) rfl sz3 (hF.ev rfl) rfl rfl rfl rfl (S.free 1 rfl) rfl rfl) ?_; replace S := S.put 1 rfl (#[.slice B121 p119.2.1.length d122, .int .i64 1, .int .i64 0, .bool p119.2.2.2.2.1, .int .i64 p119.2.2.2.2.2])
                      generalize World.setRow _ _ _ = u at S ⊢
                      refine wpList_nil ?_
                      refine wp_seq ?_
                      refine wp_region_lit ?_
                      refine op_val (v := .pointer (some ⟨g102, 0, none⟩)) rfl rfl hF rfl (run_fieldAddr rfl fl25_0 (hF.ev rfl) rfl) ?_; clear hF; intro a hF
                      refine op_val (v := .slice B121 p119.2.1.length d122) rfl rfl hF rfl (run_load1 rfl one23 (hF.ev rfl) ((S.free 1 rfl).cell rfl)) ?_; clear hF; intro a hF
                      obtain ⟨hk158, hM156⟩ := chk_ex hM156
                      replace hk158 := ixB_t hk158
                      refine op_val (v := .pointer (some ⟨adB B121, adO B121 + ((0 : Int).toNat) * 1, none⟩)) rfl rfl hF rfl (run_indexAddr (b := adB B121) (off := adO B121) rfl Tryd.underlying23 sz4 ((hF.ev rfl).trans (congrArg (fun A => Value.slice A p119.2.1.length d122) ((S.rc 3 rfl).rd.ad (ix_pos hk158)))) rfl hk158.1 hk158.2 (k' := adO B121 + ((0 : Int).toNat) * 1) rfl) ?_; clear hF; intro a hF
                      refine op_val (v := .bool (p119.2.1.getD ((0 : Int).toNat) false)) rfl rfl hF rfl (run_load1 rfl one4 (hF.ev rfl) (rd_el0 (l := p119.2.1) (S.rc 3 rfl).rd rfl eB_len false (ix_ltn hk158 rfl) rfl)) ?_; clear hF; intro a hF
                      refine op_val (v := .pointer (some ⟨g102, 3, none⟩)) rfl rfl hF rfl (run_fieldAddr rfl fl25_3 (hF.ev rfl) rfl) ?_; clear hF; intro a hF
                      refine op_do rfl rfl (run_store (cs' := #[.slice B121 p119.2.1.length d122, .int .i64 1, .int .i64 0, .bool (p119.2.1.getD ((0 : Int).toNat) false), .int .i64 p119.2.2.2.2.2]) rfl sz4 (hF.ev rfl) (hF.ev rfl) rfl rfl rfl (S.free 1 rfl) rfl rfl) ?_; replace S := S.put 1 rfl (#[.slice B121 p119.2.1.length d122, .int .i64 1, .int .i64 0, .bool (p119.2.1.getD ((0 : Int).toNat) false), .int .i64 p119.2.2.2.2.2])
                      generalize World.setRow _ _ _ = u at S ⊢
                      refine wpList_nil ?_
                      refine wp_region_lit ?_
                      refine op_val (v := .pointer (some ⟨g102, 4, none⟩)) rfl rfl hF rfl (run_fieldAddr rfl fl25_4 (hF.ev rfl) rfl) ?_; clear hF; intro a hF
                      refine op_do rfl rfl (run_store (cs' := #[.slice B121 p119.2.1.length d122, .int .i64 1, .int .i64 0, .bool (p119.2.1.getD ((0 : Int).toNat) false), .int .i64 1]) rfl sz3 (hF.ev rfl) rfl rfl rfl rfl (S.free 1 rfl) rfl rfl) ?_; replace S := S.put 1 rfl (#[.slice B121 p119.2.1.length d122, .int .i64 1, .int .i64 0, .bool (p119.2.1.getD ((0 : Int).toNat) false), .int .i64 1])
                      generalize World.setRow _ _ _ = u at S ⊢
                      refine wpList_nil ?_
                      obtain rfl := Option.some.inj hM156
                      exact ⟨(p143.2, 1, 0, (p119.2.1.getD ((0 : Int).toNat) false), 1), rfl, hF.keep _ ⟨rfl, rfl, trivial⟩, S.selT (M := [.box g0 67 #[.slice A0 x0.length c0, .int .i64 p143.2], .box g102 25 #[.slice B121 p119.2.1.length d122, .int .i64 1, .int .i64 0, .bool (p119.2.1.getD ((0 : Int).toNat) false), .int .i64 1], .box g101 25 #[.slice none 0 0, .int .i64 0, .int .i64 0, .bool false, .int .i64 0], .row 4 1 (.slice B121 p119.2.1.length d122) p119.2.1.length (p119.2.1.flatMap eB)]) 4 [0, 1, 2, 3] rfl rfl rfl⟩
                    · replace hM156 := bif_t hc157 hM156
                      refine cond_t hF rfl hc157 ?_
                      refine wp_region_lit ?_
                      refine op_newrowL (ls := ([-2, 10] : List Int)) (e := eI) rfl rfl hF rfl S (run_buildS (vs := [(0, .int .i64 (-2)), (1, .int .i64 10)]) rfl ⟨⟨rfl, rfl⟩, ⟨rfl, rfl⟩, trivial⟩ (bs35_2_0_0 rfl rfl)) rfl eI_len (Nat.le_of_ble_eq_true rfl) ?_; clear hF S; intro a g159 u hF S
                      refine op_val (v := .pointer (some ⟨g0, 0, none⟩)) rfl rfl hF rfl (run_move rfl (hF.ev rfl)) ?_; clear hF; intro a hF
                      obtain ⟨p160, h160, hM156⟩ := bind_ex hM156
                      refine op_call rfl rfl hF rfl (run_call (vs := [.pointer (some ⟨g0, 0, none⟩), .int .i64 2]) rfl rfl co34 ⟨(hF.ev rfl), rfl, trivial⟩) (c_spec_l20Rd_pick (x0 := x0) (x1 := p143.2) (x2 := 2) ⟨h0.rc, rfl⟩ (show St w0 _ (Asn.box g0 67 #[.slice A0 x0.length c0, .int .i64 p143.2] :: Asn.row 3 1 (.slice (some ⟨g159, 0, none⟩) (([-2, 10]).length) (([-2, 10]).length)) (([-2, 10]).length) (([-2, 10]).flatMap eI) :: Asn.box g102 25 #[.slice B121 p119.2.1.length d122, .int .i64 p119.2.2.1, .int .i64 p119.2.2.2.1, .bool p119.2.2.2.2.1, .int .i64 p119.2.2.2.2.2] :: Asn.box g101 25 #[.slice none 0 0, .int .i64 0, .int .i64 0, .bool false, .int .i64 0] :: Asn.row 4 1 (.slice B121 p119.2.1.length d122) p119.2.1.length (p119.2.1.flatMap eB) :: X) from S.selT (M := [.box g0 67 #[.slice A0 x0.length c0, .int .i64 p143.2], .row 3 1 (.slice (some ⟨g159, 0, none⟩) (([-2, 10]).length) (([-2, 10]).length)) (([-2, 10]).length) (([-2, 10]).flatMap eI), .box g102 25 #[.slice B121 p119.2.1.length d122, .int .i64 p119.2.2.1, .int .i64 p119.2.2.2.1, .bool p119.2.2.2.2.1, .int .i64 p119.2.2.2.2.2], .box g101 25 #[.slice none 0 0, .int .i64 0, .int .i64 0, .bool false, .int .i64 0], .row 4 1 (.slice B121 p119.2.1.length d122) p119.2.1.length (p119.2.1.flatMap eB)]) 5 [1, 0, 2, 3, 4] rfl rfl rfl) h160) ?_
                      rintro e u ⟨rfl, T⟩
                      refine ⟨_, rfl, ?_⟩
                      clear hF; intro a hF
                      clear S; have S := T; clear T
                      obtain ⟨hk161, hM156⟩ := chk_ex hM156
                      replace hk161 := ixB_t hk161
                      refine op_val (v := .pointer (some ⟨adB (some ⟨g159, 0, none⟩), adO (some ⟨g159, 0, none⟩) + p160.1.toNat * 1, none⟩)) rfl rfl hF rfl (run_indexAddr (b := adB (some ⟨g159, 0, none⟩)) (off := adO (some ⟨g159, 0, none⟩)) rfl Tryd.underlying35 sz3 ((hF.ev rfl).trans (congrArg (fun A => Value.slice A (([-2, 10]).length) (([-2, 10]).length)) ((S.rc 1 rfl).rd.ad (ix_pos hk161)))) (hF.ev rfl) hk161.1 hk161.2 (k' := adO (some ⟨g159, 0, none⟩) + p160.1.toNat * 1) rfl) ?_; clear hF; intro a hF
                      refine op_val (v := .int .i64 (([-2, 10]).getD p160.1.toNat (0 : Int))) rfl rfl hF rfl (run_load1 rfl one3 (hF.ev rfl) (rd_el0 (l := [-2, 10]) (S.rc 1 rfl).rd rfl eI_len (0 : Int) (ix_ltn hk161 rfl) rfl)) ?_; clear hF; intro a hF
                      refine op_val (v := .pointer (some ⟨g102, 1, none⟩)) rfl rfl hF rfl (run_fieldAddr rfl fl25_1 (hF.ev rfl) rfl) ?_; clear hF; intro a hF
                      refine op_do rfl rfl (run_store (cs' := #[.slice B121 p119.2.1.length d122, .int .i64 (([-2, 10]).getD p160.1.toNat (0 : Int)), .int .i64 p119.2.2.2.1, .bool p119.2.2.2.2.1, .int .i64 p119.2.2.2.2.2]) rfl sz3 (hF.ev rfl) (hF.ev rfl) rfl rfl rfl (S.free 2 rfl) rfl rfl) ?_; replace S := S.put 2 rfl (#[.slice B121 p119.2.1.length d122, .int .i64 (([-2, 10]).getD p160.1.toNat (0 : Int)), .int .i64 p119.2.2.2.1, .bool p119.2.2.2.2.1, .int .i64 p119.2.2.2.2.2])
                      generalize World.setRow _ _ _ = u at S ⊢
                      refine wpList_nil ?_
                      obtain rfl := Option.some.inj hM156
                      exact ⟨(p160.2, (([-2, 10]).getD p160.1.toNat (0 : Int)), p119.2.2.2.1, p119.2.2.2.2.1, p119.2.2.2.2.2), rfl, hF.keep _ ⟨rfl, rfl, trivial⟩, S.selT (M := [.box g0 67 #[.slice A0 x0.length c0, .int .i64 p160.2], .box g102 25 #[.slice B121 p119.2.1.length d122, .int .i64 (([-2, 10]).getD p160.1.toNat (0 : Int)), .int .i64 p119.2.2.2.1, .bool p119.2.2.2.2.1, .int .i64 p119.2.2.2.2.2], .box g101 25 #[.slice none 0 0, .int .i64 0, .int .i64 0, .bool false, .int .i64 0], .row 4 1 (.slice B121 p119.2.1.length d122) p119.2.1.length (p119.2.1.flatMap eB)]) 5 [0, 2, 3, 4] rfl rfl rfl⟩
                  · rintro a u ⟨p154, rfl, hF, S⟩
                    obtain rfl := Option.some.inj hM152
                    exact ⟨(p154.1, p154.2.1, p154.2.2.1, p154.2.2.2.1, p154.2.2.2.2), rfl, hF.keep _ ⟨rfl, rfl, trivial⟩, S.selT (M := [.box g0 67 #[.slice A0 x0.length c0, .int .i64 p154.1], .box g102 25 #[.slice B121 p119.2.1.length d122, .int .i64 p154.2.1, .int .i64 p154.2.2.1, .bool p154.2.2.2.1, .int .i64 p154.2.2.2.2], .box g101 25 #[.slice none 0 0, .int .i64 0, .int .i64 0, .bool false, .int .i64 0], .row 4 1 (.slice B121 p119.2.1.length d122) p119.2.1.length (p119.2.1.flatMap eB)]) 4 [0, 1, 2, 3] rfl rfl rfl⟩
                · replace hM152 := bif_t hc153 hM152
                  refine cond_t hF rfl hc153 ?_
                  refine wp_region_lit ?_
                  refine op_val (v := .pointer (some ⟨g102, 4, none⟩)) rfl rfl hF rfl (run_fieldAddr rfl fl25_4 (hF.ev rfl) rfl) ?_; clear hF; intro a hF
                  refine op_do rfl rfl (run_store (cs' := #[.slice B121 p119.2.1.length d122, .int .i64 p119.2.2.1, .int .i64 p119.2.2.2.1, .bool p119.2.2.2.2.1, .int .i64 4]) rfl sz3 (hF.ev rfl) rfl rfl rfl rfl (S.free 1 rfl) rfl rfl) ?_; replace S := S.put 1 rfl (#[.slice B121 p119.2.1.length d122, .int .i64 p119.2.2.1, .int .i64 p119.2.2.2.1, .bool p119.2.2.2.2.1, .int .i64 4])
                  generalize World.setRow _ _ _ = u at S ⊢
                  refine wpList_nil ?_
                  obtain rfl := Option.some.inj hM152
                  exact ⟨(p143.2, p119.2.2.1, p119.2.2.2.1, p119.2.2.2.2.1, 4), rfl, hF.keep _ ⟨rfl, rfl, trivial⟩, S.selT (M := [.box g0 67 #[.slice A0 x0.length c0, .int .i64 p143.2], .box g102 25 #[.slice B121 p119.2.1.length d122, .int .i64 p119.2.2.1, .int .i64 p119.2.2.2.1, .bool p119.2.2.2.2.1, .int .i64 4], .box g101 25 #[.slice none 0 0, .int .i64 0, .int .i64 0, .bool false, .int .i64 0], .row 4 1 (.slice B121 p119.2.1.length d122) p119.2.1.length (p119.2.1.flatMap eB)]) 4 [0, 1, 2, 3] rfl rfl rfl⟩
              · rintro a u ⟨p150, rfl, hF, S⟩
                obtain rfl := Option.some.inj hM148
                exact ⟨(p150.1, p119.2.1, p150.2.1, p150.2.2.1, p150.2.2.2.1, p150.2.2.2.2), B121, d122, rfl, hF.keep _ ⟨rfl, rfl, trivial⟩, S.selT (M := [.box g0 67 #[.slice A0 x0.length c0, .int .i64 p150.1], .box g102 25 #[.slice B121 p119.2.1.length d122, .int .i64 p150.2.1, .int .i64 p150.2.2.1, .bool p150.2.2.2.1, .int .i64 p150.2.2.2.2], .box g101 25 #[.slice none 0 0, .int .i64 0, .int .i64 0, .bool false, .int .i64 0], .row 4 1 (.slice B121 p119.2.1.length d122) p119.2.1.length (p119.2.1.flatMap eB)]) 4 [0, 1, 2, 3] rfl rfl rfl⟩
            · replace hM148 := bif_t hc149 hM148
              refine cond_t hF rfl hc149 ?_
              refine wp_region_lit ?_
              refine op_newrow (cs := #[]) (size := 1) rfl rfl hF rfl S (run_buildSlice0 rfl Tryd.underlying23 rfl) rfl (Nat.zero_le _) ?_; clear hF S; intro a g162 u hF S
              refine op_val (v := .pointer (some ⟨g102, 0, none⟩)) rfl rfl hF rfl (run_fieldAddr rfl fl25_0 (hF.ev rfl) rfl) ?_; clear hF; intro a hF
              refine op_do rfl rfl (run_store (cs' := #[.slice (some ⟨g162, 0, none⟩) 0 0, .int .i64 p119.2.2.1, .int .i64 p119.2.2.2.1, .bool p119.2.2.2.2.1, .int .i64 p119.2.2.2.2.2]) rfl sz23 (hF.ev rfl) (hF.ev rfl) rfl rfl rfl (S.free 2 rfl) rfl rfl) ?_; replace S := S.put 2 rfl (#[.slice (some ⟨g162, 0, none⟩) 0 0, .int .i64 p119.2.2.1, .int .i64 p119.2.2.2.1, .bool p119.2.2.2.2.1, .int .i64 p119.2.2.2.2.2])
              generalize World.setRow _ _ _ = u at S ⊢
              refine wpList_nil ?_
              obtain rfl := Option.some.inj hM148
              exact ⟨(p143.2, ([] : List Bool), p119.2.2.1, p119.2.2.2.1, p119.2.2.2.2.1, p119.2.2.2.2.2), (some ⟨g162, 0, none⟩), 0, rfl, hF.keep _ ⟨rfl, rfl, trivial⟩, S.selT (M := [.box g0 67 #[.slice A0 x0.length c0, .int .i64 p143.2], .box g102 25 #[.slice (some ⟨g162, 0, none⟩) 0 0, .int .i64 p119.2.2.1, .int .i64 p119.2.2.2.1, .bool p119.2.2.2.2.1, .int .i64 p119.2.2.2.2.2], .box g101 25 #[.slice none 0 0, .int .i64 0, .int .i64 0, .bool false, .int .i64 0], .row 4 1 (.slice (some ⟨g162, 0, none⟩) 0 0) 0 (([] : List Bool).flatMap eB)]) 5 [1, 2, 3, 0] rfl rfl rfl⟩
          · rintro a u ⟨p144, B146, d147, rfl, hF, S⟩
            obtain rfl := Option.some.inj hM141
            exact ⟨(p144.1, p144.2.1, p144.2.2.1, p144.2.2.2.1, p144.2.2.2.2.1, p144.2.2.2.2.2), B146, d147, rfl, hF.keep _ ⟨rfl, rfl, trivial⟩, S.selT (M := [.box g0 67 #[.slice A0 x0.length c0, .int .i64 p144.1], .box g102 25 #[.slice B146 p144.2.1.length d147, .int .i64 p144.2.2.1, .int .i64 p144.2.2.2.1, .bool p144.2.2.2.2.1, .int .i64 p144.2.2.2.2.2], .box g101 25 #[.slice none 0 0, .int .i64 0, .int .i64 0, .bool false, .int .i64 0], .row 4 1 (.slice B146 p144.2.1.length d147) p144.2.1.length (p144.2.1.flatMap eB)]) 4 [0, 1, 2, 3] rfl rfl rfl⟩
      · rintro a u ⟨p137, B139, d140, rfl, hF, S⟩
        refine wp_seq ?_
        refine wp_region_lit ?_
        refine op_val (v := .agg #[.slice B139 p137.2.1.length d140, .int .i64 p137.2.2.1, .int .i64 p137.2.2.2.1, .bool p137.2.2.2.2.1, .int .i64 p137.2.2.2.2.2]) rfl rfl hF rfl (run_loadN rfl ag25 (hF.ev rfl) rfl ((S.free 1 rfl).cells 0 #[.slice B139 p137.2.1.length d140, .int .i64 p137.2.2.1, .int .i64 p137.2.2.2.1, .bool p137.2.2.2.2.1, .int .i64 p137.2.2.2.2.2] rfl)) ?_; clear hF; intro a hF
        refine op_do rfl rfl (run_store (cs' := #[.slice B139 p137.2.1.length d140, .int .i64 p137.2.2.1, .int .i64 p137.2.2.2.1, .bool p137.2.2.2.2.1, .int .i64 p137.2.2.2.2.2]) rfl sz25 (hF.ev rfl) (hF.ev rfl) rfl rfl rfl (S.free 2 rfl) rfl rfl) ?_; replace S := S.put 2 rfl (#[.slice B139 p137.2.1.length d140, .int .i64 p137.2.2.1, .int .i64 p137.2.2.2.1, .bool p137.2.2.2.2.1, .int .i64 p137.2.2.2.2.2])
        generalize World.setRow _ _ _ = u at S ⊢
        refine wpList_nil ?_
        refine wp_ret ?_
        repeat with_reducible (first | refine then_ret ?_ | refine in_ret ?_ | refine in_nrm ?_)
        refine ret1_gw (.inl rfl) hF rfl (res_cell (hF.ev rfl) (res_loadN ag25 rfl (S.cells 2 rfl 0 #[.slice B139 p137.2.1.length d140, .int .i64 p137.2.2.1, .int .i64 p137.2.2.2.1, .bool p137.2.2.2.2.1, .int .i64 p137.2.2.2.2.2] rfl))) ?_
        obtain rfl := Option.some.inj hM
        exact ⟨B139, p137.2.1.length, d140, rfl, rfl, S.selT (M := [.row 4 1 (.slice B139 p137.2.1.length d140) p137.2.1.length (p137.2.1.flatMap eB), .box g0 67 #[.slice A0 x0.length c0, .int .i64 p137.1]]) 4 [3, 0] rfl rfl rfl⟩

set_option maxHeartbeats 4000000 in
theorem c_spec_DrawPanelDo {x0 : List Int} {A0 : Option Addr} {n0 c0 : Nat} {w : World} {r : List Bool × Int × Int × Bool × Int × Int × Int × Int × Bool} (h0 : Rt w 1 eU A0 n0 c0 x0) (hM : m_spec_DrawPanelDo x0 = some r) :
    Calls Tryd.prog 6 #[.slice A0 n0 c0] w (fun e w' => ∃ (B0 : Option Addr) (N0 D0 : Nat), e = .returned (.tuple #[.agg #[.slice B0 N0 D0, .int .i64 r.2.1, .int .i64 r.2.2.1, .bool r.2.2.2.1, .int .i64 r.2.2.2.2.1], .agg #[.int .i64 r.2.2.2.2.2.1, .int .i64 r.2.2.2.2.2.2.1, .int .i64 r.2.2.2.2.2.2.2.1, .bool r.2.2.2.2.2.2.2.2]]) ∧ N0 = r.1.length ∧ St w w' [.row 4 1 (.slice B0 N0 D0) N0 (r.1.flatMap eB)]) := by
  obtain rfl := h0.len
  unfold m_spec_DrawPanelDo at hM
  refine calls_gw Tryd.func6 Tryd.ntmps6 rfl [(0, .slice A0 x0.length c0)] ⟨rfl, trivial⟩ rfl ?_
  intro a hF
  have S := St.nil w
  refine wp_seq ?_
  refine wp_region_lit ?_
  refine op_new (cs := #[.slice none 0 0, .int .i64 0, .int .i64 0, .bool false, .int .i64 0]) rfl rfl hF rfl S (run_allocZ rfl zr25) ?_; clear hF S; intro a g101 u hF S
  refine op_new (cs := #[.int .i64 0, .int .i64 0, .int .i64 0, .bool false]) rfl rfl hF rfl S (run_allocZ rfl zr27) ?_; clear hF S; intro a g102 u hF S
  refine wpList_nil ?_
  refine wp_seq ?_
  refine wp_region_lit ?_
  refine op_val (v := .slice A0 x0.length c0) rfl rfl hF rfl (run_move rfl (hF.ev rfl)) ?_; clear hF; intro a hF
  refine op_call rfl rfl hF rfl (run_call (vs := [.slice A0 x0.length c0]) rfl rfl co24 ⟨(hF.ev rfl), trivial⟩) (c_spec_l20Open ⟨(S.rc0 h0.rc), rfl⟩) ?_
  rintro e u ⟨g103, rfl, T⟩
  refine ⟨_, rfl, ?_⟩
  clear hF; intro a hF
  replace S := S.call1 T; clear T
  refine op_val (v := .pointer (some ⟨g103, 0, none⟩)) rfl rfl hF rfl (run_assign rfl (hF.ev rfl)) ?_; clear hF; intro a hF
  refine wpList_nil ?_
  refine wp_seq ?_
  refine wp_region_lit ?_
  refine op_val (v := .pointer (some ⟨g103, 0, none⟩)) rfl rfl hF rfl (run_move rfl (hF.ev rfl)) ?_; clear hF; intro a hF
  obtain ⟨p104, h104, hM⟩ := bind_ex hM
  refine op_call rfl rfl hF rfl (run_call (vs := [.pointer (some ⟨g103, 0, none⟩), .int .i64 9]) rfl rfl co25 ⟨(hF.ev rfl), rfl, trivial⟩) (c_spec_l20Panel (x0 := x0.take 2000) (x1 := 0) (x2 := 9) ⟨(op_rc h0.rc rfl), rfl⟩ (show St w _ [.box g103 67 #[.slice (opA c0 x0.length A0) ((x0.take 2000).length) c0, .int .i64 0], .box g102 27 #[.int .i64 0, .int .i64 0, .int .i64 0, .bool false], .box g101 25 #[.slice none 0 0, .int .i64 0, .int .i64 0, .bool false, .int .i64 0]] from S.sel [0, 1, 2] rfl rfl) h104) ?_
  rintro e u ⟨B105, n106, d107, rfl, rfl, T⟩
  refine ⟨_, rfl, ?_⟩
  clear hF; intro a hF
  clear S; have S := T; clear T
  refine op_new (cs := #[.slice none 0 0, .int .i64 0, .int .i64 0, .bool false, .int .i64 0]) rfl rfl hF rfl S (run_allocZ rfl zr25) ?_; clear hF S; intro a g108 u hF S
  refine op_do rfl rfl (run_store (cs' := #[.slice B105 p104.1.length d107, .int .i64 p104.2.1, .int .i64 p104.2.2.1, .bool p104.2.2.2.1, .int .i64 p104.2.2.2.2.1]) rfl sz25 (hF.ev rfl) (hF.ev rfl) rfl rfl rfl (S.free 0 rfl) rfl rfl) ?_; replace S := S.put 0 rfl (#[.slice B105 p104.1.length d107, .int .i64 p104.2.1, .int .i64 p104.2.2.1, .bool p104.2.2.2.1, .int .i64 p104.2.2.2.2.1])
  generalize World.setRow _ _ _ = u at S ⊢
  refine wpList_nil ?_
  refine wp_seq ?_
  obtain ⟨p109, h109, hM⟩ := bind_ex hM
  refine region_gw (D := [10, 11, 12, 13]) (Lr := [.box g108 25 #[.slice B105 p104.1.length d107, .int .i64 p104.2.1, .int .i64 p104.2.2.1, .bool p104.2.2.2.1, .int .i64 p104.2.2.2.2.1]]) (deps := (fun | 0 => [10] | 1 => [11] | 2 => [12] | 3 => [13] | 4 => [2] | 5 => [3] | _ => [])) (rd := (fun _ => [])) (zr := (fun _ => []))
    (φ := fun i vs => match i, vs with | 0, [v10] => v10 = .agg #[.slice B105 p104.1.length d107, .int .i64 p104.2.1, .int .i64 p104.2.2.1, .bool p104.2.2.2.1, .int .i64 p104.2.2.2.2.1] | 1, [v11] => v11 = .pointer (some ⟨g103, 0, none⟩) | 2, [v12] => v12 = .agg #[.slice B105 p104.1.length d107, .int .i64 p104.2.1, .int .i64 p104.2.2.1, .bool p104.2.2.2.1, .int .i64 p104.2.2.2.2.1] | 3, [v13] => v13 = .agg #[.int .i64 p109.1, .int .i64 p109.2.1, .int .i64 p109.2.2.1, .bool p109.2.2.2.1] | _, _ => True)
    (C := fun i vs => match i, vs with | 3, [v13] => [.box g103 67 #[.slice (opA c0 x0.length A0) ((x0.take 2000).length) c0, .int .i64 p109.2.2.2.2], .row 4 1 (.slice B105 p104.1.length d107) p104.1.length (p104.1.flatMap eB)] | 4, [v2] => [.box g101 25 #[.slice B105 p104.1.length d107, .int .i64 p104.2.1, .int .i64 p104.2.2.1, .bool p104.2.2.2.1, .int .i64 p104.2.2.2.2.1]] | 5, [v3] => [.box g102 27 #[.int .i64 p109.1, .int .i64 p109.2.1, .int .i64 p109.2.2.1, .bool p109.2.2.2.1]] | _, _ => [])
    (κ := (fun _ => none)) (Z := (fun | 3 => [.box g103 67 #[.slice (opA c0 x0.length A0) ((x0.take 2000).length) c0, .int .i64 p104.2.2.2.2.2], .row 4 1 (.slice B105 p104.1.length d107) p104.1.length (p104.1.flatMap eB)] | 4 => [.box g101 25 #[.slice none 0 0, .int .i64 0, .int .i64 0, .bool false, .int .i64 0]] | 5 => [.box g102 27 #[.int .i64 0, .int .i64 0, .int .i64 0, .bool false]] | _ => [])) mixed hF (by kernel_rfl) (show St w _ [.box g103 67 #[.slice (opA c0 x0.length A0) ((x0.take 2000).length) c0, .int .i64 p104.2.2.2.2.2], .row 4 1 (.slice B105 p104.1.length d107) p104.1.length (p104.1.flatMap eB), .box g101 25 #[.slice none 0 0, .int .i64 0, .int .i64 0, .bool false, .int .i64 0], .box g102 27 #[.int .i64 0, .int .i64 0, .int .i64 0, .bool false], .box g108 25 #[.slice B105 p104.1.length d107, .int .i64 p104.2.1, .int .i64 p104.2.2.1, .bool p104.2.2.2.1, .int .i64 p104.2.2.2.2.1]] from S.sel [2, 1, 4, 3, 0] rfl rfl) ?_ ?_
  · refine ⟨?_, ?_, ?_, ?_, ?_, ?_, trivial⟩
    · intro a u X hB hu hp hr hz hl S
      replace S : St w u ([] ++ X) := S
      exact .inl ⟨rfl, .agg #[.slice B105 p104.1.length d107, .int .i64 p104.2.1, .int .i64 p104.2.2.1, .bool p104.2.2.2.1, .int .i64 p104.2.2.2.2.1], u, (run_loadN rfl ag25 (hF.evB hB rfl rfl) rfl ((gr_box S hl 0 rfl).cells 0 #[.slice B105 p104.1.length d107, .int .i64 p104.2.1, .int .i64 p104.2.2.1, .bool p104.2.2.2.1, .int .i64 p104.2.2.2.2.1] rfl)), rfl, S⟩
    · intro a u X hB hu hp hr hz hl S
      replace S : St w u ([] ++ X) := S
      exact .inl ⟨rfl, .pointer (some ⟨g103, 0, none⟩), u, (run_move rfl (hF.evB hB rfl rfl)), rfl, S⟩
    · intro a u X hB hu hp hr hz hl S
      replace S : St w u ([] ++ X) := S
      exact .inl ⟨rfl, .agg #[.slice B105 p104.1.length d107, .int .i64 p104.2.1, .int .i64 p104.2.2.1, .bool p104.2.2.2.1, .int .i64 p104.2.2.2.2.1], u, (run_loadN rfl ag25 (hF.evB hB rfl rfl) rfl ((gr_box S hl 0 rfl).cells 0 #[.slice B105 p104.1.length d107, .int .i64 p104.2.1, .int .i64 p104.2.2.1, .bool p104.2.2.2.1, .int .i64 p104.2.2.2.2.1] rfl)), rfl, S⟩
    · intro a u X hB hu hp hr hz hl S
      replace S : St w u ([.box g103 67 #[.slice (opA c0 x0.length A0) ((x0.take 2000).length) c0, .int .i64 p104.2.2.2.2.2], .row 4 1 (.slice B105 p104.1.length d107) p104.1.length (p104.1.flatMap eB)] ++ X) := S
      have e11 : sl a 11 = .pointer (some ⟨g103, 0, none⟩) := hp 1 rfl
      have e12 : sl a 12 = .agg #[.slice B105 p104.1.length d107, .int .i64 p104.2.1, .int .i64 p104.2.2.1, .bool p104.2.2.2.1, .int .i64 p104.2.2.2.2.1] := hp 2 rfl
      refine .inr (.inr (.inl ⟨rfl, _, _, (run_call (vs := [.pointer (some ⟨g103, 0, none⟩), .agg #[.slice B105 p104.1.length d107, .int .i64 p104.2.1, .int .i64 p104.2.2.1, .bool p104.2.2.2.1, .int .i64 p104.2.2.2.2.1]]) rfl rfl co26 ⟨(ev_sl e11), (ev_sl e12), trivial⟩), ?_⟩))
      refine Calls.mono (c_spec_l20Command (x0 := x0.take 2000) (x1 := p104.2.2.2.2.2) (x2 := p104.1) (Y2 := .row 4 1 (.slice B105 p104.1.length d107) p104.1.length (p104.1.flatMap eB)) (x3 := p104.2.1) (x4 := p104.2.2.1) (x5 := p104.2.2.2.1) (x6 := p104.2.2.2.2.1) ⟨(op_rc h0.rc rfl), rfl⟩ rfl (fun u h => (own_rc (show u.ownsRow 0 _ _ _ _ _ from h))) S h109) ?_
      rintro e w1 ⟨rfl, T⟩
      exact ⟨_, rfl, rfl, T⟩
    · intro a u X hB hu hp hr hz hl S
      replace S : St w u ([.box g101 25 #[.slice none 0 0, .int .i64 0, .int .i64 0, .bool false, .int .i64 0]] ++ X) := S
      have e10 : sl a 10 = .agg #[.slice B105 p104.1.length d107, .int .i64 p104.2.1, .int .i64 p104.2.2.1, .bool p104.2.2.2.1, .int .i64 p104.2.2.2.2.1] := hp 0 rfl
      exact .inr (.inl ⟨rfl, _, run_store (cs' := #[.slice B105 p104.1.length d107, .int .i64 p104.2.1, .int .i64 p104.2.2.1, .bool p104.2.2.2.1, .int .i64 p104.2.2.2.2.1]) rfl sz25 (hF.evB hB rfl rfl) (ev_sl e10) rfl rfl rfl (S.free 0 rfl) rfl rfl, trivial, S.put 0 rfl (#[.slice B105 p104.1.length d107, .int .i64 p104.2.1, .int .i64 p104.2.2.1, .bool p104.2.2.2.1, .int .i64 p104.2.2.2.2.1])⟩)
    · intro a u X hB hu hp hr hz hl S
      replace S : St w u ([.box g102 27 #[.int .i64 0, .int .i64 0, .int .i64 0, .bool false]] ++ X) := S
      have e13 : sl a 13 = .agg #[.int .i64 p109.1, .int .i64 p109.2.1, .int .i64 p109.2.2.1, .bool p109.2.2.2.1] := hp 3 rfl
      exact .inr (.inl ⟨rfl, _, run_store (cs' := #[.int .i64 p109.1, .int .i64 p109.2.1, .int .i64 p109.2.2.1, .bool p109.2.2.2.1]) rfl sz27 (hF.evB hB rfl rfl) (ev_sl e13) rfl rfl rfl (S.free 0 rfl) rfl rfl, trivial, S.put 0 rfl (#[.int .i64 p109.1, .int .i64 p109.2.1, .int .i64 p109.2.2.1, .bool p109.2.2.2.1])⟩)
  · intro a u hB hp S
    obtain ⟨q0, q1, q2, q3, q4, q5, _⟩ := hp
    have e10 : sl a 10 = .agg #[.slice B105 p104.1.length d107, .int .i64 p104.2.1, .int .i64 p104.2.2.1, .bool p104.2.2.2.1, .int .i64 p104.2.2.2.2.1] := q0
    have e11 : sl a 11 = .pointer (some ⟨g103, 0, none⟩) := q1
    have e12 : sl a 12 = .agg #[.slice B105 p104.1.length d107, .int .i64 p104.2.1, .int .i64 p104.2.2.1, .bool p104.2.2.2.1, .int .i64 p104.2.2.2.2.1] := q2
    have e13 : sl a 13 = .agg #[.int .i64 p109.1, .int .i64 p109.2.1, .int .i64 p109.2.2.1, .bool p109.2.2.2.1] := q3
    replace S : St w u [.box g103 67 #[.slice (opA c0 x0.length A0) ((x0.take 2000).length) c0, .int .i64 p109.2.2.2.2], .row 4 1 (.slice B105 p104.1.length d107) p104.1.length (p104.1.flatMap eB), .box g101 25 #[.slice B105 p104.1.length d107, .int .i64 p104.2.1, .int .i64 p104.2.2.1, .bool p104.2.2.2.1, .int .i64 p104.2.2.2.2.1], .box g102 27 #[.int .i64 p109.1, .int .i64 p109.2.1, .int .i64 p109.2.2.1, .bool p109.2.2.2.1], .box g108 25 #[.slice B105 p104.1.length d107, .int .i64 p104.2.1, .int .i64 p104.2.2.1, .bool p104.2.2.2.1, .int .i64 p104.2.2.2.2.1]] := S
    clear q0 q1 q2 q3 q4 q5
    have hF := hF.region hB [(10, .agg #[.slice B105 p104.1.length d107, .int .i64 p104.2.1, .int .i64 p104.2.2.1, .bool p104.2.2.2.1, .int .i64 p104.2.2.2.2.1]), (11, .pointer (some ⟨g103, 0, none⟩)), (12, .agg #[.slice B105 p104.1.length d107, .int .i64 p104.2.1, .int .i64 p104.2.2.1, .bool p104.2.2.2.1, .int .i64 p104.2.2.2.2.1]), (13, .agg #[.int .i64 p109.1, .int .i64 p109.2.1, .int .i64 p109.2.2.1, .bool p109.2.2.2.1])] (allSl_mem ⟨e10, e11, e12, e13, trivial⟩) rfl
    clear hB e10 e11 e12 e13
    refine wp_ret ?_
    repeat with_reducible (first | refine then_ret ?_ | refine in_ret ?_ | refine in_nrm ?_)
    refine ret2_gw (.inl rfl) hF rfl (res_cell (hF.ev rfl) (res_loadN ag25 rfl (S.cells 2 rfl 0 #[.slice B105 p104.1.length d107, .int .i64 p104.2.1, .int .i64 p104.2.2.1, .bool p104.2.2.2.1, .int .i64 p104.2.2.2.2.1] rfl))) (res_cell (hF.ev rfl) (res_loadN ag27 rfl (S.cells 3 rfl 0 #[.int .i64 p109.1, .int .i64 p109.2.1, .int .i64 p109.2.2.1, .bool p109.2.2.2.1] rfl))) ?_
    obtain rfl := Option.some.inj hM
    exact ⟨B105, p104.1.length, d107, rfl, rfl, S.sel [1] rfl rfl⟩

set_option maxHeartbeats 4000000 in
theorem c_impl_PanelValid {x0 : List Bool} {x1 : Int} {x2 : Int} {x3 : Bool} {x4 : Int} {A0 : Option Addr} {n0 c0 : Nat} {w : World} {r : Bool} (h0 : Rt w 1 eB A0 n0 c0 x0) (hM : m_impl_PanelValid x0 x1 x2 x3 x4 = some r) :
    Calls Tryd.prog 10 #[.agg #[.slice A0 n0 c0, .int .i64 x1, .int .i64 x2, .bool x3, .int .i64 x4]] w (fun e w' => e = .returned (.bool r) ∧ St w w' []) := by
  obtain rfl := h0.len
  unfold m_impl_PanelValid at hM
  refine calls_gw Tryd.func10 Tryd.ntmps10 rfl [(0, .agg #[.slice A0 x0.length c0, .int .i64 x1, .int .i64 x2, .bool x3, .int .i64 x4])] ⟨rfl, trivial⟩ rfl ?_
  intro a hF
  have S := St.nil w
  refine wp_seq ?_
  refine wp_region_lit ?_
  refine op_new (cs := #[.slice A0 x0.length c0, .int .i64 x1, .int .i64 x2, .bool x3, .int .i64 x4]) rfl rfl hF rfl S (run_box rfl (hF.ev rfl) rfl) ?_; clear hF S; intro a g101 u hF S
  refine op_val (v := .bool false) rfl rfl hF rfl (run_assign rfl rfl) ?_; clear hF; intro a hF
  refine wpList_nil ?_
  refine wp_seq ?_
  refine wp_seq ?_
  refine wp_region_lit ?_
  refine op_val (v := .pointer (some ⟨g101, 0, none⟩)) rfl rfl hF rfl (run_fieldAddr rfl fl25_0 (hF.ev rfl) rfl) ?_; clear hF; intro a hF
  refine op_val (v := .slice A0 x0.length c0) rfl rfl hF rfl (run_load1 rfl one23 (hF.ev rfl) ((S.free 0 rfl).cell rfl)) ?_; clear hF; intro a hF
  refine op_val (v := .int .i64 (x0.length : Int)) rfl rfl hF rfl (run_lenL rfl rfl Tryd.underlying23 (hF.ev rfl)) ?_; clear hF; intro a hF
  refine op_val (v := .bool (ltB (x0.length : Int) 1)) rfl rfl hF rfl (run_lss (hF.ev rfl) rfl rfl) ?_; clear hF; intro a hF
  refine op_val (v := .bool (ltB (x0.length : Int) 1)) rfl rfl hF rfl (run_move rfl (hF.ev rfl)) ?_; clear hF; intro a hF
  refine op_gv (v := .pointer (some ⟨g101, 0, none⟩)) rfl rfl hF rfl (yf (gw_yield hF rfl rfl rfl)) (fun hg => (run_fieldAddr rfl fl25_0 (hF.ev rfl) rfl)) ?_; clear hF; intro a hF
  refine op_gv (v := .slice A0 x0.length c0) rfl rfl hF rfl (yf (gw_yield hF rfl rfl rfl)) (fun hg => (run_load1 rfl one23 ((hF.ev rfl).trans (gv_t hg)) ((S.free 0 rfl).cell rfl))) ?_; clear hF; intro a hF
  refine op_gv (v := .int .i64 (x0.length : Int)) rfl rfl hF rfl (yf (gw_yield hF rfl rfl rfl)) (fun hg => (run_lenL rfl rfl Tryd.underlying23 ((hF.ev rfl).trans (gv_t hg)))) ?_; clear hF; intro a hF
  refine op_gv (v := .bool (ltB 10 (x0.length : Int))) rfl rfl hF rfl (yf (gw_yield hF rfl rfl rfl)) (fun hg => (run_gtr ((hF.ev rfl).trans (gv_t hg)) rfl rfl)) ?_; clear hF; intro a hF
  refine op_val (v := .bool ((ltB (x0.length : Int) 1) || (ltB 10 (x0.length : Int)))) rfl rfl hF rfl (run_pick_or rfl (hF.ev rfl) rfl (fun hp => ((hF.ev rfl).trans (gv_t (not_t hp))))) ?_; clear hF; intro a hF
  refine wpList_nil ?_
  cases hc102 : ((ltB (x0.length : Int) 1) || (ltB 10 (x0.length : Int)))
  · replace hM := bif_f hc102 hM
    refine cond_f hF rfl hc102 ?_
    refine wp_skip ?_
    refine wp_seq ?_
    refine wp_seq ?_
    refine wp_region_lit ?_
    refine op_val (v := .pointer (some ⟨g101, 1, none⟩)) rfl rfl hF rfl (run_fieldAddr rfl fl25_1 (hF.ev rfl) rfl) ?_; clear hF; intro a hF
    refine op_val (v := .int .i64 x1) rfl rfl hF rfl (run_load1 rfl one3 (hF.ev rfl) ((S.free 0 rfl).cell rfl)) ?_; clear hF; intro a hF
    refine op_val (v := .bool (x1 == (-1))) rfl rfl hF rfl (run_eql (hF.ev rfl) rfl rfl) ?_; clear hF; intro a hF
    refine wpList_nil ?_
    cases hc103 : (x1 == (-1))
    · replace hM := bif_f hc103 hM
      refine cond_f hF rfl hc103 ?_
      refine wp_skip ?_
      refine wp_seq ?_
      obtain ⟨hk104, hM⟩ := chk_ex hM
      replace hk104 := fun hg => ixB_t (imp_t hk104 hg)
      refine region_gw (D := [29, 30, 31, 32, 33, 34, 35, 36, 37, 38, 39, 40, 41, 42, 43, 44, 45, 46, 47, 48, 49, 50, 51, 52, 53, 54, 55, 56, 57, 58, 59, 60, 61, 62, 63, 64, 65, 66, 67, 68, 69, 70, 2]) (Lr := [.box g101 25 #[.slice A0 x0.length c0, .int .i64 x1, .int .i64 x2, .bool x3, .int .i64 x4]]) (deps := (fun | 0 => [29] | 1 => [30] | 2 => [31] | 3 => [32] | 4 => [33] | 5 => [34] | 6 => [35] | 7 => [36] | 8 => [37] | 9 => [38] | 10 => [39] | 11 => [40] | 12 => [41] | 13 => [42] | 14 => [43] | 15 => [44] | 16 => [45] | 17 => [46] | 18 => [47] | 19 => [48] | 20 => [49] | 21 => [50] | 22 => [51] | 23 => [52] | 24 => [53] | 25 => [54] | 26 => [55] | 27 => [56] | 28 => [57] | 29 => [58] | 30 => [59] | 31 => [60] | 32 => [61] | 33 => [62] | 34 => [63] | 35 => [64] | 36 => [65] | 37 => [66] | 38 => [67] | 39 => [68] | 40 => [69] | 41 => [70] | 42 => [2] | _ => [])) (rd := (fun _ => [])) (zr := (fun _ => []))
        (φ := fun i vs => match i, vs with | 0, [v29] => v29 = .pointer (some ⟨g101, 1, none⟩) | 1, [v30] => v30 = .int .i64 x1 | 2, [v31] => v31 = .bool (leB 0 x1) | 3, [v32] => v32 = .bool (leB 0 x1) | 4, [v33] => v33 = gv (leB 0 x1) (.pointer (some ⟨g101, 1, none⟩)) | 5, [v34] => v34 = gv (leB 0 x1) (.int .i64 x1) | 6, [v35] => v35 = gv (leB 0 x1) (.bool (leB x1 9)) | 7, [v36] => v36 = .bool ((leB 0 x1) && (leB x1 9)) | 8, [v37] => v37 = .bool ((leB 0 x1) && (leB x1 9)) | 9, [v38] => v38 = gv ((leB 0 x1) && (leB x1 9)) (.pointer (some ⟨g101, 2, none⟩)) | 10, [v39] => v39 = gv ((leB 0 x1) && (leB x1 9)) (.int .i64 x2) | 11, [v40] => v40 = gv ((leB 0 x1) && (leB x1 9)) (.bool (leB 0 x2)) | 12, [v41] => v41 = .bool (((leB 0 x1) && (leB x1 9)) && (leB 0 x2)) | 13, [v42] => v42 = .bool (((leB 0 x1) && (leB x1 9)) && (leB 0 x2)) | 14, [v43] => v43 = gv (((leB 0 x1) && (leB x1 9)) && (leB 0 x2)) (.pointer (some ⟨g101, 2, none⟩)) | 15, [v44] => v44 = gv (((leB 0 x1) && (leB x1 9)) && (leB 0 x2)) (.int .i64 x2) | 16, [v45] => v45 = gv (((leB 0 x1) && (leB x1 9)) && (leB 0 x2)) (.pointer (some ⟨g101, 0, none⟩)) | 17, [v46] => v46 = gv (((leB 0 x1) && (leB x1 9)) && (leB 0 x2)) (.slice A0 x0.length c0) | 18, [v47] => v47 = gv (((leB 0 x1) && (leB x1 9)) && (leB 0 x2)) (.int .i64 (x0.length : Int)) | 19, [v48] => v48 = gv (((leB 0 x1) && (leB x1 9)) && (leB 0 x2)) (.bool (ltB x2 (x0.length : Int))) | 20, [v49] => v49 = .bool ((((leB 0 x1) && (leB x1 9)) && (leB 0 x2)) && (ltB x2 (x0.length : Int))) | 21, [v50] => v50 = .bool ((((leB 0 x1) && (leB x1 9)) && (leB 0 x2)) && (ltB x2 (x0.length : Int))) | 22, [v51] => v51 = gv ((((leB 0 x1) && (leB x1 9)) && (leB 0 x2)) && (ltB x2 (x0.length : Int))) (.pointer (some ⟨g101, 0, none⟩)) | 23, [v52] => v52 = gv ((((leB 0 x1) && (leB x1 9)) && (leB 0 x2)) && (ltB x2 (x0.length : Int))) (.slice A0 x0.length c0) | 24, [v53] => v53 = gv ((((leB 0 x1) && (leB x1 9)) && (leB 0 x2)) && (ltB x2 (x0.length : Int))) (.pointer (some ⟨g101, 2, none⟩)) | 25, [v54] => v54 = gv ((((leB 0 x1) && (leB x1 9)) && (leB 0 x2)) && (ltB x2 (x0.length : Int))) (.int .i64 x2) | 26, [v55] => v55 = gv ((((leB 0 x1) && (leB x1 9)) && (leB 0 x2)) && (ltB x2 (x0.length : Int))) (.pointer (some ⟨adB A0, adO A0 + x2.toNat * 1, none⟩)) | 27, [v56] => v56 = gv ((((leB 0 x1) && (leB x1 9)) && (leB 0 x2)) && (ltB x2 (x0.length : Int))) (.bool (x0.getD x2.toNat false)) | 28, [v57] => v57 = gv ((((leB 0 x1) && (leB x1 9)) && (leB 0 x2)) && (ltB x2 (x0.length : Int))) (.pointer (some ⟨g101, 3, none⟩)) | 29, [v58] => v58 = gv ((((leB 0 x1) && (leB x1 9)) && (leB 0 x2)) && (ltB x2 (x0.length : Int))) (.bool x3) | 30, [v59] => v59 = gv ((((leB 0 x1) && (leB x1 9)) && (leB 0 x2)) && (ltB x2 (x0.length : Int))) (.bool ((x0.getD x2.toNat false) != x3)) | 31, [v60] => v60 = .bool (((((leB 0 x1) && (leB x1 9)) && (leB 0 x2)) && (ltB x2 (x0.length : Int))) && ((x0.getD x2.toNat false) != x3)) | 32, [v61] => v61 = .bool (((((leB 0 x1) && (leB x1 9)) && (leB 0 x2)) && (ltB x2 (x0.length : Int))) && ((x0.getD x2.toNat false) != x3)) | 33, [v62] => v62 = gv (((((leB 0 x1) && (leB x1 9)) && (leB 0 x2)) && (ltB x2 (x0.length : Int))) && ((x0.getD x2.toNat false) != x3)) (.pointer (some ⟨g101, 4, none⟩)) | 34, [v63] => v63 = gv (((((leB 0 x1) && (leB x1 9)) && (leB 0 x2)) && (ltB x2 (x0.length : Int))) && ((x0.getD x2.toNat false) != x3)) (.int .i64 x4) | 35, [v64] => v64 = gv (((((leB 0 x1) && (leB x1 9)) && (leB 0 x2)) && (ltB x2 (x0.length : Int))) && ((x0.getD x2.toNat false) != x3)) (.bool (leB 1 x4)) | 36, [v65] => v65 = .bool ((((((leB 0 x1) && (leB x1 9)) && (leB 0 x2)) && (ltB x2 (x0.length : Int))) && ((x0.getD x2.toNat false) != x3)) && (leB 1 x4)) | 37, [v66] => v66 = .bool ((((((leB 0 x1) && (leB x1 9)) && (leB 0 x2)) && (ltB x2 (x0.length : Int))) && ((x0.getD x2.toNat false) != x3)) && (leB 1 x4)) | 38, [v67] => v67 = gv ((((((leB 0 x1) && (leB x1 9)) && (leB 0 x2)) && (ltB x2 (x0.length : Int))) && ((x0.getD x2.toNat false) != x3)) && (leB 1 x4)) (.pointer (some ⟨g101, 4, none⟩)) | 39, [v68] => v68 = gv ((((((leB 0 x1) && (leB x1 9)) && (leB 0 x2)) && (ltB x2 (x0.length : Int))) && ((x0.getD x2.toNat false) != x3)) && (leB 1 x4)) (.int .i64 x4) | 40, [v69] => v69 = gv ((((((leB 0 x1) && (leB x1 9)) && (leB 0 x2)) && (ltB x2 (x0.length : Int))) && ((x0.getD x2.toNat false) != x3)) && (leB 1 x4)) (.bool (leB x4 3)) | 41, [v70] => v70 = .bool (((((((leB 0 x1) && (leB x1 9)) && (leB 0 x2)) && (ltB x2 (x0.length : Int))) && ((x0.getD x2.toNat false) != x3)) && (leB 1 x4)) && (leB x4 3)) | 42, [v2] => v2 = .bool (((((((leB 0 x1) && (leB x1 9)) && (leB 0 x2)) && (ltB x2 (x0.length : Int))) && ((x0.getD x2.toNat false) != x3)) && (leB 1 x4)) && (leB x4 3)) | _, _ => True)
        (C := fun _ _ => [])
        (κ := (fun _ => none)) (Z := (fun _ => [])) mixed hF (by kernel_rfl) S ?_ ?_
      · refine ⟨?_, ?_, ?_, ?_, ?_, ?_, ?_, ?_, ?_, ?_, ?_, ?_, ?_, ?_, ?_, ?_, ?_, ?_, ?_, ?_, ?_, ?_, ?_, ?_, ?_, ?_, ?_, ?_, ?_, ?_, ?_, ?_, ?_, ?_, ?_, ?_, ?_, ?_, ?_, ?_, ?_, ?_, ?_, trivial⟩
        · intro a u X hB hu hp hr hz hl S
          replace S : St w u ([] ++ X) := S
          exact .inl ⟨rfl, .pointer (some ⟨g101, 1, none⟩), u, (run_fieldAddr rfl fl25_1 (hF.evB hB rfl rfl) rfl), rfl, S⟩
        · intro a u X hB hu hp hr hz hl S
          replace S : St w u ([] ++ X) := S
          have e29 : sl a 29 = .pointer (some ⟨g101, 1, none⟩) := hp 0 rfl
          exact .inl ⟨rfl, .int .i64 x1, u, (run_load1 rfl one3 (ev_sl e29) ((gr_box S hl 0 rfl).cell rfl)), rfl, S⟩
        · intro a u X hB hu hp hr hz hl S
          replace S : St w u ([] ++ X) := S
          have e30 : sl a 30 = .int .i64 x1 := hp 1 rfl
          exact .inl ⟨rfl, .bool (leB 0 x1), u, (run_geq (ev_sl e30) (ev_const _ _) rfl), rfl, S⟩
        · intro a u X hB hu hp hr hz hl S
          replace S : St w u ([] ++ X) := S
          have e31 : sl a 31 = .bool (leB 0 x1) := hp 2 rfl
          exact .inl ⟨rfl, .bool (leB 0 x1), u, (run_move rfl (ev_sl e31)), rfl, S⟩
        · intro a u X hB hu hp hr hz hl S
          replace S : St w u ([] ++ X) := S
          have e32 : sl a 32 = .bool (leB 0 x1) := hp 3 rfl
          rcases (Bool.eq_false_or_eq_true (leB 0 x1)).symm with hg | hg
          · exact .inr (.inr (.inr ⟨gr_eg rfl (yt (gr_yield rfl rfl e32)) hg, (gv_f hg).symm, S⟩))
          · exact .inl ⟨gr_eg rfl (yt (gr_yield rfl rfl e32)) hg, .pointer (some ⟨g101, 1, none⟩), u, (run_fieldAddr rfl fl25_1 (hF.evB hB rfl rfl) rfl), (gv_t hg).symm, S⟩
        · intro a u X hB hu hp hr hz hl S
          replace S : St w u ([] ++ X) := S
          have e32 : sl a 32 = .bool (leB 0 x1) := hp 3 rfl
          have e33 : sl a 33 = gv (leB 0 x1) (.pointer (some ⟨g101, 1, none⟩)) := hp 4 rfl
          rcases (Bool.eq_false_or_eq_true (leB 0 x1)).symm with hg | hg
          · exact .inr (.inr (.inr ⟨gr_eg rfl (yt (gr_yield rfl rfl e32)) hg, (gv_f hg).symm, S⟩))
          · exact .inl ⟨gr_eg rfl (yt (gr_yield rfl rfl e32)) hg, .int .i64 x1, u, (run_load1 rfl one3 ((ev_sl e33).trans (gv_t hg)) ((gr_box S hl 0 rfl).cell rfl)), (gv_t hg).symm, S⟩
        · intro a u X hB hu hp hr hz hl S
          replace S : St w u ([] ++ X) := S
          have e32 : sl a 32 = .bool (leB 0 x1) := hp 3 rfl
          have e34 : sl a 34 = gv (leB 0 x1) (.int .i64 x1) := hp 5 rfl
          rcases (Bool.eq_false_or_eq_true (leB 0 x1)).symm with hg | hg
          · exact .inr (.inr (.inr ⟨gr_eg rfl (yt (gr_yield rfl rfl e32)) hg, (gv_f hg).symm, S⟩))
          · exact .inl ⟨gr_eg rfl (yt (gr_yield rfl rfl e32)) hg, .bool (leB x1 9), u, (run_leq ((ev_sl e34).trans (gv_t hg)) (ev_const _ _) rfl), (gv_t hg).symm, S⟩
        · intro a u X hB hu hp hr hz hl S
          replace S : St w u ([] ++ X) := S
          have e32 : sl a 32 = .bool (leB 0 x1) := hp 3 rfl
          have e35 : sl a 35 = gv (leB 0 x1) (.bool (leB x1 9)) := hp 6 rfl
          exact .inl ⟨rfl, .bool ((leB 0 x1) && (leB x1 9)), u, (run_pick_and rfl (ev_sl e32) (fun hp => ((ev_sl e35).trans (gv_t hp))) (ev_const _ _)), rfl, S⟩
        · intro a u X hB hu hp hr hz hl S
          replace S : St w u ([] ++ X) := S
          have e36 : sl a 36 = .bool ((leB 0 x1) && (leB x1 9)) := hp 7 rfl
          exact .inl ⟨rfl, .bool ((leB 0 x1) && (leB x1 9)), u, (run_move rfl (ev_sl e36)), rfl, S⟩
        · intro a u X hB hu hp hr hz hl S
          replace S : St w u ([] ++ X) := S
          have e37 : sl a 37 = .bool ((leB 0 x1) && (leB x1 9)) := hp 8 rfl
          rcases (Bool.eq_false_or_eq_true ((leB 0 x1) && (leB x1 9))).symm with hg | hg
          · exact .inr (.inr (.inr ⟨gr_eg rfl (yt (gr_yield rfl rfl e37)) hg, (gv_f hg).symm, S⟩))
          · exact .inl ⟨gr_eg rfl (yt (gr_yield rfl rfl e37)) hg, .pointer (some ⟨g101, 2, none⟩), u, (run_fieldAddr rfl fl25_2 (hF.evB hB rfl rfl) rfl), (gv_t hg).symm, S⟩
        · intro a u X hB hu hp hr hz hl S
          replace S : St w u ([] ++ X) := S
          have e37 : sl a 37 = .bool ((leB 0 x1) && (leB x1 9)) := hp 8 rfl
          have e38 : sl a 38 = gv ((leB 0 x1) && (leB x1 9)) (.pointer (some ⟨g101, 2, none⟩)) := hp 9 rfl
          rcases (Bool.eq_false_or_eq_true ((leB 0 x1) && (leB x1 9))).symm with hg | hg
          · exact .inr (.inr (.inr ⟨gr_eg rfl (yt (gr_yield rfl rfl e37)) hg, (gv_f hg).symm, S⟩))
          · exact .inl ⟨gr_eg rfl (yt (gr_yield rfl rfl e37)) hg, .int .i64 x2, u, (run_load1 rfl one3 ((ev_sl e38).trans (gv_t hg)) ((gr_box S hl 0 rfl).cell rfl)), (gv_t hg).symm, S⟩
        · intro a u X hB hu hp hr hz hl S
          replace S : St w u ([] ++ X) := S
          have e37 : sl a 37 = .bool ((leB 0 x1) && (leB x1 9)) := hp 8 rfl
          have e39 : sl a 39 = gv ((leB 0 x1) && (leB x1 9)) (.int .i64 x2) := hp 10 rfl
          rcases (Bool.eq_false_or_eq_true ((leB 0 x1) && (leB x1 9))).symm with hg | hg
          · exact .inr (.inr (.inr ⟨gr_eg rfl (yt (gr_yield rfl rfl e37)) hg, (gv_f hg).symm, S⟩))
          · exact .inl ⟨gr_eg rfl (yt (gr_yield rfl rfl e37)) hg, .bool (leB 0 x2), u, (run_geq ((ev_sl e39).trans (gv_t hg)) (ev_const _ _) rfl), (gv_t hg).symm, S⟩
        · intro a u X hB hu hp hr hz hl S
          replace S : St w u ([] ++ X) := S
          have e37 : sl a 37 = .bool ((leB 0 x1) && (leB x1 9)) := hp 8 rfl
          have e40 : sl a 40 = gv ((leB 0 x1) && (leB x1 9)) (.bool (leB 0 x2)) := hp 11 rfl
          exact .inl ⟨rfl, .bool (((leB 0 x1) && (leB x1 9)) && (leB 0 x2)), u, (run_pick_and rfl (ev_sl e37) (fun hp => ((ev_sl e40).trans (gv_t hp))) (ev_const _ _)), rfl, S⟩
        · intro a u X hB hu hp hr hz hl S
          replace S : St w u ([] ++ X) := S
          have e41 : sl a 41 = .bool (((leB 0 x1) && (leB x1 9)) && (leB 0 x2)) := hp 12 rfl
          exact .inl ⟨rfl, .bool (((leB 0 x1) && (leB x1 9)) && (leB 0 x2)), u, (run_move rfl (ev_sl e41)), rfl, S⟩
        · intro a u X hB hu hp hr hz hl S
          replace S : St w u ([] ++ X) := S
          have e42 : sl a 42 = .bool (((leB 0 x1) && (leB x1 9)) && (leB 0 x2)) := hp 13 rfl
          rcases (Bool.eq_false_or_eq_true (((leB 0 x1) && (leB x1 9)) && (leB 0 x2))).symm with hg | hg
          · exact .inr (.inr (.inr ⟨gr_eg rfl (yt (gr_yield rfl rfl e42)) hg, (gv_f hg).symm, S⟩))
          · exact .inl ⟨gr_eg rfl (yt (gr_yield rfl rfl e42)) hg, .pointer (some ⟨g101, 2, none⟩), u, (run_fieldAddr rfl fl25_2 (hF.evB hB rfl rfl) rfl), (gv_t hg).symm, S⟩
        · intro a u X hB hu hp hr hz hl S
          replace S : St w u ([] ++ X) := S
          have e42 : sl a 42 = .bool (((leB 0 x1) && (leB x1 9)) && (leB 0 x2)) := hp 13 rfl
          have e43 : sl a 43 = gv (((leB 0 x1) && (leB x1 9)) && (leB 0 x2)) (.pointer (some ⟨g101, 2, none⟩)) := hp 14 rfl
          rcases (Bool.eq_false_or_eq_true (((leB 0 x1) && (leB x1 9)) && (leB 0 x2))).symm with hg | hg
          · exact .inr (.inr (.inr ⟨gr_eg rfl (yt (gr_yield rfl rfl e42)) hg, (gv_f hg).symm, S⟩))
          · exact .inl ⟨gr_eg rfl (yt (gr_yield rfl rfl e42)) hg, .int .i64 x2, u, (run_load1 rfl one3 ((ev_sl e43).trans (gv_t hg)) ((gr_box S hl 0 rfl).cell rfl)), (gv_t hg).symm, S⟩
        · intro a u X hB hu hp hr hz hl S
          replace S : St w u ([] ++ X) := S
          have e42 : sl a 42 = .bool (((leB 0 x1) && (leB x1 9)) && (leB 0 x2)) := hp 13 rfl
          rcases (Bool.eq_false_or_eq_true (((leB 0 x1) && (leB x1 9)) && (leB 0 x2))).symm with hg | hg
          · exact .inr (.inr (.inr ⟨gr_eg rfl (yt (gr_yield rfl rfl e42)) hg, (gv_f hg).symm, S⟩))
          · exact .inl ⟨gr_eg rfl (yt (gr_yield rfl rfl e42)) hg, .pointer (some ⟨g101, 0, none⟩), u, (run_fieldAddr rfl fl25_0 (hF.evB hB rfl rfl) rfl), (gv_t hg).symm, S⟩
        · intro a u X hB hu hp hr hz hl S
          replace S : St w u ([] ++ X) := S
          have e42 : sl a 42 = .bool (((leB 0 x1) && (leB x1 9)) && (leB 0 x2)) := hp 13 rfl
          have e45 : sl a 45 = gv (((leB 0 x1) && (leB x1 9)) && (leB 0 x2)) (.pointer (some ⟨g101, 0, none⟩)) := hp 16 rfl
          rcases (Bool.eq_false_or_eq_true (((leB 0 x1) && (leB x1 9)) && (leB 0 x2))).symm with hg | hg
          · exact .inr (.inr (.inr ⟨gr_eg rfl (yt (gr_yield rfl rfl e42)) hg, (gv_f hg).symm, S⟩))
          · exact .inl ⟨gr_eg rfl (yt (gr_yield rfl rfl e42)) hg, .slice A0 x0.length c0, u, (run_load1 rfl one23 ((ev_sl e45).trans (gv_t hg)) ((gr_box S hl 0 rfl).cell rfl)), (gv_t hg).symm, S⟩
        · intro a u X hB hu hp hr hz hl S
          replace S : St w u ([] ++ X) := S
          have e42 : sl a 42 = .bool (((leB 0 x1) && (leB x1 9)) && (leB 0 x2)) := hp 13 rfl
          have e46 : sl a 46 = gv (((leB 0 x1) && (leB x1 9)) && (leB 0 x2)) (.slice A0 x0.length c0) := hp 17 rfl
          rcases (Bool.eq_false_or_eq_true (((leB 0 x1) && (leB x1 9)) && (leB 0 x2))).symm with hg | hg
          · exact .inr (.inr (.inr ⟨gr_eg rfl (yt (gr_yield rfl rfl e42)) hg, (gv_f hg).symm, S⟩))
          · exact .inl ⟨gr_eg rfl (yt (gr_yield rfl rfl e42)) hg, .int .i64 (x0.length : Int), u, (run_lenL rfl rfl Tryd.underlying23 ((ev_sl e46).trans (gv_t hg))), (gv_t hg).symm, S⟩
        · intro a u X hB hu hp hr hz hl S
          replace S : St w u ([] ++ X) := S
          have e42 : sl a 42 = .bool (((leB 0 x1) && (leB x1 9)) && (leB 0 x2)) := hp 13 rfl
          have e44 : sl a 44 = gv (((leB 0 x1) && (leB x1 9)) && (leB 0 x2)) (.int .i64 x2) := hp 15 rfl
          have e47 : sl a 47 = gv (((leB 0 x1) && (leB x1 9)) && (leB 0 x2)) (.int .i64 (x0.length : Int)) := hp 18 rfl
          rcases (Bool.eq_false_or_eq_true (((leB 0 x1) && (leB x1 9)) && (leB 0 x2))).symm with hg | hg
          · exact .inr (.inr (.inr ⟨gr_eg rfl (yt (gr_yield rfl rfl e42)) hg, (gv_f hg).symm, S⟩))
          · exact .inl ⟨gr_eg rfl (yt (gr_yield rfl rfl e42)) hg, .bool (ltB x2 (x0.length : Int)), u, (run_lss ((ev_sl e44).trans (gv_t hg)) ((ev_sl e47).trans (gv_t hg)) rfl), (gv_t hg).symm, S⟩
        · intro a u X hB hu hp hr hz hl S
          replace S : St w u ([] ++ X) := S
          have e42 : sl a 42 = .bool (((leB 0 x1) && (leB x1 9)) && (leB 0 x2)) := hp 13 rfl
          have e48 : sl a 48 = gv (((leB 0 x1) && (leB x1 9)) && (leB 0 x2)) (.bool (ltB x2 (x0.length : Int))) := hp 19 rfl
          exact .inl ⟨rfl, .bool ((((leB 0 x1) && (leB x1 9)) && (leB 0 x2)) && (ltB x2 (x0.length : Int))), u, (run_pick_and rfl (ev_sl e42) (fun hp => ((ev_sl e48).trans (gv_t hp))) (ev_const _ _)), rfl, S⟩
        · intro a u X hB hu hp hr hz hl S
          replace S : St w u ([] ++ X) := S
          have e49 : sl a 49 = .bool ((((leB 0 x1) && (leB x1 9)) && (leB 0 x2)) && (ltB x2 (x0.length : Int))) := hp 20 rfl
          exact .inl ⟨rfl, .bool ((((leB 0 x1) && (leB x1 9)) && (leB 0 x2)) && (ltB x2 (x0.length : Int))), u, (run_move rfl (ev_sl e49)), rfl, S⟩
        · intro a u X hB hu hp hr hz hl S
          replace S : St w u ([] ++ X) := S
          have e50 : sl a 50 = .bool ((((leB 0 x1) && (leB x1 9)) && (leB 0 x2)) && (ltB x2 (x0.length : Int))) := hp 21 rfl
          rcases (Bool.eq_false_or_eq_true ((((leB 0 x1) && (leB x1 9)) && (leB 0 x2)) && (ltB x2 (x0.length : Int)))).symm with hg | hg
          · exact .inr (.inr (.inr ⟨gr_eg rfl (yt (gr_yield rfl rfl e50)) hg, (gv_f hg).symm, S⟩))
          · exact .inl ⟨gr_eg rfl (yt (gr_yield rfl rfl e50)) hg, .pointer (some ⟨g101, 0, none⟩), u, (run_fieldAddr rfl fl25_0 (hF.evB hB rfl rfl) rfl), (gv_t hg).symm, S⟩
        · intro a u X hB hu hp hr hz hl S
          replace S : St w u ([] ++ X) := S
          have e50 : sl a 50 = .bool ((((leB 0 x1) && (leB x1 9)) && (leB 0 x2)) && (ltB x2 (x0.length : Int))) := hp 21 rfl
          have e51 : sl a 51 = gv ((((leB 0 x1) && (leB x1 9)) && (leB 0 x2)) && (ltB x2 (x0.length : Int))) (.pointer (some ⟨g101, 0, none⟩)) := hp 22 rfl
          rcases (Bool.eq_false_or_eq_true ((((leB 0 x1) && (leB x1 9)) && (leB 0 x2)) && (ltB x2 (x0.length : Int)))).symm with hg | hg
          · exact .inr (.inr (.inr ⟨gr_eg rfl (yt (gr_yield rfl rfl e50)) hg, (gv_f hg).symm, S⟩))
          · exact .inl ⟨gr_eg rfl (yt (gr_yield rfl rfl e50)) hg, .slice A0 x0.length c0, u, (run_load1 rfl one23 ((ev_sl e51).trans (gv_t hg)) ((gr_box S hl 0 rfl).cell rfl)), (gv_t hg).symm, S⟩
        · intro a u X hB hu hp hr hz hl S
          replace S : St w u ([] ++ X) := S
          have e50 : sl a 50 = .bool ((((leB 0 x1) && (leB x1 9)) && (leB 0 x2)) && (ltB x2 (x0.length : Int))) := hp 21 rfl
          rcases (Bool.eq_false_or_eq_true ((((leB 0 x1) && (leB x1 9)) && (leB 0 x2)) && (ltB x2 (x0.length : Int)))).symm with hg | hg
          · exact .inr (.inr (.inr ⟨gr_eg rfl (yt (gr_yield rfl rfl e50)) hg, (gv_f hg).symm, S⟩))
          · exact .inl ⟨gr_eg rfl (yt (gr_yield rfl rfl e50)) hg, .pointer (some ⟨g101, 2, none⟩), u, (run_fieldAddr rfl fl25_2 (hF.evB hB rfl rfl) rfl), (gv_t hg).symm, S⟩
        · intro a u X hB hu hp hr hz hl S
          replace S : St w u ([] ++ X) := S
          have e50 : sl a 50 = .bool ((((leB 0 x1) && (leB x1 9)) && (leB 0 x2)) && (ltB x2 (x0.length : Int))) := hp 21 rfl
          have e53 : sl a 53 = gv ((((leB 0 x1) && (leB x1 9)) && (leB 0 x2)) && (ltB x2 (x0.length : Int))) (.pointer (some ⟨g101, 2, none⟩)) := hp 24 rfl
          rcases (Bool.eq_false_or_eq_true ((((leB 0 x1) && (leB x1 9)) && (leB 0 x2)) && (ltB x2 (x0.length : Int)))).symm with hg | hg
          · exact .inr (.inr (.inr ⟨gr_eg rfl (yt (gr_yield rfl rfl e50)) hg, (gv_f hg).symm, S⟩))
          · exact .inl ⟨gr_eg rfl (yt (gr_yield rfl rfl e50)) hg, .int .i64 x2, u, (run_load1 rfl one3 ((ev_sl e53).trans (gv_t hg)) ((gr_box S hl 0 rfl).cell rfl)), (gv_t hg).symm, S⟩
        · intro a u X hB hu hp hr hz hl S
          replace S : St w u ([] ++ X) := S
          have e50 : sl a 50 = .bool ((((leB 0 x1) && (leB x1 9)) && (leB 0 x2)) && (ltB x2 (x0.length : Int))) := hp 21 rfl
          have e52 : sl a 52 = gv ((((leB 0 x1) && (leB x1 9)) && (leB 0 x2)) && (ltB x2 (x0.length : Int))) (.slice A0 x0.length c0) := hp 23 rfl
          have e54 : sl a 54 = gv ((((leB 0 x1) && (leB x1 9)) && (leB 0 x2)) && (ltB x2 (x0.length : Int))) (.int .i64 x2) := hp 25 rfl
          rcases (Bool.eq_false_or_eq_true ((((leB 0 x1) && (leB x1 9)) && (leB 0 x2)) && (ltB x2 (x0.length : Int)))).symm with hg | hg
          · exact .inr (.inr (.inr ⟨gr_eg rfl (yt (gr_yield rfl rfl e50)) hg, (gv_f hg).symm, S⟩))
          · exact .inl ⟨gr_eg rfl (yt (gr_yield rfl rfl e50)) hg, .pointer (some ⟨adB A0, adO A0 + x2.toNat * 1, none⟩), u, (run_indexAddr (b := adB A0) (off := adO A0) rfl Tryd.underlying23 sz4 (((ev_sl e52).trans (gv_t hg)).trans (congrArg (fun A => Value.slice A x0.length c0) ((S.rc0 h0.rc).rd.ad (ix_pos (hk104 hg))))) ((ev_sl e54).trans (gv_t hg)) (hk104 hg).1 (hk104 hg).2 (k' := adO A0 + x2.toNat * 1) rfl), (gv_t hg).symm, S⟩
        · intro a u X hB hu hp hr hz hl S
          replace S : St w u ([] ++ X) := S
          have e50 : sl a 50 = .bool ((((leB 0 x1) && (leB x1 9)) && (leB 0 x2)) && (ltB x2 (x0.length : Int))) := hp 21 rfl
          have e55 : sl a 55 = gv ((((leB 0 x1) && (leB x1 9)) && (leB 0 x2)) && (ltB x2 (x0.length : Int))) (.pointer (some ⟨adB A0, adO A0 + x2.toNat * 1, none⟩)) := hp 26 rfl
          rcases (Bool.eq_false_or_eq_true ((((leB 0 x1) && (leB x1 9)) && (leB 0 x2)) && (ltB x2 (x0.length : Int)))).symm with hg | hg
          · exact .inr (.inr (.inr ⟨gr_eg rfl (yt (gr_yield rfl rfl e50)) hg, (gv_f hg).symm, S⟩))
          · exact .inl ⟨gr_eg rfl (yt (gr_yield rfl rfl e50)) hg, .bool (x0.getD x2.toNat false), u, (run_load1 rfl one4 ((ev_sl e55).trans (gv_t hg)) (rd_el0 (l := x0) (S.rc0 h0.rc).rd rfl eB_len false (ix_ltn (hk104 hg) rfl) rfl)), (gv_t hg).symm, S⟩
        · intro a u X hB hu hp hr hz hl S
          replace S : St w u ([] ++ X) := S
          have e50 : sl a 50 = .bool ((((leB 0 x1) && (leB x1 9)) && (leB 0 x2)) && (ltB x2 (x0.length : Int))) := hp 21 rfl
          rcases (Bool.eq_false_or_eq_true ((((leB 0 x1) && (leB x1 9)) && (leB 0 x2)) && (ltB x2 (x0.length : Int)))).symm with hg | hg
          · exact .inr (.inr (.inr ⟨gr_eg rfl (yt (gr_yield rfl rfl e50)) hg, (gv_f hg).symm, S⟩))
          · exact .inl ⟨gr_eg rfl (yt (gr_yield rfl rfl e50)) hg, .pointer (some ⟨g101, 3, none⟩), u, (run_fieldAddr rfl fl25_3 (hF.evB hB rfl rfl) rfl), (gv_t hg).symm, S⟩
        · intro a u X hB hu hp hr hz hl S
          replace S : St w u ([] ++ X) := S
          have e50 : sl a 50 = .bool ((((leB 0 x1) && (leB x1 9)) && (leB 0 x2)) && (ltB x2 (x0.length : Int))) := hp 21 rfl
          have e57 : sl a 57 = gv ((((leB 0 x1) && (leB x1 9)) && (leB 0 x2)) && (ltB x2 (x0.length : Int))) (.pointer (some ⟨g101, 3, none⟩)) := hp 28 rfl
          rcases (Bool.eq_false_or_eq_true ((((leB 0 x1) && (leB x1 9)) && (leB 0 x2)) && (ltB x2 (x0.length : Int)))).symm with hg | hg
          · exact .inr (.inr (.inr ⟨gr_eg rfl (yt (gr_yield rfl rfl e50)) hg, (gv_f hg).symm, S⟩))
          · exact .inl ⟨gr_eg rfl (yt (gr_yield rfl rfl e50)) hg, .bool x3, u, (run_load1 rfl one4 ((ev_sl e57).trans (gv_t hg)) ((gr_box S hl 0 rfl).cell rfl)), (gv_t hg).symm, S⟩
        · intro a u X hB hu hp hr hz hl S
          replace S : St w u ([] ++ X) := S
          have e50 : sl a 50 = .bool ((((leB 0 x1) && (leB x1 9)) && (leB 0 x2)) && (ltB x2 (x0.length : Int))) := hp 21 rfl
          have e56 : sl a 56 = gv ((((leB 0 x1) && (leB x1 9)) && (leB 0 x2)) && (ltB x2 (x0.length : Int))) (.bool (x0.getD x2.toNat false)) := hp 27 rfl
          have e58 : sl a 58 = gv ((((leB 0 x1) && (leB x1 9)) && (leB 0 x2)) && (ltB x2 (x0.length : Int))) (.bool x3) := hp 29 rfl
          rcases (Bool.eq_false_or_eq_true ((((leB 0 x1) && (leB x1 9)) && (leB 0 x2)) && (ltB x2 (x0.length : Int)))).symm with hg | hg
          · exact .inr (.inr (.inr ⟨gr_eg rfl (yt (gr_yield rfl rfl e50)) hg, (gv_f hg).symm, S⟩))
          · exact .inl ⟨gr_eg rfl (yt (gr_yield rfl rfl e50)) hg, .bool ((x0.getD x2.toNat false) != x3), u, (run_neqB ((ev_sl e56).trans (gv_t hg)) ((ev_sl e58).trans (gv_t hg)) Tryd.underlying4 rfl), (gv_t hg).symm, S⟩
        · intro a u X hB hu hp hr hz hl S
          replace S : St w u ([] ++ X) := S
          have e50 : sl a 50 = .bool ((((leB 0 x1) && (leB x1 9)) && (leB 0 x2)) && (ltB x2 (x0.length : Int))) := hp 21 rfl
          have e59 : sl a 59 = gv ((((leB 0 x1) && (leB x1 9)) && (leB 0 x2)) && (ltB x2 (x0.length : Int))) (.bool ((x0.getD x2.toNat false) != x3)) := hp 30 rfl
          exact .inl ⟨rfl, .bool (((((leB 0 x1) && (leB x1 9)) && (leB 0 x2)) && (ltB x2 (x0.length : Int))) && ((x0.getD x2.toNat false) != x3)), u, (run_pick_and rfl (ev_sl e50) (fun hp => ((ev_sl e59).trans (gv_t hp))) (ev_const _ _)), rfl, S⟩
        · intro a u X hB hu hp hr hz hl S
          replace S : St w u ([] ++ X) := S
          have e60 : sl a 60 = .bool (((((leB 0 x1) && (leB x1 9)) && (leB 0 x2)) && (ltB x2 (x0.length : Int))) && ((x0.getD x2.toNat false) != x3)) := hp 31 rfl
          exact .inl ⟨rfl, .bool (((((leB 0 x1) && (leB x1 9)) && (leB 0 x2)) && (ltB x2 (x0.length : Int))) && ((x0.getD x2.toNat false) != x3)), u, (run_move rfl (ev_sl e60)), rfl, S⟩
        · intro a u X hB hu hp hr hz hl S
          replace S : St w u ([] ++ X) := S
          have e61 : sl a 61 = .bool (((((leB 0 x1) && (leB x1 9)) && (leB 0 x2)) && (ltB x2 (x0.length : Int))) && ((x0.getD x2.toNat false) != x3)) := hp 32 rfl
          rcases (Bool.eq_false_or_eq_true (((((leB 0 x1) && (leB x1 9)) && (leB 0 x2)) && (ltB x2 (x0.length : Int))) && ((x0.getD x2.toNat false) != x3))).symm with hg | hg
          · exact .inr (.inr (.inr ⟨gr_eg rfl (yt (gr_yield rfl rfl e61)) hg, (gv_f hg).symm, S⟩))
          · exact .inl ⟨gr_eg rfl (yt (gr_yield rfl rfl e61)) hg, .pointer (some ⟨g101, 4, none⟩), u, (run_fieldAddr rfl fl25_4 (hF.evB hB rfl rfl) rfl), (gv_t hg).symm, S⟩
        · intro a u X hB hu hp hr hz hl S
          replace S : St w u ([] ++ X) := S
          have e61 : sl a 61 = .bool (((((leB 0 x1) && (leB x1 9)) && (leB 0 x2)) && (ltB x2 (x0.length : Int))) && ((x0.getD x2.toNat false) != x3)) := hp 32 rfl
          have e62 : sl a 62 = gv (((((leB 0 x1) && (leB x1 9)) && (leB 0 x2)) && (ltB x2 (x0.length : Int))) && ((x0.getD x2.toNat false) != x3)) (.pointer (some ⟨g101, 4, none⟩)) := hp 33 rfl
          rcases (Bool.eq_false_or_eq_true (((((leB 0 x1) && (leB x1 9)) && (leB 0 x2)) && (ltB x2 (x0.length : Int))) && ((x0.getD x2.toNat false) != x3))).symm with hg | hg
          · exact .inr (.inr (.inr ⟨gr_eg rfl (yt (gr_yield rfl rfl e61)) hg, (gv_f hg).symm, S⟩))
          · exact .inl ⟨gr_eg rfl (yt (gr_yield rfl rfl e61)) hg, .int .i64 x4, u, (run_load1 rfl one3 ((ev_sl e62).trans (gv_t hg)) ((gr_box S hl 0 rfl).cell rfl)), (gv_t hg).symm, S⟩
        · intro a u X hB hu hp hr hz hl S
          replace S : St w u ([] ++ X) := S
          have e61 : sl a 61 = .bool (((((leB 0 x1) && (leB x1 9)) && (leB 0 x2)) && (ltB x2 (x0.length : Int))) && ((x0.getD x2.toNat false) != x3)) := hp 32 rfl
          have e63 : sl a 63 = gv (((((leB 0 x1) && (leB x1 9)) && (leB 0 x2)) && (ltB x2 (x0.length : Int))) && ((x0.getD x2.toNat false) != x3)) (.int .i64 x4) := hp 34 rfl
          rcases (Bool.eq_false_or_eq_true (((((leB 0 x1) && (leB x1 9)) && (leB 0 x2)) && (ltB x2 (x0.length : Int))) && ((x0.getD x2.toNat false) != x3))).symm with hg | hg
          · exact .inr (.inr (.inr ⟨gr_eg rfl (yt (gr_yield rfl rfl e61)) hg, (gv_f hg).symm, S⟩))
          · exact .inl ⟨gr_eg rfl (yt (gr_yield rfl rfl e61)) hg, .bool (leB 1 x4), u, (run_geq ((ev_sl e63).trans (gv_t hg)) (ev_const _ _) rfl), (gv_t hg).symm, S⟩
        · intro a u X hB hu hp hr hz hl S
          replace S : St w u ([] ++ X) := S
          have e61 : sl a 61 = .bool (((((leB 0 x1) && (leB x1 9)) && (leB 0 x2)) && (ltB x2 (x0.length : Int))) && ((x0.getD x2.toNat false) != x3)) := hp 32 rfl
          have e64 : sl a 64 = gv (((((leB 0 x1) && (leB x1 9)) && (leB 0 x2)) && (ltB x2 (x0.length : Int))) && ((x0.getD x2.toNat false) != x3)) (.bool (leB 1 x4)) := hp 35 rfl
          exact .inl ⟨rfl, .bool ((((((leB 0 x1) && (leB x1 9)) && (leB 0 x2)) && (ltB x2 (x0.length : Int))) && ((x0.getD x2.toNat false) != x3)) && (leB 1 x4)), u, (run_pick_and rfl (ev_sl e61) (fun hp => ((ev_sl e64).trans (gv_t hp))) (ev_const _ _)), rfl, S⟩
        · intro a u X hB hu hp hr hz hl S
          replace S : St w u ([] ++ X) := S
          have e65 : sl a 65 = .bool ((((((leB 0 x1) && (leB x1 9)) && (leB 0 x2)) && (ltB x2 (x0.length : Int))) && ((x0.getD x2.toNat false) != x3)) && (leB 1 x4)) := hp 36 rfl
          exact .inl ⟨rfl, .bool ((((((leB 0 x1) && (leB x1 9)) && (leB 0 x2)) && (ltB x2 (x0.length : Int))) && ((x0.getD x2.toNat false) != x3)) && (leB 1 x4)), u, (run_move rfl (ev_sl e65)), rfl, S⟩
        · intro a u X hB hu hp hr hz hl S
          replace S : St w u ([] ++ X) := S
          have e66 : sl a 66 = .bool ((((((leB 0 x1) && (leB x1 9)) && (leB 0 x2)) && (ltB x2 (x0.length : Int))) && ((x0.getD x2.toNat false) != x3)) && (leB 1 x4)) := hp 37 rfl
          rcases (Bool.eq_false_or_eq_true ((((((leB 0 x1) && (leB x1 9)) && (leB 0 x2)) && (ltB x2 (x0.length : Int))) && ((x0.getD x2.toNat false) != x3)) && (leB 1 x4))).symm with hg | hg
          · exact .inr (.inr (.inr ⟨gr_eg rfl (yt (gr_yield rfl rfl e66)) hg, (gv_f hg).symm, S⟩))
          · exact .inl ⟨gr_eg rfl (yt (gr_yield rfl rfl e66)) hg, .pointer (some ⟨g101, 4, none⟩), u, (run_fieldAddr rfl fl25_4 (hF.evB hB rfl rfl) rfl), (gv_t hg).symm, S⟩
        · intro a u X hB hu hp hr hz hl S
          replace S : St w u ([] ++ X) := S
          have e66 : sl a 66 = .bool ((((((leB 0 x1) && (leB x1 9)) && (leB 0 x2)) && (ltB x2 (x0.length : Int))) && ((x0.getD x2.toNat false) != x3)) && (leB 1 x4)) := hp 37 rfl
          have e67 : sl a 67 = gv ((((((leB 0 x1) && (leB x1 9)) && (leB 0 x2)) && (ltB x2 (x0.length : Int))) && ((x0.getD x2.toNat false) != x3)) && (leB 1 x4)) (.pointer (some ⟨g101, 4, none⟩)) := hp 38 rfl
          rcases (Bool.eq_false_or_eq_true ((((((leB 0 x1) && (leB x1 9)) && (leB 0 x2)) && (ltB x2 (x0.length : Int))) && ((x0.getD x2.toNat false) != x3)) && (leB 1 x4))).symm with hg | hg
          · exact .inr (.inr (.inr ⟨gr_eg rfl (yt (gr_yield rfl rfl e66)) hg, (gv_f hg).symm, S⟩))
          · exact .inl ⟨gr_eg rfl (yt (gr_yield rfl rfl e66)) hg, .int .i64 x4, u, (run_load1 rfl one3 ((ev_sl e67).trans (gv_t hg)) ((gr_box S hl 0 rfl).cell rfl)), (gv_t hg).symm, S⟩
        · intro a u X hB hu hp hr hz hl S
          replace S : St w u ([] ++ X) := S
          have e66 : sl a 66 = .bool ((((((leB 0 x1) && (leB x1 9)) && (leB 0 x2)) && (ltB x2 (x0.length : Int))) && ((x0.getD x2.toNat false) != x3)) && (leB 1 x4)) := hp 37 rfl
          have e68 : sl a 68 = gv ((((((leB 0 x1) && (leB x1 9)) && (leB 0 x2)) && (ltB x2 (x0.length : Int))) && ((x0.getD x2.toNat false) != x3)) && (leB 1 x4)) (.int .i64 x4) := hp 39 rfl
          rcases (Bool.eq_false_or_eq_true ((((((leB 0 x1) && (leB x1 9)) && (leB 0 x2)) && (ltB x2 (x0.length : Int))) && ((x0.getD x2.toNat false) != x3)) && (leB 1 x4))).symm with hg | hg
          · exact .inr (.inr (.inr ⟨gr_eg rfl (yt (gr_yield rfl rfl e66)) hg, (gv_f hg).symm, S⟩))
          · exact .inl ⟨gr_eg rfl (yt (gr_yield rfl rfl e66)) hg, .bool (leB x4 3), u, (run_leq ((ev_sl e68).trans (gv_t hg)) (ev_const _ _) rfl), (gv_t hg).symm, S⟩
        · intro a u X hB hu hp hr hz hl S
          replace S : St w u ([] ++ X) := S
          have e66 : sl a 66 = .bool ((((((leB 0 x1) && (leB x1 9)) && (leB 0 x2)) && (ltB x2 (x0.length : Int))) && ((x0.getD x2.toNat false) != x3)) && (leB 1 x4)) := hp 37 rfl
          have e69 : sl a 69 = gv ((((((leB 0 x1) && (leB x1 9)) && (leB 0 x2)) && (ltB x2 (x0.length : Int))) && ((x0.getD x2.toNat false) != x3)) && (leB 1 x4)) (.bool (leB x4 3)) := hp 40 rfl
          exact .inl ⟨rfl, .bool (((((((leB 0 x1) && (leB x1 9)) && (leB 0 x2)) && (ltB x2 (x0.length : Int))) && ((x0.getD x2.toNat false) != x3)) && (leB 1 x4)) && (leB x4 3)), u, (run_pick_and rfl (ev_sl e66) (fun hp => ((ev_sl e69).trans (gv_t hp))) (ev_const _ _)), rfl, S⟩
        · intro a u X hB hu hp hr hz hl S
          replace S : St w u ([] ++ X) := S
          have e70 : sl a 70 = .bool (((((((leB 0 x1) && (leB x1 9)) && (leB 0 x2)) && (ltB x2 (x0.length : Int))) && ((x0.getD x2.toNat false) != x3)) && (leB 1 x4)) && (leB x4 3)) := hp 41 rfl
          exact .inl ⟨rfl, .bool (((((((leB 0 x1) && (leB x1 9)) && (leB 0 x2)) && (ltB x2 (x0.length : Int))) && ((x0.getD x2.toNat false) != x3)) && (leB 1 x4)) && (leB x4 3)), u, (run_assign rfl (ev_sl e70)), rfl, S⟩
      · intro a u hB hp S
        obtain ⟨q0, q1, q2, q3, q4, q5, q6, q7, q8, q9, q10, q11, q12, q13, q14, q15, q16, q17, q18, q19, q20, q21, q22, q23, q24, q25, q26, q27, q28, q29, q30, q31, q32, q33, q34, q35, q36, q37, q38, q39, q40, q41, q42, _⟩ := hp
        have e29 : sl a 29 = .pointer (some ⟨g101, 1, none⟩) := q0
        have e30 : sl a 30 = .int .i64 x1 := q1
        have e31 : sl a 31 = .bool (leB 0 x1) := q2
        have e32 : sl a 32 = .bool (leB 0 x1) := q3
        have e33 : sl a 33 = gv (leB 0 x1) (.pointer (some ⟨g101, 1, none⟩)) := q4
        have e34 : sl a 34 = gv (leB 0 x1) (.int .i64 x1) := q5
        have e35 : sl a 35 = gv (leB 0 x1) (.bool (leB x1 9)) := q6
        have e36 : sl a 36 = .bool ((leB 0 x1) && (leB x1 9)) := q7
        have e37 : sl a 37 = .bool ((leB 0 x1) && (leB x1 9)) := q8
        have e38 : sl a 38 = gv ((leB 0 x1) && (leB x1 9)) (.pointer (some ⟨g101, 2, none⟩)) := q9
        have e39 : sl a 39 = gv ((leB 0 x1) && (leB x1 9)) (.int .i64 x2) := q10
        have e40 : sl a 40 = gv ((leB 0 x1) && (leB x1 9)) (.bool (leB 0 x2)) := q11
        have e41 : sl a 41 = .bool (((leB 0 x1) && (leB x1 9)) && (leB 0 x2)) := q12
        have e42 : sl a 42 = .bool (((leB 0 x1) && (leB x1 9)) && (leB 0 x2)) := q13
        have e43 : sl a 43 = gv (((leB 0 x1) && (leB x1 9)) && (leB 0 x2)) (.pointer (some ⟨g101, 2, none⟩)) := q14
        have e44 : sl a 44 = gv (((leB 0 x1) && (leB x1 9)) && (leB 0 x2)) (.int .i64 x2) := q15
        have e45 : sl a 45 = gv (((leB 0 x1) && (leB x1 9)) && (leB 0 x2)) (.pointer (some ⟨g101, 0, none⟩)) := q16
        have e46 : sl a 46 = gv (((leB 0 x1) && (leB x1 9)) && (leB 0 x2)) (.slice A0 x0.length c0) := q17
        have e47 : sl a 47 = gv (((leB 0 x1) && (leB x1 9)) && (leB 0 x2)) (.int .i64 (x0.length : Int)) := q18
        have e48 : sl a 48 = gv (((leB 0 x1) && (leB x1 9)) && (leB 0 x2)) (.bool (ltB x2 (x0.length : Int))) := q19
        have e49 : sl a 49 = .bool ((((leB 0 x1) && (leB x1 9)) && (leB 0 x2)) && (ltB x2 (x0.length : Int))) := q20
        have e50 : sl a 50 = .bool ((((leB 0 x1) && (leB x1 9)) && (leB 0 x2)) && (ltB x2 (x0.length : Int))) := q21
        have e51 : sl a 51 = gv ((((leB 0 x1) && (leB x1 9)) && (leB 0 x2)) && (ltB x2 (x0.length : Int))) (.pointer (some ⟨g101, 0, none⟩)) := q22
        have e52 : sl a 52 = gv ((((leB 0 x1) && (leB x1 9)) && (leB 0 x2)) && (ltB x2 (x0.length : Int))) (.slice A0 x0.length c0) := q23
        have e53 : sl a 53 = gv ((((leB 0 x1) && (leB x1 9)) && (leB 0 x2)) && (ltB x2 (x0.length : Int))) (.pointer (some ⟨g101, 2, none⟩)) := q24
        have e54 : sl a 54 = gv ((((leB 0 x1) && (leB x1 9)) && (leB 0 x2)) && (ltB x2 (x0.length : Int))) (.int .i64 x2) := q25
        have e55 : sl a 55 = gv ((((leB 0 x1) && (leB x1 9)) && (leB 0 x2)) && (ltB x2 (x0.length : Int))) (.pointer (some ⟨adB A0, adO A0 + x2.toNat * 1, none⟩)) := q26
        have e56 : sl a 56 = gv ((((leB 0 x1) && (leB x1 9)) && (leB 0 x2)) && (ltB x2 (x0.length : Int))) (.bool (x0.getD x2.toNat false)) := q27
        have e57 : sl a 57 = gv ((((leB 0 x1) && (leB x1 9)) && (leB 0 x2)) && (ltB x2 (x0.length : Int))) (.pointer (some ⟨g101, 3, none⟩)) := q28
        have e58 : sl a 58 = gv ((((leB 0 x1) && (leB x1 9)) && (leB 0 x2)) && (ltB x2 (x0.length : Int))) (.bool x3) := q29
        have e59 : sl a 59 = gv ((((leB 0 x1) && (leB x1 9)) && (leB 0 x2)) && (ltB x2 (x0.length : Int))) (.bool ((x0.getD x2.toNat false) != x3)) := q30
        have e60 : sl a 60 = .bool (((((leB 0 x1) && (leB x1 9)) && (leB 0 x2)) && (ltB x2 (x0.length : Int))) && ((x0.getD x2.toNat false) != x3)) := q31
        have e61 : sl a 61 = .bool (((((leB 0 x1) && (leB x1 9)) && (leB 0 x2)) && (ltB x2 (x0.length : Int))) && ((x0.getD x2.toNat false) != x3)) := q32
        have e62 : sl a 62 = gv (((((leB 0 x1) && (leB x1 9)) && (leB 0 x2)) && (ltB x2 (x0.length : Int))) && ((x0.getD x2.toNat false) != x3)) (.pointer (some ⟨g101, 4, none⟩)) := q33
        have e63 : sl a 63 = gv (((((leB 0 x1) && (leB x1 9)) && (leB 0 x2)) && (ltB x2 (x0.length : Int))) && ((x0.getD x2.toNat false) != x3)) (.int .i64 x4) := q34
        have e64 : sl a 64 = gv (((((leB 0 x1) && (leB x1 9)) && (leB 0 x2)) && (ltB x2 (x0.length : Int))) && ((x0.getD x2.toNat false) != x3)) (.bool (leB 1 x4)) := q35
        have e65 : sl a 65 = .bool ((((((leB 0 x1) && (leB x1 9)) && (leB 0 x2)) && (ltB x2 (x0.length : Int))) && ((x0.getD x2.toNat false) != x3)) && (leB 1 x4)) := q36
        have e66 : sl a 66 = .bool ((((((leB 0 x1) && (leB x1 9)) && (leB 0 x2)) && (ltB x2 (x0.length : Int))) && ((x0.getD x2.toNat false) != x3)) && (leB 1 x4)) := q37
        have e67 : sl a 67 = gv ((((((leB 0 x1) && (leB x1 9)) && (leB 0 x2)) && (ltB x2 (x0.length : Int))) && ((x0.getD x2.toNat false) != x3)) && (leB 1 x4)) (.pointer (some ⟨g101, 4, none⟩)) := q38
        have e68 : sl a 68 = gv ((((((leB 0 x1) && (leB x1 9)) && (leB 0 x2)) && (ltB x2 (x0.length : Int))) && ((x0.getD x2.toNat false) != x3)) && (leB 1 x4)) (.int .i64 x4) := q39
        have e69 : sl a 69 = gv ((((((leB 0 x1) && (leB x1 9)) && (leB 0 x2)) && (ltB x2 (x0.length : Int))) && ((x0.getD x2.toNat false) != x3)) && (leB 1 x4)) (.bool (leB x4 3)) := q40
        have e70 : sl a 70 = .bool (((((((leB 0 x1) && (leB x1 9)) && (leB 0 x2)) && (ltB x2 (x0.length : Int))) && ((x0.getD x2.toNat false) != x3)) && (leB 1 x4)) && (leB x4 3)) := q41
        have e2 : sl a 2 = .bool (((((((leB 0 x1) && (leB x1 9)) && (leB 0 x2)) && (ltB x2 (x0.length : Int))) && ((x0.getD x2.toNat false) != x3)) && (leB 1 x4)) && (leB x4 3)) := q42
        replace S : St w u [.box g101 25 #[.slice A0 x0.length c0, .int .i64 x1, .int .i64 x2, .bool x3, .int .i64 x4]] := S
        clear q0 q1 q2 q3 q4 q5 q6 q7 q8 q9 q10 q11 q12 q13 q14 q15 q16 q17 q18 q19 q20 q21 q22 q23 q24 q25 q26 q27 q28 q29 q30 q31 q32 q33 q34 q35 q36 q37 q38 q39 q40 q41 q42
        have hF := hF.region hB [(29, .pointer (some ⟨g101, 1, none⟩)), (30, .int .i64 x1), (31, .bool (leB 0 x1)), (32, .bool (leB 0 x1)), (33, gv (leB 0 x1) (.pointer (some ⟨g101, 1, none⟩))), (34, gv (leB 0 x1) (.int .i64 x1)), (35, gv (leB 0 x1) (.bool (leB x1 9))), (36, .bool ((leB 0 x1) && (leB x1 9))), (37, .bool ((leB 0 x1) && (leB x1 9))), (38, gv ((leB 0 x1) && (leB x1 9)) (.pointer (some ⟨g101, 2, none⟩))), (39, gv ((leB 0 x1) && (leB x1 9)) (.int .i64 x2)), (40, gv ((leB 0 x1) && (leB x1 9)) (.bool (leB 0 x2))), (41, .bool (((leB 0 x1) && (leB x1 9)) && (leB 0 x2))), (42, .bool (((leB 0 x1) && (leB x1 9)) && (leB 0 x2))), (43, gv (((leB 0 x1) && (leB x1 9)) && (leB 0 x2)) (.pointer (some ⟨g101, 2, none⟩))), (44, gv (((leB 0 x1) && (leB x1 9)) && (leB 0 x2)) (.int .i64 x2)), (45, gv (((leB 0 x1) && (leB x1 9)) && (leB 0 x2)) (.pointer (some ⟨g101, 0, none⟩))), (46, gv (((leB 0 x1) && (leB x1 9)) && (leB 0 x2)) (.slice A0 x0.length c0)), (47, gv (((leB 0 x1) && (leB x1 9)) && (leB 0 x2)) (.int .i64 (x0.length : Int))), (48, gv (((leB 0 x1) && (leB x1 9)) && (leB 0 x2)) (.bool (ltB x2 (x0.length : Int)))), (49, .bool ((((leB 0 x1) && (leB x1 9)) && (leB 0 x2)) && (ltB x2 (x0.length : Int)))), (50, .bool ((((leB 0 x1) && (leB x1 9)) && (leB 0 x2)) && (ltB x2 (x0.length : Int)))), (51, gv ((((leB 0 x1) && (leB x1 9)) && (leB 0 x2)) && (ltB x2 (x0.length : Int))) (.pointer (some ⟨g101, 0, none⟩))), (52, gv ((((leB 0 x1) && (leB x1 9)) && (leB 0 x2)) && (ltB x2 (x0.length : Int))) (.slice A0 x0.length c0)), (53, gv ((((leB 0 x1) && (leB x1 9)) && (leB 0 x2)) && (ltB x2 (x0.length : Int))) (.pointer (some ⟨g101, 2, none⟩))), (54, gv ((((leB 0 x1) && (leB x1 9)) && (leB 0 x2)) && (ltB x2 (x0.length : Int))) (.int .i64 x2)), (55, gv ((((leB 0 x1) && (leB x1 9)) && (leB 0 x2)) && (ltB x2 (x0.length : Int))) (.pointer (some ⟨adB A0, adO A0 + x2.toNat * 1, none⟩))), (56, gv ((((leB 0 x1) && (leB x1 9)) && (leB 0 x2)) && (ltB x2 (x0.length : Int))) (.bool (x0.getD x2.toNat false))), (57, gv ((((leB 0 x1) && (leB x1 9)) && (leB 0 x2)) && (ltB x2 (x0.length : Int))) (.pointer (some ⟨g101, 3, none⟩))), (58, gv ((((leB 0 x1) && (leB x1 9)) && (leB 0 x2)) && (ltB x2 (x0.length : Int))) (.bool x3)), (59, gv ((((leB 0 x1) && (leB x1 9)) && (leB 0 x2)) && (ltB x2 (x0.length : Int))) (.bool ((x0.getD x2.toNat false) != x3))), (60, .bool (((((leB 0 x1) && (leB x1 9)) && (leB 0 x2)) && (ltB x2 (x0.length : Int))) && ((x0.getD x2.toNat false) != x3))), (61, .bool (((((leB 0 x1) && (leB x1 9)) && (leB 0 x2)) && (ltB x2 (x0.length : Int))) && ((x0.getD x2.toNat false) != x3))), (62, gv (((((leB 0 x1) && (leB x1 9)) && (leB 0 x2)) && (ltB x2 (x0.length : Int))) && ((x0.getD x2.toNat false) != x3)) (.pointer (some ⟨g101, 4, none⟩))), (63, gv (((((leB 0 x1) && (leB x1 9)) && (leB 0 x2)) && (ltB x2 (x0.length : Int))) && ((x0.getD x2.toNat false) != x3)) (.int .i64 x4)), (64, gv (((((leB 0 x1) && (leB x1 9)) && (leB 0 x2)) && (ltB x2 (x0.length : Int))) && ((x0.getD x2.toNat false) != x3)) (.bool (leB 1 x4))), (65, .bool ((((((leB 0 x1) && (leB x1 9)) && (leB 0 x2)) && (ltB x2 (x0.length : Int))) && ((x0.getD x2.toNat false) != x3)) && (leB 1 x4))), (66, .bool ((((((leB 0 x1) && (leB x1 9)) && (leB 0 x2)) && (ltB x2 (x0.length : Int))) && ((x0.getD x2.toNat false) != x3)) && (leB 1 x4))), (67, gv ((((((leB 0 x1) && (leB x1 9)) && (leB 0 x2)) && (ltB x2 (x0.length : Int))) && ((x0.getD x2.toNat false) != x3)) && (leB 1 x4)) (.pointer (some ⟨g101, 4, none⟩))), (68, gv ((((((leB 0 x1) && (leB x1 9)) && (leB 0 x2)) && (ltB x2 (x0.length : Int))) && ((x0.getD x2.toNat false) != x3)) && (leB 1 x4)) (.int .i64 x4)), (69, gv ((((((leB 0 x1) && (leB x1 9)) && (leB 0 x2)) && (ltB x2 (x0.length : Int))) && ((x0.getD x2.toNat false) != x3)) && (leB 1 x4)) (.bool (leB x4 3))), (70, .bool (((((((leB 0 x1) && (leB x1 9)) && (leB 0 x2)) && (ltB x2 (x0.length : Int))) && ((x0.getD x2.toNat false) != x3)) && (leB 1 x4)) && (leB x4 3))), (2, .bool (((((((leB 0 x1) && (leB x1 9)) && (leB 0 x2)) && (ltB x2 (x0.length : Int))) && ((x0.getD x2.toNat false) != x3)) && (leB 1 x4)) && (leB x4 3)))] (allSl_mem ⟨e29, e30, e31, e32, e33, e34, e35, e36, e37, e38, e39, e40, e41, e42, e43, e44, e45, e46, e47, e48, e49, e50, e51, e52, e53, e54, e55, e56, e57, e58, e59, e60, e61, e62, e63, e64, e65, e66, e67, e68, e69, e70, e2, trivial⟩) rfl
        clear hB e29 e30 e31 e32 e33 e34 e35 e36 e37 e38 e39 e40 e41 e42 e43 e44 e45 e46 e47 e48 e49 e50 e51 e52 e53 e54 e55 e56 e57 e58 e59 e60 e61 e62 e63 e64 e65 e66 e67 e68 e69 e70 e2
        refine wp_ret ?_
        repeat with_reducible (first | refine then_ret ?_ | refine in_ret ?_ | refine in_nrm ?_)
        refine ret1_gw (.inl rfl) hF rfl (res_tmp (hF.ev rfl)) ?_
        obtain rfl := Option.some.inj hM
        exact ⟨rfl, S.sel [] rfl rfl⟩
    · replace hM := bif_t hc103 hM
      refine cond_t hF rfl hc103 ?_
      refine wp_seq ?_
      refine wp_region_lit ?_
      refine op_val (v := .pointer (some ⟨g101, 2, none⟩)) rfl rfl hF rfl (run_fieldAddr rfl fl25_2 (hF.ev rfl) rfl) ?_; clear hF; intro a hF
      refine op_val (v := .int .i64 x2) rfl rfl hF rfl (run_load1 rfl one3 (hF.ev rfl) ((S.free 0 rfl).cell rfl)) ?_; clear hF; intro a hF
      refine op_val (v := .bool (x2 == 0)) rfl rfl hF rfl (run_eql (hF.ev rfl) rfl rfl) ?_; clear hF; intro a hF
      refine op_val (v := .bool (x2 == 0)) rfl rfl hF rfl (run_move rfl (hF.ev rfl)) ?_; clear hF; intro a hF
      refine op_gv (v := .pointer (some ⟨g101, 3, none⟩)) rfl rfl hF rfl (yt (gw_yield hF rfl rfl rfl)) (fun hg => (run_fieldAddr rfl fl25_3 (hF.ev rfl) rfl)) ?_; clear hF; intro a hF
      refine op_gv (v := .bool x3) rfl rfl hF rfl (yt (gw_yield hF rfl rfl rfl)) (fun hg => (run_load1 rfl one4 ((hF.ev rfl).trans (gv_t hg)) ((S.free 0 rfl).cell rfl))) ?_; clear hF; intro a hF
      refine op_gv (v := .bool (!x3)) rfl rfl hF rfl (yt (gw_yield hF rfl rfl rfl)) (fun hg => (run_not rfl ((hF.ev rfl).trans (gv_t hg)))) ?_; clear hF; intro a hF
      refine op_val (v := .bool ((x2 == 0) && (!x3))) rfl rfl hF rfl (run_pick_and rfl (hF.ev rfl) (fun hp => ((hF.ev rfl).trans (gv_t hp))) rfl) ?_; clear hF; intro a hF
      refine op_val (v := .bool ((x2 == 0) && (!x3))) rfl rfl hF rfl (run_move rfl (hF.ev rfl)) ?_; clear hF; intro a hF
      refine op_gv (v := .pointer (some ⟨g101, 4, none⟩)) rfl rfl hF rfl (yt (gw_yield hF rfl rfl rfl)) (fun hg => (run_fieldAddr rfl fl25_4 (hF.ev rfl) rfl)) ?_; clear hF; intro a hF
      refine op_gv (v := .int .i64 x4) rfl rfl hF rfl (yt (gw_yield hF rfl rfl rfl)) (fun hg => (run_load1 rfl one3 ((hF.ev rfl).trans (gv_t hg)) ((S.free 0 rfl).cell rfl))) ?_; clear hF; intro a hF
      refine op_gv (v := .bool (x4 == 0)) rfl rfl hF rfl (yt (gw_yield hF rfl rfl rfl)) (fun hg => (run_eql ((hF.ev rfl).trans (gv_t hg)) rfl rfl)) ?_; clear hF; intro a hF
      refine op_val (v := .bool (((x2 == 0) && (!x3)) && (x4 == 0))) rfl rfl hF rfl (run_pick_and rfl (hF.ev rfl) (fun hp => ((hF.ev rfl).trans (gv_t hp))) rfl) ?_; clear hF; intro a hF
      refine op_val (v := .bool (((x2 == 0) && (!x3)) && (x4 == 0))) rfl rfl hF rfl (run_assign rfl (hF.ev rfl)) ?_; clear hF; intro a hF
      refine wpList_nil ?_
      refine wp_ret ?_
      repeat with_reducible (first | refine then_ret ?_ | refine in_ret ?_ | refine in_nrm ?_)
      refine ret1_gw (.inl rfl) hF rfl (res_tmp (hF.ev rfl)) ?_
      obtain rfl := Option.some.inj hM
      exact ⟨rfl, S.sel [] rfl rfl⟩
  · replace hM := bif_t hc102 hM
    refine cond_t hF rfl hc102 ?_
    refine wp_seq ?_
    refine wp_region_lit ?_
    refine op_val (v := .bool false) rfl rfl hF rfl (run_assign rfl rfl) ?_; clear hF; intro a hF
    refine wpList_nil ?_
    refine wp_ret ?_
    repeat with_reducible (first | refine then_ret ?_ | refine in_ret ?_ | refine in_nrm ?_)
    refine ret1_gw (.inl rfl) hF rfl (res_tmp (hF.ev rfl)) ?_
    obtain rfl := Option.some.inj hM
    exact ⟨rfl, S.sel [] rfl rfl⟩

set_option maxHeartbeats 4000000 in
theorem c_slices_Clone_bool_bool {x0 : List Bool} {A0 : Option Addr} {n0 c0 : Nat} {w : World} {r : List Bool} (h0 : Rt w 1 eB A0 n0 c0 x0) (hM : m_slices_Clone_bool_bool x0 = some r) :
    Calls Tryd.prog 36 #[.slice A0 n0 c0] w (fun e w' => ∃ (B0 : Option Addr) (N0 D0 : Nat), e = .returned (.slice B0 N0 D0) ∧ N0 = r.length ∧ St w w' [.row 4 1 (.slice B0 N0 D0) N0 (r.flatMap eB)]) := by
  obtain rfl := h0.len
  unfold m_slices_Clone_bool_bool at hM
  obtain ⟨hk, hM⟩ := chk_ex hM
  replace hk := apB_t hk
  obtain rfl := Option.some.inj hM
  refine calls_gw Tryd.func36 Tryd.ntmps36 rfl [(0, .slice A0 x0.length c0)] ⟨rfl, trivial⟩ rfl ?_
  intro a hF
  have S := St.nil w
  refine wp_seq ?_
  refine wp_region_lit ?_
  refine op_val (v := .slice none 0 0) rfl rfl hF rfl (run_assign rfl rfl) ?_; clear hF; intro a hF
  refine wpList_nil ?_
  refine wp_seq ?_
  refine wp_seq ?_
  refine wp_region_lit ?_
  refine op_val (v := .slice A0 x0.length c0) rfl rfl hF rfl (run_move rfl (hF.ev rfl)) ?_; clear hF; intro a hF
  refine op_val (v := .bool (Option.isNone A0)) rfl rfl hF rfl (run_eqlNil rfl Tryd.underlying23 (hF.ev rfl) rfl) ?_; clear hF; intro a hF
  refine wpList_nil ?_
  cases hc101 : (Option.isNone A0)
  · have hx := trivial
    refine cond_f hF rfl hc101 ?_
    refine wp_skip ?_
    refine wp_seq ?_
    refine wp_region_lit ?_
    refine op_newrow (cs := #[]) (size := 1) rfl rfl hF rfl S (run_buildSlice0 rfl Tryd.underlying23 rfl) rfl (Nat.zero_le _) ?_; clear hF S; intro a g102 u hF S
    refine op_val (v := .slice A0 x0.length c0) rfl rfl hF rfl (run_move rfl (hF.ev rfl)) ?_; clear hF; intro a hF
    have hk105 := hk
    refine op_appendL (lx := []) (ly := x0) rfl rfl hF rfl S rfl (hF.ev rfl) (hF.ev rfl) (i := 0) rfl rfl Tryd.underlying23 inf4 rfl (by decide) (S.rc0 h0.rc).rd rfl eB_one hk105 (by decide) ?_; clear hF S; intro a B103 d104 u hF S
    refine op_val (v := .slice B103 (([] ++ x0).length) d104) rfl rfl hF rfl (run_assign rfl (hF.ev rfl)) ?_; clear hF; intro a hF
    refine wpList_nil ?_
    refine wp_ret ?_
    repeat with_reducible (first | refine then_ret ?_ | refine in_ret ?_ | refine in_nrm ?_)
    refine ret1_gw (.inl rfl) hF rfl (res_tmp (hF.ev rfl)) ?_
    exact ⟨B103, (([] ++ x0).length), d104, rfl, rfl, S.sel [0] rfl rfl⟩
  · have hx := nil_none h0.rc.rd rfl hc101
    refine cond_t hF rfl hc101 ?_
    refine wp_seq ?_
    refine wp_region_lit ?_
    refine op_val (v := .slice none 0 0) rfl rfl hF rfl (run_assign rfl rfl) ?_; clear hF; intro a hF
    refine wpList_nil ?_
    refine wp_ret ?_
    repeat with_reducible (first | refine then_ret ?_ | refine in_ret ?_ | refine in_nrm ?_)
    refine ret1_gw (.inl rfl) hF rfl (res_tmp (hF.ev rfl)) ?_
    subst hx
    replace S := S.nilrow 4 1
    exact ⟨none, 0, 0, rfl, rfl, S.sel [0] rfl rfl⟩

set_option maxHeartbeats 4000000 in
theorem c_impl_Panel_clone {x0 : List Bool} {x1 : Int} {x2 : Int} {x3 : Bool} {x4 : Int} {A0 : Option Addr} {n0 c0 : Nat} {w : World} {r : List Bool × Int × Int × Bool × Int} (h0 : Rt w 1 eB A0 n0 c0 x0) (hM : m_impl_Panel_clone x0 x1 x2 x3 x4 = some r) :
    Calls Tryd.prog 27 #[.agg #[.slice A0 n0 c0, .int .i64 x1, .int .i64 x2, .bool x3, .int .i64 x4]] w (fun e w' => ∃ (B0 : Option Addr) (N0 D0 : Nat), e = .returned (.agg #[.slice B0 N0 D0, .int .i64 r.2.1, .int .i64 r.2.2.1, .bool r.2.2.2.1, .int .i64 r.2.2.2.2]) ∧ N0 = r.1.length ∧ St w w' [.row 4 1 (.slice B0 N0 D0) N0 (r.1.flatMap eB)]) := by
  obtain rfl := h0.len
  unfold m_impl_Panel_clone at hM
  refine calls_gw Tryd.func27 Tryd.ntmps27 rfl [(0, .agg #[.slice A0 x0.length c0, .int .i64 x1, .int .i64 x2, .bool x3, .int .i64 x4])] ⟨rfl, trivial⟩ rfl ?_
  intro a hF
  have S := St.nil w
  refine wp_seq ?_
  refine wp_region_lit ?_
  refine op_new (cs := #[.slice A0 x0.length c0, .int .i64 x1, .int .i64 x2, .bool x3, .int .i64 x4]) rfl rfl hF rfl S (run_box rfl (hF.ev rfl) rfl) ?_; clear hF S; intro a g101 u hF S
  refine op_new (cs := #[.slice none 0 0, .int .i64 0, .int .i64 0, .bool false, .int .i64 0]) rfl rfl hF rfl S (run_allocZ rfl zr25) ?_; clear hF S; intro a g102 u hF S
  refine wpList_nil ?_
  refine wp_seq ?_
  refine wp_region_lit ?_
  refine op_val (v := .pointer (some ⟨g101, 0, none⟩)) rfl rfl hF rfl (run_fieldAddr rfl fl25_0 (hF.ev rfl) rfl) ?_; clear hF; intro a hF
  refine op_val (v := .slice A0 x0.length c0) rfl rfl hF rfl (run_load1 rfl one23 (hF.ev rfl) ((S.free 1 rfl).cell rfl)) ?_; clear hF; intro a hF
  obtain ⟨p103, h103, hM⟩ := bind_ex hM
  refine op_call rfl rfl hF rfl (run_call (vs := [.slice A0 x0.length c0]) rfl rfl co36 ⟨(hF.ev rfl), trivial⟩) (c_slices_Clone_bool_bool (x0 := x0) ⟨(S.rc0 h0.rc), rfl⟩ h103) ?_
  rintro e u ⟨B104, n105, d106, rfl, rfl, T⟩
  refine ⟨_, rfl, ?_⟩
  clear hF; intro a hF
  replace S := S.call1 T; clear T
  refine op_val (v := .pointer (some ⟨g101, 0, none⟩)) rfl rfl hF rfl (run_fieldAddr rfl fl25_0 (hF.ev rfl) rfl) ?_; clear hF; intro a hF
  refine op_do rfl rfl (run_store (cs' := #[.slice B104 p103.length d106, .int .i64 x1, .int .i64 x2, .bool x3, .int .i64 x4]) rfl sz23 (hF.ev rfl) (hF.ev rfl) rfl rfl rfl (S.free 2 rfl) rfl rfl) ?_; replace S := S.put 2 rfl (#[.slice B104 p103.length d106, .int .i64 x1, .int .i64 x2, .bool x3, .int .i64 x4])
  generalize World.setRow _ _ _ = u at S ⊢
  refine wpList_nil ?_
  refine wp_seq ?_
  refine wp_region_lit ?_
  refine op_val (v := .agg #[.slice B104 p103.length d106, .int .i64 x1, .int .i64 x2, .bool x3, .int .i64 x4]) rfl rfl hF rfl (run_loadN rfl ag25 (hF.ev rfl) rfl ((S.free 2 rfl).cells 0 #[.slice B104 p103.length d106, .int .i64 x1, .int .i64 x2, .bool x3, .int .i64 x4] rfl)) ?_; clear hF; intro a hF
  refine op_do rfl rfl (run_store (cs' := #[.slice B104 p103.length d106, .int .i64 x1, .int .i64 x2, .bool x3, .int .i64 x4]) rfl sz25 (hF.ev rfl) (hF.ev rfl) rfl rfl rfl (S.free 1 rfl) rfl rfl) ?_; replace S := S.put 1 rfl (#[.slice B104 p103.length d106, .int .i64 x1, .int .i64 x2, .bool x3, .int .i64 x4])
  generalize World.setRow _ _ _ = u at S ⊢
  refine wpList_nil ?_
  refine wp_ret ?_
  repeat with_reducible (first | refine then_ret ?_ | refine in_ret ?_ | refine in_nrm ?_)
  refine ret1_gw (.inl rfl) hF rfl (res_cell (hF.ev rfl) (res_loadN ag25 rfl (S.cells 1 rfl 0 #[.slice B104 p103.length d106, .int .i64 x1, .int .i64 x2, .bool x3, .int .i64 x4] rfl))) ?_
  obtain rfl := Option.some.inj hM
  exact ⟨B104, p103.length, d106, rfl, rfl, S.sel [0] rfl rfl⟩

set_option maxHeartbeats 4000000 in
theorem c_impl_Panel_unselect {x0 : List Bool} {x1 : Int} {x2 : Int} {x3 : Bool} {x4 : Int} {A0 : Option Addr} {n0 c0 : Nat} {g0 : Nat} {w : World} {r : List Bool × Int × Int × Bool × Int} {w0 : World} {X : List Asn} (h0 : n0 = x0.length) (S : St w0 w (Asn.box g0 25 #[.slice A0 n0 c0, .int .i64 x1, .int .i64 x2, .bool x3, .int .i64 x4] :: Asn.row 4 1 (.slice A0 n0 c0) n0 (x0.flatMap eB) :: X)) (hM : m_impl_Panel_unselect x0 x1 x2 x3 x4 = some r) :
    Calls Tryd.prog 28 #[.pointer (some ⟨g0, 0, none⟩)] w (fun e w' => ∃ (B0 : Option Addr) (N0 D0 : Nat), e = .returned (.tuple #[]) ∧ N0 = r.1.length ∧ St w0 w' (Asn.box g0 25 #[.slice B0 N0 D0, .int .i64 r.2.1, .int .i64 r.2.2.1, .bool r.2.2.2.1, .int .i64 r.2.2.2.2] :: Asn.row 4 1 (.slice B0 N0 D0) N0 (r.1.flatMap eB) :: X)) := by
  obtain rfl := h0
  unfold m_impl_Panel_unselect at hM
  refine calls_gw Tryd.func28 Tryd.ntmps28 rfl [(0, .pointer (some ⟨g0, 0, none⟩))] ⟨rfl, trivial⟩ rfl ?_
  intro a hF
  refine wp_region_lit ?_
  refine op_val (v := .pointer (some ⟨g0, 0, none⟩)) rfl rfl hF rfl (run_move rfl (hF.ev rfl)) ?_; clear hF; intro a hF
  refine op_val (v := .pointer (some ⟨g0, 0, none⟩)) rfl rfl hF rfl (run_move rfl (hF.ev rfl)) ?_; clear hF; intro a hF
  refine op_val (v := .pointer (some ⟨g0, 0, none⟩)) rfl rfl hF rfl (run_move rfl (hF.ev rfl)) ?_; clear hF; intro a hF
  refine op_val (v := .pointer (some ⟨g0, 0, none⟩)) rfl rfl hF rfl (run_move rfl (hF.ev rfl)) ?_; clear hF; intro a hF
  refine op_val (v := .pointer (some ⟨g0, 0, none⟩)) rfl rfl hF rfl (run_nilCheck rfl (hF.ev rfl)) ?_; clear hF; intro a hF
  refine op_val (v := .pointer (some ⟨g0, 1, none⟩)) rfl rfl hF rfl (run_fieldAddr rfl fl25_1 (hF.ev rfl) rfl) ?_; clear hF; intro a hF
  refine op_do rfl rfl (run_store (cs' := #[.slice A0 x0.length c0, .int .i64 (-1), .int .i64 x2, .bool x3, .int .i64 x4]) rfl sz3 (hF.ev rfl) rfl rfl rfl rfl (S.free 0 rfl) rfl rfl) ?_; replace S := S.put 0 rfl (#[.slice A0 x0.length c0, .int .i64 (-1), .int .i64 x2, .bool x3, .int .i64 x4])
  generalize World.setRow _ _ _ = u at S ⊢
  refine op_val (v := .pointer (some ⟨g0, 0, none⟩)) rfl rfl hF rfl (run_nilCheck rfl (hF.ev rfl)) ?_; clear hF; intro a hF
  refine op_val (v := .pointer (some ⟨g0, 2, none⟩)) rfl rfl hF rfl (run_fieldAddr rfl fl25_2 (hF.ev rfl) rfl) ?_; clear hF; intro a hF
  refine op_do rfl rfl (run_store (cs' := #[.slice A0 x0.length c0, .int .i64 (-1), .int .i64 0, .bool x3, .int .i64 x4]) rfl sz3 (hF.ev rfl) rfl rfl rfl rfl (S.free 0 rfl) rfl rfl) ?_; replace S := S.put 0 rfl (#[.slice A0 x0.length c0, .int .i64 (-1), .int .i64 0, .bool x3, .int .i64 x4])
  generalize World.setRow _ _ _ = u at S ⊢
  refine op_val (v := .pointer (some ⟨g0, 0, none⟩)) rfl rfl hF rfl (run_nilCheck rfl (hF.ev rfl)) ?_; clear hF; intro a hF
  refine op_val (v := .pointer (some ⟨g0, 3, none⟩)) rfl rfl hF rfl (run_fieldAddr rfl fl25_3 (hF.ev rfl) rfl) ?_; clear hF; intro a hF
  refine op_do rfl rfl (run_store (cs' := #[.slice A0 x0.length c0, .int .i64 (-1), .int .i64 0, .bool false, .int .i64 x4]) rfl sz4 (hF.ev rfl) rfl rfl rfl rfl (S.free 0 rfl) rfl rfl) ?_; replace S := S.put 0 rfl (#[.slice A0 x0.length c0, .int .i64 (-1), .int .i64 0, .bool false, .int .i64 x4])
  generalize World.setRow _ _ _ = u at S ⊢
  refine op_val (v := .pointer (some ⟨g0, 0, none⟩)) rfl rfl hF rfl (run_nilCheck rfl (hF.ev rfl)) ?_; clear hF; intro a hF
  refine op_val (v := .pointer (some ⟨g0, 4, none⟩)) rfl rfl hF rfl (run_fieldAddr rfl fl25_4 (hF.ev rfl) rfl) ?_; clear hF; intro a hF
  refine op_do rfl rfl (run_store (cs' := #[.slice A0 x0.length c0, .int .i64 (-1), .int .i64 0, .bool false, .int .i64 0]) rfl sz3 (hF.ev rfl) rfl rfl rfl rfl (S.free 0 rfl) rfl rfl) ?_; replace S := S.put 0 rfl (#[.slice A0 x0.length c0, .int .i64 (-1), .int .i64 0, .bool false, .int .i64 0])
  generalize World.setRow _ _ _ = u at S ⊢
  refine wpList_nil ?_
  repeat with_reducible (first | refine then_ret ?_ | refine in_ret ?_ | refine in_nrm ?_)
  refine ret0_gw (.inr rfl) hF rfl  ?_
  obtain rfl := Option.some.inj hM
  exact ⟨A0, x0.length, c0, rfl, rfl, S.selT (M := [.box g0 25 #[.slice A0 x0.length c0, .int .i64 (-1), .int .i64 0, .bool false, .int .i64 0], .row 4 1 (.slice A0 x0.length c0) x0.length (x0.flatMap eB)]) 2 [0, 1] rfl rfl rfl⟩

end Go.Proofs.YtapkaobelejkkaaDoor
