/- Calls return what the models say. -/
import Derived.Test.YtnoeliaefhldmaaDoorDa2
namespace Go.Proofs.YtnoeliaefhldmaaDoor
open Go.ChangeShapes Go.WideShapes Go.ChangeAt Go.RowKit
set_option linter.unusedVariables false
set_option linter.unusedSimpArgs false

set_option maxHeartbeats 4000000 in
theorem c_impl_Work_may {x0 : List Bool} {x1 : List Bool} {x2 : List (Int × Int)} {x3 : Int} {x4 : Int} {x5 : Int} {A0 : Option Addr} {n0 c0 : Nat} {A1 : Option Addr} {n1 c1 : Nat} {A2 : Option Addr} {n2 c2 : Nat} {w : World} {r : Bool} (h0 : Rt w 1 eB A0 n0 c0 x0) (h1 : Rt w 1 eB A1 n1 c1 x1) (h2 : Rt w 2 ePermit A2 n2 c2 x2) (hM : m_impl_Work_may x0 x1 x2 x3 x4 x5 = some r) :
    Calls Tryd.prog 31 #[.agg #[.slice A0 n0 c0, .slice A1 n1 c1, .slice A2 n2 c2], .agg #[.int .i64 x3, .int .i64 x4, .int .i64 x5]] w (fun e w' => e = .returned (.bool r) ∧ St w w' []) := by
  obtain rfl := h0.len
  obtain rfl := h1.len
  obtain rfl := h2.len
  unfold m_impl_Work_may at hM
  refine calls_gw Tryd.func31 Tryd.ntmps31 rfl [(0, .agg #[.slice A0 x0.length c0, .slice A1 x1.length c1, .slice A2 x2.length c2]), (1, .agg #[.int .i64 x3, .int .i64 x4, .int .i64 x5])] ⟨rfl, rfl, trivial⟩ rfl ?_
  intro a hF
  have S := St.nil w
  refine wp_seq ?_
  refine wp_region_lit ?_
  refine op_new (cs := #[.slice A0 x0.length c0, .slice A1 x1.length c1, .slice A2 x2.length c2]) rfl rfl hF rfl S (run_box rfl (hF.ev rfl) rfl) ?_; clear hF S; intro a g101 u hF S
  refine op_new (cs := #[.int .i64 x3, .int .i64 x4, .int .i64 x5]) rfl rfl hF rfl S (run_box rfl (hF.ev rfl) rfl) ?_; clear hF S; intro a g102 u hF S
  refine op_val (v := .bool false) rfl rfl hF rfl (run_assign rfl rfl) ?_; clear hF; intro a hF
  refine wpList_nil ?_
  refine wp_seq ?_
  obtain ⟨hk103, hM⟩ := chk_ex hM
  replace hk103 := ixB_t hk103
  obtain ⟨hk104, hM⟩ := chk_ex hM
  replace hk104 := ixB_t hk104
  refine region_gw (D := [8, 9, 10, 11, 12, 13, 14, 15, 16, 17, 18, 19, 5, 6]) (Lr := [.box g102 35 #[.int .i64 x3, .int .i64 x4, .int .i64 x5], .box g101 26 #[.slice A0 x0.length c0, .slice A1 x1.length c1, .slice A2 x2.length c2]]) (deps := (fun | 0 => [8] | 1 => [9] | 2 => [10] | 3 => [11] | 4 => [12] | 5 => [13] | 6 => [14] | 7 => [15] | 8 => [16] | 9 => [17] | 10 => [18] | 11 => [19] | 12 => [5] | 13 => [6] | _ => [])) (rd := (fun _ => [])) (zr := (fun _ => []))
    (φ := fun i vs => match i, vs with | 0, [v8] => v8 = .pointer (some ⟨g101, 0, none⟩) | 1, [v9] => v9 = .slice A0 x0.length c0 | 2, [v10] => v10 = .pointer (some ⟨g102, 1, none⟩) | 3, [v11] => v11 = .int .i64 x4 | 4, [v12] => v12 = .pointer (some ⟨adB A0, adO A0 + x4.toNat * 1, none⟩) | 5, [v13] => v13 = .bool (x0.getD x4.toNat false) | 6, [v14] => v14 = .pointer (some ⟨g101, 1, none⟩) | 7, [v15] => v15 = .slice A1 x1.length c1 | 8, [v16] => v16 = .pointer (some ⟨g102, 1, none⟩) | 9, [v17] => v17 = .int .i64 x4 | 10, [v18] => v18 = .pointer (some ⟨adB A1, adO A1 + x4.toNat * 1, none⟩) | 11, [v19] => v19 = .bool (x1.getD x4.toNat false) | 12, [v5] => v5 = .bool (x0.getD x4.toNat false) | 13, [v6] => v6 = .bool (x1.getD x4.toNat false) | _, _ => True)
    (C := fun _ _ => [])
    (κ := (fun _ => none)) (Z := (fun _ => [])) mixed hF (by kernel_rfl) S ?_ ?_
  · refine ⟨?_, ?_, ?_, ?_, ?_, ?_, ?_, ?_, ?_, ?_, ?_, ?_, ?_, ?_, trivial⟩
    · intro a u X hB hu hp hr hz hl S
      replace S : St w u ([] ++ X) := S
      exact .inl ⟨rfl, .pointer (some ⟨g101, 0, none⟩), u, (run_fieldAddr rfl fl26_0 (hF.evB hB rfl rfl) rfl), rfl, S⟩
    · intro a u X hB hu hp hr hz hl S
      replace S : St w u ([] ++ X) := S
      have e8 : sl a 8 = .pointer (some ⟨g101, 0, none⟩) := hp 0 rfl
      exact .inl ⟨rfl, .slice A0 x0.length c0, u, (run_load1 rfl one23 (ev_sl e8) ((gr_box S hl 1 rfl).cell rfl)), rfl, S⟩
    · intro a u X hB hu hp hr hz hl S
      replace S : St w u ([] ++ X) := S
      exact .inl ⟨rfl, .pointer (some ⟨g102, 1, none⟩), u, (run_fieldAddr rfl fl35_1 (hF.evB hB rfl rfl) rfl), rfl, S⟩
    · intro a u X hB hu hp hr hz hl S
      replace S : St w u ([] ++ X) := S
      have e10 : sl a 10 = .pointer (some ⟨g102, 1, none⟩) := hp 2 rfl
      exact .inl ⟨rfl, .int .i64 x4, u, (run_load1 rfl one3 (ev_sl e10) ((gr_box S hl 0 rfl).cell rfl)), rfl, S⟩
    · intro a u X hB hu hp hr hz hl S
      replace S : St w u ([] ++ X) := S
      have e9 : sl a 9 = .slice A0 x0.length c0 := hp 1 rfl
      have e11 : sl a 11 = .int .i64 x4 := hp 3 rfl
      exact .inl ⟨rfl, .pointer (some ⟨adB A0, adO A0 + x4.toNat * 1, none⟩), u, (run_indexAddr (b := adB A0) (off := adO A0) rfl Tryd.underlying23 sz4 ((ev_sl e9).trans (congrArg (fun A => Value.slice A x0.length c0) ((S.rc0 h0.rc).rd.ad (ix_pos hk103)))) (ev_sl e11) hk103.1 hk103.2 (k' := adO A0 + x4.toNat * 1) rfl), rfl, S⟩
    · intro a u X hB hu hp hr hz hl S
      replace S : St w u ([] ++ X) := S
      have e12 : sl a 12 = .pointer (some ⟨adB A0, adO A0 + x4.toNat * 1, none⟩) := hp 4 rfl
      exact .inl ⟨rfl, .bool (x0.getD x4.toNat false), u, (run_load1 rfl one4 (ev_sl e12) (rd_el0 (l := x0) (S.rc0 h0.rc).rd rfl eB_len false (ix_ltn hk103 rfl) rfl)), rfl, S⟩
    · intro a u X hB hu hp hr hz hl S
      replace S : St w u ([] ++ X) := S
      exact .inl ⟨rfl, .pointer (some ⟨g101, 1, none⟩), u, (run_fieldAddr rfl fl26_1 (hF.evB hB rfl rfl) rfl), rfl, S⟩
    · intro a u X hB hu hp hr hz hl S
      replace S : St w u ([] ++ X) := S
      have e14 : sl a 14 = .pointer (some ⟨g101, 1, none⟩) := hp 6 rfl
      exact .inl ⟨rfl, .slice A1 x1.length c1, u, (run_load1 rfl one23 (ev_sl e14) ((gr_box S hl 1 rfl).cell rfl)), rfl, S⟩
    · intro a u X hB hu hp hr hz hl S
      replace S : St w u ([] ++ X) := S
      exact .inl ⟨rfl, .pointer (some ⟨g102, 1, none⟩), u, (run_fieldAddr rfl fl35_1 (hF.evB hB rfl rfl) rfl), rfl, S⟩
    · intro a u X hB hu hp hr hz hl S
      replace S : St w u ([] ++ X) := S
      have e16 : sl a 16 = .pointer (some ⟨g102, 1, none⟩) := hp 8 rfl
      exact .inl ⟨rfl, .int .i64 x4, u, (run_load1 rfl one3 (ev_sl e16) ((gr_box S hl 0 rfl).cell rfl)), rfl, S⟩
    · intro a u X hB hu hp hr hz hl S
      replace S : St w u ([] ++ X) := S
      have e15 : sl a 15 = .slice A1 x1.length c1 := hp 7 rfl
      have e17 : sl a 17 = .int .i64 x4 := hp 9 rfl
      exact .inl ⟨rfl, .pointer (some ⟨adB A1, adO A1 + x4.toNat * 1, none⟩), u, (run_indexAddr (b := adB A1) (off := adO A1) rfl Tryd.underlying23 sz4 ((ev_sl e15).trans (congrArg (fun A => Value.slice A x1.length c1) ((S.rc0 h1.rc).rd.ad (ix_pos hk104)))) (ev_sl e17) hk104.1 hk104.2 (k' := adO A1 + x4.toNat * 1) rfl), rfl, S⟩
    · intro a u X hB hu hp hr hz hl S
      replace S : St w u ([] ++ X) := S
      have e18 : sl a 18 = .pointer (some ⟨adB A1, adO A1 + x4.toNat * 1, none⟩) := hp 10 rfl
      exact .inl ⟨rfl, .bool (x1.getD x4.toNat false), u, (run_load1 rfl one4 (ev_sl e18) (rd_el0 (l := x1) (S.rc0 h1.rc).rd rfl eB_len false (ix_ltn hk104 rfl) rfl)), rfl, S⟩
    · intro a u X hB hu hp hr hz hl S
      replace S : St w u ([] ++ X) := S
      have e13 : sl a 13 = .bool (x0.getD x4.toNat false) := hp 5 rfl
      exact .inl ⟨rfl, .bool (x0.getD x4.toNat false), u, (run_assign rfl (ev_sl e13)), rfl, S⟩
    · intro a u X hB hu hp hr hz hl S
      replace S : St w u ([] ++ X) := S
      have e19 : sl a 19 = .bool (x1.getD x4.toNat false) := hp 11 rfl
      exact .inl ⟨rfl, .bool (x1.getD x4.toNat false), u, (run_assign rfl (ev_sl e19)), rfl, S⟩
  · intro a u hB hp S
    obtain ⟨q0, q1, q2, q3, q4, q5, q6, q7, q8, q9, q10, q11, q12, q13, _⟩ := hp
    have e8 : sl a 8 = .pointer (some ⟨g101, 0, none⟩) := q0
    have e9 : sl a 9 = .slice A0 x0.length c0 := q1
    have e10 : sl a 10 = .pointer (some ⟨g102, 1, none⟩) := q2
    have e11 : sl a 11 = .int .i64 x4 := q3
    have e12 : sl a 12 = .pointer (some ⟨adB A0, adO A0 + x4.toNat * 1, none⟩) := q4
    have e13 : sl a 13 = .bool (x0.getD x4.toNat false) := q5
    have e14 : sl a 14 = .pointer (some ⟨g101, 1, none⟩) := q6
    have e15 : sl a 15 = .slice A1 x1.length c1 := q7
    have e16 : sl a 16 = .pointer (some ⟨g102, 1, none⟩) := q8
    have e17 : sl a 17 = .int .i64 x4 := q9
    have e18 : sl a 18 = .pointer (some ⟨adB A1, adO A1 + x4.toNat * 1, none⟩) := q10
    have e19 : sl a 19 = .bool (x1.getD x4.toNat false) := q11
    have e5 : sl a 5 = .bool (x0.getD x4.toNat false) := q12
    have e6 : sl a 6 = .bool (x1.getD x4.toNat false) := q13
    replace S : St w u [.box g102 35 #[.int .i64 x3, .int .i64 x4, .int .i64 x5], .box g101 26 #[.slice A0 x0.length c0, .slice A1 x1.length c1, .slice A2 x2.length c2]] := S
    clear q0 q1 q2 q3 q4 q5 q6 q7 q8 q9 q10 q11 q12 q13
    have hF := hF.region hB [(8, .pointer (some ⟨g101, 0, none⟩)), (9, .slice A0 x0.length c0), (10, .pointer (some ⟨g102, 1, none⟩)), (11, .int .i64 x4), (12, .pointer (some ⟨adB A0, adO A0 + x4.toNat * 1, none⟩)), (13, .bool (x0.getD x4.toNat false)), (14, .pointer (some ⟨g101, 1, none⟩)), (15, .slice A1 x1.length c1), (16, .pointer (some ⟨g102, 1, none⟩)), (17, .int .i64 x4), (18, .pointer (some ⟨adB A1, adO A1 + x4.toNat * 1, none⟩)), (19, .bool (x1.getD x4.toNat false)), (5, .bool (x0.getD x4.toNat false)), (6, .bool (x1.getD x4.toNat false))] (allSl_mem ⟨e8, e9, e10, e11, e12, e13, e14, e15, e16, e17, e18, e19, e5, e6, trivial⟩) rfl
    clear hB e8 e9 e10 e11 e12 e13 e14 e15 e16 e17 e18 e19 e5 e6
    refine wp_seq ?_
    refine wp_region_lit ?_
    refine op_val (v := .pointer (some ⟨g101, 2, none⟩)) rfl rfl hF rfl (run_fieldAddr rfl fl26_2 (hF.ev rfl) rfl) ?_; clear hF; intro a hF
    refine op_val (v := .slice A2 x2.length c2) rfl rfl hF rfl (run_load1 rfl one24 (hF.ev rfl) ((S.free 1 rfl).cell rfl)) ?_; clear hF; intro a hF
    refine op_val (v := .pointer (some ⟨g102, 2, none⟩)) rfl rfl hF rfl (run_fieldAddr rfl fl35_2 (hF.ev rfl) rfl) ?_; clear hF; intro a hF
    refine op_val (v := .int .i64 x5) rfl rfl hF rfl (run_load1 rfl one3 (hF.ev rfl) ((S.free 0 rfl).cell rfl)) ?_; clear hF; intro a hF
    refine op_val (v := .pointer (some ⟨g102, 1, none⟩)) rfl rfl hF rfl (run_fieldAddr rfl fl35_1 (hF.ev rfl) rfl) ?_; clear hF; intro a hF
    refine op_val (v := .int .i64 x4) rfl rfl hF rfl (run_load1 rfl one3 (hF.ev rfl) ((S.free 0 rfl).cell rfl)) ?_; clear hF; intro a hF
    refine op_val (v := .agg #[.int .i64 x5, .int .i64 x4]) rfl rfl hF rfl (run_build (vs := [(0, .int .i64 x5), (1, .int .i64 x4)]) rfl ⟨⟨rfl, (hF.ev rfl)⟩, ⟨rfl, (hF.ev rfl)⟩, trivial⟩ (bd48_0_1 rfl rfl)) ?_; clear hF; intro a hF
    obtain ⟨p105, h105, hM⟩ := bind_ex hM
    refine op_call rfl rfl hF rfl (run_call (vs := [.slice A2 x2.length c2, .agg #[.int .i64 x5, .int .i64 x4]]) rfl rfl co43 ⟨(hF.ev rfl), (hF.ev rfl), trivial⟩) (c_slices_Contains_impl_Permit_impl_Permit (x0 := x2) (x1 := x5) (x2 := x4) ⟨(S.rc0 h2.rc), rfl⟩ h105) ?_
    rintro e u ⟨rfl, T⟩
    refine ⟨_, rfl, ?_⟩
    clear hF; intro a hF
    replace S := S.call0 T; clear T
    refine op_val (v := .bool p105) rfl rfl hF rfl (run_assign rfl (hF.ev rfl)) ?_; clear hF; intro a hF
    refine wpList_nil ?_
    refine wp_seq ?_
    refine wp_seq ?_
    refine wp_region_lit ?_
    refine op_val (v := .pointer (some ⟨g102, 0, none⟩)) rfl rfl hF rfl (run_fieldAddr rfl fl35_0 (hF.ev rfl) rfl) ?_; clear hF; intro a hF
    refine op_val (v := .int .i64 x3) rfl rfl hF rfl (run_load1 rfl one3 (hF.ev rfl) ((S.free 0 rfl).cell rfl)) ?_; clear hF; intro a hF
    refine wpList_nil ?_
    refine wp_block ?_
    refine wp_seq ?_
    refine wp_seq ?_
    refine wp_region_lit ?_
    refine op_val (v := .bool (x3 == 0)) rfl rfl hF rfl (run_eql (hF.ev rfl) rfl rfl) ?_; clear hF; intro a hF
    refine op_val (v := .bool (x3 == 0)) rfl rfl hF rfl (run_assign rfl (hF.ev rfl)) ?_; clear hF; intro a hF
    refine wpList_nil ?_
    obtain ⟨o107, hM108, hM⟩ := bind_ex hM
    refine wp_cut (fun a u => ∃ (p106 : Bool), p106 = o107 ∧ Fr a 79 [(2, .pointer (some ⟨g101, 0, none⟩)), (3, .pointer (some ⟨g102, 0, none⟩)), (4, .bool false), (5, .bool (x0.getD x4.toNat false)), (6, .bool (x1.getD x4.toNat false)), (7, .bool p105), (29, .int .i64 x3), (30, .bool p106)] ∧ St w u [.box g102 35 #[.int .i64 x3, .int .i64 x4, .int .i64 x5], .box g101 26 #[.slice A0 x0.length c0, .slice A1 x1.length c1, .slice A2 x2.length c2]]) ?_ ?_
    · have _ := trivial
      cases hc109 : (x3 == 0)
      · replace hM108 := bif_f hc109 hM108
        refine cond_f hF rfl hc109 ?_
        refine wp_region_lit ?_
        refine op_val (v := .bool (x3 == 2)) rfl rfl hF rfl (run_eql (hF.ev rfl) rfl rfl) ?_; clear hF; intro a hF
        refine op_val (v := .bool (x3 == 2)) rfl rfl hF rfl (run_assign rfl (hF.ev rfl)) ?_; clear hF; intro a hF
        refine wpList_nil ?_
        obtain rfl := Option.some.inj hM108
        exact ⟨x3 == 2, rfl, hF.keep _ ⟨rfl, rfl, rfl, rfl, rfl, rfl, rfl, rfl, trivial⟩, S.sel [0, 1] rfl rfl⟩
      · replace hM108 := bif_t hc109 hM108
        refine cond_t hF rfl hc109 ?_
        refine wp_skip ?_
        obtain rfl := Option.some.inj hM108
        exact ⟨x3 == 0, rfl, hF.keep _ ⟨rfl, rfl, rfl, rfl, rfl, rfl, rfl, rfl, trivial⟩, S.sel [0, 1] rfl rfl⟩
    · rintro a u ⟨p106, rfl, hF, S⟩
      cases hc110 : (p106)
      · replace hM := bif_f hc110 hM
        refine cond_f hF rfl hc110 ?_
        refine wp_seq ?_
        refine wp_region_lit ?_
        refine op_val (v := .bool (x3 == 1)) rfl rfl hF rfl (run_eql (hF.ev rfl) rfl rfl) ?_; clear hF; intro a hF
        refine op_val (v := .bool (x3 == 1)) rfl rfl hF rfl (run_assign rfl (hF.ev rfl)) ?_; clear hF; intro a hF
        refine wpList_nil ?_
        cases hc111 : (x3 == 1)
        · replace hM := bif_f hc111 hM
          refine cond_f hF rfl hc111 ?_
          refine wp_seq ?_
          refine wp_region_lit ?_
          refine op_val (v := .bool (x3 == 3)) rfl rfl hF rfl (run_eql (hF.ev rfl) rfl rfl) ?_; clear hF; intro a hF
          refine op_val (v := .bool (x3 == 3)) rfl rfl hF rfl (run_assign rfl (hF.ev rfl)) ?_; clear hF; intro a hF
          refine wpList_nil ?_
          cases hc112 : (x3 == 3)
          · replace hM := bif_f hc112 hM
            refine cond_f hF rfl hc112 ?_
            refine wp_seq ?_
            refine wp_region_lit ?_
            refine op_val (v := .bool (x3 == 4)) rfl rfl hF rfl (run_eql (hF.ev rfl) rfl rfl) ?_; clear hF; intro a hF
            refine op_val (v := .bool (x3 == 4)) rfl rfl hF rfl (run_assign rfl (hF.ev rfl)) ?_; clear hF; intro a hF
            refine wpList_nil ?_
            cases hc113 : (x3 == 4)
            · replace hM := bif_f hc113 hM
              refine cond_f hF rfl hc113 ?_
              refine wp_seq ?_
              refine wp_region_lit ?_
              refine op_val (v := .bool (x3 == 5)) rfl rfl hF rfl (run_eql (hF.ev rfl) rfl rfl) ?_; clear hF; intro a hF
              refine op_val (v := .bool (x3 == 5)) rfl rfl hF rfl (run_assign rfl (hF.ev rfl)) ?_; clear hF; intro a hF
              refine wpList_nil ?_
              cases hc114 : (x3 == 5)
              · replace hM := bif_f hc114 hM
                refine cond_f hF rfl hc114 ?_
                refine wp_skip ?_
                refine wp_seq ?_
                refine wp_region_lit ?_
                refine op_val (v := .bool false) rfl rfl hF rfl (run_assign rfl rfl) ?_; clear hF; intro a hF
                refine wpList_nil ?_
                refine wp_ret ?_
                repeat with_reducible (first | refine then_ret ?_ | refine in_ret ?_ | refine in_nrm ?_)
                refine ret1_gw (.inl rfl) hF rfl (res_tmp (hF.ev rfl)) ?_
                obtain rfl := Option.some.inj hM
                exact ⟨rfl, S.sel [] rfl rfl⟩
              · replace hM := bif_t hc114 hM
                refine cond_t hF rfl hc114 ?_
                refine wp_seq ?_
                refine wp_region_lit ?_
                refine op_val (v := .bool p105) rfl rfl hF rfl (run_move rfl (hF.ev rfl)) ?_; clear hF; intro a hF
                refine op_val (v := .bool p105) rfl rfl hF rfl (run_assign rfl (hF.ev rfl)) ?_; clear hF; intro a hF
                refine wpList_nil ?_
                refine wp_ret ?_
                repeat with_reducible (first | refine then_ret ?_ | refine in_ret ?_ | refine in_nrm ?_)
                refine ret1_gw (.inl rfl) hF rfl (res_tmp (hF.ev rfl)) ?_
                obtain rfl := Option.some.inj hM
                exact ⟨rfl, S.sel [] rfl rfl⟩
            · replace hM := bif_t hc113 hM
              refine cond_t hF rfl hc113 ?_
              refine wp_seq ?_
              refine wp_region_lit ?_
              refine op_val (v := .bool (x1.getD x4.toNat false)) rfl rfl hF rfl (run_move rfl (hF.ev rfl)) ?_; clear hF; intro a hF
              refine op_val (v := .bool (x1.getD x4.toNat false)) rfl rfl hF rfl (run_move rfl (hF.ev rfl)) ?_; clear hF; intro a hF
              refine op_gv (v := .bool p105) rfl rfl hF rfl (yt (gw_yield hF rfl rfl rfl)) (fun hg => (run_move rfl (hF.ev rfl))) ?_; clear hF; intro a hF
              refine op_gv (v := .bool (!p105)) rfl rfl hF rfl (yt (gw_yield hF rfl rfl rfl)) (fun hg => (run_not rfl ((hF.ev rfl).trans (gv_t hg)))) ?_; clear hF; intro a hF
              refine op_val (v := .bool ((x1.getD x4.toNat false) && (!p105))) rfl rfl hF rfl (run_pick_and rfl (hF.ev rfl) (fun hp => ((hF.ev rfl).trans (gv_t hp))) rfl) ?_; clear hF; intro a hF
              refine op_val (v := .bool ((x1.getD x4.toNat false) && (!p105))) rfl rfl hF rfl (run_move rfl (hF.ev rfl)) ?_; clear hF; intro a hF
              refine op_gv (v := .pointer (some ⟨g102, 2, none⟩)) rfl rfl hF rfl (yt (gw_yield hF rfl rfl rfl)) (fun hg => (run_fieldAddr rfl fl35_2 (hF.ev rfl) rfl)) ?_; clear hF; intro a hF
              refine op_gv (v := .int .i64 x5) rfl rfl hF rfl (yt (gw_yield hF rfl rfl rfl)) (fun hg => (run_load1 rfl one3 ((hF.ev rfl).trans (gv_t hg)) ((S.free 0 rfl).cell rfl))) ?_; clear hF; intro a hF
              refine op_gv (v := .bool (leB 0 x5)) rfl rfl hF rfl (yt (gw_yield hF rfl rfl rfl)) (fun hg => (run_geq ((hF.ev rfl).trans (gv_t hg)) rfl rfl)) ?_; clear hF; intro a hF
              refine op_val (v := .bool (((x1.getD x4.toNat false) && (!p105)) && (leB 0 x5))) rfl rfl hF rfl (run_pick_and rfl (hF.ev rfl) (fun hp => ((hF.ev rfl).trans (gv_t hp))) rfl) ?_; clear hF; intro a hF
              refine op_val (v := .bool (((x1.getD x4.toNat false) && (!p105)) && (leB 0 x5))) rfl rfl hF rfl (run_move rfl (hF.ev rfl)) ?_; clear hF; intro a hF
              refine op_gv (v := .pointer (some ⟨g102, 2, none⟩)) rfl rfl hF rfl (yt (gw_yield hF rfl rfl rfl)) (fun hg => (run_fieldAddr rfl fl35_2 (hF.ev rfl) rfl)) ?_; clear hF; intro a hF
              refine op_gv (v := .int .i64 x5) rfl rfl hF rfl (yt (gw_yield hF rfl rfl rfl)) (fun hg => (run_load1 rfl one3 ((hF.ev rfl).trans (gv_t hg)) ((S.free 0 rfl).cell rfl))) ?_; clear hF; intro a hF
              refine op_gv (v := .bool (leB x5 9)) rfl rfl hF rfl (yt (gw_yield hF rfl rfl rfl)) (fun hg => (run_leq ((hF.ev rfl).trans (gv_t hg)) rfl rfl)) ?_; clear hF; intro a hF
              refine op_val (v := .bool ((((x1.getD x4.toNat false) && (!p105)) && (leB 0 x5)) && (leB x5 9))) rfl rfl hF rfl (run_pick_and rfl (hF.ev rfl) (fun hp => ((hF.ev rfl).trans (gv_t hp))) rfl) ?_; clear hF; intro a hF
              refine op_val (v := .bool ((((x1.getD x4.toNat false) && (!p105)) && (leB 0 x5)) && (leB x5 9))) rfl rfl hF rfl (run_move rfl (hF.ev rfl)) ?_; clear hF; intro a hF
              refine op_gv (v := .pointer (some ⟨g101, 2, none⟩)) rfl rfl hF rfl (yt (gw_yield hF rfl rfl rfl)) (fun hg => (run_fieldAddr rfl fl26_2 (hF.ev rfl) rfl)) ?_; clear hF; intro a hF
              refine op_gv (v := .slice A2 x2.length c2) rfl rfl hF rfl (yt (gw_yield hF rfl rfl rfl)) (fun hg => (run_load1 rfl one24 ((hF.ev rfl).trans (gv_t hg)) ((S.free 1 rfl).cell rfl))) ?_; clear hF; intro a hF
              refine op_gv (v := .int .i64 (x2.length : Int)) rfl rfl hF rfl (yt (gw_yield hF rfl rfl rfl)) (fun hg => (run_lenL rfl rfl Tryd.underlying24 ((hF.ev rfl).trans (gv_t hg)))) ?_; clear hF; intro a hF
              refine op_gv (v := .bool (ltB (x2.length : Int) 6)) rfl rfl hF rfl (yt (gw_yield hF rfl rfl rfl)) (fun hg => (run_lss ((hF.ev rfl).trans (gv_t hg)) rfl rfl)) ?_; clear hF; intro a hF
              refine op_val (v := .bool (((((x1.getD x4.toNat false) && (!p105)) && (leB 0 x5)) && (leB x5 9)) && (ltB (x2.length : Int) 6))) rfl rfl hF rfl (run_pick_and rfl (hF.ev rfl) (fun hp => ((hF.ev rfl).trans (gv_t hp))) rfl) ?_; clear hF; intro a hF
              refine op_val (v := .bool (((((x1.getD x4.toNat false) && (!p105)) && (leB 0 x5)) && (leB x5 9)) && (ltB (x2.length : Int) 6))) rfl rfl hF rfl (run_assign rfl (hF.ev rfl)) ?_; clear hF; intro a hF
              refine wpList_nil ?_
              refine wp_ret ?_
              repeat with_reducible (first | refine then_ret ?_ | refine in_ret ?_ | refine in_nrm ?_)
              refine ret1_gw (.inl rfl) hF rfl (res_tmp (hF.ev rfl)) ?_
              obtain rfl := Option.some.inj hM
              exact ⟨rfl, S.sel [] rfl rfl⟩
          · replace hM := bif_t hc112 hM
            refine cond_t hF rfl hc112 ?_
            refine wp_seq ?_
            obtain ⟨o116, hM117, hM⟩ := bind_ex hM
            refine wp_cut (fun a u => ∃ (p115 : Bool), p115 = o116 ∧ Fr a 79 [(4, .bool p115)] ∧ St w u []) ?_ ?_
            · have _ := trivial
              refine wp_region_lit ?_
              refine op_val (v := .bool (x1.getD x4.toNat false)) rfl rfl hF rfl (run_move rfl (hF.ev rfl)) ?_; clear hF; intro a hF
              refine op_val (v := .bool (x1.getD x4.toNat false)) rfl rfl hF rfl (run_move rfl (hF.ev rfl)) ?_; clear hF; intro a hF
              refine op_gv (v := .agg #[.slice A0 x0.length c0, .slice A1 x1.length c1, .slice A2 x2.length c2]) rfl rfl hF rfl (yt (gw_yield hF rfl rfl rfl)) (fun hg => (run_loadN rfl ag26 (hF.ev rfl) rfl ((S.free 1 rfl).cells 0 #[.slice A0 x0.length c0, .slice A1 x1.length c1, .slice A2 x2.length c2] rfl))) ?_; clear hF; intro a hF
              refine op_gv (v := .pointer (some ⟨g102, 1, none⟩)) rfl rfl hF rfl (yt (gw_yield hF rfl rfl rfl)) (fun hg => (run_fieldAddr rfl fl35_1 (hF.ev rfl) rfl)) ?_; clear hF; intro a hF
              refine op_gv (v := .int .i64 x4) rfl rfl hF rfl (yt (gw_yield hF rfl rfl rfl)) (fun hg => (run_load1 rfl one3 ((hF.ev rfl).trans (gv_t hg)) ((S.free 0 rfl).cell rfl))) ?_; clear hF; intro a hF
              cases hc118 : (x1.getD x4.toNat false)
              · replace hM117 := bif_f hc118 hM117
                refine op_skipped rfl ((gw_yield hF rfl rfl rfl).trans (congrArg some hc118)) rfl rfl hF rfl ?_; clear hF; intro a hF
                refine op_skipped rfl ((gw_yield hF rfl rfl rfl).trans (congrArg some hc118)) rfl rfl hF rfl ?_; clear hF; intro a hF
                refine op_skipped rfl ((gw_yield hF rfl rfl rfl).trans (congrArg some hc118)) rfl rfl hF rfl ?_; clear hF; intro a hF
                refine op_val (v := .bool false) rfl rfl hF rfl (run_pick_f rfl (hF.ev rfl) hc118 rfl) ?_; clear hF; intro a hF
                refine op_val (v := .bool false) rfl rfl hF rfl (run_assign rfl (hF.ev rfl)) ?_; clear hF; intro a hF
                refine wpList_nil ?_
                obtain rfl := Option.some.inj hM117
                exact ⟨false, rfl, hF.keep _ ⟨rfl, trivial⟩, S.sel [] rfl rfl⟩
              · replace hM117 := bif_t hc118 hM117
                refine op_guarded rfl ((gw_yield hF rfl rfl rfl).trans (congrArg some hc118)) ?_
                obtain ⟨p119, h119, hM117⟩ := bind_ex hM117
                refine op_call rfl rfl hF rfl (run_call (vs := [.agg #[.slice A0 x0.length c0, .slice A1 x1.length c1, .slice A2 x2.length c2], .int .i64 x4]) rfl rfl co8 ⟨((hF.ev rfl).trans (gv_t hc118)), ((hF.ev rfl).trans (gv_t hc118)), trivial⟩) (c_impl_WorkHeld (x0 := x0) (x1 := x1) (x2 := x2) (x3 := x4) ⟨(S.rc0 h0.rc), rfl⟩ ⟨(S.rc0 h1.rc), rfl⟩ ⟨(S.rc0 h2.rc), rfl⟩ h119) ?_
                rintro e u ⟨B120, n121, d122, rfl, rfl, T⟩
                refine ⟨_, rfl, ?_⟩
                clear hF; intro a hF
                replace S := S.call1 T; clear T
                refine op_guarded rfl ((gw_yield hF rfl rfl rfl).trans (congrArg some hc118)) ?_
                refine op_val (v := .int .i64 (p119.length : Int)) rfl rfl hF rfl (run_lenL rfl rfl Tryd.underlying29 (hF.ev rfl)) ?_; clear hF; intro a hF
                refine op_guarded rfl ((gw_yield hF rfl rfl rfl).trans (congrArg some hc118)) ?_
                refine op_val (v := .bool ((p119.length : Int) == 0)) rfl rfl hF rfl (run_eql (hF.ev rfl) rfl rfl) ?_; clear hF; intro a hF
                refine op_val (v := .bool ((p119.length : Int) == 0)) rfl rfl hF rfl (run_pick_t rfl (hF.ev rfl) hc118 (hF.ev rfl)) ?_; clear hF; intro a hF
                refine op_val (v := .bool ((p119.length : Int) == 0)) rfl rfl hF rfl (run_assign rfl (hF.ev rfl)) ?_; clear hF; intro a hF
                refine wpList_nil ?_
                obtain rfl := Option.some.inj hM117
                exact ⟨(p119.length : Int) == 0, rfl, hF.keep _ ⟨rfl, trivial⟩, S.sel [] rfl rfl⟩
            · rintro a u ⟨p115, rfl, hF, S⟩
              refine wp_ret ?_
              repeat with_reducible (first | refine then_ret ?_ | refine in_ret ?_ | refine in_nrm ?_)
              refine ret1_gw (.inl rfl) hF rfl (res_tmp (hF.ev rfl)) ?_
              obtain rfl := Option.some.inj hM
              exact ⟨rfl, S.sel [] rfl rfl⟩
        · replace hM := bif_t hc111 hM
          refine cond_t hF rfl hc111 ?_
          refine wp_seq ?_
          refine wp_region_lit ?_
          refine op_val (v := .bool (x0.getD x4.toNat false)) rfl rfl hF rfl (run_move rfl (hF.ev rfl)) ?_; clear hF; intro a hF
          refine op_val (v := .bool (x0.getD x4.toNat false)) rfl rfl hF rfl (run_assign rfl (hF.ev rfl)) ?_; clear hF; intro a hF
          refine wpList_nil ?_
          refine wp_ret ?_
          repeat with_reducible (first | refine then_ret ?_ | refine in_ret ?_ | refine in_nrm ?_)
          refine ret1_gw (.inl rfl) hF rfl (res_tmp (hF.ev rfl)) ?_
          obtain rfl := Option.some.inj hM
          exact ⟨rfl, S.sel [] rfl rfl⟩
      · replace hM := bif_t hc110 hM
        refine cond_t hF rfl hc110 ?_
        refine wp_seq ?_
        refine wp_region_lit ?_
        refine op_val (v := .bool (x0.getD x4.toNat false)) rfl rfl hF rfl (run_move rfl (hF.ev rfl)) ?_; clear hF; intro a hF
        refine op_val (v := .bool (!(x0.getD x4.toNat false))) rfl rfl hF rfl (run_not rfl (hF.ev rfl)) ?_; clear hF; intro a hF
        refine op_val (v := .bool (!(x0.getD x4.toNat false))) rfl rfl hF rfl (run_move rfl (hF.ev rfl)) ?_; clear hF; intro a hF
        refine op_gv (v := .bool (x1.getD x4.toNat false)) rfl rfl hF rfl (yt (gw_yield hF rfl rfl rfl)) (fun hg => (run_move rfl (hF.ev rfl))) ?_; clear hF; intro a hF
        refine op_gv (v := .bool (!(x1.getD x4.toNat false))) rfl rfl hF rfl (yt (gw_yield hF rfl rfl rfl)) (fun hg => (run_not rfl ((hF.ev rfl).trans (gv_t hg)))) ?_; clear hF; intro a hF
        refine op_val (v := .bool ((!(x0.getD x4.toNat false)) && (!(x1.getD x4.toNat false)))) rfl rfl hF rfl (run_pick_and rfl (hF.ev rfl) (fun hp => ((hF.ev rfl).trans (gv_t hp))) rfl) ?_; clear hF; intro a hF
        refine op_val (v := .bool ((!(x0.getD x4.toNat false)) && (!(x1.getD x4.toNat false)))) rfl rfl hF rfl (run_assign rfl (hF.ev rfl)) ?_; clear hF; intro a hF
        refine wpList_nil ?_
        refine wp_ret ?_
        repeat with_reducible (first | refine then_ret ?_ | refine in_ret ?_ | refine in_nrm ?_)
        refine ret1_gw (.inl rfl) hF rfl (res_tmp (hF.ev rfl)) ?_
        obtain rfl := Option.some.inj hM
        exact ⟨rfl, S.sel [] rfl rfl⟩

set_option maxHeartbeats 4000000 in
theorem c_slices_Delete_impl_Permit_impl_Permit {x0 : List (Int × Int)} {x1 : Int} {x2 : Int} {A0 : Option Addr} {n0 c0 : Nat} {w : World} {r : List (Int × Int)} {w0 : World} {X : List Asn} (h0 : n0 = x0.length) (S : St w0 w (Asn.row 48 2 (.slice A0 n0 c0) n0 (x0.flatMap ePermit) :: X)) (hM : m_slices_Delete_impl_Permit_impl_Permit x0 x1 x2 = some r) :
    Calls Tryd.prog 33 #[.slice A0 n0 c0, .int .i64 x1, .int .i64 x2] w (fun e w' => ∃ (B0 : Option Addr) (N0 D0 : Nat), e = .returned (.slice B0 N0 D0) ∧ N0 = r.length ∧ St w0 w' (Asn.row 48 2 (.slice B0 N0 D0) N0 (r.flatMap ePermit) :: X)) := by
  obtain rfl := h0
  unfold m_slices_Delete_impl_Permit_impl_Permit at hM
  refine calls_gw Tryd.func33 Tryd.ntmps33 rfl [(0, .slice A0 x0.length c0), (1, .int .i64 x1), (2, .int .i64 x2)] ⟨rfl, rfl, rfl, trivial⟩ rfl ?_
  intro a hF
  refine wp_seq ?_
  refine wp_region_lit ?_
  refine op_val (v := .slice none 0 0) rfl rfl hF rfl (run_assign rfl rfl) ?_; clear hF; intro a hF
  refine wpList_nil ?_
  refine wp_seq ?_
  refine wp_region_lit ?_
  refine op_val (v := .slice A0 x0.length c0) rfl rfl hF rfl (run_move rfl (hF.ev rfl)) ?_; clear hF; intro a hF
  refine op_val (v := .int .i64 x1) rfl rfl hF rfl (run_move rfl (hF.ev rfl)) ?_; clear hF; intro a hF
  refine op_val (v := .int .i64 x2) rfl rfl hF rfl (run_move rfl (hF.ev rfl)) ?_; clear hF; intro a hF
  refine op_val (v := .slice A0 x0.length c0) rfl rfl hF rfl (run_move rfl (hF.ev rfl)) ?_; clear hF; intro a hF
  refine op_val (v := .int .i64 (x0.length : Int)) rfl rfl hF rfl (run_lenL rfl rfl Tryd.underlying24 (hF.ev rfl)) ?_; clear hF; intro a hF
  obtain ⟨hk101, hM⟩ := chk_ex hM
  replace hk101 := slB_t hk101
  refine op_val (v := .slice (subA ((x0.length : Int).toNat) x1.toNat 2 A0) (x2.toNat - x1.toNat) ((x0.length : Int).toNat - x1.toNat)) rfl rfl hF rfl (run_slice3 rfl Tryd.underlying24 sz48 (hF.ev rfl) (hF.ev rfl) (hF.ev rfl) (hF.ev rfl) hk101 (Int.ofNat_le.2 (S.rc 0 rfl).cap)) ?_; clear hF; intro a hF
  refine wpList_nil ?_
  refine wp_seq ?_
  refine wp_seq ?_
  refine wp_region_lit ?_
  refine op_val (v := .int .i64 x1) rfl rfl hF rfl (run_move rfl (hF.ev rfl)) ?_; clear hF; intro a hF
  refine op_val (v := .int .i64 x2) rfl rfl hF rfl (run_move rfl (hF.ev rfl)) ?_; clear hF; intro a hF
  refine op_val (v := .bool (x1 == x2)) rfl rfl hF rfl (run_eql (hF.ev rfl) (hF.ev rfl) rfl) ?_; clear hF; intro a hF
  refine wpList_nil ?_
  cases hc102 : (x1 == x2)
  · replace hM := bif_f hc102 hM
    refine cond_f hF rfl hc102 ?_
    refine wp_skip ?_
    refine wp_seq ?_
    refine wp_region_lit ?_
    refine op_val (v := .slice A0 x0.length c0) rfl rfl hF rfl (run_move rfl (hF.ev rfl)) ?_; clear hF; intro a hF
    refine op_val (v := .int .i64 (x0.length : Int)) rfl rfl hF rfl (run_lenL rfl rfl Tryd.underlying24 (hF.ev rfl)) ?_; clear hF; intro a hF
    refine op_val (v := .int .i64 (x0.length : Int)) rfl rfl hF rfl (run_assign rfl (hF.ev rfl)) ?_; clear hF; intro a hF
    refine wpList_nil ?_
    refine wp_seq ?_
    obtain ⟨hk103, hM⟩ := chk_ex hM
    replace hk103 := slB_t hk103
    obtain ⟨hk104, hM⟩ := chk_ex hM
    replace hk104 := slB_t hk104
    obtain ⟨hk105, hM⟩ := chk_ex hM
    replace hk105 := apB_t hk105
    have hp106 := (S.rc 0 rfl).cap
    have hq107 := del_len (l := x0) (p := x1) (q := x2) rfl (by omega)
    refine region_gw (D := [20, 21, 22, 23, 24, 25, 26, 0]) (Lr := (X)) (deps := (fun | 0 => [20] | 1 => [21] | 2 => [22] | 3 => [23] | 4 => [24] | 5 => [25] | 6 => [26] | 7 => [0] | _ => [])) (rd := (fun _ => [])) (zr := (fun | 2 => [6] | 5 => [6] | _ => []))
      (φ := fun i vs => match i, vs with | 0, [v20] => v20 = .slice A0 x0.length c0 | 1, [v21] => v21 = .int .i64 x1 | 2, [v22] => v22 = .slice (subA c0 ((0 : Int).toNat) 2 A0) ((subL x0 0 x1).length) (c0 - (0 : Int).toNat) | 3, [v23] => v23 = .slice A0 x0.length c0 | 4, [v24] => v24 = .int .i64 x2 | 5, [v25] => v25 = .slice (subA c0 x2.toNat 2 A0) ((subL x0 x2 (x0.length : Int)).length) (c0 - x2.toNat) | 6, [v26] => v26 = .slice A0 (((subL x0 0 x1) ++ (subL x0 x2 (x0.length : Int))).length) c0 | 7, [v0] => v0 = .slice A0 (((subL x0 0 x1) ++ (subL x0 x2 (x0.length : Int))).length) c0 | _, _ => True)
      (C := fun i vs => match i, vs with | 6, [v26] => [.row 48 2 (.slice A0 (((subL x0 0 x1) ++ (subL x0 x2 (x0.length : Int))).length) c0) (((subL x0 0 x1) ++ (subL x0 x2 (x0.length : Int))).length) (((subL x0 0 x1) ++ (subL x0 x2 (x0.length : Int))).flatMap ePermit)] | _, _ => [])
      (κ := (fun _ => none)) (Z := (fun | 6 => [.row 48 2 (.slice A0 x0.length c0) x0.length (x0.flatMap ePermit)] | _ => [])) mixed hF (by kernel_rfl) (show St w0 _ (Asn.row 48 2 (.slice A0 x0.length c0) x0.length (x0.flatMap ePermit) :: X) from S.selT (M := [.row 48 2 (.slice A0 x0.length c0) x0.length (x0.flatMap ePermit)]) 1 [0] rfl rfl rfl) ?_ ?_
    · refine ⟨?_, ?_, ?_, ?_, ?_, ?_, ?_, ?_, trivial⟩
      · intro a u X' hB hu hp hr hz hl S
        replace S : St w0 u ([] ++ X') := S
        exact .inl ⟨rfl, .slice A0 x0.length c0, u, (run_move rfl (hF.evU (hu 7 0 rfl rfl) rfl)), rfl, S⟩
      · intro a u X' hB hu hp hr hz hl S
        replace S : St w0 u ([] ++ X') := S
        exact .inl ⟨rfl, .int .i64 x1, u, (run_move rfl (hF.evB hB rfl rfl)), rfl, S⟩
      · intro a u X' hB hu hp hr hz hl S
        replace S : St w0 u ([] ++ X') := S
        have e20 : sl a 20 = .slice A0 x0.length c0 := hp 0 rfl
        have e21 : sl a 21 = .int .i64 x1 := hp 1 rfl
        exact .inl ⟨rfl, .slice (subA c0 ((0 : Int).toNat) 2 A0) ((subL x0 0 x1).length) (c0 - (0 : Int).toNat), u, (run_sliceH (l := x0) rfl Tryd.underlying24 sz48 (ev_sl e20) (ev_sl e21) hk103 rfl (own_rc (show World.ownsRow _ 0 _ _ _ _ _ from S.mem (List.mem_append_right _ (hz 6 (List.mem_of_getElem? (i := 0) rfl) _ (List.mem_of_getElem? (i := 0) rfl))))).cap), rfl, S⟩
      · intro a u X' hB hu hp hr hz hl S
        replace S : St w0 u ([] ++ X') := S
        exact .inl ⟨rfl, .slice A0 x0.length c0, u, (run_move rfl (hF.evU (hu 7 0 rfl rfl) rfl)), rfl, S⟩
      · intro a u X' hB hu hp hr hz hl S
        replace S : St w0 u ([] ++ X') := S
        exact .inl ⟨rfl, .int .i64 x2, u, (run_move rfl (hF.evB hB rfl rfl)), rfl, S⟩
      · intro a u X' hB hu hp hr hz hl S
        replace S : St w0 u ([] ++ X') := S
        have e23 : sl a 23 = .slice A0 x0.length c0 := hp 3 rfl
        have e24 : sl a 24 = .int .i64 x2 := hp 4 rfl
        exact .inl ⟨rfl, .slice (subA c0 x2.toNat 2 A0) ((subL x0 x2 (x0.length : Int)).length) (c0 - x2.toNat), u, (run_slicefrom (l := x0) rfl Tryd.underlying24 sz48 (ev_sl e23) (ev_sl e24) hk104 rfl (own_rc (show World.ownsRow _ 0 _ _ _ _ _ from S.mem (List.mem_append_right _ (hz 6 (List.mem_of_getElem? (i := 0) rfl) _ (List.mem_of_getElem? (i := 0) rfl))))).cap), rfl, S⟩
      · intro a u X' hB hu hp hr hz hl S
        replace S : St w0 u ([.row 48 2 (.slice A0 x0.length c0) x0.length (x0.flatMap ePermit)] ++ X') := S
        have e22 : sl a 22 = .slice (subA c0 ((0 : Int).toNat) 2 A0) ((subL x0 0 x1).length) (c0 - (0 : Int).toNat) := hp 2 rfl
        have e25 : sl a 25 = .slice (subA c0 x2.toNat 2 A0) ((subL x0 x2 (x0.length : Int)).length) (c0 - x2.toNat) := hp 5 rfl
        obtain ⟨w', hrun, S'⟩ := S.delrow (i := 0) (P := Tryd.prog) (ty := 24) (p := x1) (q := x2) rfl rfl ePermit_len ePermit_one Tryd.underlying24 sz48 (by omega) (by omega) (by omega)
        exact .inl ⟨rfl, _, w', run_append rfl (ev_sl e22) (ev_sl e25) hrun, rfl, S'⟩
      · intro a u X' hB hu hp hr hz hl S
        replace S : St w0 u ([] ++ X') := S
        have e26 : sl a 26 = .slice A0 (((subL x0 0 x1) ++ (subL x0 x2 (x0.length : Int))).length) c0 := hp 6 rfl
        exact .inl ⟨rfl, .slice A0 (((subL x0 0 x1) ++ (subL x0 x2 (x0.length : Int))).length) c0, u, (run_assign rfl (ev_sl e26)), rfl, S⟩
    · intro a u hB hp S
      obtain ⟨q0, q1, q2, q3, q4, q5, q6, q7, _⟩ := hp
      have e20 : sl a 20 = .slice A0 x0.length c0 := q0
      have e21 : sl a 21 = .int .i64 x1 := q1
      have e22 : sl a 22 = .slice (subA c0 ((0 : Int).toNat) 2 A0) ((subL x0 0 x1).length) (c0 - (0 : Int).toNat) := q2
      have e23 : sl a 23 = .slice A0 x0.length c0 := q3
      have e24 : sl a 24 = .int .i64 x2 := q4
      have e25 : sl a 25 = .slice (subA c0 x2.toNat 2 A0) ((subL x0 x2 (x0.length : Int)).length) (c0 - x2.toNat) := q5
      have e26 : sl a 26 = .slice A0 (((subL x0 0 x1) ++ (subL x0 x2 (x0.length : Int))).length) c0 := q6
      have e0 : sl a 0 = .slice A0 (((subL x0 0 x1) ++ (subL x0 x2 (x0.length : Int))).length) c0 := q7
      replace S : St w0 u (Asn.row 48 2 (.slice A0 (((subL x0 0 x1) ++ (subL x0 x2 (x0.length : Int))).length) c0) (((subL x0 0 x1) ++ (subL x0 x2 (x0.length : Int))).length) (((subL x0 0 x1) ++ (subL x0 x2 (x0.length : Int))).flatMap ePermit) :: X) := S
      clear q0 q1 q2 q3 q4 q5 q6 q7
      have hF := hF.region hB [(20, .slice A0 x0.length c0), (21, .int .i64 x1), (22, .slice (subA c0 ((0 : Int).toNat) 2 A0) ((subL x0 0 x1).length) (c0 - (0 : Int).toNat)), (23, .slice A0 x0.length c0), (24, .int .i64 x2), (25, .slice (subA c0 x2.toNat 2 A0) ((subL x0 x2 (x0.length : Int)).length) (c0 - x2.toNat)), (26, .slice A0 (((subL x0 0 x1) ++ (subL x0 x2 (x0.length : Int))).length) c0), (0, .slice A0 (((subL x0 0 x1) ++ (subL x0 x2 (x0.length : Int))).length) c0)] (allSl_mem ⟨e20, e21, e22, e23, e24, e25, e26, e0, trivial⟩) rfl
      clear hB e20 e21 e22 e23 e24 e25 e26 e0
      refine wp_seq ?_
      refine wp_region_lit ?_
      refine op_val (v := .slice A0 (((subL x0 0 x1) ++ (subL x0 x2 (x0.length : Int))).length) c0) rfl rfl hF rfl (run_move rfl (hF.ev rfl)) ?_; clear hF; intro a hF
      refine op_val (v := .slice A0 (((subL x0 0 x1) ++ (subL x0 x2 (x0.length : Int))).length) c0) rfl rfl hF rfl (run_move rfl (hF.ev rfl)) ?_; clear hF; intro a hF
      refine op_val (v := .int .i64 ((((subL x0 0 x1) ++ (subL x0 x2 (x0.length : Int))).length) : Int)) rfl rfl hF rfl (run_lenL rfl rfl Tryd.underlying24 (hF.ev rfl)) ?_; clear hF; intro a hF
      refine op_val (v := .int .i64 (x0.length : Int)) rfl rfl hF rfl (run_move rfl (hF.ev rfl)) ?_; clear hF; intro a hF
      refine op_val (v := .slice (subA c0 (((((subL x0 0 x1) ++ (subL x0 x2 (x0.length : Int))).length) : Int).toNat) 2 A0) ((x0.length : Int).toNat - ((((subL x0 0 x1) ++ (subL x0 x2 (x0.length : Int))).length) : Int).toNat) (c0 - ((((subL x0 0 x1) ++ (subL x0 x2 (x0.length : Int))).length) : Int).toNat)) rfl rfl hF rfl (run_slicebey rfl Tryd.underlying24 sz48 (hF.ev rfl) (hF.ev rfl) (hF.ev rfl) ⟨Int.natCast_nonneg _, Int.ofNat_le.2 hq107, Int.ofNat_le.2 hp106⟩) ?_; clear hF; intro a hF
      obtain ⟨w', hrun, S'⟩ := S.clear (i := 0) (P := Tryd.prog) (hi := (x0.length : Int)) rfl rfl ePermit_len Tryd.underlying24 inf48 rfl rfl ⟨Int.ofNat_le.2 hq107, Int.ofNat_le.2 hp106⟩
      refine op_builtin0 rfl rfl rfl (hF.ev rfl) hrun ?_
      clear S hrun; have S := S'; clear S'; generalize w' = u at S ⊢
      refine wpList_nil ?_
      refine wp_seq ?_
      refine wp_region_lit ?_
      refine op_val (v := .slice A0 (((subL x0 0 x1) ++ (subL x0 x2 (x0.length : Int))).length) c0) rfl rfl hF rfl (run_move rfl (hF.ev rfl)) ?_; clear hF; intro a hF
      refine op_val (v := .slice A0 (((subL x0 0 x1) ++ (subL x0 x2 (x0.length : Int))).length) c0) rfl rfl hF rfl (run_assign rfl (hF.ev rfl)) ?_; clear hF; intro a hF
      refine wpList_nil ?_
      refine wp_ret ?_
      repeat with_reducible (first | refine then_ret ?_ | refine in_ret ?_ | refine in_nrm ?_)
      refine ret1_gw (.inl rfl) hF rfl (res_tmp (hF.ev rfl)) ?_
      obtain rfl := Option.some.inj hM
      exact ⟨A0, (((subL x0 0 x1) ++ (subL x0 x2 (x0.length : Int))).length), c0, rfl, rfl, S.selT (M := [.row 48 2 (.slice A0 (((subL x0 0 x1) ++ (subL x0 x2 (x0.length : Int))).length) c0) (((subL x0 0 x1) ++ (subL x0 x2 (x0.length : Int))).length) (((subL x0 0 x1) ++ (subL x0 x2 (x0.length : Int))).flatMap ePermit)]) 1 [0] rfl rfl rfl⟩
  · replace hM := bif_t hc102 hM
    refine cond_t hF rfl hc102 ?_
    refine wp_seq ?_
    refine wp_region_lit ?_
    refine op_val (v := .slice A0 x0.length c0) rfl rfl hF rfl (run_move rfl (hF.ev rfl)) ?_; clear hF; intro a hF
    refine op_val (v := .slice A0 x0.length c0) rfl rfl hF rfl (run_assign rfl (hF.ev rfl)) ?_; clear hF; intro a hF
    refine wpList_nil ?_
    refine wp_ret ?_
    repeat with_reducible (first | refine then_ret ?_ | refine in_ret ?_ | refine in_nrm ?_)
    refine ret1_gw (.inl rfl) hF rfl (res_tmp (hF.ev rfl)) ?_
    obtain rfl := Option.some.inj hM
    exact ⟨A0, x0.length, c0, rfl, rfl, S.selT (M := [.row 48 2 (.slice A0 x0.length c0) x0.length (x0.flatMap ePermit)]) 1 [0] rfl rfl rfl⟩

set_option maxHeartbeats 4000000 in
theorem c_impl_WorkDo {x0 : List Bool} {x1 : List Bool} {x2 : List (Int × Int)} {x3 : Int} {x4 : Int} {x5 : Int} {A0 : Option Addr} {n0 c0 : Nat} {A1 : Option Addr} {n1 c1 : Nat} {A2 : Option Addr} {n2 c2 : Nat} {w : World} {r : List Bool × List Bool × List (Int × Int) × Bool} (h0 : Rt w 1 eB A0 n0 c0 x0) (h1 : Rt w 1 eB A1 n1 c1 x1) (h2 : Rt w 2 ePermit A2 n2 c2 x2) (hM : m_impl_WorkDo x0 x1 x2 x3 x4 x5 = some r) :
    Calls Tryd.prog 11 #[.agg #[.slice A0 n0 c0, .slice A1 n1 c1, .slice A2 n2 c2], .agg #[.int .i64 x3, .int .i64 x4, .int .i64 x5]] w (fun e w' => ∃ (B0 : Option Addr) (N0 D0 : Nat) (B1 : Option Addr) (N1 D1 : Nat) (B2 : Option Addr) (N2 D2 : Nat), e = .returned (.tuple #[.agg #[.slice B0 N0 D0, .slice B1 N1 D1, .slice B2 N2 D2], .bool r.2.2.2]) ∧ N0 = r.1.length ∧ N1 = r.2.1.length ∧ N2 = r.2.2.1.length ∧ St w w' [.row 4 1 (.slice B0 N0 D0) N0 (r.1.flatMap eB), .row 4 1 (.slice B1 N1 D1) N1 (r.2.1.flatMap eB), .row 48 2 (.slice B2 N2 D2) N2 (r.2.2.1.flatMap ePermit)]) := by
  obtain rfl := h0.len
  obtain rfl := h1.len
  obtain rfl := h2.len
  unfold m_impl_WorkDo at hM
  refine calls_gw Tryd.func11 Tryd.ntmps11 rfl [(0, .agg #[.slice A0 x0.length c0, .slice A1 x1.length c1, .slice A2 x2.length c2]), (1, .agg #[.int .i64 x3, .int .i64 x4, .int .i64 x5])] ⟨rfl, rfl, trivial⟩ rfl ?_
  intro a hF
  have S := St.nil w
  refine wp_seq ?_
  refine wp_region_lit ?_
  refine op_new (cs := #[.slice A0 x0.length c0, .slice A1 x1.length c1, .slice A2 x2.length c2]) rfl rfl hF rfl S (run_box rfl (hF.ev rfl) rfl) ?_; clear hF S; intro a g101 u hF S
  refine op_new (cs := #[.int .i64 x3, .int .i64 x4, .int .i64 x5]) rfl rfl hF rfl S (run_box rfl (hF.ev rfl) rfl) ?_; clear hF S; intro a g102 u hF S
  refine op_new (cs := #[.slice none 0 0, .slice none 0 0, .slice none 0 0]) rfl rfl hF rfl S (run_allocZ rfl zr26) ?_; clear hF S; intro a g103 u hF S
  refine op_val (v := .bool false) rfl rfl hF rfl (run_assign rfl rfl) ?_; clear hF; intro a hF
  refine wpList_nil ?_
  refine wp_seq ?_
  refine wp_seq ?_
  refine wp_region_lit ?_
  refine op_val (v := .agg #[.slice A0 x0.length c0, .slice A1 x1.length c1, .slice A2 x2.length c2]) rfl rfl hF rfl (run_loadN rfl ag26 (hF.ev rfl) rfl ((S.free 2 rfl).cells 0 #[.slice A0 x0.length c0, .slice A1 x1.length c1, .slice A2 x2.length c2] rfl)) ?_; clear hF; intro a hF
  obtain ⟨p104, h104, hM⟩ := bind_ex hM
  refine op_call rfl rfl hF rfl (run_call (vs := [.agg #[.slice A0 x0.length c0, .slice A1 x1.length c1, .slice A2 x2.length c2]]) rfl rfl co17 ⟨(hF.ev rfl), trivial⟩) (c_impl_WorkValid (x0 := x0) (x1 := x1) (x2 := x2) ⟨(S.rc0 h0.rc), rfl⟩ ⟨(S.rc0 h1.rc), rfl⟩ ⟨(S.rc0 h2.rc), rfl⟩ h104) ?_
  rintro e u ⟨rfl, T⟩
  refine ⟨_, rfl, ?_⟩
  clear hF; intro a hF
  replace S := S.call0 T; clear T
  refine op_val (v := .bool (!p104)) rfl rfl hF rfl (run_not rfl (hF.ev rfl)) ?_; clear hF; intro a hF
  refine wpList_nil ?_
  cases hc105 : (p104)
  · replace hM := bif_f hc105 hM
    refine cond_t hF rfl (not_t hc105) ?_
    refine wp_seq ?_
    refine wp_region_lit ?_
    refine op_val (v := .agg #[.slice none 0 0, .slice none 0 0, .slice none 0 0]) rfl rfl hF rfl (run_build (vs := []) rfl trivial (bd26 )) ?_; clear hF; intro a hF
    refine op_do rfl rfl (run_store (cs' := #[.slice none 0 0, .slice none 0 0, .slice none 0 0]) rfl sz26 (hF.ev rfl) (hF.ev rfl) rfl rfl rfl (S.free 0 rfl) rfl rfl) ?_; replace S := S.put 0 rfl (#[.slice none 0 0, .slice none 0 0, .slice none 0 0])
    generalize World.setRow _ _ _ = u at S ⊢
    refine op_val (v := .bool false) rfl rfl hF rfl (run_assign rfl rfl) ?_; clear hF; intro a hF
    refine wpList_nil ?_
    refine wp_ret ?_
    repeat with_reducible (first | refine then_ret ?_ | refine in_ret ?_ | refine in_nrm ?_)
    refine ret2_gw (.inl rfl) hF rfl (res_cell (hF.ev rfl) (res_loadN ag26 rfl (S.cells 0 rfl 0 #[.slice none 0 0, .slice none 0 0, .slice none 0 0] rfl))) (res_tmp (hF.ev rfl)) ?_
    obtain rfl := Option.some.inj hM
    replace S := S.nilrow 4 1
    replace S := S.nilrow 4 1
    replace S := S.nilrow 48 2
    exact ⟨none, 0, 0, none, 0, 0, none, 0, 0, rfl, rfl, rfl, rfl, S.sel [2, 1, 0] rfl rfl⟩
  · replace hM := bif_t hc105 hM
    refine cond_f hF rfl (not_f hc105) ?_
    refine wp_skip ?_
    refine wp_seq ?_
    refine wp_region_lit ?_
    refine op_val (v := .agg #[.slice A0 x0.length c0, .slice A1 x1.length c1, .slice A2 x2.length c2]) rfl rfl hF rfl (run_loadN rfl ag26 (hF.ev rfl) rfl ((S.free 2 rfl).cells 0 #[.slice A0 x0.length c0, .slice A1 x1.length c1, .slice A2 x2.length c2] rfl)) ?_; clear hF; intro a hF
    obtain ⟨p106, h106, hM⟩ := bind_ex hM
    refine op_call rfl rfl hF rfl (run_call (vs := [.agg #[.slice A0 x0.length c0, .slice A1 x1.length c1, .slice A2 x2.length c2]]) rfl rfl co30 ⟨(hF.ev rfl), trivial⟩) (c_impl_Work_clone (x0 := x0) (x1 := x1) (x2 := x2) ⟨(S.rc0 h0.rc), rfl⟩ ⟨(S.rc0 h1.rc), rfl⟩ ⟨(S.rc0 h2.rc), rfl⟩ h106) ?_
    rintro e u ⟨B107, n108, d109, B110, n111, d112, B113, n114, d115, rfl, rfl, rfl, rfl, T⟩
    refine ⟨_, rfl, ?_⟩
    clear hF; intro a hF
    replace S := S.call3 T; clear T
    refine op_new (cs := #[.slice none 0 0, .slice none 0 0, .slice none 0 0]) rfl rfl hF rfl S (run_allocZ rfl zr26) ?_; clear hF S; intro a g116 u hF S
    refine op_do rfl rfl (run_store (cs' := #[.slice B107 p106.1.length d109, .slice B110 p106.2.1.length d112, .slice B113 p106.2.2.length d115]) rfl sz26 (hF.ev rfl) (hF.ev rfl) rfl rfl rfl (S.free 0 rfl) rfl rfl) ?_; replace S := S.put 0 rfl (#[.slice B107 p106.1.length d109, .slice B110 p106.2.1.length d112, .slice B113 p106.2.2.length d115])
    generalize World.setRow _ _ _ = u at S ⊢
    refine wpList_nil ?_
    refine wp_seq ?_
    refine wp_seq ?_
    refine wp_region_lit ?_
    refine op_val (v := .pointer (some ⟨g102, 1, none⟩)) rfl rfl hF rfl (run_fieldAddr rfl fl35_1 (hF.ev rfl) rfl) ?_; clear hF; intro a hF
    refine op_val (v := .int .i64 x4) rfl rfl hF rfl (run_load1 rfl one3 (hF.ev rfl) ((S.free 5 rfl).cell rfl)) ?_; clear hF; intro a hF
    refine op_val (v := .bool (ltB x4 0)) rfl rfl hF rfl (run_lss (hF.ev rfl) rfl rfl) ?_; clear hF; intro a hF
    refine op_val (v := .bool (ltB x4 0)) rfl rfl hF rfl (run_move rfl (hF.ev rfl)) ?_; clear hF; intro a hF
    refine op_gv (v := .pointer (some ⟨g102, 1, none⟩)) rfl rfl hF rfl (yf (gw_yield hF rfl rfl rfl)) (fun hg => (run_fieldAddr rfl fl35_1 (hF.ev rfl) rfl)) ?_; clear hF; intro a hF
    refine op_gv (v := .int .i64 x4) rfl rfl hF rfl (yf (gw_yield hF rfl rfl rfl)) (fun hg => (run_load1 rfl one3 ((hF.ev rfl).trans (gv_t hg)) ((S.free 5 rfl).cell rfl))) ?_; clear hF; intro a hF
    refine op_gv (v := .pointer (some ⟨g101, 0, none⟩)) rfl rfl hF rfl (yf (gw_yield hF rfl rfl rfl)) (fun hg => (run_fieldAddr rfl fl26_0 (hF.ev rfl) rfl)) ?_; clear hF; intro a hF
    refine op_gv (v := .slice A0 x0.length c0) rfl rfl hF rfl (yf (gw_yield hF rfl rfl rfl)) (fun hg => (run_load1 rfl one23 ((hF.ev rfl).trans (gv_t hg)) ((S.free 6 rfl).cell rfl))) ?_; clear hF; intro a hF
    refine op_gv (v := .int .i64 (x0.length : Int)) rfl rfl hF rfl (yf (gw_yield hF rfl rfl rfl)) (fun hg => (run_lenL rfl rfl Tryd.underlying23 ((hF.ev rfl).trans (gv_t hg)))) ?_; clear hF; intro a hF
    refine op_gv (v := .bool (leB (x0.length : Int) x4)) rfl rfl hF rfl (yf (gw_yield hF rfl rfl rfl)) (fun hg => (run_geq ((hF.ev rfl).trans (gv_t hg)) ((hF.ev rfl).trans (gv_t hg)) rfl)) ?_; clear hF; intro a hF
    refine op_val (v := .bool ((ltB x4 0) || (leB (x0.length : Int) x4))) rfl rfl hF rfl (run_pick_or rfl (hF.ev rfl) rfl (fun hp => ((hF.ev rfl).trans (gv_t (not_t hp))))) ?_; clear hF; intro a hF
    refine op_val (v := .bool ((ltB x4 0) || (leB (x0.length : Int) x4))) rfl rfl hF rfl (run_move rfl (hF.ev rfl)) ?_; clear hF; intro a hF
    refine op_gv (v := .agg #[.slice A0 x0.length c0, .slice A1 x1.length c1, .slice A2 x2.length c2]) rfl rfl hF rfl (yf (gw_yield hF rfl rfl rfl)) (fun hg => (run_loadN rfl ag26 (hF.ev rfl) rfl ((S.free 6 rfl).cells 0 #[.slice A0 x0.length c0, .slice A1 x1.length c1, .slice A2 x2.length c2] rfl))) ?_; clear hF; intro a hF
    refine op_gv (v := .agg #[.int .i64 x3, .int .i64 x4, .int .i64 x5]) rfl rfl hF rfl (yf (gw_yield hF rfl rfl rfl)) (fun hg => (run_loadN rfl ag35 (hF.ev rfl) rfl ((S.free 5 rfl).cells 0 #[.int .i64 x3, .int .i64 x4, .int .i64 x5] rfl))) ?_; clear hF; intro a hF
    obtain ⟨p117, h117, hM⟩ := bind_ex hM
    refine op_gcall (v := .bool p117) rfl rfl hF rfl S (yf (gw_yield hF rfl rfl rfl)) (fun hg => (run_call (vs := [.agg #[.slice A0 x0.length c0, .slice A1 x1.length c1, .slice A2 x2.length c2], .agg #[.int .i64 x3, .int .i64 x4, .int .i64 x5]]) rfl rfl co31 ⟨((hF.ev rfl).trans (gv_t hg)), ((hF.ev rfl).trans (gv_t hg)), trivial⟩)) (fun hg => c_impl_Work_may (x0 := x0) (x1 := x1) (x2 := x2) (x3 := x3) (x4 := x4) (x5 := x5) ⟨(S.rc0 h0.rc), rfl⟩ ⟨(S.rc0 h1.rc), rfl⟩ ⟨(S.rc0 h2.rc), rfl⟩ (gb_t h117 hg)) ?_; clear hF S; intro a u hF S
    refine op_gv (v := .bool (!p117)) rfl rfl hF rfl (yf (gw_yield hF rfl rfl rfl)) (fun hg => (run_not rfl ((hF.ev rfl).trans (gv_t hg)))) ?_; clear hF; intro a hF
    refine op_val (v := .bool (((ltB x4 0) || (leB (x0.length : Int) x4)) || (!p117))) rfl rfl hF rfl (run_pick_or rfl (hF.ev rfl) rfl (fun hp => ((hF.ev rfl).trans (gv_t (not_t hp))))) ?_; clear hF; intro a hF
    refine wpList_nil ?_
    cases hc118 : (((ltB x4 0) || (leB (x0.length : Int) x4)) || (!p117))
    · replace hM := bif_f hc118 hM
      refine cond_f hF rfl hc118 ?_
      refine wp_skip ?_
      refine wp_seq ?_
      refine wp_region_lit ?_
      refine op_val (v := .pointer (some ⟨g102, 2, none⟩)) rfl rfl hF rfl (run_fieldAddr rfl fl35_2 (hF.ev rfl) rfl) ?_; clear hF; intro a hF
      refine op_val (v := .int .i64 x5) rfl rfl hF rfl (run_load1 rfl one3 (hF.ev rfl) ((S.free 5 rfl).cell rfl)) ?_; clear hF; intro a hF
      refine op_val (v := .pointer (some ⟨g102, 1, none⟩)) rfl rfl hF rfl (run_fieldAddr rfl fl35_1 (hF.ev rfl) rfl) ?_; clear hF; intro a hF
      refine op_val (v := .int .i64 x4) rfl rfl hF rfl (run_load1 rfl one3 (hF.ev rfl) ((S.free 5 rfl).cell rfl)) ?_; clear hF; intro a hF
      refine op_val (v := .agg #[.int .i64 x5, .int .i64 x4]) rfl rfl hF rfl (run_build (vs := [(0, .int .i64 x5), (1, .int .i64 x4)]) rfl ⟨⟨rfl, (hF.ev rfl)⟩, ⟨rfl, (hF.ev rfl)⟩, trivial⟩ (bd48_0_1 rfl rfl)) ?_; clear hF; intro a hF
      refine op_new (cs := #[.int .i64 0, .int .i64 0]) rfl rfl hF rfl S (run_allocZ rfl zr48) ?_; clear hF S; intro a g119 u hF S
      refine op_do rfl rfl (run_store (cs' := #[.int .i64 x5, .int .i64 x4]) rfl sz48 (hF.ev rfl) (hF.ev rfl) rfl rfl rfl (S.free 0 rfl) rfl rfl) ?_; replace S := S.put 0 rfl (#[.int .i64 x5, .int .i64 x4])
      generalize World.setRow _ _ _ = u at S ⊢
      refine wpList_nil ?_
      refine wp_seq ?_
      refine wp_seq ?_
      refine wp_region_lit ?_
      refine op_val (v := .pointer (some ⟨g102, 0, none⟩)) rfl rfl hF rfl (run_fieldAddr rfl fl35_0 (hF.ev rfl) rfl) ?_; clear hF; intro a hF
      refine op_val (v := .int .i64 x3) rfl rfl hF rfl (run_load1 rfl one3 (hF.ev rfl) ((S.free 6 rfl).cell rfl)) ?_; clear hF; intro a hF
      refine wpList_nil ?_
      refine wp_block ?_
      refine wp_seq ?_
      refine wp_seq ?_
      refine wp_region_lit ?_
      refine op_val (v := .bool (x3 == 0)) rfl rfl hF rfl (run_eql (hF.ev rfl) rfl rfl) ?_; clear hF; intro a hF
      refine op_val (v := .bool (x3 == 0)) rfl rfl hF rfl (run_assign rfl (hF.ev rfl)) ?_; clear hF; intro a hF
      refine wpList_nil ?_
      obtain ⟨o121, hM122, hM⟩ := bind_ex hM
      refine wp_cut (fun a u => ∃ (p120 : Bool), p120 = o121 ∧ Fr a 84 [(3, .pointer (some ⟨g102, 0, none⟩)), (4, .pointer (some ⟨g103, 0, none⟩)), (5, .bool false), (6, .pointer (some ⟨g116, 0, none⟩)), (7, .pointer (some ⟨g119, 0, none⟩)), (39, .int .i64 x3), (40, .bool p120)] ∧ St w u [.box g119 48 #[.int .i64 x5, .int .i64 x4], .box g116 26 #[.slice B107 p106.1.length d109, .slice B110 p106.2.1.length d112, .slice B113 p106.2.2.length d115], .box g103 26 #[.slice none 0 0, .slice none 0 0, .slice none 0 0], .box g102 35 #[.int .i64 x3, .int .i64 x4, .int .i64 x5], .row 4 1 (.slice B107 p106.1.length d109) p106.1.length (p106.1.flatMap eB), .row 4 1 (.slice B110 p106.2.1.length d112) p106.2.1.length (p106.2.1.flatMap eB), .row 48 2 (.slice B113 p106.2.2.length d115) p106.2.2.length (p106.2.2.flatMap ePermit)]) ?_ ?_
      · have _ := trivial
        cases hc123 : (x3 == 0)
        · replace hM122 := bif_f hc123 hM122
          refine cond_f hF rfl hc123 ?_
          refine wp_region_lit ?_
          refine op_val (v := .bool (x3 == 1)) rfl rfl hF rfl (run_eql (hF.ev rfl) rfl rfl) ?_; clear hF; intro a hF
          refine op_val (v := .bool (x3 == 1)) rfl rfl hF rfl (run_assign rfl (hF.ev rfl)) ?_; clear hF; intro a hF
          refine wpList_nil ?_
          obtain rfl := Option.some.inj hM122
          exact ⟨x3 == 1, rfl, hF.keep _ ⟨rfl, rfl, rfl, rfl, rfl, rfl, rfl, trivial⟩, S.sel [0, 1, 5, 6, 2, 3, 4] rfl rfl⟩
        · replace hM122 := bif_t hc123 hM122
          refine cond_t hF rfl hc123 ?_
          refine wp_skip ?_
          obtain rfl := Option.some.inj hM122
          exact ⟨x3 == 0, rfl, hF.keep _ ⟨rfl, rfl, rfl, rfl, rfl, rfl, rfl, trivial⟩, S.sel [0, 1, 5, 6, 2, 3, 4] rfl rfl⟩
      · rintro a u ⟨p120, rfl, hF, S⟩
        obtain ⟨o125, hM130, hM⟩ := bind_ex hM
        refine wp_cut (fun a u => ∃ (p124 : List Bool × List Bool × List (Int × Int)) (B128 : Option Addr) (d129 : Nat), p124 = o125 ∧ p106.1.length = p124.1.length ∧ p106.2.1.length = p124.2.1.length ∧ Fr a 84 [(4, .pointer (some ⟨g103, 0, none⟩)), (5, .bool false), (6, .pointer (some ⟨g116, 0, none⟩))] ∧ St w u [.box g116 26 #[.slice B107 p106.1.length d109, .slice B110 p106.2.1.length d112, .slice B128 p124.2.2.length d129], .box g103 26 #[.slice none 0 0, .slice none 0 0, .slice none 0 0], .row 4 1 (.slice B107 p106.1.length d109) p106.1.length (p124.1.flatMap eB), .row 4 1 (.slice B110 p106.2.1.length d112) p106.2.1.length (p124.2.1.flatMap eB), .row 48 2 (.slice B128 p124.2.2.length d129) p124.2.2.length (p124.2.2.flatMap ePermit)]) ?_ ?_
        · have _ := trivial
          cases hc131 : (p120)
          · replace hM130 := bif_f hc131 hM130
            refine cond_f hF rfl hc131 ?_
            refine wp_seq ?_
            refine wp_seq ?_
            refine wp_region_lit ?_
            refine op_val (v := .bool (x3 == 2)) rfl rfl hF rfl (run_eql (hF.ev rfl) rfl rfl) ?_; clear hF; intro a hF
            refine op_val (v := .bool (x3 == 2)) rfl rfl hF rfl (run_assign rfl (hF.ev rfl)) ?_; clear hF; intro a hF
            refine wpList_nil ?_
            obtain ⟨o133, hM134, hM130⟩ := bind_ex hM130
            refine wp_cut (fun a u => ∃ (p132 : Bool), p132 = o133 ∧ Fr a 84 [(3, .pointer (some ⟨g102, 0, none⟩)), (4, .pointer (some ⟨g103, 0, none⟩)), (5, .bool false), (6, .pointer (some ⟨g116, 0, none⟩)), (7, .pointer (some ⟨g119, 0, none⟩)), (39, .int .i64 x3), (51, .bool p132)] ∧ St w u [.box g119 48 #[.int .i64 x5, .int .i64 x4], .box g116 26 #[.slice B107 p106.1.length d109, .slice B110 p106.2.1.length d112, .slice B113 p106.2.2.length d115], .box g103 26 #[.slice none 0 0, .slice none 0 0, .slice none 0 0], .box g102 35 #[.int .i64 x3, .int .i64 x4, .int .i64 x5], .row 4 1 (.slice B107 p106.1.length d109) p106.1.length (p106.1.flatMap eB), .row 4 1 (.slice B110 p106.2.1.length d112) p106.2.1.length (p106.2.1.flatMap eB), .row 48 2 (.slice B113 p106.2.2.length d115) p106.2.2.length (p106.2.2.flatMap ePermit)]) ?_ ?_
            · have _ := trivial
              cases hc135 : (x3 == 2)
              · replace hM134 := bif_f hc135 hM134
                refine cond_f hF rfl hc135 ?_
                refine wp_region_lit ?_
                refine op_val (v := .bool (x3 == 3)) rfl rfl hF rfl (run_eql (hF.ev rfl) rfl rfl) ?_; clear hF; intro a hF
                refine op_val (v := .bool (x3 == 3)) rfl rfl hF rfl (run_assign rfl (hF.ev rfl)) ?_; clear hF; intro a hF
                refine wpList_nil ?_
                obtain rfl := Option.some.inj hM134
                exact ⟨x3 == 3, rfl, hF.keep _ ⟨rfl, rfl, rfl, rfl, rfl, rfl, rfl, trivial⟩, S.sel [0, 1, 2, 3, 4, 5, 6] rfl rfl⟩
              · replace hM134 := bif_t hc135 hM134
                refine cond_t hF rfl hc135 ?_
                refine wp_skip ?_
                obtain rfl := Option.some.inj hM134
                exact ⟨x3 == 2, rfl, hF.keep _ ⟨rfl, rfl, rfl, rfl, rfl, rfl, rfl, trivial⟩, S.sel [0, 1, 2, 3, 4, 5, 6] rfl rfl⟩
            · rintro a u ⟨p132, rfl, hF, S⟩
              obtain ⟨o137, hM141, hM130⟩ := bind_ex hM130
              refine wp_cut (fun a u => ∃ (p136 : List Bool × List (Int × Int)) (B139 : Option Addr) (d140 : Nat), p136 = o137 ∧ p106.2.1.length = p136.1.length ∧ Fr a 84 [(4, .pointer (some ⟨g103, 0, none⟩)), (5, .bool false), (6, .pointer (some ⟨g116, 0, none⟩))] ∧ St w u [.box g116 26 #[.slice B107 p106.1.length d109, .slice B110 p106.2.1.length d112, .slice B139 p136.2.length d140], .box g103 26 #[.slice none 0 0, .slice none 0 0, .slice none 0 0], .row 4 1 (.slice B107 p106.1.length d109) p106.1.length (p106.1.flatMap eB), .row 4 1 (.slice B110 p106.2.1.length d112) p106.2.1.length (p136.1.flatMap eB), .row 48 2 (.slice B139 p136.2.length d140) p136.2.length (p136.2.flatMap ePermit)]) ?_ ?_
              · have _ := trivial
                cases hc142 : (p132)
                · replace hM141 := bif_f hc142 hM141
                  refine cond_f hF rfl hc142 ?_
                  refine wp_seq ?_
                  refine wp_region_lit ?_
                  refine op_val (v := .bool (x3 == 4)) rfl rfl hF rfl (run_eql (hF.ev rfl) rfl rfl) ?_; clear hF; intro a hF
                  refine op_val (v := .bool (x3 == 4)) rfl rfl hF rfl (run_assign rfl (hF.ev rfl)) ?_; clear hF; intro a hF
                  refine wpList_nil ?_
                  obtain ⟨o144, hM147, hM141⟩ := bind_ex hM141
                  refine wp_cut (fun a u => ∃ (p143 : List (Int × Int)) (B145 : Option Addr) (d146 : Nat), p143 = o144 ∧ Fr a 84 [(4, .pointer (some ⟨g103, 0, none⟩)), (5, .bool false), (6, .pointer (some ⟨g116, 0, none⟩))] ∧ St w u [.box g116 26 #[.slice B107 p106.1.length d109, .slice B110 p106.2.1.length d112, .slice B145 p143.length d146], .box g103 26 #[.slice none 0 0, .slice none 0 0, .slice none 0 0], .row 4 1 (.slice B107 p106.1.length d109) p106.1.length (p106.1.flatMap eB), .row 4 1 (.slice B110 p106.2.1.length d112) p106.2.1.length (p106.2.1.flatMap eB), .row 48 2 (.slice B145 p143.length d146) p143.length (p143.flatMap ePermit)]) ?_ ?_
                  · have _ := trivial
                    cases hc148 : (x3 == 4)
                    · replace hM147 := bif_f hc148 hM147
                      refine cond_f hF rfl hc148 ?_
                      refine wp_seq ?_
                      refine wp_region_lit ?_
                      refine op_val (v := .bool (x3 == 5)) rfl rfl hF rfl (run_eql (hF.ev rfl) rfl rfl) ?_; clear hF; intro a hF
                      refine op_val (v := .bool (x3 == 5)) rfl rfl hF rfl (run_assign rfl (hF.ev rfl)) ?_; clear hF; intro a hF
                      refine wpList_nil ?_
                      obtain ⟨o150, hM153, hM147⟩ := bind_ex hM147
                      refine wp_cut (fun a u => ∃ (p149 : List (Int × Int)) (B151 : Option Addr) (d152 : Nat), p149 = o150 ∧ Fr a 84 [(4, .pointer (some ⟨g103, 0, none⟩)), (5, .bool false), (6, .pointer (some ⟨g116, 0, none⟩))] ∧ St w u [.box g116 26 #[.slice B107 p106.1.length d109, .slice B110 p106.2.1.length d112, .slice B151 p149.length d152], .box g103 26 #[.slice none 0 0, .slice none 0 0, .slice none 0 0], .row 4 1 (.slice B107 p106.1.length d109) p106.1.length (p106.1.flatMap eB), .row 4 1 (.slice B110 p106.2.1.length d112) p106.2.1.length (p106.2.1.flatMap eB), .row 48 2 (.slice B151 p149.length d152) p149.length (p149.flatMap ePermit)]) ?_ ?_
                      · have _ := trivial
                        cases hc154 : (x3 == 5)
                        · replace hM153 := bif_f hc154 hM153
                          refine cond_f hF rfl hc154 ?_
                          refine wp_skip ?_
                          obtain rfl := Option.some.inj hM153
                          exact ⟨p106.2.2, B113, d115, rfl, hF.keep _ ⟨rfl, rfl, rfl, trivial⟩, S.sel [1, 2, 4, 5, 6] rfl rfl⟩
                        · replace hM153 := bif_t hc154 hM153
                          refine cond_t hF rfl hc154 ?_
                          refine wp_seq ?_
                          refine wp_region_lit ?_
                          refine op_val (v := .pointer (some ⟨g116, 2, none⟩)) rfl rfl hF rfl (run_fieldAddr rfl fl26_2 (hF.ev rfl) rfl) ?_; clear hF; intro a hF
                          refine op_val (v := .slice B113 p106.2.2.length d115) rfl rfl hF rfl (run_load1 rfl one24 (hF.ev rfl) ((S.free 1 rfl).cell rfl)) ?_; clear hF; intro a hF
                          refine op_val (v := .agg #[.int .i64 x5, .int .i64 x4]) rfl rfl hF rfl (run_loadN rfl ag48 (hF.ev rfl) rfl ((S.free 0 rfl).cells 0 #[.int .i64 x5, .int .i64 x4] rfl)) ?_; clear hF; intro a hF
                          obtain ⟨p155, h155, hM153⟩ := bind_ex hM153
                          refine op_call rfl rfl hF rfl (run_call (vs := [.slice B113 p106.2.2.length d115, .agg #[.int .i64 x5, .int .i64 x4]]) rfl rfl co32 ⟨(hF.ev rfl), (hF.ev rfl), trivial⟩) (c_slices_Index_impl_Permit_impl_Permit (x0 := p106.2.2) (x1 := x5) (x2 := x4) ⟨(S.rc 6 rfl), rfl⟩ h155) ?_
                          rintro e u ⟨rfl, T⟩
                          refine ⟨_, rfl, ?_⟩
                          clear hF; intro a hF
                          replace S := S.call0 T; clear T
                          refine op_val (v := .int .i64 p155) rfl rfl hF rfl (run_assign rfl (hF.ev rfl)) ?_; clear hF; intro a hF
                          refine wpList_nil ?_
                          refine wp_region_lit ?_
                          refine op_val (v := .pointer (some ⟨g116, 2, none⟩)) rfl rfl hF rfl (run_fieldAddr rfl fl26_2 (hF.ev rfl) rfl) ?_; clear hF; intro a hF
                          refine op_val (v := .slice B113 p106.2.2.length d115) rfl rfl hF rfl (run_load1 rfl one24 (hF.ev rfl) ((S.free 1 rfl).cell rfl)) ?_; clear hF; intro a hF
                          refine op_val (v := .int .i64 p155) rfl rfl hF rfl (run_move rfl (hF.ev rfl)) ?_; clear hF; intro a hF
                          refine op_val (v := .int .i64 p155) rfl rfl hF rfl (run_move rfl (hF.ev rfl)) ?_; clear hF; intro a hF
                          refine op_val (v := .int .i64 (w64 (p155 + 1))) rfl rfl hF rfl (run_add (z := w64 (p155 + 1)) (hF.ev rfl) rfl rfl rfl) ?_; clear hF; intro a hF
                          obtain ⟨p156, h156, hM153⟩ := bind_ex hM153
                          refine op_call rfl rfl hF rfl (run_call (vs := [.slice B113 p106.2.2.length d115, .int .i64 p155, .int .i64 (w64 (p155 + 1))]) rfl rfl co33 ⟨(hF.ev rfl), (hF.ev rfl), (hF.ev rfl), trivial⟩) (c_slices_Delete_impl_Permit_impl_Permit (x0 := p106.2.2) (x1 := p155) (x2 := w64 (p155 + 1)) rfl (show St w _ [.row 48 2 (.slice B113 p106.2.2.length d115) p106.2.2.length (p106.2.2.flatMap ePermit), .box g119 48 #[.int .i64 x5, .int .i64 x4], .box g116 26 #[.slice B107 p106.1.length d109, .slice B110 p106.2.1.length d112, .slice B113 p106.2.2.length d115], .box g103 26 #[.slice none 0 0, .slice none 0 0, .slice none 0 0], .box g102 35 #[.int .i64 x3, .int .i64 x4, .int .i64 x5], .row 4 1 (.slice B107 p106.1.length d109) p106.1.length (p106.1.flatMap eB), .row 4 1 (.slice B110 p106.2.1.length d112) p106.2.1.length (p106.2.1.flatMap eB)] from S.sel [6, 0, 1, 2, 3, 4, 5] rfl rfl) h156) ?_
                          rintro e u ⟨B157, n158, d159, rfl, rfl, T⟩
                          refine ⟨_, rfl, ?_⟩
                          clear hF; intro a hF
                          clear S; have S := T; clear T
                          refine op_val (v := .pointer (some ⟨g116, 2, none⟩)) rfl rfl hF rfl (run_fieldAddr rfl fl26_2 (hF.ev rfl) rfl) ?_; clear hF; intro a hF
                          refine op_do rfl rfl (run_store (cs' := #[.slice B107 p106.1.length d109, .slice B110 p106.2.1.length d112, .slice B157 p156.length d159]) rfl sz24 (hF.ev rfl) (hF.ev rfl) rfl rfl rfl (S.free 2 rfl) rfl rfl) ?_; replace S := S.put 2 rfl (#[.slice B107 p106.1.length d109, .slice B110 p106.2.1.length d112, .slice B157 p156.length d159])
                          generalize World.setRow _ _ _ = u at S ⊢
                          refine wpList_nil ?_
                          obtain rfl := Option.some.inj hM153
                          exact ⟨p156, B157, d159, rfl, hF.keep _ ⟨rfl, rfl, rfl, trivial⟩, S.sel [2, 3, 5, 6, 0] rfl rfl⟩
                      · rintro a u ⟨p149, B151, d152, rfl, hF, S⟩
                        obtain rfl := Option.some.inj hM147
                        exact ⟨p149, B151, d152, rfl, hF.keep _ ⟨rfl, rfl, rfl, trivial⟩, S.sel [0, 1, 2, 3, 4] rfl rfl⟩
                    · replace hM147 := bif_t hc148 hM147
                      refine cond_t hF rfl hc148 ?_
                      refine wp_region_lit ?_
                      refine op_val (v := .pointer (some ⟨g116, 2, none⟩)) rfl rfl hF rfl (run_fieldAddr rfl fl26_2 (hF.ev rfl) rfl) ?_; clear hF; intro a hF
                      refine op_val (v := .slice B113 p106.2.2.length d115) rfl rfl hF rfl (run_load1 rfl one24 (hF.ev rfl) ((S.free 1 rfl).cell rfl)) ?_; clear hF; intro a hF
                      refine op_val (v := .agg #[.int .i64 x5, .int .i64 x4]) rfl rfl hF rfl (run_loadN rfl ag48 (hF.ev rfl) rfl ((S.free 0 rfl).cells 0 #[.int .i64 x5, .int .i64 x4] rfl)) ?_; clear hF; intro a hF
                      refine op_newrowL (ls := (([(x5, x4)] : List (Int × Int)) : List (Int × Int))) (e := ePermit) rfl rfl hF rfl S (run_buildS (vs := [(0, .agg #[.int .i64 x5, .int .i64 x4])]) rfl ⟨⟨rfl, (hF.ev rfl)⟩, trivial⟩ (bs24_1_2 )) rfl ePermit_len (Nat.le_of_ble_eq_true rfl) ?_; clear hF S; intro a g160 u hF S
                      obtain ⟨hk163, hM147⟩ := chk_ex hM147
                      replace hk163 := apB_t hk163
                      refine op_appendL (lx := p106.2.2) (ly := ([(x5, x4)] : List (Int × Int))) rfl rfl hF rfl S rfl (hF.ev rfl) (hF.ev rfl) (i := 7) rfl rfl Tryd.underlying24 inf48 rfl (by decide) (S.rc 0 rfl).rd rfl ePermit_one hk163 (by decide) ?_; clear hF S; intro a B161 d162 u hF S
                      refine op_val (v := .pointer (some ⟨g116, 2, none⟩)) rfl rfl hF rfl (run_fieldAddr rfl fl26_2 (hF.ev rfl) rfl) ?_; clear hF; intro a hF
                      refine op_do rfl rfl (run_store (cs' := #[.slice B107 p106.1.length d109, .slice B110 p106.2.1.length d112, .slice B161 ((p106.2.2 ++ ([(x5, x4)] : List (Int × Int))).length) d162]) rfl sz24 (hF.ev rfl) (hF.ev rfl) rfl rfl rfl (S.free 2 rfl) rfl rfl) ?_; replace S := S.put 2 rfl (#[.slice B107 p106.1.length d109, .slice B110 p106.2.1.length d112, .slice B161 ((p106.2.2 ++ ([(x5, x4)] : List (Int × Int))).length) d162])
                      generalize World.setRow _ _ _ = u at S ⊢
                      refine wpList_nil ?_
                      obtain rfl := Option.some.inj hM147
                      exact ⟨p106.2.2 ++ ([(x5, x4)] : List (Int × Int)), B161, d162, rfl, hF.keep _ ⟨rfl, rfl, rfl, trivial⟩, S.sel [2, 3, 5, 6, 7] rfl rfl⟩
                  · rintro a u ⟨p143, B145, d146, rfl, hF, S⟩
                    obtain rfl := Option.some.inj hM141
                    exact ⟨(p106.2.1, p143), B145, d146, rfl, rfl, hF.keep _ ⟨rfl, rfl, rfl, trivial⟩, S.sel [0, 1, 2, 3, 4] rfl rfl⟩
                · replace hM141 := bif_t hc142 hM141
                  refine cond_t hF rfl hc142 ?_
                  refine wp_region_lit ?_
                  refine op_val (v := .pointer (some ⟨g116, 1, none⟩)) rfl rfl hF rfl (run_fieldAddr rfl fl26_1 (hF.ev rfl) rfl) ?_; clear hF; intro a hF
                  refine op_val (v := .slice B110 p106.2.1.length d112) rfl rfl hF rfl (run_load1 rfl one23 (hF.ev rfl) ((S.free 1 rfl).cell rfl)) ?_; clear hF; intro a hF
                  refine op_val (v := .pointer (some ⟨g102, 1, none⟩)) rfl rfl hF rfl (run_fieldAddr rfl fl35_1 (hF.ev rfl) rfl) ?_; clear hF; intro a hF
                  refine op_val (v := .int .i64 x4) rfl rfl hF rfl (run_load1 rfl one3 (hF.ev rfl) ((S.free 3 rfl).cell rfl)) ?_; clear hF; intro a hF
                  refine op_val (v := .pointer (some ⟨g102, 0, none⟩)) rfl rfl hF rfl (run_fieldAddr rfl fl35_0 (hF.ev rfl) rfl) ?_; clear hF; intro a hF
                  refine op_val (v := .int .i64 x3) rfl rfl hF rfl (run_load1 rfl one3 (hF.ev rfl) ((S.free 3 rfl).cell rfl)) ?_; clear hF; intro a hF
                  refine op_val (v := .bool (x3 == 2)) rfl rfl hF rfl (run_eql (hF.ev rfl) rfl rfl) ?_; clear hF; intro a hF
                  obtain ⟨hk164, hM141⟩ := chk_ex hM141
                  replace hk164 := ixB_t hk164
                  refine op_val (v := .pointer (some ⟨adB B110, adO B110 + x4.toNat * 1, none⟩)) rfl rfl hF rfl (run_indexAddr (b := adB B110) (off := adO B110) rfl Tryd.underlying23 sz4 ((hF.ev rfl).trans (congrArg (fun A => Value.slice A p106.2.1.length d112) ((S.rc 5 rfl).rd.ad (ix_pos hk164)))) (hF.ev rfl) hk164.1 hk164.2 (k' := adO B110 + x4.toNat * 1) rfl) ?_; clear hF; intro a hF
                  obtain ⟨w', hrun, S'⟩ := run_storeElN (P := Tryd.prog) (ρ := a.eval) (y0 := x3 == 2) (off := 0) S 4 (.tmp 61) (.tmp 60) (i := 5) sz4 (hF.ev rfl) (hF.ev rfl) rfl rfl rfl rfl rfl eB_len false (ix_ltn hk164 rfl) rfl rfl
                  refine op_do rfl rfl (hrun _ rfl) ?_; clear hrun S; have S := S'; clear S'; generalize w' = u at S ⊢
                  refine wpList_nil ?_
                  obtain rfl := Option.some.inj hM141
                  exact ⟨(p106.2.1.set x4.toNat (x3 == 2), p106.2.2), B113, d115, rfl, (len_set rfl), hF.keep _ ⟨rfl, rfl, rfl, trivial⟩, S.sel [1, 2, 4, 5, 6] rfl rfl⟩
              · rintro a u ⟨p136, B139, d140, rfl, hn138, hF, S⟩
                obtain rfl := Option.some.inj hM130
                exact ⟨(p106.1, p136.1, p136.2), B139, d140, rfl, rfl, hn138, hF.keep _ ⟨rfl, rfl, rfl, trivial⟩, S.sel [0, 1, 2, 3, 4] rfl rfl⟩
          · replace hM130 := bif_t hc131 hM130
            refine cond_t hF rfl hc131 ?_
            refine wp_region_lit ?_
            refine op_val (v := .pointer (some ⟨g116, 0, none⟩)) rfl rfl hF rfl (run_fieldAddr rfl fl26_0 (hF.ev rfl) rfl) ?_; clear hF; intro a hF
            refine op_val (v := .slice B107 p106.1.length d109) rfl rfl hF rfl (run_load1 rfl one23 (hF.ev rfl) ((S.free 1 rfl).cell rfl)) ?_; clear hF; intro a hF
            refine op_val (v := .pointer (some ⟨g102, 1, none⟩)) rfl rfl hF rfl (run_fieldAddr rfl fl35_1 (hF.ev rfl) rfl) ?_; clear hF; intro a hF
            refine op_val (v := .int .i64 x4) rfl rfl hF rfl (run_load1 rfl one3 (hF.ev rfl) ((S.free 3 rfl).cell rfl)) ?_; clear hF; intro a hF
            refine op_val (v := .pointer (some ⟨g102, 0, none⟩)) rfl rfl hF rfl (run_fieldAddr rfl fl35_0 (hF.ev rfl) rfl) ?_; clear hF; intro a hF
            refine op_val (v := .int .i64 x3) rfl rfl hF rfl (run_load1 rfl one3 (hF.ev rfl) ((S.free 3 rfl).cell rfl)) ?_; clear hF; intro a hF
            refine op_val (v := .bool (x3 == 0)) rfl rfl hF rfl (run_eql (hF.ev rfl) rfl rfl) ?_; clear hF; intro a hF
            obtain ⟨hk165, hM130⟩ := chk_ex hM130
            replace hk165 := ixB_t hk165
            refine op_val (v := .pointer (some ⟨adB B107, adO B107 + x4.toNat * 1, none⟩)) rfl rfl hF rfl (run_indexAddr (b := adB B107) (off := adO B107) rfl Tryd.underlying23 sz4 ((hF.ev rfl).trans (congrArg (fun A => Value.slice A p106.1.length d109) ((S.rc 4 rfl).rd.ad (ix_pos hk165)))) (hF.ev rfl) hk165.1 hk165.2 (k' := adO B107 + x4.toNat * 1) rfl) ?_; clear hF; intro a hF
            obtain ⟨w', hrun, S'⟩ := run_storeElN (P := Tryd.prog) (ρ := a.eval) (y0 := x3 == 0) (off := 0) S 4 (.tmp 50) (.tmp 49) (i := 4) sz4 (hF.ev rfl) (hF.ev rfl) rfl rfl rfl rfl rfl eB_len false (ix_ltn hk165 rfl) rfl rfl
            refine op_do rfl rfl (hrun _ rfl) ?_; clear hrun S; have S := S'; clear S'; generalize w' = u at S ⊢
            refine wpList_nil ?_
            obtain rfl := Option.some.inj hM130
            exact ⟨(p106.1.set x4.toNat (x3 == 0), p106.2.1, p106.2.2), B113, d115, rfl, (len_set rfl), rfl, hF.keep _ ⟨rfl, rfl, rfl, trivial⟩, S.sel [1, 2, 4, 5, 6] rfl rfl⟩
        · rintro a u ⟨p124, B128, d129, rfl, hn126, hn127, hF, S⟩
          refine wp_seq ?_
          refine wp_region_lit ?_
          refine op_val (v := .agg #[.slice B107 p106.1.length d109, .slice B110 p106.2.1.length d112, .slice B128 p124.2.2.length d129]) rfl rfl hF rfl (run_loadN rfl ag26 (hF.ev rfl) rfl ((S.free 0 rfl).cells 0 #[.slice B107 p106.1.length d109, .slice B110 p106.2.1.length d112, .slice B128 p124.2.2.length d129] rfl)) ?_; clear hF; intro a hF
          refine op_do rfl rfl (run_store (cs' := #[.slice B107 p106.1.length d109, .slice B110 p106.2.1.length d112, .slice B128 p124.2.2.length d129]) rfl sz26 (hF.ev rfl) (hF.ev rfl) rfl rfl rfl (S.free 1 rfl) rfl rfl) ?_; replace S := S.put 1 rfl (#[.slice B107 p106.1.length d109, .slice B110 p106.2.1.length d112, .slice B128 p124.2.2.length d129])
          generalize World.setRow _ _ _ = u at S ⊢
          refine op_val (v := .bool true) rfl rfl hF rfl (run_assign rfl rfl) ?_; clear hF; intro a hF
          refine wpList_nil ?_
          refine wp_ret ?_
          repeat with_reducible (first | refine then_ret ?_ | refine in_ret ?_ | refine in_nrm ?_)
          refine ret2_gw (.inl rfl) hF rfl (res_cell (hF.ev rfl) (res_loadN ag26 rfl (S.cells 1 rfl 0 #[.slice B107 p106.1.length d109, .slice B110 p106.2.1.length d112, .slice B128 p124.2.2.length d129] rfl))) (res_tmp (hF.ev rfl)) ?_
          obtain rfl := Option.some.inj hM
          exact ⟨B107, p106.1.length, d109, B110, p106.2.1.length, d112, B128, p124.2.2.length, d129, rfl, hn126, hn127, rfl, S.sel [2, 3, 4] rfl rfl⟩
    · replace hM := bif_t hc118 hM
      refine cond_t hF rfl hc118 ?_
      refine wp_seq ?_
      refine wp_region_lit ?_
      refine op_val (v := .agg #[.slice B107 p106.1.length d109, .slice B110 p106.2.1.length d112, .slice B113 p106.2.2.length d115]) rfl rfl hF rfl (run_loadN rfl ag26 (hF.ev rfl) rfl ((S.free 0 rfl).cells 0 #[.slice B107 p106.1.length d109, .slice B110 p106.2.1.length d112, .slice B113 p106.2.2.length d115] rfl)) ?_; clear hF; intro a hF
      refine op_do rfl rfl (run_store (cs' := #[.slice B107 p106.1.length d109, .slice B110 p106.2.1.length d112, .slice B113 p106.2.2.length d115]) rfl sz26 (hF.ev rfl) (hF.ev rfl) rfl rfl rfl (S.free 4 rfl) rfl rfl) ?_; replace S := S.put 4 rfl (#[.slice B107 p106.1.length d109, .slice B110 p106.2.1.length d112, .slice B113 p106.2.2.length d115])
      generalize World.setRow _ _ _ = u at S ⊢
      refine op_val (v := .bool false) rfl rfl hF rfl (run_assign rfl rfl) ?_; clear hF; intro a hF
      refine wpList_nil ?_
      refine wp_ret ?_
      repeat with_reducible (first | refine then_ret ?_ | refine in_ret ?_ | refine in_nrm ?_)
      refine ret2_gw (.inl rfl) hF rfl (res_cell (hF.ev rfl) (res_loadN ag26 rfl (S.cells 4 rfl 0 #[.slice B107 p106.1.length d109, .slice B110 p106.2.1.length d112, .slice B113 p106.2.2.length d115] rfl))) (res_tmp (hF.ev rfl)) ?_
      obtain rfl := Option.some.inj hM
      exact ⟨B107, p106.1.length, d109, B110, p106.2.1.length, d112, B113, p106.2.2.length, d115, rfl, rfl, rfl, rfl, S.sel [1, 2, 3] rfl rfl⟩

set_option maxHeartbeats 4000000 in
theorem c_impl_Net_hasLine {x0 : Int} {x1 : List (Int × Int × Int)} {x2 : Int} {A1 : Option Addr} {n1 c1 : Nat} {w : World} {r : Bool} (h1 : Rt w 3 eLine A1 n1 c1 x1) (hM : m_impl_Net_hasLine x0 x1 x2 = some r) :
    Calls Tryd.prog 50 #[.agg #[.int .i64 x0, .slice A1 n1 c1], .int .i64 x2] w (fun e w' => e = .returned (.bool r) ∧ St w w' []) := by
  obtain rfl := h1.len
  unfold m_impl_Net_hasLine at hM
  refine calls_gw Tryd.func50 Tryd.ntmps50 rfl [(0, .agg #[.int .i64 x0, .slice A1 x1.length c1]), (1, .int .i64 x2)] ⟨rfl, rfl, trivial⟩ rfl ?_
  intro a hF
  have S := St.nil w
  refine wp_seq ?_
  refine wp_region_lit ?_
  refine op_new (cs := #[.int .i64 x0, .slice A1 x1.length c1]) rfl rfl hF rfl S (run_box rfl (hF.ev rfl) rfl) ?_; clear hF S; intro a g101 u hF S
  refine op_val (v := .bool false) rfl rfl hF rfl (run_assign rfl rfl) ?_; clear hF; intro a hF
  refine wpList_nil ?_
  refine wp_seq ?_
  refine wp_region_lit ?_
  refine op_val (v := .int .i64 x2) rfl rfl hF rfl (run_move rfl (hF.ev rfl)) ?_; clear hF; intro a hF
  refine op_val (v := .bool (leB 0 x2)) rfl rfl hF rfl (run_geq (hF.ev rfl) rfl rfl) ?_; clear hF; intro a hF
  refine op_val (v := .bool (leB 0 x2)) rfl rfl hF rfl (run_move rfl (hF.ev rfl)) ?_; clear hF; intro a hF
  refine op_gv (v := .int .i64 x2) rfl rfl hF rfl (yt (gw_yield hF rfl rfl rfl)) (fun hg => (run_move rfl (hF.ev rfl))) ?_; clear hF; intro a hF
  refine op_gv (v := .pointer (some ⟨g101, 1, none⟩)) rfl rfl hF rfl (yt (gw_yield hF rfl rfl rfl)) (fun hg => (run_fieldAddr rfl fl66_1 (hF.ev rfl) rfl)) ?_; clear hF; intro a hF
  refine op_gv (v := .slice A1 x1.length c1) rfl rfl hF rfl (yt (gw_yield hF rfl rfl rfl)) (fun hg => (run_load1 rfl one64 ((hF.ev rfl).trans (gv_t hg)) ((S.free 0 rfl).cell rfl))) ?_; clear hF; intro a hF
  refine op_gv (v := .int .i64 (x1.length : Int)) rfl rfl hF rfl (yt (gw_yield hF rfl rfl rfl)) (fun hg => (run_lenL rfl rfl Tryd.underlying64 ((hF.ev rfl).trans (gv_t hg)))) ?_; clear hF; intro a hF
  refine op_gv (v := .bool (ltB x2 (x1.length : Int))) rfl rfl hF rfl (yt (gw_yield hF rfl rfl rfl)) (fun hg => (run_lss ((hF.ev rfl).trans (gv_t hg)) ((hF.ev rfl).trans (gv_t hg)) rfl)) ?_; clear hF; intro a hF
  refine op_val (v := .bool ((leB 0 x2) && (ltB x2 (x1.length : Int)))) rfl rfl hF rfl (run_pick_and rfl (hF.ev rfl) (fun hp => ((hF.ev rfl).trans (gv_t hp))) rfl) ?_; clear hF; intro a hF
  refine op_val (v := .bool ((leB 0 x2) && (ltB x2 (x1.length : Int)))) rfl rfl hF rfl (run_assign rfl (hF.ev rfl)) ?_; clear hF; intro a hF
  refine wpList_nil ?_
  refine wp_ret ?_
  repeat with_reducible (first | refine then_ret ?_ | refine in_ret ?_ | refine in_nrm ?_)
  refine ret1_gw (.inl rfl) hF rfl (res_tmp (hF.ev rfl)) ?_
  obtain rfl := Option.some.inj hM
  exact ⟨rfl, S.sel [] rfl rfl⟩

set_option maxHeartbeats 4000000 in
theorem c_impl_Line_other {x0 : Int} {x1 : Int} {x2 : Int} {x3 : Int} {w : World} {r : Int}  (hM : m_impl_Line_other x0 x1 x2 x3 = some r) :
    Calls Tryd.prog 51 #[.agg #[.int .i64 x0, .int .i64 x1, .int .i64 x2], .int .i64 x3] w (fun e w' => e = .returned (.int .i64 r) ∧ St w w' []) := by
  unfold m_impl_Line_other at hM
  refine calls_gw Tryd.func51 Tryd.ntmps51 rfl [(0, .agg #[.int .i64 x0, .int .i64 x1, .int .i64 x2]), (1, .int .i64 x3)] ⟨rfl, rfl, trivial⟩ rfl ?_
  intro a hF
  have S := St.nil w
  refine wp_seq ?_
  refine wp_region_lit ?_
  refine op_new (cs := #[.int .i64 x0, .int .i64 x1, .int .i64 x2]) rfl rfl hF rfl S (run_box rfl (hF.ev rfl) rfl) ?_; clear hF S; intro a g101 u hF S
  refine op_val (v := .int .i64 0) rfl rfl hF rfl (run_assign rfl rfl) ?_; clear hF; intro a hF
  refine wpList_nil ?_
  refine wp_seq ?_
  refine wp_seq ?_
  refine wp_region_lit ?_
  refine op_val (v := .int .i64 x3) rfl rfl hF rfl (run_move rfl (hF.ev rfl)) ?_; clear hF; intro a hF
  refine wpList_nil ?_
  refine wp_block ?_
  refine wp_seq ?_
  refine wp_region_lit ?_
  refine op_val (v := .pointer (some ⟨g101, 0, none⟩)) rfl rfl hF rfl (run_fieldAddr rfl fl63_0 (hF.ev rfl) rfl) ?_; clear hF; intro a hF
  refine op_val (v := .int .i64 x0) rfl rfl hF rfl (run_load1 rfl one3 (hF.ev rfl) ((S.free 0 rfl).cell rfl)) ?_; clear hF; intro a hF
  refine op_val (v := .bool (x3 == x0)) rfl rfl hF rfl (run_eql (hF.ev rfl) (hF.ev rfl) rfl) ?_; clear hF; intro a hF
  refine op_val (v := .bool (x3 == x0)) rfl rfl hF rfl (run_assign rfl (hF.ev rfl)) ?_; clear hF; intro a hF
  refine wpList_nil ?_
  cases hc102 : (x3 == x0)
  · replace hM := bif_f hc102 hM
    refine cond_f hF rfl hc102 ?_
    refine wp_seq ?_
    refine wp_region_lit ?_
    refine op_val (v := .pointer (some ⟨g101, 1, none⟩)) rfl rfl hF rfl (run_fieldAddr rfl fl63_1 (hF.ev rfl) rfl) ?_; clear hF; intro a hF
    refine op_val (v := .int .i64 x1) rfl rfl hF rfl (run_load1 rfl one3 (hF.ev rfl) ((S.free 0 rfl).cell rfl)) ?_; clear hF; intro a hF
    refine op_val (v := .bool (x3 == x1)) rfl rfl hF rfl (run_eql (hF.ev rfl) (hF.ev rfl) rfl) ?_; clear hF; intro a hF
    refine op_val (v := .bool (x3 == x1)) rfl rfl hF rfl (run_assign rfl (hF.ev rfl)) ?_; clear hF; intro a hF
    refine wpList_nil ?_
    cases hc103 : (x3 == x1)
    · replace hM := bif_f hc103 hM
      refine cond_f hF rfl hc103 ?_
      refine wp_skip ?_
      refine wp_seq ?_
      refine wp_region_lit ?_
      refine op_val (v := .int .i64 (-1)) rfl rfl hF rfl (run_assign rfl rfl) ?_; clear hF; intro a hF
      refine wpList_nil ?_
      refine wp_ret ?_
      repeat with_reducible (first | refine then_ret ?_ | refine in_ret ?_ | refine in_nrm ?_)
      refine ret1_gw (.inl rfl) hF rfl (res_tmp (hF.ev rfl)) ?_
      obtain rfl := Option.some.inj hM
      exact ⟨rfl, S.sel [] rfl rfl⟩
    · replace hM := bif_t hc103 hM
      refine cond_t hF rfl hc103 ?_
      refine wp_seq ?_
      refine wp_region_lit ?_
      refine op_val (v := .pointer (some ⟨g101, 0, none⟩)) rfl rfl hF rfl (run_fieldAddr rfl fl63_0 (hF.ev rfl) rfl) ?_; clear hF; intro a hF
      refine op_val (v := .int .i64 x0) rfl rfl hF rfl (run_load1 rfl one3 (hF.ev rfl) ((S.free 0 rfl).cell rfl)) ?_; clear hF; intro a hF
      refine op_val (v := .int .i64 x0) rfl rfl hF rfl (run_assign rfl (hF.ev rfl)) ?_; clear hF; intro a hF
      refine wpList_nil ?_
      refine wp_ret ?_
      repeat with_reducible (first | refine then_ret ?_ | refine in_ret ?_ | refine in_nrm ?_)
      refine ret1_gw (.inl rfl) hF rfl (res_tmp (hF.ev rfl)) ?_
      obtain rfl := Option.some.inj hM
      exact ⟨rfl, S.sel [] rfl rfl⟩
  · replace hM := bif_t hc102 hM
    refine cond_t hF rfl hc102 ?_
    refine wp_seq ?_
    refine wp_region_lit ?_
    refine op_val (v := .pointer (some ⟨g101, 1, none⟩)) rfl rfl hF rfl (run_fieldAddr rfl fl63_1 (hF.ev rfl) rfl) ?_; clear hF; intro a hF
    refine op_val (v := .int .i64 x1) rfl rfl hF rfl (run_load1 rfl one3 (hF.ev rfl) ((S.free 0 rfl).cell rfl)) ?_; clear hF; intro a hF
    refine op_val (v := .int .i64 x1) rfl rfl hF rfl (run_assign rfl (hF.ev rfl)) ?_; clear hF; intro a hF
    refine wpList_nil ?_
    refine wp_ret ?_
    repeat with_reducible (first | refine then_ret ?_ | refine in_ret ?_ | refine in_nrm ?_)
    refine ret1_gw (.inl rfl) hF rfl (res_tmp (hF.ev rfl)) ?_
    obtain rfl := Option.some.inj hM
    exact ⟨rfl, S.sel [] rfl rfl⟩

set_option maxHeartbeats 4000000 in
theorem c_impl_OtherEnd {x0 : Int} {x1 : List (Int × Int × Int)} {x2 : Int} {x3 : Int} {A1 : Option Addr} {n1 c1 : Nat} {w : World} {r : Int} (h1 : Rt w 3 eLine A1 n1 c1 x1) (hM : m_impl_OtherEnd x0 x1 x2 x3 = some r) :
    Calls Tryd.prog 34 #[.agg #[.int .i64 x0, .slice A1 n1 c1], .int .i64 x2, .int .i64 x3] w (fun e w' => e = .returned (.int .i64 r) ∧ St w w' []) := by
  obtain rfl := h1.len
  unfold m_impl_OtherEnd at hM
  refine calls_gw Tryd.func34 Tryd.ntmps34 rfl [(0, .agg #[.int .i64 x0, .slice A1 x1.length c1]), (1, .int .i64 x2), (2, .int .i64 x3)] ⟨rfl, rfl, rfl, trivial⟩ rfl ?_
  intro a hF
  have S := St.nil w
  refine wp_seq ?_
  refine wp_region_lit ?_
  refine op_new (cs := #[.int .i64 x0, .slice A1 x1.length c1]) rfl rfl hF rfl S (run_box rfl (hF.ev rfl) rfl) ?_; clear hF S; intro a g101 u hF S
  refine op_val (v := .int .i64 0) rfl rfl hF rfl (run_assign rfl rfl) ?_; clear hF; intro a hF
  refine wpList_nil ?_
  refine wp_seq ?_
  refine wp_seq ?_
  refine wp_region_lit ?_
  refine op_val (v := .agg #[.int .i64 x0, .slice A1 x1.length c1]) rfl rfl hF rfl (run_loadN rfl ag66 (hF.ev rfl) rfl ((S.free 0 rfl).cells 0 #[.int .i64 x0, .slice A1 x1.length c1] rfl)) ?_; clear hF; intro a hF
  obtain ⟨p102, h102, hM⟩ := bind_ex hM
  refine op_call rfl rfl hF rfl (run_call (vs := [.agg #[.int .i64 x0, .slice A1 x1.length c1]]) rfl rfl co49 ⟨(hF.ev rfl), trivial⟩) (c_impl_NetValid (x0 := x0) (x1 := x1) ⟨(S.rc0 h1.rc), rfl⟩ h102) ?_
  rintro e u ⟨rfl, T⟩
  refine ⟨_, rfl, ?_⟩
  clear hF; intro a hF
  replace S := S.call0 T; clear T
  refine op_val (v := .bool (!p102)) rfl rfl hF rfl (run_not rfl (hF.ev rfl)) ?_; clear hF; intro a hF
  refine op_val (v := .bool (!p102)) rfl rfl hF rfl (run_move rfl (hF.ev rfl)) ?_; clear hF; intro a hF
  refine op_gv (v := .agg #[.int .i64 x0, .slice A1 x1.length c1]) rfl rfl hF rfl (yf (gw_yield hF rfl rfl rfl)) (fun hg => (run_loadN rfl ag66 (hF.ev rfl) rfl ((S.free 0 rfl).cells 0 #[.int .i64 x0, .slice A1 x1.length c1] rfl))) ?_; clear hF; intro a hF
  refine op_gv (v := .int .i64 x2) rfl rfl hF rfl (yf (gw_yield hF rfl rfl rfl)) (fun hg => (run_move rfl (hF.ev rfl))) ?_; clear hF; intro a hF
  obtain ⟨p103, h103, hM⟩ := bind_ex hM
  refine op_gcall (v := .bool p103) rfl rfl hF rfl S (yf (gw_yield hF rfl rfl rfl)) (fun hg => (run_call (vs := [.agg #[.int .i64 x0, .slice A1 x1.length c1], .int .i64 x2]) rfl rfl co50 ⟨((hF.ev rfl).trans (gv_t hg)), ((hF.ev rfl).trans (gv_t hg)), trivial⟩)) (fun hg => c_impl_Net_hasLine (x0 := x0) (x1 := x1) (x2 := x2) ⟨(S.rc0 h1.rc), rfl⟩ (gb_t h103 hg)) ?_; clear hF S; intro a u hF S
  refine op_gv (v := .bool (!p103)) rfl rfl hF rfl (yf (gw_yield hF rfl rfl rfl)) (fun hg => (run_not rfl ((hF.ev rfl).trans (gv_t hg)))) ?_; clear hF; intro a hF
  refine op_val (v := .bool ((!p102) || (!p103))) rfl rfl hF rfl (run_pick_or rfl (hF.ev rfl) rfl (fun hp => ((hF.ev rfl).trans (gv_t (not_t hp))))) ?_; clear hF; intro a hF
  refine wpList_nil ?_
  cases hc104 : ((!p102) || (!p103))
  · replace hM := bif_f hc104 hM
    refine cond_f hF rfl hc104 ?_
    refine wp_skip ?_
    refine wp_seq ?_
    refine wp_region_lit ?_
    refine op_val (v := .pointer (some ⟨g101, 1, none⟩)) rfl rfl hF rfl (run_fieldAddr rfl fl66_1 (hF.ev rfl) rfl) ?_; clear hF; intro a hF
    refine op_val (v := .slice A1 x1.length c1) rfl rfl hF rfl (run_load1 rfl one64 (hF.ev rfl) ((S.free 0 rfl).cell rfl)) ?_; clear hF; intro a hF
    refine op_val (v := .int .i64 x2) rfl rfl hF rfl (run_move rfl (hF.ev rfl)) ?_; clear hF; intro a hF
    obtain ⟨hk105, hM⟩ := chk_ex hM
    replace hk105 := ixB_t hk105
    refine op_val (v := .pointer (some ⟨adB A1, adO A1 + x2.toNat * 3, none⟩)) rfl rfl hF rfl (run_indexAddr (b := adB A1) (off := adO A1) rfl Tryd.underlying64 sz63 ((hF.ev rfl).trans (congrArg (fun A => Value.slice A x1.length c1) ((S.rc0 h1.rc).rd.ad (ix_pos hk105)))) (hF.ev rfl) hk105.1 hk105.2 (k' := adO A1 + x2.toNat * 3) rfl) ?_; clear hF; intro a hF
    refine op_val (v := .agg #[.int .i64 ((x1.getD x2.toNat ((0, 0, 0) : Int × Int × Int)).1), .int .i64 ((x1.getD x2.toNat ((0, 0, 0) : Int × Int × Int)).2.1), .int .i64 ((x1.getD x2.toNat ((0, 0, 0) : Int × Int × Int)).2.2)]) rfl rfl hF rfl (run_loadN (cs := #[.int .i64 ((x1.getD x2.toNat ((0, 0, 0) : Int × Int × Int)).1), .int .i64 ((x1.getD x2.toNat ((0, 0, 0) : Int × Int × Int)).2.1), .int .i64 ((x1.getD x2.toNat ((0, 0, 0) : Int × Int × Int)).2.2)]) rfl ag63 (hF.ev rfl) rfl (rd_elN (l := x1) (S.rc0 h1.rc).rd rfl eLine_len ((0, 0, 0) : Int × Int × Int) (ix_ltn hk105 rfl) rfl)) ?_; clear hF; intro a hF
    refine op_val (v := .int .i64 x3) rfl rfl hF rfl (run_move rfl (hF.ev rfl)) ?_; clear hF; intro a hF
    obtain ⟨p106, h106, hM⟩ := bind_ex hM
    refine op_call rfl rfl hF rfl (run_call (vs := [.agg #[.int .i64 ((x1.getD x2.toNat ((0, 0, 0) : Int × Int × Int)).1), .int .i64 ((x1.getD x2.toNat ((0, 0, 0) : Int × Int × Int)).2.1), .int .i64 ((x1.getD x2.toNat ((0, 0, 0) : Int × Int × Int)).2.2)], .int .i64 x3]) rfl rfl co51 ⟨(hF.ev rfl), (hF.ev rfl), trivial⟩) (c_impl_Line_other (x0 := (x1.getD x2.toNat ((0, 0, 0) : Int × Int × Int)).1) (x1 := (x1.getD x2.toNat ((0, 0, 0) : Int × Int × Int)).2.1) (x2 := (x1.getD x2.toNat ((0, 0, 0) : Int × Int × Int)).2.2) (x3 := x3)  h106) ?_
    rintro e u ⟨rfl, T⟩
    refine ⟨_, rfl, ?_⟩
    clear hF; intro a hF
    replace S := S.call0 T; clear T
    refine op_val (v := .int .i64 p106) rfl rfl hF rfl (run_assign rfl (hF.ev rfl)) ?_; clear hF; intro a hF
    refine wpList_nil ?_
    refine wp_ret ?_
    repeat with_reducible (first | refine then_ret ?_ | refine in_ret ?_ | refine in_nrm ?_)
    refine ret1_gw (.inl rfl) hF rfl (res_tmp (hF.ev rfl)) ?_
    obtain rfl := Option.some.inj hM
    exact ⟨rfl, S.sel [] rfl rfl⟩
  · replace hM := bif_t hc104 hM
    refine cond_t hF rfl hc104 ?_
    refine wp_seq ?_
    refine wp_region_lit ?_
    refine op_val (v := .int .i64 (-1)) rfl rfl hF rfl (run_assign rfl rfl) ?_; clear hF; intro a hF
    refine wpList_nil ?_
    refine wp_ret ?_
    repeat with_reducible (first | refine then_ret ?_ | refine in_ret ?_ | refine in_nrm ?_)
    refine ret1_gw (.inl rfl) hF rfl (res_tmp (hF.ev rfl)) ?_
    obtain rfl := Option.some.inj hM
    exact ⟨rfl, S.sel [] rfl rfl⟩

set_option maxHeartbeats 4000000 in
theorem c_laws_alive {w : World} {r : Bool}  (hM : m_laws_alive = some r) :
    Calls Tryd.prog 13 #[] w (fun e w' => e = .returned (.bool r) ∧ St w w' []) := by
  unfold m_laws_alive at hM
  refine calls_gw Tryd.func13 Tryd.ntmps13 rfl [] trivial rfl ?_
  intro a hF
  have S := St.nil w
  refine wp_seq ?_
  refine wp_region_lit ?_
  refine op_val (v := .bool false) rfl rfl hF rfl (run_assign rfl rfl) ?_; clear hF; intro a hF
  refine wpList_nil ?_
  refine wp_seq ?_
  obtain ⟨o102, hM103, hM⟩ := bind_ex hM
  refine wp_cut (fun a u => ∃ (p101 : Bool), p101 = o102 ∧ Fr a 11 [(0, .bool p101)] ∧ St w u []) ?_ ?_
  · have _ := trivial
    refine wp_region_lit ?_
    refine op_val (v := .agg #[.int .i64 0, .int .i64 1, .int .i64 1]) rfl rfl hF rfl (run_build (vs := [(0, .int .i64 0), (1, .int .i64 1), (2, .int .i64 1)]) rfl ⟨⟨rfl, rfl⟩, ⟨rfl, rfl⟩, ⟨rfl, rfl⟩, trivial⟩ (bd63_0_1_2 rfl rfl rfl)) ?_; clear hF; intro a hF
    refine op_newrowL (ls := (([(0, 1, 1)] : List (Int × Int × Int)) : List (Int × Int × Int))) (e := eLine) rfl rfl hF rfl S (run_buildS (vs := [(0, .agg #[.int .i64 0, .int .i64 1, .int .i64 1])]) rfl ⟨⟨rfl, (hF.ev rfl)⟩, trivial⟩ (bs64_1_3 )) rfl eLine_len (Nat.le_of_ble_eq_true rfl) ?_; clear hF S; intro a g104 u hF S
    refine op_val (v := .agg #[.int .i64 2, .slice (some ⟨g104, 0, none⟩) (([(0, 1, 1)] : List (Int × Int × Int)).length) (([(0, 1, 1)] : List (Int × Int × Int)).length)]) rfl rfl hF rfl (run_build (vs := [(0, .int .i64 2), (1, .slice (some ⟨g104, 0, none⟩) (([(0, 1, 1)] : List (Int × Int × Int)).length) (([(0, 1, 1)] : List (Int × Int × Int)).length))]) rfl ⟨⟨rfl, rfl⟩, ⟨rfl, (hF.ev rfl)⟩, trivial⟩ (bd66_0_1 rfl rfl)) ?_; clear hF; intro a hF
    obtain ⟨p105, h105, hM103⟩ := bind_ex hM103
    refine op_call rfl rfl hF rfl (run_call (vs := [.agg #[.int .i64 2, .slice (some ⟨g104, 0, none⟩) (([(0, 1, 1)] : List (Int × Int × Int)).length) (([(0, 1, 1)] : List (Int × Int × Int)).length)], .int .i64 0, .int .i64 0]) rfl rfl co34 ⟨(hF.ev rfl), rfl, rfl, trivial⟩) (c_impl_OtherEnd (x0 := 2) (x1 := ([(0, 1, 1)] : List (Int × Int × Int))) (x2 := 0) (x3 := 0) ⟨(S.rc 0 rfl), rfl⟩ h105) ?_
    rintro e u ⟨rfl, T⟩
    refine ⟨_, rfl, ?_⟩
    clear hF; intro a hF
    replace S := S.call0 T; clear T
    refine op_val (v := .bool (p105 == 1)) rfl rfl hF rfl (run_eql (hF.ev rfl) rfl rfl) ?_; clear hF; intro a hF
    refine op_val (v := .bool (p105 == 1)) rfl rfl hF rfl (run_move rfl (hF.ev rfl)) ?_; clear hF; intro a hF
    refine op_gv (v := .agg #[.int .i64 0, .slice none 0 0]) rfl rfl hF rfl (yt (gw_yield hF rfl rfl rfl)) (fun hg => (run_build (vs := []) rfl trivial (bd66 ))) ?_; clear hF; intro a hF
    cases hc106 : (p105 == 1)
    · replace hM103 := bif_f hc106 hM103
      refine op_skipped rfl ((gw_yield hF rfl rfl rfl).trans (congrArg some hc106)) rfl rfl hF rfl ?_; clear hF; intro a hF
      refine op_skipped rfl ((gw_yield hF rfl rfl rfl).trans (congrArg some hc106)) rfl rfl hF rfl ?_; clear hF; intro a hF
      refine op_val (v := .bool false) rfl rfl hF rfl (run_pick_f rfl (hF.ev rfl) hc106 rfl) ?_; clear hF; intro a hF
      refine op_val (v := .bool false) rfl rfl hF rfl (run_assign rfl (hF.ev rfl)) ?_; clear hF; intro a hF
      refine wpList_nil ?_
      obtain rfl := Option.some.inj hM103
      exact ⟨false, rfl, hF.keep _ ⟨rfl, trivial⟩, S.sel [] rfl rfl⟩
    · replace hM103 := bif_t hc106 hM103
      refine op_guarded rfl ((gw_yield hF rfl rfl rfl).trans (congrArg some hc106)) ?_
      obtain ⟨p107, h107, hM103⟩ := bind_ex hM103
      obtain ⟨hk108, hM103⟩ := chk_ex hM103
      refine op_call rfl rfl hF rfl (run_call (vs := [.agg #[.int .i64 0, .slice none 0 0]]) rfl rfl co35 ⟨((hF.ev rfl).trans (gv_t hc106)), trivial⟩) (c_impl_NetText_bad (x0 := 0) (x1 := ([] : List (Int × Int × Int))) Rt.nil (h107.trans (congrArg some (of_not hk108)))) ?_
      rintro e u ⟨rfl, T⟩
      refine ⟨_, rfl, ?_⟩
      clear hF; intro a hF
      replace S := S.call0 T; clear T
      refine op_guarded rfl ((gw_yield hF rfl rfl rfl).trans (congrArg some hc106)) ?_
      refine op_val (v := .bool (({ data := #[] } : ByteArray).toList == ({ data := #[] } : ByteArray).toList)) rfl rfl hF rfl (run_eqlS (hF.ev rfl) rfl rfl) ?_; clear hF; intro a hF
      refine op_val (v := .bool (({ data := #[] } : ByteArray).toList == ({ data := #[] } : ByteArray).toList)) rfl rfl hF rfl (run_pick_t rfl (hF.ev rfl) hc106 (hF.ev rfl)) ?_; clear hF; intro a hF
      refine op_val (v := .bool (({ data := #[] } : ByteArray).toList == ({ data := #[] } : ByteArray).toList)) rfl rfl hF rfl (run_assign rfl (hF.ev rfl)) ?_; clear hF; intro a hF
      refine wpList_nil ?_
      obtain rfl := Option.some.inj hM103
      exact ⟨({ data := #[] } : ByteArray).toList == ({ data := #[] } : ByteArray).toList, rfl, hF.keep _ ⟨rfl, trivial⟩, S.sel [] rfl rfl⟩
  · rintro a u ⟨p101, rfl, hF, S⟩
    refine wp_ret ?_
    repeat with_reducible (first | refine then_ret ?_ | refine in_ret ?_ | refine in_nrm ?_)
    refine ret1_gw (.inl rfl) hF rfl (res_tmp (hF.ev rfl)) ?_
    obtain rfl := Option.some.inj hM
    exact ⟨rfl, S.sel [] rfl rfl⟩

end Go.Proofs.YtnoeliaefhldmaaDoor
