/- Calls return what the models say. -/
import Derived.Test.YtcmnjaccapbhfaaQSq
import Derived.Test.YtcmnjaccapbhfaaQDa1
namespace Go.Proofs.Ytcmnjaccapbhfaa
open Go.ChangeShapes Go.WideShapes Go.ChangeAt Go.RowKit
set_option linter.unusedVariables false
set_option maxHeartbeats 4000000
set_option linter.unusedSimpArgs false
theorem c_spec_CycleLines {x0 : Int} {x1 : List (Int × Int × Int)} {x2 : List Bool} {A1 : Option Addr} {n1 c1 : Nat} {A2 : Option Addr} {n2 c2 : Nat} {w : World} {r : List Int} (h1 : Rt w 3 eLine A1 n1 c1 x1) (h2 : Rt w 1 eB A2 n2 c2 x2) (hM : m_spec_CycleLines x0 x1 x2 = some r) :
    Calls Try.prog 72 #[.agg #[.int .i64 x0, .slice A1 n1 c1], .slice A2 n2 c2] w (fun e w' => ∃ (B0 : Option Addr) (N0 D0 : Nat), e = .returned (.slice B0 N0 D0) ∧ N0 = r.length ∧ St w w' [.row 3 1 (.slice B0 N0 D0) N0 (r.flatMap eI)]) := by
  obtain rfl := h1.len
  obtain rfl := h2.len
  unfold m_spec_CycleLines at hM
  refine calls_gw Try.func72 Try.ntmps72 rfl [(0, .agg #[.int .i64 x0, .slice A1 x1.length c1]), (1, .slice A2 x2.length c2)] ⟨rfl, rfl, trivial⟩ rfl ?_
  intro a hF
  have S := St.nil w
  refine wsg ?_
  refine op_new (cs := #[.int .i64 x0, .slice A1 x1.length c1]) rfl rfl hF rfl S (run_box rfl (hF.ev rfl) rfl) ?_; clear hF S; intro a g101 u hF S
  refine op_val (v := .slice none 0 0) rfl rfl hF rfl (run_assign rfl rfl) ?_;clear hF;intro a hF
  refine wn ?_
  refine wsg ?_
  refine op_newrow (cs := #[]) (size := 1) rfl rfl hF rfl S (run_buildSlice0 rfl Try.underlying30 (congrArg Option.isSome sz3)) rfl (Nat.zero_le _) ?_; clear hF S; intro a g102 u hF S
  refine op_val (v := .slice (some ⟨g102, 0, none⟩) 0 0) rfl rfl hF rfl (run_assign rfl (hF.ev rfl)) ?_;clear hF;intro a hF
  refine wn ?_
  refine ws ?_
  revert a;refine sr (ov (v := .int .i64 0) rfl rfl rfl (fun a hF=>run_assign rfl rfl) fun a hF=>wn ?_)
  obtain ⟨o104, hM107, hM⟩ := bind_ex hM
  refine wp_cut (fun a u => ∃ (p103 : List Int) (B105 : Option Addr) (d106 : Nat), p103 = o104 ∧ Fr a 54 [(4, .slice none 0 0), (5, .slice B105 p103.length d106)] ∧ St w u [.row 3 1 (.slice B105 p103.length d106) p103.length (p103.flatMap eI)]) ?_ ?_
  · have _ := trivial
    refine wp_block ?_
    refine loop_gw (fun m a u => ∃ (p108 : List Int × Int) (B109 : Option Addr) (d110 : Nat), m_spec_CycleLines_l1 x0 x1 x2 m p108 = some _ ∧ Fr a 54 [(1, .slice A2 x2.length c2), (2, .pointer (some ⟨g101, 0, none⟩)), (4, .slice none 0 0), (5, .slice B109 p108.1.length d110), (6, .int .i64 p108.2)] ∧ St w u [.box g101 37 #[.int .i64 x0, .slice A1 x1.length c1], .row 3 1 (.slice B109 p108.1.length d110) p108.1.length (p108.1.flatMap eI)]) FUEL ⟨(([] : List Int), 0), (some ⟨g102, 0, none⟩), 0, hM107, hF.keep _ ⟨rfl, rfl, rfl, rfl, rfl, trivial⟩, S.sel [1, 0] rfl rfl⟩ ?_
    clear hF S hM107; rintro m a u ⟨p108, B109, d110, hM107, hF, S⟩
    rcases m with _ | f1
    · exact none_some hM107
    rw [m_spec_CycleLines_l1.eq_2] at hM107
    refine ws ?_
    revert a;refine sr (mv rfl rfl (mv rfl rfl (ov rfl rfl rfl (fun a hF=>run_lenL rfl rfl Try.underlying26 (hF.ev rfl)) (ov (v := .bool (ltB p108.2 (x2.length : Int))) rfl rfl rfl (fun a hF=>run_lss (hF.ev rfl) (hF.ev rfl) rfl) (mv rfl rfl fun a hF=>?_)))))
    refine op_gv (v := .agg #[.int .i64 x0, .slice A1 x1.length c1]) rfl rfl hF rfl (yt (gw_yield hF rfl rfl rfl)) (fun hg => (run_loadN rfl ag37 (hF.ev rfl) rfl ((S.free 0 rfl).cells 0 #[.int .i64 x0, .slice A1 x1.length c1] rfl))) ?_;clear hF;intro a hF
    refine op_gv (v := .slice A2 x2.length c2) rfl rfl hF rfl (yt (gw_yield hF rfl rfl rfl)) (fun hg => (run_move rfl (hF.ev rfl))) ?_;clear hF;intro a hF
    obtain ⟨p111, h111, hM107⟩ := bind_ex hM107
    refine op_gcall (v := .bool p111) rfl rfl hF rfl S (yt (gw_yield hF rfl rfl rfl)) (fun hg => (run_call (vs := [.agg #[.int .i64 x0, .slice A1 x1.length c1], .slice A2 x2.length c2]) rfl rfl co71 ⟨((hF.ev rfl).trans (gv_t hg)), ((hF.ev rfl).trans (gv_t hg)), trivial⟩)) (fun hg => c_spec_StateValid (x0 := x0) (x1 := x1) (x2 := x2) ⟨(S.rc0 h1.rc), rfl⟩ ⟨(S.rc0 h2.rc), rfl⟩ (gb_t h111 hg)) ?_; clear hF S; intro a u hF S
    refine op_val (v := .bool ((ltB p108.2 (x2.length : Int)) && p111)) rfl rfl hF rfl (run_pick_and rfl (hF.ev rfl) (fun hp => ((hF.ev rfl).trans (gv_t hp))) rfl) ?_;clear hF;intro a hF
    refine wn ?_
    cases hc112 : ((ltB p108.2 (x2.length : Int)) && p111)
    · replace hM107 := bif_f hc112 hM107
      refine cond_f hF rfl hc112 ?_
      refine wp_exit ?_
      repeat with_reducible (first | refine then_exit ?_ | refine in_hit ?_ | refine in_miss rfl ?_)
      obtain rfl := Option.some.inj hM107
      exact ⟨p108.1, B109, d110, rfl, hF.keep _ ⟨rfl, rfl, trivial⟩, S.sel [1] rfl rfl⟩
    replace hM107 := bif_t hc112 hM107
    refine cond_t hF rfl hc112 ?_
    refine wp_skip ?_
    refine ws ?_
    refine wp_block ?_
    revert a;refine sr (ov rfl rfl rfl (fun a hF=>run_loadN rfl ag37 (hF.ev rfl) rfl ((S.free 0 rfl).cells 0 #[.int .i64 x0, .slice A1 x1.length c1] rfl)) (mv rfl rfl (mv rfl rfl fun a hF=>?_)))
    obtain ⟨p113, h113, hM107⟩ := bind_ex hM107
    refine op_call rfl rfl hF rfl (run_call (vs := [.agg #[.int .i64 x0, .slice A1 x1.length c1], .slice A2 x2.length c2, .int .i64 p108.2, .bool false]) rfl rfl co85 ⟨(hF.ev rfl), (hF.ev rfl), (hF.ev rfl), rfl, trivial⟩) (c_spec_SwitchLine (x0 := x0) (x1 := x1) (x2 := x2) (x3 := p108.2) (x4 := false) ⟨(S.rc0 h1.rc), rfl⟩ ⟨(S.rc0 h2.rc), rfl⟩ h113) ?_
    rintro e u ⟨B114, n115, d116, rfl, rfl, T⟩
    refine ⟨_, rfl, ?_⟩
    clear hF; intro a hF
    replace S := S.call1 T; clear T
    revert a;refine mv rfl rfl (ov (v := .slice B114 p113.1.length d116) rfl rfl rfl (fun a hF=>run_extract rfl (hF.ev rfl) rfl) (ov (v := .bool p113.2) rfl rfl rfl (fun a hF=>run_extract rfl (hF.ev rfl) rfl) (ag rfl rfl (ag rfl rfl fun a hF=>wn ?_))))
    refine ws ?_
    obtain ⟨hk117, hM107⟩ := chk_ex hM107
    replace hk117 := ixB_t hk117
    obtain ⟨hk118, hM107⟩ := chk_ex hM107
    replace hk118 := fun hg => ixB_t (imp_t hk118 hg)
    obtain ⟨hk119, hM107⟩ := chk_ex hM107
    replace hk119 := fun hg => ixB_t (imp_t hk119 hg)
    obtain ⟨p120, h120, hM107⟩ := bind_ex hM107
    refine region_gw (D := [28, 29, 30, 31, 32, 33, 34, 35, 36, 37, 38, 39, 40, 41, 42, 43, 44, 45, 46, 47, 48]) (Lr := [.row 4 1 (.slice B114 p113.1.length d116) p113.1.length (p113.1.flatMap eB), .box g101 37 #[.int .i64 x0, .slice A1 x1.length c1], .row 3 1 (.slice B109 p108.1.length d110) p108.1.length (p108.1.flatMap eI)]) (deps := (fun | 0 => [28] | 1 => [29] | 2 => [30] | 3 => [31] | 4 => [32] | 5 => [33] | 6 => [34] | 7 => [35] | 8 => [36] | 9 => [37] | 10 => [38] | 11 => [39] | 12 => [40] | 13 => [41] | 14 => [42] | 15 => [43] | 16 => [44] | 17 => [45] | 18 => [46] | 19 => [47] | 20 => [48] | _ => [])) (rd := (fun _ => [])) (zr := (fun _ => []))
      (φ := fun i vs => match i, vs with | 0, [v28] => v28 = .slice A2 x2.length c2 | 1, [v29] => v29 = .int .i64 p108.2 | 2, [v30] => v30 = .pointer (some ⟨adB A2, adO A2 + p108.2.toNat * 1, none⟩) | 3, [v31] => v31 = .bool (x2.getD p108.2.toNat false) | 4, [v32] => v32 = .bool (x2.getD p108.2.toNat false) | 5, [v33] => v33 = gv (x2.getD p108.2.toNat false) (.agg #[.int .i64 x0, .slice A1 x1.length c1]) | 6, [v34] => v34 = gv (x2.getD p108.2.toNat false) (.slice B114 p113.1.length d116) | 7, [v35] => v35 = gv (x2.getD p108.2.toNat false) (.pointer (some ⟨g101, 1, none⟩)) | 8, [v36] => v36 = gv (x2.getD p108.2.toNat false) (.slice A1 x1.length c1) | 9, [v37] => v37 = gv (x2.getD p108.2.toNat false) (.int .i64 p108.2) | 10, [v38] => v38 = gv (x2.getD p108.2.toNat false) (.pointer (some ⟨adB A1, adO A1 + p108.2.toNat * 3, none⟩)) | 11, [v39] => v39 = gv (x2.getD p108.2.toNat false) (.pointer (some ⟨adB A1, adO A1 + p108.2.toNat * 3, none⟩)) | 12, [v40] => v40 = gv (x2.getD p108.2.toNat false) (.int .i64 ((x1.getD p108.2.toNat ((0, 0, 0) : Int × Int × Int)).1)) | 13, [v41] => v41 = gv (x2.getD p108.2.toNat false) (.pointer (some ⟨g101, 1, none⟩)) | 14, [v42] => v42 = gv (x2.getD p108.2.toNat false) (.slice A1 x1.length c1) | 15, [v43] => v43 = gv (x2.getD p108.2.toNat false) (.int .i64 p108.2) | 16, [v44] => v44 = gv (x2.getD p108.2.toNat false) (.pointer (some ⟨adB A1, adO A1 + p108.2.toNat * 3, none⟩)) | 17, [v45] => v45 = gv (x2.getD p108.2.toNat false) (.pointer (some ⟨adB A1, adO A1 + p108.2.toNat * 3 + 1, none⟩)) | 18, [v46] => v46 = gv (x2.getD p108.2.toNat false) (.int .i64 ((x1.getD p108.2.toNat ((0, 0, 0) : Int × Int × Int)).2.1)) | 19, [v47] => v47 = gv (x2.getD p108.2.toNat false) (.bool p120) | 20, [v48] => v48 = .bool ((x2.getD p108.2.toNat false) && p120) | _, _ => True)
      (C := fun _ _ => [])
      (κ := (fun _ => none)) (Z := (fun _ => [])) mixed hF (by kernel_rfl) S ?_ ?_
    · refine ⟨?_, ?_, ?_, ?_, ?_, ?_, ?_, ?_, ?_, ?_, ?_, ?_, ?_, ?_, ?_, ?_, ?_, ?_, ?_, ?_, ?_, trivial⟩
      · intro a u X hB hu hp hr hz hl S
        replace S : St w u ([] ++ X) := S
        exact .inl ⟨rfl, .slice A2 x2.length c2, u, (run_move rfl (hF.evB hB rfl rfl)), rfl, S⟩
      · intro a u X hB hu hp hr hz hl S
        replace S : St w u ([] ++ X) := S
        exact .inl ⟨rfl, .int .i64 p108.2, u, (run_move rfl (hF.evB hB rfl rfl)), rfl, S⟩
      · intro a u X hB hu hp hr hz hl S
        replace S : St w u ([] ++ X) := S
        have e28 : sl a 28 = .slice A2 x2.length c2 := hp 0 rfl
        have e29 : sl a 29 = .int .i64 p108.2 := hp 1 rfl
        exact .inl ⟨rfl, .pointer (some ⟨adB A2, adO A2 + p108.2.toNat * 1, none⟩), u, (run_indexAddr (b := adB A2) (off := adO A2) rfl Try.underlying26 sz4 ((ev_sl e28).trans (congrArg (fun A => Value.slice A x2.length c2) ((S.rc0 h2.rc).rd.ad (ix_pos hk117)))) (ev_sl e29) hk117.1 hk117.2 (k' := adO A2 + p108.2.toNat * 1) rfl), rfl, S⟩
      · intro a u X hB hu hp hr hz hl S
        replace S : St w u ([] ++ X) := S
        have e30 : sl a 30 = .pointer (some ⟨adB A2, adO A2 + p108.2.toNat * 1, none⟩) := hp 2 rfl
        exact .inl ⟨rfl, .bool (x2.getD p108.2.toNat false), u, (run_load1 rfl one4 (ev_sl e30) (rd_el0 (l := x2) (S.rc0 h2.rc).rd rfl eB_len false (ix_ltn hk117 rfl) rfl)), rfl, S⟩
      · intro a u X hB hu hp hr hz hl S
        replace S : St w u ([] ++ X) := S
        have e31 : sl a 31 = .bool (x2.getD p108.2.toNat false) := hp 3 rfl
        exact .inl ⟨rfl, .bool (x2.getD p108.2.toNat false), u, (run_move rfl (ev_sl e31)), rfl, S⟩
      · intro a u X hB hu hp hr hz hl S
        replace S : St w u ([] ++ X) := S
        have e32 : sl a 32 = .bool (x2.getD p108.2.toNat false) := hp 4 rfl
        rcases (Bool.eq_false_or_eq_true (x2.getD p108.2.toNat false)).symm with hg | hg
        · exact .inr (.inr (.inr ⟨gr_eg rfl (yt (gr_yield rfl rfl e32)) hg, (gv_f hg).symm, S⟩))
        exact .inl ⟨gr_eg rfl (yt (gr_yield rfl rfl e32)) hg, .agg #[.int .i64 x0, .slice A1 x1.length c1], u, (run_loadN rfl ag37 (hF.evB hB rfl rfl) rfl ((gr_box S hl 1 rfl).cells 0 #[.int .i64 x0, .slice A1 x1.length c1] rfl)), (gv_t hg).symm, S⟩
      · intro a u X hB hu hp hr hz hl S
        replace S : St w u ([] ++ X) := S
        have e32 : sl a 32 = .bool (x2.getD p108.2.toNat false) := hp 4 rfl
        rcases (Bool.eq_false_or_eq_true (x2.getD p108.2.toNat false)).symm with hg | hg
        · exact .inr (.inr (.inr ⟨gr_eg rfl (yt (gr_yield rfl rfl e32)) hg, (gv_f hg).symm, S⟩))
        exact .inl ⟨gr_eg rfl (yt (gr_yield rfl rfl e32)) hg, .slice B114 p113.1.length d116, u, (run_move rfl (hF.evB hB rfl rfl)), (gv_t hg).symm, S⟩
      · intro a u X hB hu hp hr hz hl S
        replace S : St w u ([] ++ X) := S
        have e32 : sl a 32 = .bool (x2.getD p108.2.toNat false) := hp 4 rfl
        rcases (Bool.eq_false_or_eq_true (x2.getD p108.2.toNat false)).symm with hg | hg
        · exact .inr (.inr (.inr ⟨gr_eg rfl (yt (gr_yield rfl rfl e32)) hg, (gv_f hg).symm, S⟩))
        exact .inl ⟨gr_eg rfl (yt (gr_yield rfl rfl e32)) hg, .pointer (some ⟨g101, 1, none⟩), u, (run_fieldAddr rfl fl37_1 (hF.evB hB rfl rfl) rfl), (gv_t hg).symm, S⟩
      · intro a u X hB hu hp hr hz hl S
        replace S : St w u ([] ++ X) := S
        have e32 : sl a 32 = .bool (x2.getD p108.2.toNat false) := hp 4 rfl
        have e35 : sl a 35 = gv (x2.getD p108.2.toNat false) (.pointer (some ⟨g101, 1, none⟩)) := hp 7 rfl
        rcases (Bool.eq_false_or_eq_true (x2.getD p108.2.toNat false)).symm with hg | hg
        · exact .inr (.inr (.inr ⟨gr_eg rfl (yt (gr_yield rfl rfl e32)) hg, (gv_f hg).symm, S⟩))
        exact .inl ⟨gr_eg rfl (yt (gr_yield rfl rfl e32)) hg, .slice A1 x1.length c1, u, (run_load1 rfl one35 ((ev_sl e35).trans (gv_t hg)) ((gr_box S hl 1 rfl).cell rfl)), (gv_t hg).symm, S⟩
      · intro a u X hB hu hp hr hz hl S
        replace S : St w u ([] ++ X) := S
        have e32 : sl a 32 = .bool (x2.getD p108.2.toNat false) := hp 4 rfl
        rcases (Bool.eq_false_or_eq_true (x2.getD p108.2.toNat false)).symm with hg | hg
        · exact .inr (.inr (.inr ⟨gr_eg rfl (yt (gr_yield rfl rfl e32)) hg, (gv_f hg).symm, S⟩))
        exact .inl ⟨gr_eg rfl (yt (gr_yield rfl rfl e32)) hg, .int .i64 p108.2, u, (run_move rfl (hF.evB hB rfl rfl)), (gv_t hg).symm, S⟩
      · intro a u X hB hu hp hr hz hl S
        replace S : St w u ([] ++ X) := S
        have e32 : sl a 32 = .bool (x2.getD p108.2.toNat false) := hp 4 rfl
        have e36 : sl a 36 = gv (x2.getD p108.2.toNat false) (.slice A1 x1.length c1) := hp 8 rfl
        have e37 : sl a 37 = gv (x2.getD p108.2.toNat false) (.int .i64 p108.2) := hp 9 rfl
        rcases (Bool.eq_false_or_eq_true (x2.getD p108.2.toNat false)).symm with hg | hg
        · exact .inr (.inr (.inr ⟨gr_eg rfl (yt (gr_yield rfl rfl e32)) hg, (gv_f hg).symm, S⟩))
        exact .inl ⟨gr_eg rfl (yt (gr_yield rfl rfl e32)) hg, .pointer (some ⟨adB A1, adO A1 + p108.2.toNat * 3, none⟩), u, (run_indexAddr (b := adB A1) (off := adO A1) rfl Try.underlying35 sz107 (((ev_sl e36).trans (gv_t hg)).trans (congrArg (fun A => Value.slice A x1.length c1) ((S.rc0 h1.rc).rd.ad (ix_pos (hk118 hg))))) ((ev_sl e37).trans (gv_t hg)) (hk118 hg).1 (hk118 hg).2 (k' := adO A1 + p108.2.toNat * 3) rfl), (gv_t hg).symm, S⟩
      · intro a u X hB hu hp hr hz hl S
        replace S : St w u ([] ++ X) := S
        have e32 : sl a 32 = .bool (x2.getD p108.2.toNat false) := hp 4 rfl
        have e38 : sl a 38 = gv (x2.getD p108.2.toNat false) (.pointer (some ⟨adB A1, adO A1 + p108.2.toNat * 3, none⟩)) := hp 10 rfl
        rcases (Bool.eq_false_or_eq_true (x2.getD p108.2.toNat false)).symm with hg | hg
        · exact .inr (.inr (.inr ⟨gr_eg rfl (yt (gr_yield rfl rfl e32)) hg, (gv_f hg).symm, S⟩))
        exact .inl ⟨gr_eg rfl (yt (gr_yield rfl rfl e32)) hg, .pointer (some ⟨adB A1, adO A1 + p108.2.toNat * 3, none⟩), u, (run_fieldAddr rfl fl107_0 ((ev_sl e38).trans (gv_t hg)) rfl), (gv_t hg).symm, S⟩
      · intro a u X hB hu hp hr hz hl S
        replace S : St w u ([] ++ X) := S
        have e32 : sl a 32 = .bool (x2.getD p108.2.toNat false) := hp 4 rfl
        have e39 : sl a 39 = gv (x2.getD p108.2.toNat false) (.pointer (some ⟨adB A1, adO A1 + p108.2.toNat * 3, none⟩)) := hp 11 rfl
        rcases (Bool.eq_false_or_eq_true (x2.getD p108.2.toNat false)).symm with hg | hg
        · exact .inr (.inr (.inr ⟨gr_eg rfl (yt (gr_yield rfl rfl e32)) hg, (gv_f hg).symm, S⟩))
        exact .inl ⟨gr_eg rfl (yt (gr_yield rfl rfl e32)) hg, .int .i64 ((x1.getD p108.2.toNat ((0, 0, 0) : Int × Int × Int)).1), u, (run_load1 rfl one3 ((ev_sl e39).trans (gv_t hg)) (rd_el0 (l := x1) (S.rc0 h1.rc).rd rfl eLine_len ((0, 0, 0) : Int × Int × Int) (ix_ltn (hk118 hg) rfl) rfl)), (gv_t hg).symm, S⟩
      · intro a u X hB hu hp hr hz hl S
        replace S : St w u ([] ++ X) := S
        have e32 : sl a 32 = .bool (x2.getD p108.2.toNat false) := hp 4 rfl
        rcases (Bool.eq_false_or_eq_true (x2.getD p108.2.toNat false)).symm with hg | hg
        · exact .inr (.inr (.inr ⟨gr_eg rfl (yt (gr_yield rfl rfl e32)) hg, (gv_f hg).symm, S⟩))
        exact .inl ⟨gr_eg rfl (yt (gr_yield rfl rfl e32)) hg, .pointer (some ⟨g101, 1, none⟩), u, (run_fieldAddr rfl fl37_1 (hF.evB hB rfl rfl) rfl), (gv_t hg).symm, S⟩
      · intro a u X hB hu hp hr hz hl S
        replace S : St w u ([] ++ X) := S
        have e32 : sl a 32 = .bool (x2.getD p108.2.toNat false) := hp 4 rfl
        have e41 : sl a 41 = gv (x2.getD p108.2.toNat false) (.pointer (some ⟨g101, 1, none⟩)) := hp 13 rfl
        rcases (Bool.eq_false_or_eq_true (x2.getD p108.2.toNat false)).symm with hg | hg
        · exact .inr (.inr (.inr ⟨gr_eg rfl (yt (gr_yield rfl rfl e32)) hg, (gv_f hg).symm, S⟩))
        exact .inl ⟨gr_eg rfl (yt (gr_yield rfl rfl e32)) hg, .slice A1 x1.length c1, u, (run_load1 rfl one35 ((ev_sl e41).trans (gv_t hg)) ((gr_box S hl 1 rfl).cell rfl)), (gv_t hg).symm, S⟩
      · intro a u X hB hu hp hr hz hl S
        replace S : St w u ([] ++ X) := S
        have e32 : sl a 32 = .bool (x2.getD p108.2.toNat false) := hp 4 rfl
        rcases (Bool.eq_false_or_eq_true (x2.getD p108.2.toNat false)).symm with hg | hg
        · exact .inr (.inr (.inr ⟨gr_eg rfl (yt (gr_yield rfl rfl e32)) hg, (gv_f hg).symm, S⟩))
        exact .inl ⟨gr_eg rfl (yt (gr_yield rfl rfl e32)) hg, .int .i64 p108.2, u, (run_move rfl (hF.evB hB rfl rfl)), (gv_t hg).symm, S⟩
      · intro a u X hB hu hp hr hz hl S
        replace S : St w u ([] ++ X) := S
        have e32 : sl a 32 = .bool (x2.getD p108.2.toNat false) := hp 4 rfl
        have e42 : sl a 42 = gv (x2.getD p108.2.toNat false) (.slice A1 x1.length c1) := hp 14 rfl
        have e43 : sl a 43 = gv (x2.getD p108.2.toNat false) (.int .i64 p108.2) := hp 15 rfl
        rcases (Bool.eq_false_or_eq_true (x2.getD p108.2.toNat false)).symm with hg | hg
        · exact .inr (.inr (.inr ⟨gr_eg rfl (yt (gr_yield rfl rfl e32)) hg, (gv_f hg).symm, S⟩))
        exact .inl ⟨gr_eg rfl (yt (gr_yield rfl rfl e32)) hg, .pointer (some ⟨adB A1, adO A1 + p108.2.toNat * 3, none⟩), u, (run_indexAddr (b := adB A1) (off := adO A1) rfl Try.underlying35 sz107 (((ev_sl e42).trans (gv_t hg)).trans (congrArg (fun A => Value.slice A x1.length c1) ((S.rc0 h1.rc).rd.ad (ix_pos (hk119 hg))))) ((ev_sl e43).trans (gv_t hg)) (hk119 hg).1 (hk119 hg).2 (k' := adO A1 + p108.2.toNat * 3) rfl), (gv_t hg).symm, S⟩
      · intro a u X hB hu hp hr hz hl S
        replace S : St w u ([] ++ X) := S
        have e32 : sl a 32 = .bool (x2.getD p108.2.toNat false) := hp 4 rfl
        have e44 : sl a 44 = gv (x2.getD p108.2.toNat false) (.pointer (some ⟨adB A1, adO A1 + p108.2.toNat * 3, none⟩)) := hp 16 rfl
        rcases (Bool.eq_false_or_eq_true (x2.getD p108.2.toNat false)).symm with hg | hg
        · exact .inr (.inr (.inr ⟨gr_eg rfl (yt (gr_yield rfl rfl e32)) hg, (gv_f hg).symm, S⟩))
        exact .inl ⟨gr_eg rfl (yt (gr_yield rfl rfl e32)) hg, .pointer (some ⟨adB A1, adO A1 + p108.2.toNat * 3 + 1, none⟩), u, (run_fieldAddr rfl fl107_1 ((ev_sl e44).trans (gv_t hg)) rfl), (gv_t hg).symm, S⟩
      · intro a u X hB hu hp hr hz hl S
        replace S : St w u ([] ++ X) := S
        have e32 : sl a 32 = .bool (x2.getD p108.2.toNat false) := hp 4 rfl
        have e45 : sl a 45 = gv (x2.getD p108.2.toNat false) (.pointer (some ⟨adB A1, adO A1 + p108.2.toNat * 3 + 1, none⟩)) := hp 17 rfl
        rcases (Bool.eq_false_or_eq_true (x2.getD p108.2.toNat false)).symm with hg | hg
        · exact .inr (.inr (.inr ⟨gr_eg rfl (yt (gr_yield rfl rfl e32)) hg, (gv_f hg).symm, S⟩))
        exact .inl ⟨gr_eg rfl (yt (gr_yield rfl rfl e32)) hg, .int .i64 ((x1.getD p108.2.toNat ((0, 0, 0) : Int × Int × Int)).2.1), u, (run_load1 rfl one3 ((ev_sl e45).trans (gv_t hg)) (rd_el (l := x1) (S.rc0 h1.rc).rd rfl eLine_len ((0, 0, 0) : Int × Int × Int) (ix_ltn (hk119 hg) rfl) rfl)), (gv_t hg).symm, S⟩
      · intro a u X hB hu hp hr hz hl S
        replace S : St w u ([] ++ X) := S
        have e32 : sl a 32 = .bool (x2.getD p108.2.toNat false) := hp 4 rfl
        have e33 : sl a 33 = gv (x2.getD p108.2.toNat false) (.agg #[.int .i64 x0, .slice A1 x1.length c1]) := hp 5 rfl
        have e34 : sl a 34 = gv (x2.getD p108.2.toNat false) (.slice B114 p113.1.length d116) := hp 6 rfl
        have e40 : sl a 40 = gv (x2.getD p108.2.toNat false) (.int .i64 ((x1.getD p108.2.toNat ((0, 0, 0) : Int × Int × Int)).1)) := hp 12 rfl
        have e46 : sl a 46 = gv (x2.getD p108.2.toNat false) (.int .i64 ((x1.getD p108.2.toNat ((0, 0, 0) : Int × Int × Int)).2.1)) := hp 18 rfl
        rcases (Bool.eq_false_or_eq_true (x2.getD p108.2.toNat false)).symm with hg | hg
        · exact .inr (.inr (.inr ⟨gr_eg rfl (yt (gr_yield rfl rfl e32)) hg, (gv_f hg).symm, S⟩))
        refine .inr (.inr (.inl ⟨gr_eg rfl (yt (gr_yield rfl rfl e32)) hg, _, _, (run_call (vs := [.agg #[.int .i64 x0, .slice A1 x1.length c1], .slice B114 p113.1.length d116, .int .i64 ((x1.getD p108.2.toNat ((0, 0, 0) : Int × Int × Int)).1), .int .i64 ((x1.getD p108.2.toNat ((0, 0, 0) : Int × Int × Int)).2.1)]) rfl rfl co49 ⟨((ev_sl e33).trans (gv_t hg)), ((ev_sl e34).trans (gv_t hg)), ((ev_sl e40).trans (gv_t hg)), ((ev_sl e46).trans (gv_t hg)), trivial⟩), ?_⟩))
        refine Calls.mono (c_spec_SameIsland (x0 := x0) (x1 := x1) (x2 := p113.1) (x3 := (x1.getD p108.2.toNat ((0, 0, 0) : Int × Int × Int)).1) (x4 := (x1.getD p108.2.toNat ((0, 0, 0) : Int × Int × Int)).2.1) ⟨(S.rc0 h1.rc), rfl⟩ ⟨(gr_rc S hl 0 rfl), rfl⟩ (gb_t h120 hg)) ?_
        rintro e w1 ⟨rfl, T⟩
        exact ⟨_, rfl, (gv_t hg).symm, S.call0 T⟩
      intro a u X hB hu hp hr hz hl S
      replace S : St w u ([] ++ X) := S
      have e32 : sl a 32 = .bool (x2.getD p108.2.toNat false) := hp 4 rfl
      have e47 : sl a 47 = gv (x2.getD p108.2.toNat false) (.bool p120) := hp 19 rfl
      exact .inl ⟨rfl, .bool ((x2.getD p108.2.toNat false) && p120), u, (run_pick_and rfl (ev_sl e32) (fun hp => ((ev_sl e47).trans (gv_t hp))) (ev_const _ _)), rfl, S⟩
    intro a u hB hp S
    obtain ⟨q0, q1, q2, q3, q4, q5, q6, q7, q8, q9, q10, q11, q12, q13, q14, q15, q16, q17, q18, q19, q20, -⟩ := hp
    have e28 : sl a 28 = .slice A2 x2.length c2 := q0
    have e29 : sl a 29 = .int .i64 p108.2 := q1
    have e30 : sl a 30 = .pointer (some ⟨adB A2, adO A2 + p108.2.toNat * 1, none⟩) := q2
    have e31 : sl a 31 = .bool (x2.getD p108.2.toNat false) := q3
    have e32 : sl a 32 = .bool (x2.getD p108.2.toNat false) := q4
    have e33 : sl a 33 = gv (x2.getD p108.2.toNat false) (.agg #[.int .i64 x0, .slice A1 x1.length c1]) := q5
    have e34 : sl a 34 = gv (x2.getD p108.2.toNat false) (.slice B114 p113.1.length d116) := q6
    have e35 : sl a 35 = gv (x2.getD p108.2.toNat false) (.pointer (some ⟨g101, 1, none⟩)) := q7
    have e36 : sl a 36 = gv (x2.getD p108.2.toNat false) (.slice A1 x1.length c1) := q8
    have e37 : sl a 37 = gv (x2.getD p108.2.toNat false) (.int .i64 p108.2) := q9
    have e38 : sl a 38 = gv (x2.getD p108.2.toNat false) (.pointer (some ⟨adB A1, adO A1 + p108.2.toNat * 3, none⟩)) := q10
    have e39 : sl a 39 = gv (x2.getD p108.2.toNat false) (.pointer (some ⟨adB A1, adO A1 + p108.2.toNat * 3, none⟩)) := q11
    have e40 : sl a 40 = gv (x2.getD p108.2.toNat false) (.int .i64 ((x1.getD p108.2.toNat ((0, 0, 0) : Int × Int × Int)).1)) := q12
    have e41 : sl a 41 = gv (x2.getD p108.2.toNat false) (.pointer (some ⟨g101, 1, none⟩)) := q13
    have e42 : sl a 42 = gv (x2.getD p108.2.toNat false) (.slice A1 x1.length c1) := q14
    have e43 : sl a 43 = gv (x2.getD p108.2.toNat false) (.int .i64 p108.2) := q15
    have e44 : sl a 44 = gv (x2.getD p108.2.toNat false) (.pointer (some ⟨adB A1, adO A1 + p108.2.toNat * 3, none⟩)) := q16
    have e45 : sl a 45 = gv (x2.getD p108.2.toNat false) (.pointer (some ⟨adB A1, adO A1 + p108.2.toNat * 3 + 1, none⟩)) := q17
    have e46 : sl a 46 = gv (x2.getD p108.2.toNat false) (.int .i64 ((x1.getD p108.2.toNat ((0, 0, 0) : Int × Int × Int)).2.1)) := q18
    have e47 : sl a 47 = gv (x2.getD p108.2.toNat false) (.bool p120) := q19
    have e48 : sl a 48 = .bool ((x2.getD p108.2.toNat false) && p120) := q20
    replace S : St w u [.row 4 1 (.slice B114 p113.1.length d116) p113.1.length (p113.1.flatMap eB), .box g101 37 #[.int .i64 x0, .slice A1 x1.length c1], .row 3 1 (.slice B109 p108.1.length d110) p108.1.length (p108.1.flatMap eI)] := S
    clear q0 q1 q2 q3 q4 q5 q6 q7 q8 q9 q10 q11 q12 q13 q14 q15 q16 q17 q18 q19 q20
    have hF := hF.region hB [(28, .slice A2 x2.length c2), (29, .int .i64 p108.2), (30, .pointer (some ⟨adB A2, adO A2 + p108.2.toNat * 1, none⟩)), (31, .bool (x2.getD p108.2.toNat false)), (32, .bool (x2.getD p108.2.toNat false)), (33, gv (x2.getD p108.2.toNat false) (.agg #[.int .i64 x0, .slice A1 x1.length c1])), (34, gv (x2.getD p108.2.toNat false) (.slice B114 p113.1.length d116)), (35, gv (x2.getD p108.2.toNat false) (.pointer (some ⟨g101, 1, none⟩))), (36, gv (x2.getD p108.2.toNat false) (.slice A1 x1.length c1)), (37, gv (x2.getD p108.2.toNat false) (.int .i64 p108.2)), (38, gv (x2.getD p108.2.toNat false) (.pointer (some ⟨adB A1, adO A1 + p108.2.toNat * 3, none⟩))), (39, gv (x2.getD p108.2.toNat false) (.pointer (some ⟨adB A1, adO A1 + p108.2.toNat * 3, none⟩))), (40, gv (x2.getD p108.2.toNat false) (.int .i64 ((x1.getD p108.2.toNat ((0, 0, 0) : Int × Int × Int)).1))), (41, gv (x2.getD p108.2.toNat false) (.pointer (some ⟨g101, 1, none⟩))), (42, gv (x2.getD p108.2.toNat false) (.slice A1 x1.length c1)), (43, gv (x2.getD p108.2.toNat false) (.int .i64 p108.2)), (44, gv (x2.getD p108.2.toNat false) (.pointer (some ⟨adB A1, adO A1 + p108.2.toNat * 3, none⟩))), (45, gv (x2.getD p108.2.toNat false) (.pointer (some ⟨adB A1, adO A1 + p108.2.toNat * 3 + 1, none⟩))), (46, gv (x2.getD p108.2.toNat false) (.int .i64 ((x1.getD p108.2.toNat ((0, 0, 0) : Int × Int × Int)).2.1))), (47, gv (x2.getD p108.2.toNat false) (.bool p120)), (48, .bool ((x2.getD p108.2.toNat false) && p120))] (allSl_mem ⟨e28, e29, e30, e31, e32, e33, e34, e35, e36, e37, e38, e39, e40, e41, e42, e43, e44, e45, e46, e47, e48, trivial⟩) rfl
    clear hB e28 e29 e30 e31 e32 e33 e34 e35 e36 e37 e38 e39 e40 e41 e42 e43 e44 e45 e46 e47 e48
    obtain ⟨o122, hM125, hM107⟩ := bind_ex hM107
    refine wp_cut (fun a u => ∃ (p121 : List Int) (B123 : Option Addr) (d124 : Nat), p121 = o122 ∧ Fr a 54 [(1, .slice A2 x2.length c2), (2, .pointer (some ⟨g101, 0, none⟩)), (4, .slice none 0 0), (5, .slice B123 p121.length d124), (6, .int .i64 p108.2)] ∧ St w u [.box g101 37 #[.int .i64 x0, .slice A1 x1.length c1], .row 3 1 (.slice B123 p121.length d124) p121.length (p121.flatMap eI)]) ?_ ?_
    · have _ := trivial
      cases hc126 : ((x2.getD p108.2.toNat false) && p120)
      · replace hM125 := bif_f hc126 hM125
        refine cond_f hF rfl hc126 ?_
        refine wp_skip ?_
        obtain rfl := Option.some.inj hM125
        exact ⟨p108.1, B109, d110, rfl, hF.keep _ ⟨rfl, rfl, rfl, rfl, rfl, trivial⟩, S.sel [1, 2] rfl rfl⟩
      replace hM125 := bif_t hc126 hM125
      refine cond_t hF rfl hc126 ?_
      revert a;refine rl (mv rfl rfl (mv rfl rfl fun a hF=>?_))
      refine op_newrowL (ls := (([p108.2] : List Int) : List Int)) (e := eI) rfl rfl hF rfl S (run_buildS (vs := [(0, .int .i64 p108.2)]) rfl ⟨⟨rfl, (hF.ev rfl)⟩, trivial⟩ (bs30_1_0 rfl)) rfl eI_len (Nat.le_of_ble_eq_true rfl) ?_; clear hF S; intro a g127 u hF S
      obtain ⟨hk130, hM125⟩ := chk_ex hM125
      replace hk130 := apB_t hk130
      refine op_appendL (lx := p108.1) (ly := ([p108.2] : List Int)) rfl rfl hF rfl S rfl (hF.ev rfl) (hF.ev rfl) (i := 3) rfl rfl Try.underlying30 inf3 rfl (by decide) (S.rc 0 rfl).rd rfl eI_one hk130 (by decide) ?_; clear hF S; intro a B128 d129 u hF S
      refine op_val (v := .slice B128 ((p108.1 ++ ([p108.2] : List Int)).length) d129) rfl rfl hF rfl (run_assign rfl (hF.ev rfl)) ?_;clear hF;intro a hF
      refine wn ?_
      obtain rfl := Option.some.inj hM125
      exact ⟨p108.1 ++ ([p108.2] : List Int), B128, d129, rfl, hF.keep _ ⟨rfl, rfl, rfl, rfl, rfl, trivial⟩, S.sel [2, 3] rfl rfl⟩
    rintro a u ⟨p121, B123, d124, rfl, hF, S⟩
    revert a;refine rl (mv rfl rfl (ov (v := .int .i64 (w64 (p108.2 + 1))) rfl rfl rfl (fun a hF=>run_add (z := w64 (p108.2 + 1)) (hF.ev rfl) rfl rfl rfl) (ag rfl rfl fun a hF=>wn ?_)))
    exact ⟨f1, Nat.lt_succ_self _, (p121, w64 (p108.2 + 1)), B123, d124, hM107, hF.keep _ ⟨rfl, rfl, rfl, rfl, rfl, trivial⟩, S.sel [0, 1] rfl rfl⟩
  rintro a u ⟨p103, B105, d106, rfl, hF, S⟩
  revert a;refine sr (mv rfl rfl (ag rfl rfl fun a hF=>wn ?_))
  refine wp_ret ?_
  repeat with_reducible first|refine tr ?_|refine ir ?_|refine nr ?_
  refine ret1_gw (.inl rfl) hF rfl (res_tmp (hF.ev rfl)) ?_
  obtain rfl := Option.some.inj hM
  exact ⟨B105, p103.length, d106, rfl, rfl, S.sel [0] rfl rfl⟩
theorem c_spec_HasCycle {x0 : Int} {x1 : List (Int × Int × Int)} {x2 : List Bool} {A1 : Option Addr} {n1 c1 : Nat} {A2 : Option Addr} {n2 c2 : Nat} {w : World} {r : Bool} (h1 : Rt w 3 eLine A1 n1 c1 x1) (h2 : Rt w 1 eB A2 n2 c2 x2) (hM : m_spec_HasCycle x0 x1 x2 = some r) :
    Calls Try.prog 48 #[.agg #[.int .i64 x0, .slice A1 n1 c1], .slice A2 n2 c2] w (fun e w' => e = .returned (.bool r) ∧ St w w' []) := by
  obtain rfl := h1.len
  obtain rfl := h2.len
  unfold m_spec_HasCycle at hM
  refine calls_gw Try.func48 Try.ntmps48 rfl [(0, .agg #[.int .i64 x0, .slice A1 x1.length c1]), (1, .slice A2 x2.length c2)] ⟨rfl, rfl, trivial⟩ rfl ?_
  intro a hF
  have S := St.nil w
  refine wsg ?_
  refine op_new (cs := #[.int .i64 x0, .slice A1 x1.length c1]) rfl rfl hF rfl S (run_box rfl (hF.ev rfl) rfl) ?_; clear hF S; intro a g101 u hF S
  refine op_val (v := .bool false) rfl rfl hF rfl (run_assign rfl rfl) ?_;clear hF;intro a hF
  refine wn ?_
  revert a;refine sr (ov rfl rfl rfl (fun a hF=>run_loadN rfl ag37 (hF.ev rfl) rfl ((S.free 0 rfl).cells 0 #[.int .i64 x0, .slice A1 x1.length c1] rfl)) (mv rfl rfl fun a hF=>?_))
  obtain ⟨p102, h102, hM⟩ := bind_ex hM
  refine op_call rfl rfl hF rfl (run_call (vs := [.agg #[.int .i64 x0, .slice A1 x1.length c1], .slice A2 x2.length c2]) rfl rfl co72 ⟨(hF.ev rfl), (hF.ev rfl), trivial⟩) (c_spec_CycleLines (x0 := x0) (x1 := x1) (x2 := x2) ⟨(S.rc0 h1.rc), rfl⟩ ⟨(S.rc0 h2.rc), rfl⟩ h102) ?_
  rintro e u ⟨B103, n104, d105, rfl, rfl, T⟩
  refine ⟨_, rfl, ?_⟩
  clear hF; intro a hF
  replace S := S.call1 T; clear T
  revert a;refine ov rfl rfl rfl (fun a hF=>run_lenL rfl rfl Try.underlying30 (hF.ev rfl)) (ov (v := .bool (ltB 0 (p102.length : Int))) rfl rfl rfl (fun a hF=>run_gtr (hF.ev rfl) rfl rfl) (ag rfl rfl fun a hF=>wn ?_))
  refine wp_ret ?_
  repeat with_reducible first|refine tr ?_|refine ir ?_|refine nr ?_
  refine ret1_gw (.inl rfl) hF rfl (res_tmp (hF.ev rfl)) ?_
  obtain rfl := Option.some.inj hM
  exact ⟨rfl, S.sel [] rfl rfl⟩
theorem c_spec_Radial {x0 : Int} {x1 : List (Int × Int × Int)} {x2 : List Bool} {x3 : List (Int × Int)} {A1 : Option Addr} {n1 c1 : Nat} {A2 : Option Addr} {n2 c2 : Nat} {A3 : Option Addr} {n3 c3 : Nat} {w : World} {r : Bool} (h1 : Rt w 3 eLine A1 n1 c1 x1) (h2 : Rt w 1 eB A2 n2 c2 x2) (h3 : Rt w 2 eBus A3 n3 c3 x3) (hM : m_spec_Radial x0 x1 x2 x3 = some r) :
    Calls Try.prog 23 #[.agg #[.int .i64 x0, .slice A1 n1 c1], .slice A2 n2 c2, .slice A3 n3 c3] w (fun e w' => e = .returned (.bool r) ∧ St w w' []) := by
  obtain rfl := h1.len
  obtain rfl := h2.len
  obtain rfl := h3.len
  unfold m_spec_Radial at hM
  refine calls_gw Try.func23 Try.ntmps23 rfl [(0, .agg #[.int .i64 x0, .slice A1 x1.length c1]), (1, .slice A2 x2.length c2), (2, .slice A3 x3.length c3)] ⟨rfl, rfl, rfl, trivial⟩ rfl ?_
  intro a hF
  have S := St.nil w
  refine wsg ?_
  refine op_new (cs := #[.int .i64 x0, .slice A1 x1.length c1]) rfl rfl hF rfl S (run_box rfl (hF.ev rfl) rfl) ?_; clear hF S; intro a g101 u hF S
  refine op_val (v := .bool false) rfl rfl hF rfl (run_assign rfl rfl) ?_;clear hF;intro a hF
  refine wn ?_
  refine ws ?_
  revert a;refine sr (ov rfl rfl rfl (fun a hF=>run_loadN rfl ag37 (hF.ev rfl) rfl ((S.free 0 rfl).cells 0 #[.int .i64 x0, .slice A1 x1.length c1] rfl)) (mv rfl rfl (mv rfl rfl fun a hF=>?_)))
  obtain ⟨p102, h102, hM⟩ := bind_ex hM
  refine op_call rfl rfl hF rfl (run_call (vs := [.agg #[.int .i64 x0, .slice A1 x1.length c1], .slice A2 x2.length c2, .slice A3 x3.length c3]) rfl rfl co47 ⟨(hF.ev rfl), (hF.ev rfl), (hF.ev rfl), trivial⟩) (c_spec_l5Ok (x0 := x0) (x1 := x1) (x2 := x2) (x3 := x3) ⟨(S.rc0 h1.rc), rfl⟩ ⟨(S.rc0 h2.rc), rfl⟩ ⟨(S.rc0 h3.rc), rfl⟩ h102) ?_
  rintro e u ⟨rfl, T⟩
  refine ⟨_, rfl, ?_⟩
  clear hF; intro a hF
  replace S := S.call0 T; clear T
  revert a;refine ov (v := .bool (!p102)) rfl rfl rfl (fun a hF=>run_not rfl (hF.ev rfl)) (mv rfl rfl fun a hF=>?_)
  refine op_gv (v := .agg #[.int .i64 x0, .slice A1 x1.length c1]) rfl rfl hF rfl (yf (gw_yield hF rfl rfl rfl)) (fun hg => (run_loadN rfl ag37 (hF.ev rfl) rfl ((S.free 0 rfl).cells 0 #[.int .i64 x0, .slice A1 x1.length c1] rfl))) ?_;clear hF;intro a hF
  refine op_gv (v := .slice A2 x2.length c2) rfl rfl hF rfl (yf (gw_yield hF rfl rfl rfl)) (fun hg => (run_move rfl (hF.ev rfl))) ?_;clear hF;intro a hF
  obtain ⟨p103, h103, hM⟩ := bind_ex hM
  refine op_gcall (v := .bool p103) rfl rfl hF rfl S (yf (gw_yield hF rfl rfl rfl)) (fun hg => (run_call (vs := [.agg #[.int .i64 x0, .slice A1 x1.length c1], .slice A2 x2.length c2]) rfl rfl co48 ⟨((hF.ev rfl).trans (gv_t hg)), ((hF.ev rfl).trans (gv_t hg)), trivial⟩)) (fun hg => c_spec_HasCycle (x0 := x0) (x1 := x1) (x2 := x2) ⟨(S.rc0 h1.rc), rfl⟩ ⟨(S.rc0 h2.rc), rfl⟩ (gb_t h103 hg)) ?_; clear hF S; intro a u hF S
  refine op_val (v := .bool ((!p102) || p103)) rfl rfl hF rfl (run_pick_or rfl (hF.ev rfl) rfl (fun hp => ((hF.ev rfl).trans (gv_t (not_t hp))))) ?_;clear hF;intro a hF
  refine wn ?_
  cases hc104 : ((!p102) || p103)
  · replace hM := bif_f hc104 hM
    refine cond_f hF rfl hc104 ?_
    refine wp_skip ?_
    refine ws ?_
    revert a;refine sr (ov (v := .int .i64 0) rfl rfl rfl (fun a hF=>run_assign rfl rfl) fun a hF=>wn ?_)
    obtain ⟨o106, hM107, hM⟩ := bind_ex hM
    refine wp_cut (fun a u => ∃ (p105 : Unit), (Sum.inl p105) = o106 ∧ Fr a 51 [(6, .bool false)] ∧ St w u []) ?_ ?_
    · have _ := trivial
      refine wp_block ?_
      refine loop_gw (fun m a u => ∃ (p108 : Int), m_spec_Radial_l1 x0 x1 x2 x3 m p108 = some _ ∧ Fr a 51 [(1, .slice A2 x2.length c2), (2, .slice A3 x3.length c3), (3, .pointer (some ⟨g101, 0, none⟩)), (6, .bool false), (7, .int .i64 p108)] ∧ St w u [.box g101 37 #[.int .i64 x0, .slice A1 x1.length c1]]) FUEL ⟨0, hM107, hF.keep _ ⟨rfl, rfl, rfl, rfl, rfl, trivial⟩, S.sel [0] rfl rfl⟩ ?_
      clear hF S hM107; rintro m a u ⟨p108, hM107, hF, S⟩
      rcases m with _ | f1
      · exact none_some hM107
      rw [m_spec_Radial_l1.eq_2] at hM107
      refine ws ?_
      revert a;refine sr (mv rfl rfl (ov (v := .pointer (some ⟨g101, 0, none⟩)) rfl rfl rfl (fun a hF=>run_fieldAddr rfl fl37_0 (hF.ev rfl) rfl) (ov (v := .int .i64 x0) rfl rfl rfl (fun a hF=>run_load1 rfl one3 (hF.ev rfl) ((S.free 0 rfl).cell rfl)) (ov (v := .bool (ltB p108 x0)) rfl rfl rfl (fun a hF=>run_lss (hF.ev rfl) (hF.ev rfl) rfl) fun a hF=>wn ?_))))
      cases hc109 : (ltB p108 x0)
      · replace hM107 := bif_f hc109 hM107
        refine cond_f hF rfl hc109 ?_
        refine wp_exit ?_
        repeat with_reducible (first | refine then_exit ?_ | refine in_hit ?_ | refine in_miss rfl ?_)
        obtain rfl := Option.some.inj hM107
        exact ⟨(), rfl, hF.keep _ ⟨rfl, trivial⟩, S.sel [] rfl rfl⟩
      replace hM107 := bif_t hc109 hM107
      refine cond_t hF rfl hc109 ?_
      refine wp_skip ?_
      refine ws ?_
      refine wp_block ?_
      revert a;refine sr (ov (v := .int .i64 0) rfl rfl rfl (fun a hF=>run_assign rfl rfl) fun a hF=>wn ?_)
      obtain ⟨o111, hM112, hM107⟩ := bind_ex hM107
      refine wp_cut (fun a u => ∃ (p110 : Unit), (Sum.inl p110) = o111 ∧ Fr a 51 [(1, .slice A2 x2.length c2), (2, .slice A3 x3.length c3), (3, .pointer (some ⟨g101, 0, none⟩)), (6, .bool false), (7, .int .i64 p108)] ∧ St w u [.box g101 37 #[.int .i64 x0, .slice A1 x1.length c1]]) ?_ ?_
      · have _ := trivial
        refine wp_block ?_
        refine loop_gw (fun m a u => ∃ (p113 : Int), m_spec_Radial_l2 x0 x1 x2 x3 p108 m p113 = some _ ∧ Fr a 51 [(1, .slice A2 x2.length c2), (2, .slice A3 x3.length c3), (3, .pointer (some ⟨g101, 0, none⟩)), (6, .bool false), (7, .int .i64 p108), (8, .int .i64 p113)] ∧ St w u [.box g101 37 #[.int .i64 x0, .slice A1 x1.length c1]]) FUEL ⟨0, hM112, hF.keep _ ⟨rfl, rfl, rfl, rfl, rfl, rfl, trivial⟩, S.sel [0] rfl rfl⟩ ?_
        clear hF S hM112; rintro m a u ⟨p113, hM112, hF, S⟩
        rcases m with _ | f2
        · exact none_some hM112
        rw [m_spec_Radial_l2.eq_2] at hM112
        refine ws ?_
        revert a;refine sr (mv rfl rfl (mv rfl rfl (ov (v := .bool (ltB p113 p108)) rfl rfl rfl (fun a hF=>run_lss (hF.ev rfl) (hF.ev rfl) rfl) fun a hF=>wn ?_)))
        cases hc114 : (ltB p113 p108)
        · replace hM112 := bif_f hc114 hM112
          refine cond_f hF rfl hc114 ?_
          refine wp_exit ?_
          repeat with_reducible (first | refine then_exit ?_ | refine in_hit ?_ | refine in_miss rfl ?_)
          obtain rfl := Option.some.inj hM112
          exact ⟨(), rfl, hF.keep _ ⟨rfl, rfl, rfl, rfl, rfl, trivial⟩, S.sel [0] rfl rfl⟩
        replace hM112 := bif_t hc114 hM112
        refine cond_t hF rfl hc114 ?_
        refine wp_skip ?_
        refine ws ?_
        refine wp_block ?_
        revert a;refine sr (mv rfl rfl (mv rfl rfl fun a hF=>?_))
        obtain ⟨hk115, hM112⟩ := chk_ex hM112
        replace hk115 := ixB_t hk115
        revert a;refine ov rfl rfl rfl (fun a hF=>run_indexAddr (b := adB A3) (off := adO A3) rfl Try.underlying38 sz69 ((hF.ev rfl).trans (congrArg (fun A => Value.slice A x3.length c3) ((S.rc0 h3.rc).rd.ad (ix_pos hk115)))) (hF.ev rfl) hk115.1 hk115.2 (k' := adO A3 + p108.toNat * 2) rfl) (ov (v := .pointer (some ⟨adB A3, adO A3 + p108.toNat * 2, none⟩)) rfl rfl rfl (fun a hF=>run_fieldAddr rfl fl69_0 (hF.ev rfl) rfl) (ov (v := .int .i64 ((x3.getD p108.toNat ((0, 0) : Int × Int)).1)) rfl rfl rfl (fun a hF=>run_load1 rfl one3 (hF.ev rfl) (rd_el0 (l := x3) (S.rc0 h3.rc).rd rfl eBus_len ((0, 0) : Int × Int) (ix_ltn hk115 rfl) rfl)) (ov (v := .bool (ltB 0 ((x3.getD p108.toNat ((0, 0) : Int × Int)).1))) rfl rfl rfl (fun a hF=>run_gtr (hF.ev rfl) rfl rfl) (mv rfl rfl fun a hF=>?_))))
        refine op_gv (v := .slice A3 x3.length c3) rfl rfl hF rfl (yt (gw_yield hF rfl rfl rfl)) (fun hg => (run_move rfl (hF.ev rfl))) ?_;clear hF;intro a hF
        refine op_gv (v := .int .i64 p113) rfl rfl hF rfl (yt (gw_yield hF rfl rfl rfl)) (fun hg => (run_move rfl (hF.ev rfl))) ?_;clear hF;intro a hF
        obtain ⟨hk116, hM112⟩ := chk_ex hM112
        replace hk116 := fun hg => ixB_t (imp_t hk116 hg)
        refine op_gv (v := .pointer (some ⟨adB A3, adO A3 + p113.toNat * 2, none⟩)) rfl rfl hF rfl (yt (gw_yield hF rfl rfl rfl)) (fun hg => (run_indexAddr (b := adB A3) (off := adO A3) rfl Try.underlying38 sz69 (((hF.ev rfl).trans (gv_t hg)).trans (congrArg (fun A => Value.slice A x3.length c3) ((S.rc0 h3.rc).rd.ad (ix_pos (hk116 hg))))) ((hF.ev rfl).trans (gv_t hg)) (hk116 hg).1 (hk116 hg).2 (k' := adO A3 + p113.toNat * 2) rfl)) ?_;clear hF;intro a hF
        refine op_gv (v := .pointer (some ⟨adB A3, adO A3 + p113.toNat * 2, none⟩)) rfl rfl hF rfl (yt (gw_yield hF rfl rfl rfl)) (fun hg => (run_fieldAddr rfl fl69_0 ((hF.ev rfl).trans (gv_t hg)) rfl)) ?_;clear hF;intro a hF
        refine op_gv (v := .int .i64 ((x3.getD p113.toNat ((0, 0) : Int × Int)).1)) rfl rfl hF rfl (yt (gw_yield hF rfl rfl rfl)) (fun hg => (run_load1 rfl one3 ((hF.ev rfl).trans (gv_t hg)) (rd_el0 (l := x3) (S.rc0 h3.rc).rd rfl eBus_len ((0, 0) : Int × Int) (ix_ltn (hk116 hg) rfl) rfl))) ?_;clear hF;intro a hF
        refine op_gv (v := .bool (ltB 0 ((x3.getD p113.toNat ((0, 0) : Int × Int)).1))) rfl rfl hF rfl (yt (gw_yield hF rfl rfl rfl)) (fun hg => (run_gtr ((hF.ev rfl).trans (gv_t hg)) rfl rfl)) ?_;clear hF;intro a hF
        revert a;refine ov (v := .bool ((ltB 0 ((x3.getD p108.toNat ((0, 0) : Int × Int)).1)) && (ltB 0 ((x3.getD p113.toNat ((0, 0) : Int × Int)).1)))) rfl rfl rfl (fun a hF=>run_pick_and rfl (hF.ev rfl) (fun hp => ((hF.ev rfl).trans (gv_t hp))) rfl) (mv rfl rfl fun a hF=>?_)
        refine op_gv (v := .agg #[.int .i64 x0, .slice A1 x1.length c1]) rfl rfl hF rfl (yt (gw_yield hF rfl rfl rfl)) (fun hg => (run_loadN rfl ag37 (hF.ev rfl) rfl ((S.free 0 rfl).cells 0 #[.int .i64 x0, .slice A1 x1.length c1] rfl))) ?_;clear hF;intro a hF
        refine op_gv (v := .slice A2 x2.length c2) rfl rfl hF rfl (yt (gw_yield hF rfl rfl rfl)) (fun hg => (run_move rfl (hF.ev rfl))) ?_;clear hF;intro a hF
        refine op_gv (v := .int .i64 p113) rfl rfl hF rfl (yt (gw_yield hF rfl rfl rfl)) (fun hg => (run_move rfl (hF.ev rfl))) ?_;clear hF;intro a hF
        refine op_gv (v := .int .i64 p108) rfl rfl hF rfl (yt (gw_yield hF rfl rfl rfl)) (fun hg => (run_move rfl (hF.ev rfl))) ?_;clear hF;intro a hF
        obtain ⟨p117, h117, hM112⟩ := bind_ex hM112
        refine op_gcall (v := .bool p117) rfl rfl hF rfl S (yt (gw_yield hF rfl rfl rfl)) (fun hg => (run_call (vs := [.agg #[.int .i64 x0, .slice A1 x1.length c1], .slice A2 x2.length c2, .int .i64 p113, .int .i64 p108]) rfl rfl co49 ⟨((hF.ev rfl).trans (gv_t hg)), ((hF.ev rfl).trans (gv_t hg)), ((hF.ev rfl).trans (gv_t hg)), ((hF.ev rfl).trans (gv_t hg)), trivial⟩)) (fun hg => c_spec_SameIsland (x0 := x0) (x1 := x1) (x2 := x2) (x3 := p113) (x4 := p108) ⟨(S.rc0 h1.rc), rfl⟩ ⟨(S.rc0 h2.rc), rfl⟩ (gb_t h117 hg)) ?_; clear hF S; intro a u hF S
        refine op_val (v := .bool (((ltB 0 ((x3.getD p108.toNat ((0, 0) : Int × Int)).1)) && (ltB 0 ((x3.getD p113.toNat ((0, 0) : Int × Int)).1))) && p117)) rfl rfl hF rfl (run_pick_and rfl (hF.ev rfl) (fun hp => ((hF.ev rfl).trans (gv_t hp))) rfl) ?_;clear hF;intro a hF
        refine wn ?_
        cases hc118 : (((ltB 0 ((x3.getD p108.toNat ((0, 0) : Int × Int)).1)) && (ltB 0 ((x3.getD p113.toNat ((0, 0) : Int × Int)).1))) && p117)
        · replace hM112 := bif_f hc118 hM112
          refine cond_f hF rfl hc118 ?_
          refine wp_skip ?_
          revert a;refine rl (mv rfl rfl (ov (v := .int .i64 (w64 (p113 + 1))) rfl rfl rfl (fun a hF=>run_add (z := w64 (p113 + 1)) (hF.ev rfl) rfl rfl rfl) (ag rfl rfl fun a hF=>wn ?_)))
          exact ⟨f2, Nat.lt_succ_self _, w64 (p113 + 1), hM112, hF.keep _ ⟨rfl, rfl, rfl, rfl, rfl, rfl, trivial⟩, S.sel [0] rfl rfl⟩
        replace hM112 := bif_t hc118 hM112
        refine cond_t hF rfl hc118 ?_
        revert a;refine sr (ov (v := .bool false) rfl rfl rfl (fun a hF=>run_assign rfl rfl) fun a hF=>wn ?_)
        refine wp_ret ?_
        repeat with_reducible first|refine tr ?_|refine ir ?_|refine nr ?_
        refine ret1_gw (.inl rfl) hF rfl (res_tmp (hF.ev rfl)) ?_
        obtain rfl := Option.some.inj hM112
        obtain rfl := Option.some.inj hM107
        obtain rfl := Option.some.inj hM
        exact ⟨rfl, S.sel [] rfl rfl⟩
      rintro a u ⟨p110, rfl, hF, S⟩
      replace hM107 := elim_l hM107
      revert a;refine rl (mv rfl rfl (ov (v := .int .i64 (w64 (p108 + 1))) rfl rfl rfl (fun a hF=>run_add (z := w64 (p108 + 1)) (hF.ev rfl) rfl rfl rfl) (ag rfl rfl fun a hF=>wn ?_)))
      exact ⟨f1, Nat.lt_succ_self _, w64 (p108 + 1), hM107, hF.keep _ ⟨rfl, rfl, rfl, rfl, rfl, trivial⟩, S.sel [0] rfl rfl⟩
    rintro a u ⟨p105, rfl, hF, S⟩
    replace hM := elim_l hM
    revert a;refine sr (ov (v := .bool true) rfl rfl rfl (fun a hF=>run_assign rfl rfl) fun a hF=>wn ?_)
    refine wp_ret ?_
    repeat with_reducible first|refine tr ?_|refine ir ?_|refine nr ?_
    refine ret1_gw (.inl rfl) hF rfl (res_tmp (hF.ev rfl)) ?_
    obtain rfl := Option.some.inj hM
    exact ⟨rfl, S.sel [] rfl rfl⟩
  replace hM := bif_t hc104 hM
  refine cond_t hF rfl hc104 ?_
  revert a;refine sr (ov (v := .bool false) rfl rfl rfl (fun a hF=>run_assign rfl rfl) fun a hF=>wn ?_)
  refine wp_ret ?_
  repeat with_reducible first|refine tr ?_|refine ir ?_|refine nr ?_
  refine ret1_gw (.inl rfl) hF rfl (res_tmp (hF.ev rfl)) ?_
  obtain rfl := Option.some.inj hM
  exact ⟨rfl, S.sel [] rfl rfl⟩
theorem c_spec_WorldValid {x0 : Int} {x1 : List (Int × Int × Int)} {x2 : List (Int × Int)} {x3 : List Bool} {x4 : List Bool} {x5 : List (Int × Int)} {x6 : List Int} {A1 : Option Addr} {n1 c1 : Nat} {A2 : Option Addr} {n2 c2 : Nat} {A3 : Option Addr} {n3 c3 : Nat} {A4 : Option Addr} {n4 c4 : Nat} {A5 : Option Addr} {n5 c5 : Nat} {A6 : Option Addr} {n6 c6 : Nat} {w : World} {r : Bool} (h1 : Rt w 3 eLine A1 n1 c1 x1) (h2 : Rt w 2 eBus A2 n2 c2 x2) (h3 : Rt w 1 eB A3 n3 c3 x3) (h4 : Rt w 1 eB A4 n4 c4 x4) (h5 : Rt w 2 ePermit A5 n5 c5 x5) (h6 : Rt w 1 eI A6 n6 c6 x6) (hM : m_spec_WorldValid x0 x1 x2 x3 x4 x5 x6 = some r) :
    Calls Try.prog 6 #[.agg #[.int .i64 x0, .slice A1 n1 c1, .slice A2 n2 c2, .slice A3 n3 c3, .slice A4 n4 c4, .slice A5 n5 c5, .slice A6 n6 c6]] w (fun e w' => e = .returned (.bool r) ∧ St w w' []) := by
  obtain rfl := h1.len
  obtain rfl := h2.len
  obtain rfl := h3.len
  obtain rfl := h4.len
  obtain rfl := h5.len
  obtain rfl := h6.len
  unfold m_spec_WorldValid at hM
  refine calls_gw Try.func6 Try.ntmps6 rfl [(0, .agg #[.int .i64 x0, .slice A1 x1.length c1, .slice A2 x2.length c2, .slice A3 x3.length c3, .slice A4 x4.length c4, .slice A5 x5.length c5, .slice A6 x6.length c6])] ⟨rfl, trivial⟩ rfl ?_
  intro a hF
  have S := St.nil w
  refine wsg ?_
  refine op_new (cs := #[.int .i64 x0, .slice A1 x1.length c1, .slice A2 x2.length c2, .slice A3 x3.length c3, .slice A4 x4.length c4, .slice A5 x5.length c5, .slice A6 x6.length c6]) rfl rfl hF rfl S (run_box rfl (hF.ev rfl) rfl) ?_; clear hF S; intro a g101 u hF S
  refine op_val (v := .bool false) rfl rfl hF rfl (run_assign rfl rfl) ?_;clear hF;intro a hF
  refine wn ?_
  refine ws ?_
  revert a;refine sr (ov (v := .pointer (some ⟨g101, 0, none⟩)) rfl rfl rfl (fun a hF=>run_fieldAddr rfl fl43_0 (hF.ev rfl) rfl) (ov rfl rfl rfl (fun a hF=>run_loadN rfl ag37 (hF.ev rfl) rfl ((S.free 0 rfl).cells 0 #[.int .i64 x0, .slice A1 x1.length c1] rfl)) (ov (v := .pointer (some ⟨g101, 2, none⟩)) rfl rfl rfl (fun a hF=>run_fieldAddr rfl fl43_1 (hF.ev rfl) rfl) (ov (v := .slice A2 x2.length c2) rfl rfl rfl (fun a hF=>run_load1 rfl one38 (hF.ev rfl) ((S.free 0 rfl).cell rfl)) fun a hF=>?_))))
  obtain ⟨p102, h102, hM⟩ := bind_ex hM
  refine op_call rfl rfl hF rfl (run_call (vs := [.agg #[.int .i64 x0, .slice A1 x1.length c1], .slice A2 x2.length c2]) rfl rfl co20 ⟨(hF.ev rfl), (hF.ev rfl), trivial⟩) (c_spec_BusesValid (x0 := x0) (x1 := x1) (x2 := x2) ⟨(S.rc0 h1.rc), rfl⟩ ⟨(S.rc0 h2.rc), rfl⟩ h102) ?_
  rintro e u ⟨rfl, T⟩
  refine ⟨_, rfl, ?_⟩
  clear hF; intro a hF
  replace S := S.call0 T; clear T
  revert a;refine ov (v := .bool (!p102)) rfl rfl rfl (fun a hF=>run_not rfl (hF.ev rfl)) (mv rfl rfl fun a hF=>?_)
  refine op_gv (v := .pointer (some ⟨g101, 3, none⟩)) rfl rfl hF rfl (yf (gw_yield hF rfl rfl rfl)) (fun hg => (run_fieldAddr rfl fl43_2 (hF.ev rfl) rfl)) ?_;clear hF;intro a hF
  refine op_gv (v := .agg #[.slice A3 x3.length c3, .slice A4 x4.length c4, .slice A5 x5.length c5]) rfl rfl hF rfl (yf (gw_yield hF rfl rfl rfl)) (fun hg => (run_loadN rfl ag41 ((hF.ev rfl).trans (gv_t hg)) rfl ((S.free 0 rfl).cells 3 #[.slice A3 x3.length c3, .slice A4 x4.length c4, .slice A5 x5.length c5] rfl))) ?_;clear hF;intro a hF
  obtain ⟨p103, h103, hM⟩ := bind_ex hM
  refine op_gcall (v := .bool p103) rfl rfl hF rfl S (yf (gw_yield hF rfl rfl rfl)) (fun hg => (run_call (vs := [.agg #[.slice A3 x3.length c3, .slice A4 x4.length c4, .slice A5 x5.length c5]]) rfl rfl co21 ⟨((hF.ev rfl).trans (gv_t hg)), trivial⟩)) (fun hg => c_spec_WorkValid (x0 := x3) (x1 := x4) (x2 := x5) ⟨(S.rc0 h3.rc), rfl⟩ ⟨(S.rc0 h4.rc), rfl⟩ ⟨(S.rc0 h5.rc), rfl⟩ (gb_t h103 hg)) ?_; clear hF S; intro a u hF S
  refine op_gv (v := .bool (!p103)) rfl rfl hF rfl (yf (gw_yield hF rfl rfl rfl)) (fun hg => (run_not rfl ((hF.ev rfl).trans (gv_t hg)))) ?_;clear hF;intro a hF
  revert a;refine ov (v := .bool ((!p102) || (!p103))) rfl rfl rfl (fun a hF=>run_pick_or rfl (hF.ev rfl) rfl (fun hp => ((hF.ev rfl).trans (gv_t (not_t hp))))) (mv rfl rfl fun a hF=>?_)
  refine op_gv (v := .pointer (some ⟨g101, 3, none⟩)) rfl rfl hF rfl (yf (gw_yield hF rfl rfl rfl)) (fun hg => (run_fieldAddr rfl fl43_2 (hF.ev rfl) rfl)) ?_;clear hF;intro a hF
  refine op_gv (v := .pointer (some ⟨g101, 3, none⟩)) rfl rfl hF rfl (yf (gw_yield hF rfl rfl rfl)) (fun hg => (run_fieldAddr rfl fl41_0 ((hF.ev rfl).trans (gv_t hg)) rfl)) ?_;clear hF;intro a hF
  refine op_gv (v := .slice A3 x3.length c3) rfl rfl hF rfl (yf (gw_yield hF rfl rfl rfl)) (fun hg => (run_load1 rfl one26 ((hF.ev rfl).trans (gv_t hg)) ((S.free 0 rfl).cell rfl))) ?_;clear hF;intro a hF
  refine op_gv (v := .int .i64 (x3.length : Int)) rfl rfl hF rfl (yf (gw_yield hF rfl rfl rfl)) (fun hg => (run_lenL rfl rfl Try.underlying26 ((hF.ev rfl).trans (gv_t hg)))) ?_;clear hF;intro a hF
  refine op_gv (v := .pointer (some ⟨g101, 0, none⟩)) rfl rfl hF rfl (yf (gw_yield hF rfl rfl rfl)) (fun hg => (run_fieldAddr rfl fl43_0 (hF.ev rfl) rfl)) ?_;clear hF;intro a hF
  refine op_gv (v := .pointer (some ⟨g101, 1, none⟩)) rfl rfl hF rfl (yf (gw_yield hF rfl rfl rfl)) (fun hg => (run_fieldAddr rfl fl37_1 ((hF.ev rfl).trans (gv_t hg)) rfl)) ?_;clear hF;intro a hF
  refine op_gv (v := .slice A1 x1.length c1) rfl rfl hF rfl (yf (gw_yield hF rfl rfl rfl)) (fun hg => (run_load1 rfl one35 ((hF.ev rfl).trans (gv_t hg)) ((S.free 0 rfl).cell rfl))) ?_;clear hF;intro a hF
  refine op_gv (v := .int .i64 (x1.length : Int)) rfl rfl hF rfl (yf (gw_yield hF rfl rfl rfl)) (fun hg => (run_lenL rfl rfl Try.underlying35 ((hF.ev rfl).trans (gv_t hg)))) ?_;clear hF;intro a hF
  refine op_gv (v := .bool ((x3.length : Int) != (x1.length : Int))) rfl rfl hF rfl (yf (gw_yield hF rfl rfl rfl)) (fun hg => (run_neq ((hF.ev rfl).trans (gv_t hg)) ((hF.ev rfl).trans (gv_t hg)) rfl)) ?_;clear hF;intro a hF
  refine op_val (v := .bool (((!p102) || (!p103)) || ((x3.length : Int) != (x1.length : Int)))) rfl rfl hF rfl (run_pick_or rfl (hF.ev rfl) rfl (fun hp => ((hF.ev rfl).trans (gv_t (not_t hp))))) ?_;clear hF;intro a hF
  refine wn ?_
  cases hc104 : (((!p102) || (!p103)) || ((x3.length : Int) != (x1.length : Int)))
  · replace hM := bif_f hc104 hM
    refine cond_f hF rfl hc104 ?_
    refine wp_skip ?_
    refine ws ?_
    revert a;refine sr (ov (v := .int .i64 0) rfl rfl rfl (fun a hF=>run_assign rfl rfl) fun a hF=>wn ?_)
    obtain ⟨o106, hM107, hM⟩ := bind_ex hM
    refine wp_cut (fun a u => ∃ (p105 : Unit), (Sum.inl p105) = o106 ∧ Fr a 84 [(1, .pointer (some ⟨g101, 0, none⟩)), (2, .bool false)] ∧ St w u [.box g101 43 #[.int .i64 x0, .slice A1 x1.length c1, .slice A2 x2.length c2, .slice A3 x3.length c3, .slice A4 x4.length c4, .slice A5 x5.length c5, .slice A6 x6.length c6]]) ?_ ?_
    · have _ := trivial
      refine wp_block ?_
      refine loop_gw (fun m a u => ∃ (p108 : Int), m_spec_WorldValid_l1 x3 x6 m p108 = some _ ∧ Fr a 84 [(1, .pointer (some ⟨g101, 0, none⟩)), (2, .bool false), (3, .int .i64 p108)] ∧ St w u [.box g101 43 #[.int .i64 x0, .slice A1 x1.length c1, .slice A2 x2.length c2, .slice A3 x3.length c3, .slice A4 x4.length c4, .slice A5 x5.length c5, .slice A6 x6.length c6]]) FUEL ⟨0, hM107, hF.keep _ ⟨rfl, rfl, rfl, trivial⟩, S.sel [0] rfl rfl⟩ ?_
      clear hF S hM107; rintro m a u ⟨p108, hM107, hF, S⟩
      rcases m with _ | f1
      · exact none_some hM107
      rw [m_spec_WorldValid_l1.eq_2] at hM107
      refine ws ?_
      revert a;refine sr (mv rfl rfl (ov (v := .pointer (some ⟨g101, 6, none⟩)) rfl rfl rfl (fun a hF=>run_fieldAddr rfl fl43_3 (hF.ev rfl) rfl) (ov (v := .slice A6 x6.length c6) rfl rfl rfl (fun a hF=>run_load1 rfl one30 (hF.ev rfl) ((S.free 0 rfl).cell rfl)) (ov rfl rfl rfl (fun a hF=>run_lenL rfl rfl Try.underlying30 (hF.ev rfl)) (ov (v := .bool (ltB p108 (x6.length : Int))) rfl rfl rfl (fun a hF=>run_lss (hF.ev rfl) (hF.ev rfl) rfl) fun a hF=>wn ?_)))))
      cases hc109 : (ltB p108 (x6.length : Int))
      · replace hM107 := bif_f hc109 hM107
        refine cond_f hF rfl hc109 ?_
        refine wp_exit ?_
        repeat with_reducible (first | refine then_exit ?_ | refine in_hit ?_ | refine in_miss rfl ?_)
        obtain rfl := Option.some.inj hM107
        exact ⟨(), rfl, hF.keep _ ⟨rfl, rfl, trivial⟩, S.sel [0] rfl rfl⟩
      replace hM107 := bif_t hc109 hM107
      refine cond_t hF rfl hc109 ?_
      refine wp_skip ?_
      refine ws ?_
      refine wp_block ?_
      refine ws ?_
      obtain ⟨hk110, hM107⟩ := chk_ex hM107
      replace hk110 := ixB_t hk110
      obtain ⟨p111, h111, hM107⟩ := bind_ex hM107
      obtain ⟨hk112, hM107⟩ := chk_ex hM107
      replace hk112 := fun hg => ixB_t (imp_t hk112 hg)
      obtain ⟨hk113, hM107⟩ := chk_ex hM107
      replace hk113 := fun hg => ixB_t (imp_t hk113 hg)
      obtain ⟨hk114, hM107⟩ := chk_ex hM107
      replace hk114 := fun hg => ixB_t (imp_t hk114 hg)
      obtain ⟨hk115, hM107⟩ := chk_ex hM107
      replace hk115 := fun hg => ixB_t (imp_t hk115 hg)
      refine region_gw (D := [34, 35, 36, 37, 38, 39, 40, 41, 42, 43, 44, 45, 46, 47, 48, 49, 50, 51, 52, 53, 54, 55, 56, 57, 58, 59, 60, 61, 62, 63, 64, 65, 66, 67, 68, 69, 70, 71, 72, 73, 74, 75]) (Lr := [.box g101 43 #[.int .i64 x0, .slice A1 x1.length c1, .slice A2 x2.length c2, .slice A3 x3.length c3, .slice A4 x4.length c4, .slice A5 x5.length c5, .slice A6 x6.length c6]]) (deps := (fun | 0 => [34] | 1 => [35] | 2 => [36] | 3 => [37] | 4 => [38] | 5 => [39] | 6 => [40] | 7 => [41] | 8 => [42] | 9 => [43] | 10 => [44] | 11 => [45] | 12 => [46] | 13 => [47] | 14 => [48] | 15 => [49] | 16 => [50] | 17 => [51] | 18 => [52] | 19 => [53] | 20 => [54] | 21 => [55] | 22 => [56] | 23 => [57] | 24 => [58] | 25 => [59] | 26 => [60] | 27 => [61] | 28 => [62] | 29 => [63] | 30 => [64] | 31 => [65] | 32 => [66] | 33 => [67] | 34 => [68] | 35 => [69] | 36 => [70] | 37 => [71] | 38 => [72] | 39 => [73] | 40 => [74] | 41 => [75] | _ => [])) (rd := (fun _ => [])) (zr := (fun _ => []))
        (φ := fun i vs => match i, vs with | 0, [v34] => v34 = .pointer (some ⟨g101, 6, none⟩) | 1, [v35] => v35 = .slice A6 x6.length c6 | 2, [v36] => v36 = .int .i64 p108 | 3, [v37] => v37 = .pointer (some ⟨adB A6, adO A6 + p108.toNat * 1, none⟩) | 4, [v38] => v38 = .int .i64 (x6.getD p108.toNat (0 : Int)) | 5, [v39] => v39 = .pointer (some ⟨g101, 3, none⟩) | 6, [v40] => v40 = .pointer (some ⟨g101, 3, none⟩) | 7, [v41] => v41 = .slice A3 x3.length c3 | 8, [v42] => v42 = .int .i64 (x3.length : Int) | 9, [v43] => v43 = .int .i64 (w64 ((x3.length : Int) - 1)) | 10, [v44] => v44 = .bool p111 | 11, [v45] => v45 = .bool (!p111) | 12, [v46] => v46 = .bool (!p111) | 13, [v47] => v47 = gv (!(!p111)) (.int .i64 p108) | 14, [v48] => v48 = gv (!(!p111)) (.bool (ltB 0 p108)) | 15, [v49] => v49 = gv (!(!p111)) (.bool (ltB 0 p108)) | 16, [v50] => v50 = gv ((!(!p111)) && (ltB 0 p108)) (.pointer (some ⟨g101, 6, none⟩)) | 17, [v51] => v51 = gv ((!(!p111)) && (ltB 0 p108)) (.slice A6 x6.length c6) | 18, [v52] => v52 = gv ((!(!p111)) && (ltB 0 p108)) (.int .i64 p108) | 19, [v53] => v53 = gv ((!(!p111)) && (ltB 0 p108)) (.int .i64 (w64 (p108 - 1))) | 20, [v54] => v54 = gv ((!(!p111)) && (ltB 0 p108)) (.pointer (some ⟨adB A6, adO A6 + ((w64 (p108 - 1)).toNat) * 1, none⟩)) | 21, [v55] => v55 = gv ((!(!p111)) && (ltB 0 p108)) (.int .i64 (x6.getD ((w64 (p108 - 1)).toNat) (0 : Int))) | 22, [v56] => v56 = gv ((!(!p111)) && (ltB 0 p108)) (.pointer (some ⟨g101, 6, none⟩)) | 23, [v57] => v57 = gv ((!(!p111)) && (ltB 0 p108)) (.slice A6 x6.length c6) | 24, [v58] => v58 = gv ((!(!p111)) && (ltB 0 p108)) (.int .i64 p108) | 25, [v59] => v59 = gv ((!(!p111)) && (ltB 0 p108)) (.pointer (some ⟨adB A6, adO A6 + p108.toNat * 1, none⟩)) | 26, [v60] => v60 = gv ((!(!p111)) && (ltB 0 p108)) (.int .i64 (x6.getD p108.toNat (0 : Int))) | 27, [v61] => v61 = gv ((!(!p111)) && (ltB 0 p108)) (.bool (leB (x6.getD p108.toNat (0 : Int)) (x6.getD ((w64 (p108 - 1)).toNat) (0 : Int)))) | 28, [v62] => v62 = gv (!(!p111)) (.bool ((ltB 0 p108) && (leB (x6.getD p108.toNat (0 : Int)) (x6.getD ((w64 (p108 - 1)).toNat) (0 : Int))))) | 29, [v63] => v63 = .bool ((!p111) || ((ltB 0 p108) && (leB (x6.getD p108.toNat (0 : Int)) (x6.getD ((w64 (p108 - 1)).toNat) (0 : Int))))) | 30, [v64] => v64 = .bool ((!p111) || ((ltB 0 p108) && (leB (x6.getD p108.toNat (0 : Int)) (x6.getD ((w64 (p108 - 1)).toNat) (0 : Int))))) | 31, [v65] => v65 = gv (!((!p111) || ((ltB 0 p108) && (leB (x6.getD p108.toNat (0 : Int)) (x6.getD ((w64 (p108 - 1)).toNat) (0 : Int)))))) (.pointer (some ⟨g101, 3, none⟩)) | 32, [v66] => v66 = gv (!((!p111) || ((ltB 0 p108) && (leB (x6.getD p108.toNat (0 : Int)) (x6.getD ((w64 (p108 - 1)).toNat) (0 : Int)))))) (.pointer (some ⟨g101, 3, none⟩)) | 33, [v67] => v67 = gv (!((!p111) || ((ltB 0 p108) && (leB (x6.getD p108.toNat (0 : Int)) (x6.getD ((w64 (p108 - 1)).toNat) (0 : Int)))))) (.slice A3 x3.length c3) | 34, [v68] => v68 = gv (!((!p111) || ((ltB 0 p108) && (leB (x6.getD p108.toNat (0 : Int)) (x6.getD ((w64 (p108 - 1)).toNat) (0 : Int)))))) (.pointer (some ⟨g101, 6, none⟩)) | 35, [v69] => v69 = gv (!((!p111) || ((ltB 0 p108) && (leB (x6.getD p108.toNat (0 : Int)) (x6.getD ((w64 (p108 - 1)).toNat) (0 : Int)))))) (.slice A6 x6.length c6) | 36, [v70] => v70 = gv (!((!p111) || ((ltB 0 p108) && (leB (x6.getD p108.toNat (0 : Int)) (x6.getD ((w64 (p108 - 1)).toNat) (0 : Int)))))) (.int .i64 p108) | 37, [v71] => v71 = gv (!((!p111) || ((ltB 0 p108) && (leB (x6.getD p108.toNat (0 : Int)) (x6.getD ((w64 (p108 - 1)).toNat) (0 : Int)))))) (.pointer (some ⟨adB A6, adO A6 + p108.toNat * 1, none⟩)) | 38, [v72] => v72 = gv (!((!p111) || ((ltB 0 p108) && (leB (x6.getD p108.toNat (0 : Int)) (x6.getD ((w64 (p108 - 1)).toNat) (0 : Int)))))) (.int .i64 (x6.getD p108.toNat (0 : Int))) | 39, [v73] => v73 = gv (!((!p111) || ((ltB 0 p108) && (leB (x6.getD p108.toNat (0 : Int)) (x6.getD ((w64 (p108 - 1)).toNat) (0 : Int)))))) (.pointer (some ⟨adB A3, adO A3 + ((x6.getD p108.toNat (0 : Int)).toNat) * 1, none⟩)) | 40, [v74] => v74 = gv (!((!p111) || ((ltB 0 p108) && (leB (x6.getD p108.toNat (0 : Int)) (x6.getD ((w64 (p108 - 1)).toNat) (0 : Int)))))) (.bool (x3.getD ((x6.getD p108.toNat (0 : Int)).toNat) false)) | 41, [v75] => v75 = .bool (((!p111) || ((ltB 0 p108) && (leB (x6.getD p108.toNat (0 : Int)) (x6.getD ((w64 (p108 - 1)).toNat) (0 : Int))))) || (x3.getD ((x6.getD p108.toNat (0 : Int)).toNat) false)) | _, _ => True)
        (C := fun _ _ => [])
        (κ := (fun _ => none)) (Z := (fun _ => [])) mixed hF (by kernel_rfl) S ?_ ?_
      · refine ⟨?_, ?_, ?_, ?_, ?_, ?_, ?_, ?_, ?_, ?_, ?_, ?_, ?_, ?_, ?_, ?_, ?_, ?_, ?_, ?_, ?_, ?_, ?_, ?_, ?_, ?_, ?_, ?_, ?_, ?_, ?_, ?_, ?_, ?_, ?_, ?_, ?_, ?_, ?_, ?_, ?_, ?_, trivial⟩
        · intro a u X hB hu hp hr hz hl S
          replace S : St w u ([] ++ X) := S
          exact .inl ⟨rfl, .pointer (some ⟨g101, 6, none⟩), u, (run_fieldAddr rfl fl43_3 (hF.evB hB rfl rfl) rfl), rfl, S⟩
        · intro a u X hB hu hp hr hz hl S
          replace S : St w u ([] ++ X) := S
          have e34 : sl a 34 = .pointer (some ⟨g101, 6, none⟩) := hp 0 rfl
          exact .inl ⟨rfl, .slice A6 x6.length c6, u, (run_load1 rfl one30 (ev_sl e34) ((gr_box S hl 0 rfl).cell rfl)), rfl, S⟩
        · intro a u X hB hu hp hr hz hl S
          replace S : St w u ([] ++ X) := S
          exact .inl ⟨rfl, .int .i64 p108, u, (run_move rfl (hF.evB hB rfl rfl)), rfl, S⟩
        · intro a u X hB hu hp hr hz hl S
          replace S : St w u ([] ++ X) := S
          have e35 : sl a 35 = .slice A6 x6.length c6 := hp 1 rfl
          have e36 : sl a 36 = .int .i64 p108 := hp 2 rfl
          exact .inl ⟨rfl, .pointer (some ⟨adB A6, adO A6 + p108.toNat * 1, none⟩), u, (run_indexAddr (b := adB A6) (off := adO A6) rfl Try.underlying30 sz3 ((ev_sl e35).trans (congrArg (fun A => Value.slice A x6.length c6) ((S.rc0 h6.rc).rd.ad (ix_pos hk110)))) (ev_sl e36) hk110.1 hk110.2 (k' := adO A6 + p108.toNat * 1) rfl), rfl, S⟩
        · intro a u X hB hu hp hr hz hl S
          replace S : St w u ([] ++ X) := S
          have e37 : sl a 37 = .pointer (some ⟨adB A6, adO A6 + p108.toNat * 1, none⟩) := hp 3 rfl
          exact .inl ⟨rfl, .int .i64 (x6.getD p108.toNat (0 : Int)), u, (run_load1 rfl one3 (ev_sl e37) (rd_el0 (l := x6) (S.rc0 h6.rc).rd rfl eI_len (0 : Int) (ix_ltn hk110 rfl) rfl)), rfl, S⟩
        · intro a u X hB hu hp hr hz hl S
          replace S : St w u ([] ++ X) := S
          exact .inl ⟨rfl, .pointer (some ⟨g101, 3, none⟩), u, (run_fieldAddr rfl fl43_2 (hF.evB hB rfl rfl) rfl), rfl, S⟩
        · intro a u X hB hu hp hr hz hl S
          replace S : St w u ([] ++ X) := S
          have e39 : sl a 39 = .pointer (some ⟨g101, 3, none⟩) := hp 5 rfl
          exact .inl ⟨rfl, .pointer (some ⟨g101, 3, none⟩), u, (run_fieldAddr rfl fl41_0 (ev_sl e39) rfl), rfl, S⟩
        · intro a u X hB hu hp hr hz hl S
          replace S : St w u ([] ++ X) := S
          have e40 : sl a 40 = .pointer (some ⟨g101, 3, none⟩) := hp 6 rfl
          exact .inl ⟨rfl, .slice A3 x3.length c3, u, (run_load1 rfl one26 (ev_sl e40) ((gr_box S hl 0 rfl).cell rfl)), rfl, S⟩
        · intro a u X hB hu hp hr hz hl S
          replace S : St w u ([] ++ X) := S
          have e41 : sl a 41 = .slice A3 x3.length c3 := hp 7 rfl
          exact .inl ⟨rfl, .int .i64 (x3.length : Int), u, (run_lenL rfl rfl Try.underlying26 (ev_sl e41)), rfl, S⟩
        · intro a u X hB hu hp hr hz hl S
          replace S : St w u ([] ++ X) := S
          have e42 : sl a 42 = .int .i64 (x3.length : Int) := hp 8 rfl
          exact .inl ⟨rfl, .int .i64 (w64 ((x3.length : Int) - 1)), u, (run_sub (z := w64 ((x3.length : Int) - 1)) (ev_sl e42) (ev_const _ _) rfl rfl), rfl, S⟩
        · intro a u X hB hu hp hr hz hl S
          replace S : St w u ([] ++ X) := S
          have e38 : sl a 38 = .int .i64 (x6.getD p108.toNat (0 : Int)) := hp 4 rfl
          have e43 : sl a 43 = .int .i64 (w64 ((x3.length : Int) - 1)) := hp 9 rfl
          refine .inr (.inr (.inl ⟨rfl, _, _, (run_call (vs := [.int .i64 (x6.getD p108.toNat (0 : Int)), .int .i64 0, .int .i64 (w64 ((x3.length : Int) - 1))]) rfl rfl co22 ⟨(ev_sl e38), (ev_const _ _), (ev_sl e43), trivial⟩), ?_⟩))
          refine Calls.mono (c_spec_l1In (x0 := (x6.getD p108.toNat (0 : Int))) (x1 := 0) (x2 := w64 ((x3.length : Int) - 1))  h111) ?_
          rintro e w1 ⟨rfl, T⟩
          exact ⟨_, rfl, rfl, S.call0 T⟩
        · intro a u X hB hu hp hr hz hl S
          replace S : St w u ([] ++ X) := S
          have e44 : sl a 44 = .bool p111 := hp 10 rfl
          exact .inl ⟨rfl, .bool (!p111), u, (run_not rfl (ev_sl e44)), rfl, S⟩
        · intro a u X hB hu hp hr hz hl S
          replace S : St w u ([] ++ X) := S
          have e45 : sl a 45 = .bool (!p111) := hp 11 rfl
          exact .inl ⟨rfl, .bool (!p111), u, (run_move rfl (ev_sl e45)), rfl, S⟩
        · intro a u X hB hu hp hr hz hl S
          replace S : St w u ([] ++ X) := S
          have e46 : sl a 46 = .bool (!p111) := hp 12 rfl
          rcases (Bool.eq_false_or_eq_true (!(!p111))).symm with hg | hg
          · exact .inr (.inr (.inr ⟨gr_eg rfl (yf (gr_yield rfl rfl e46)) hg, (gv_f hg).symm, S⟩))
          exact .inl ⟨gr_eg rfl (yf (gr_yield rfl rfl e46)) hg, .int .i64 p108, u, (run_move rfl (hF.evB hB rfl rfl)), (gv_t hg).symm, S⟩
        · intro a u X hB hu hp hr hz hl S
          replace S : St w u ([] ++ X) := S
          have e46 : sl a 46 = .bool (!p111) := hp 12 rfl
          have e47 : sl a 47 = gv (!(!p111)) (.int .i64 p108) := hp 13 rfl
          rcases (Bool.eq_false_or_eq_true (!(!p111))).symm with hg | hg
          · exact .inr (.inr (.inr ⟨gr_eg rfl (yf (gr_yield rfl rfl e46)) hg, (gv_f hg).symm, S⟩))
          exact .inl ⟨gr_eg rfl (yf (gr_yield rfl rfl e46)) hg, .bool (ltB 0 p108), u, (run_gtr ((ev_sl e47).trans (gv_t hg)) (ev_const _ _) rfl), (gv_t hg).symm, S⟩
        · intro a u X hB hu hp hr hz hl S
          replace S : St w u ([] ++ X) := S
          have e46 : sl a 46 = .bool (!p111) := hp 12 rfl
          have e48 : sl a 48 = gv (!(!p111)) (.bool (ltB 0 p108)) := hp 14 rfl
          rcases (Bool.eq_false_or_eq_true (!(!p111))).symm with hg | hg
          · exact .inr (.inr (.inr ⟨gr_eg rfl (yf (gr_yield rfl rfl e46)) hg, (gv_f hg).symm, S⟩))
          exact .inl ⟨gr_eg rfl (yf (gr_yield rfl rfl e46)) hg, .bool (ltB 0 p108), u, (run_move rfl ((ev_sl e48).trans (gv_t hg))), (gv_t hg).symm, S⟩
        · intro a u X hB hu hp hr hz hl S
          replace S : St w u ([] ++ X) := S
          have e49 : sl a 49 = gv (!(!p111)) (.bool (ltB 0 p108)) := hp 15 rfl
          rcases (Bool.eq_false_or_eq_true ((!(!p111)) && (ltB 0 p108))).symm with hg | hg
          · exact .inr (.inr (.inr ⟨gr_eg rfl (ytG (gr_yieldG rfl rfl e49)) hg, (gv_f hg).symm, S⟩))
          exact .inl ⟨gr_eg rfl (ytG (gr_yieldG rfl rfl e49)) hg, .pointer (some ⟨g101, 6, none⟩), u, (run_fieldAddr rfl fl43_3 (hF.evB hB rfl rfl) rfl), (gv_t hg).symm, S⟩
        · intro a u X hB hu hp hr hz hl S
          replace S : St w u ([] ++ X) := S
          have e49 : sl a 49 = gv (!(!p111)) (.bool (ltB 0 p108)) := hp 15 rfl
          have e50 : sl a 50 = gv ((!(!p111)) && (ltB 0 p108)) (.pointer (some ⟨g101, 6, none⟩)) := hp 16 rfl
          rcases (Bool.eq_false_or_eq_true ((!(!p111)) && (ltB 0 p108))).symm with hg | hg
          · exact .inr (.inr (.inr ⟨gr_eg rfl (ytG (gr_yieldG rfl rfl e49)) hg, (gv_f hg).symm, S⟩))
          exact .inl ⟨gr_eg rfl (ytG (gr_yieldG rfl rfl e49)) hg, .slice A6 x6.length c6, u, (run_load1 rfl one30 ((ev_sl e50).trans (gv_t hg)) ((gr_box S hl 0 rfl).cell rfl)), (gv_t hg).symm, S⟩
        · intro a u X hB hu hp hr hz hl S
          replace S : St w u ([] ++ X) := S
          have e49 : sl a 49 = gv (!(!p111)) (.bool (ltB 0 p108)) := hp 15 rfl
          rcases (Bool.eq_false_or_eq_true ((!(!p111)) && (ltB 0 p108))).symm with hg | hg
          · exact .inr (.inr (.inr ⟨gr_eg rfl (ytG (gr_yieldG rfl rfl e49)) hg, (gv_f hg).symm, S⟩))
          exact .inl ⟨gr_eg rfl (ytG (gr_yieldG rfl rfl e49)) hg, .int .i64 p108, u, (run_move rfl (hF.evB hB rfl rfl)), (gv_t hg).symm, S⟩
        · intro a u X hB hu hp hr hz hl S
          replace S : St w u ([] ++ X) := S
          have e49 : sl a 49 = gv (!(!p111)) (.bool (ltB 0 p108)) := hp 15 rfl
          have e52 : sl a 52 = gv ((!(!p111)) && (ltB 0 p108)) (.int .i64 p108) := hp 18 rfl
          rcases (Bool.eq_false_or_eq_true ((!(!p111)) && (ltB 0 p108))).symm with hg | hg
          · exact .inr (.inr (.inr ⟨gr_eg rfl (ytG (gr_yieldG rfl rfl e49)) hg, (gv_f hg).symm, S⟩))
          exact .inl ⟨gr_eg rfl (ytG (gr_yieldG rfl rfl e49)) hg, .int .i64 (w64 (p108 - 1)), u, (run_sub (z := w64 (p108 - 1)) ((ev_sl e52).trans (gv_t hg)) (ev_const _ _) rfl rfl), (gv_t hg).symm, S⟩
        · intro a u X hB hu hp hr hz hl S
          replace S : St w u ([] ++ X) := S
          have e49 : sl a 49 = gv (!(!p111)) (.bool (ltB 0 p108)) := hp 15 rfl
          have e51 : sl a 51 = gv ((!(!p111)) && (ltB 0 p108)) (.slice A6 x6.length c6) := hp 17 rfl
          have e53 : sl a 53 = gv ((!(!p111)) && (ltB 0 p108)) (.int .i64 (w64 (p108 - 1))) := hp 19 rfl
          rcases (Bool.eq_false_or_eq_true ((!(!p111)) && (ltB 0 p108))).symm with hg | hg
          · exact .inr (.inr (.inr ⟨gr_eg rfl (ytG (gr_yieldG rfl rfl e49)) hg, (gv_f hg).symm, S⟩))
          exact .inl ⟨gr_eg rfl (ytG (gr_yieldG rfl rfl e49)) hg, .pointer (some ⟨adB A6, adO A6 + ((w64 (p108 - 1)).toNat) * 1, none⟩), u, (run_indexAddr (b := adB A6) (off := adO A6) rfl Try.underlying30 sz3 (((ev_sl e51).trans (gv_t hg)).trans (congrArg (fun A => Value.slice A x6.length c6) ((S.rc0 h6.rc).rd.ad (ix_pos (hk112 hg))))) ((ev_sl e53).trans (gv_t hg)) (hk112 hg).1 (hk112 hg).2 (k' := adO A6 + ((w64 (p108 - 1)).toNat) * 1) rfl), (gv_t hg).symm, S⟩
        · intro a u X hB hu hp hr hz hl S
          replace S : St w u ([] ++ X) := S
          have e49 : sl a 49 = gv (!(!p111)) (.bool (ltB 0 p108)) := hp 15 rfl
          have e54 : sl a 54 = gv ((!(!p111)) && (ltB 0 p108)) (.pointer (some ⟨adB A6, adO A6 + ((w64 (p108 - 1)).toNat) * 1, none⟩)) := hp 20 rfl
          rcases (Bool.eq_false_or_eq_true ((!(!p111)) && (ltB 0 p108))).symm with hg | hg
          · exact .inr (.inr (.inr ⟨gr_eg rfl (ytG (gr_yieldG rfl rfl e49)) hg, (gv_f hg).symm, S⟩))
          exact .inl ⟨gr_eg rfl (ytG (gr_yieldG rfl rfl e49)) hg, .int .i64 (x6.getD ((w64 (p108 - 1)).toNat) (0 : Int)), u, (run_load1 rfl one3 ((ev_sl e54).trans (gv_t hg)) (rd_el0 (l := x6) (S.rc0 h6.rc).rd rfl eI_len (0 : Int) (ix_ltn (hk112 hg) rfl) rfl)), (gv_t hg).symm, S⟩
        · intro a u X hB hu hp hr hz hl S
          replace S : St w u ([] ++ X) := S
          have e49 : sl a 49 = gv (!(!p111)) (.bool (ltB 0 p108)) := hp 15 rfl
          rcases (Bool.eq_false_or_eq_true ((!(!p111)) && (ltB 0 p108))).symm with hg | hg
          · exact .inr (.inr (.inr ⟨gr_eg rfl (ytG (gr_yieldG rfl rfl e49)) hg, (gv_f hg).symm, S⟩))
          exact .inl ⟨gr_eg rfl (ytG (gr_yieldG rfl rfl e49)) hg, .pointer (some ⟨g101, 6, none⟩), u, (run_fieldAddr rfl fl43_3 (hF.evB hB rfl rfl) rfl), (gv_t hg).symm, S⟩
        · intro a u X hB hu hp hr hz hl S
          replace S : St w u ([] ++ X) := S
          have e49 : sl a 49 = gv (!(!p111)) (.bool (ltB 0 p108)) := hp 15 rfl
          have e56 : sl a 56 = gv ((!(!p111)) && (ltB 0 p108)) (.pointer (some ⟨g101, 6, none⟩)) := hp 22 rfl
          rcases (Bool.eq_false_or_eq_true ((!(!p111)) && (ltB 0 p108))).symm with hg | hg
          · exact .inr (.inr (.inr ⟨gr_eg rfl (ytG (gr_yieldG rfl rfl e49)) hg, (gv_f hg).symm, S⟩))
          exact .inl ⟨gr_eg rfl (ytG (gr_yieldG rfl rfl e49)) hg, .slice A6 x6.length c6, u, (run_load1 rfl one30 ((ev_sl e56).trans (gv_t hg)) ((gr_box S hl 0 rfl).cell rfl)), (gv_t hg).symm, S⟩
        · intro a u X hB hu hp hr hz hl S
          replace S : St w u ([] ++ X) := S
          have e49 : sl a 49 = gv (!(!p111)) (.bool (ltB 0 p108)) := hp 15 rfl
          rcases (Bool.eq_false_or_eq_true ((!(!p111)) && (ltB 0 p108))).symm with hg | hg
          · exact .inr (.inr (.inr ⟨gr_eg rfl (ytG (gr_yieldG rfl rfl e49)) hg, (gv_f hg).symm, S⟩))
          exact .inl ⟨gr_eg rfl (ytG (gr_yieldG rfl rfl e49)) hg, .int .i64 p108, u, (run_move rfl (hF.evB hB rfl rfl)), (gv_t hg).symm, S⟩
        · intro a u X hB hu hp hr hz hl S
          replace S : St w u ([] ++ X) := S
          have e49 : sl a 49 = gv (!(!p111)) (.bool (ltB 0 p108)) := hp 15 rfl
          have e57 : sl a 57 = gv ((!(!p111)) && (ltB 0 p108)) (.slice A6 x6.length c6) := hp 23 rfl
          have e58 : sl a 58 = gv ((!(!p111)) && (ltB 0 p108)) (.int .i64 p108) := hp 24 rfl
          rcases (Bool.eq_false_or_eq_true ((!(!p111)) && (ltB 0 p108))).symm with hg | hg
          · exact .inr (.inr (.inr ⟨gr_eg rfl (ytG (gr_yieldG rfl rfl e49)) hg, (gv_f hg).symm, S⟩))
          exact .inl ⟨gr_eg rfl (ytG (gr_yieldG rfl rfl e49)) hg, .pointer (some ⟨adB A6, adO A6 + p108.toNat * 1, none⟩), u, (run_indexAddr (b := adB A6) (off := adO A6) rfl Try.underlying30 sz3 (((ev_sl e57).trans (gv_t hg)).trans (congrArg (fun A => Value.slice A x6.length c6) ((S.rc0 h6.rc).rd.ad (ix_pos (hk113 hg))))) ((ev_sl e58).trans (gv_t hg)) (hk113 hg).1 (hk113 hg).2 (k' := adO A6 + p108.toNat * 1) rfl), (gv_t hg).symm, S⟩
        · intro a u X hB hu hp hr hz hl S
          replace S : St w u ([] ++ X) := S
          have e49 : sl a 49 = gv (!(!p111)) (.bool (ltB 0 p108)) := hp 15 rfl
          have e59 : sl a 59 = gv ((!(!p111)) && (ltB 0 p108)) (.pointer (some ⟨adB A6, adO A6 + p108.toNat * 1, none⟩)) := hp 25 rfl
          rcases (Bool.eq_false_or_eq_true ((!(!p111)) && (ltB 0 p108))).symm with hg | hg
          · exact .inr (.inr (.inr ⟨gr_eg rfl (ytG (gr_yieldG rfl rfl e49)) hg, (gv_f hg).symm, S⟩))
          exact .inl ⟨gr_eg rfl (ytG (gr_yieldG rfl rfl e49)) hg, .int .i64 (x6.getD p108.toNat (0 : Int)), u, (run_load1 rfl one3 ((ev_sl e59).trans (gv_t hg)) (rd_el0 (l := x6) (S.rc0 h6.rc).rd rfl eI_len (0 : Int) (ix_ltn (hk113 hg) rfl) rfl)), (gv_t hg).symm, S⟩
        · intro a u X hB hu hp hr hz hl S
          replace S : St w u ([] ++ X) := S
          have e49 : sl a 49 = gv (!(!p111)) (.bool (ltB 0 p108)) := hp 15 rfl
          have e55 : sl a 55 = gv ((!(!p111)) && (ltB 0 p108)) (.int .i64 (x6.getD ((w64 (p108 - 1)).toNat) (0 : Int))) := hp 21 rfl
          have e60 : sl a 60 = gv ((!(!p111)) && (ltB 0 p108)) (.int .i64 (x6.getD p108.toNat (0 : Int))) := hp 26 rfl
          rcases (Bool.eq_false_or_eq_true ((!(!p111)) && (ltB 0 p108))).symm with hg | hg
          · exact .inr (.inr (.inr ⟨gr_eg rfl (ytG (gr_yieldG rfl rfl e49)) hg, (gv_f hg).symm, S⟩))
          exact .inl ⟨gr_eg rfl (ytG (gr_yieldG rfl rfl e49)) hg, .bool (leB (x6.getD p108.toNat (0 : Int)) (x6.getD ((w64 (p108 - 1)).toNat) (0 : Int))), u, (run_geq ((ev_sl e55).trans (gv_t hg)) ((ev_sl e60).trans (gv_t hg)) rfl), (gv_t hg).symm, S⟩
        · intro a u X hB hu hp hr hz hl S
          replace S : St w u ([] ++ X) := S
          have e46 : sl a 46 = .bool (!p111) := hp 12 rfl
          have e49 : sl a 49 = gv (!(!p111)) (.bool (ltB 0 p108)) := hp 15 rfl
          have e61 : sl a 61 = gv ((!(!p111)) && (ltB 0 p108)) (.bool (leB (x6.getD p108.toNat (0 : Int)) (x6.getD ((w64 (p108 - 1)).toNat) (0 : Int)))) := hp 27 rfl
          rcases (Bool.eq_false_or_eq_true (!(!p111))).symm with hg | hg
          · exact .inr (.inr (.inr ⟨gr_eg rfl (yf (gr_yield rfl rfl e46)) hg, (gv_f hg).symm, S⟩))
          exact .inl ⟨gr_eg rfl (yf (gr_yield rfl rfl e46)) hg, .bool ((ltB 0 p108) && (leB (x6.getD p108.toNat (0 : Int)) (x6.getD ((w64 (p108 - 1)).toNat) (0 : Int)))), u, (run_pick_and rfl ((ev_sl e49).trans (gv_t hg)) (fun hp => ((ev_sl e61).trans (gv_t (and_i hg hp)))) (ev_const _ _)), (gv_t hg).symm, S⟩
        · intro a u X hB hu hp hr hz hl S
          replace S : St w u ([] ++ X) := S
          have e46 : sl a 46 = .bool (!p111) := hp 12 rfl
          have e62 : sl a 62 = gv (!(!p111)) (.bool ((ltB 0 p108) && (leB (x6.getD p108.toNat (0 : Int)) (x6.getD ((w64 (p108 - 1)).toNat) (0 : Int))))) := hp 28 rfl
          exact .inl ⟨rfl, .bool ((!p111) || ((ltB 0 p108) && (leB (x6.getD p108.toNat (0 : Int)) (x6.getD ((w64 (p108 - 1)).toNat) (0 : Int))))), u, (run_pick_or rfl (ev_sl e46) (ev_const _ _) (fun hp => ((ev_sl e62).trans (gv_t (not_t hp))))), rfl, S⟩
        · intro a u X hB hu hp hr hz hl S
          replace S : St w u ([] ++ X) := S
          have e63 : sl a 63 = .bool ((!p111) || ((ltB 0 p108) && (leB (x6.getD p108.toNat (0 : Int)) (x6.getD ((w64 (p108 - 1)).toNat) (0 : Int))))) := hp 29 rfl
          exact .inl ⟨rfl, .bool ((!p111) || ((ltB 0 p108) && (leB (x6.getD p108.toNat (0 : Int)) (x6.getD ((w64 (p108 - 1)).toNat) (0 : Int))))), u, (run_move rfl (ev_sl e63)), rfl, S⟩
        · intro a u X hB hu hp hr hz hl S
          replace S : St w u ([] ++ X) := S
          have e64 : sl a 64 = .bool ((!p111) || ((ltB 0 p108) && (leB (x6.getD p108.toNat (0 : Int)) (x6.getD ((w64 (p108 - 1)).toNat) (0 : Int))))) := hp 30 rfl
          rcases (Bool.eq_false_or_eq_true (!((!p111) || ((ltB 0 p108) && (leB (x6.getD p108.toNat (0 : Int)) (x6.getD ((w64 (p108 - 1)).toNat) (0 : Int))))))).symm with hg | hg
          · exact .inr (.inr (.inr ⟨gr_eg rfl (yf (gr_yield rfl rfl e64)) hg, (gv_f hg).symm, S⟩))
          exact .inl ⟨gr_eg rfl (yf (gr_yield rfl rfl e64)) hg, .pointer (some ⟨g101, 3, none⟩), u, (run_fieldAddr rfl fl43_2 (hF.evB hB rfl rfl) rfl), (gv_t hg).symm, S⟩
        · intro a u X hB hu hp hr hz hl S
          replace S : St w u ([] ++ X) := S
          have e64 : sl a 64 = .bool ((!p111) || ((ltB 0 p108) && (leB (x6.getD p108.toNat (0 : Int)) (x6.getD ((w64 (p108 - 1)).toNat) (0 : Int))))) := hp 30 rfl
          have e65 : sl a 65 = gv (!((!p111) || ((ltB 0 p108) && (leB (x6.getD p108.toNat (0 : Int)) (x6.getD ((w64 (p108 - 1)).toNat) (0 : Int)))))) (.pointer (some ⟨g101, 3, none⟩)) := hp 31 rfl
          rcases (Bool.eq_false_or_eq_true (!((!p111) || ((ltB 0 p108) && (leB (x6.getD p108.toNat (0 : Int)) (x6.getD ((w64 (p108 - 1)).toNat) (0 : Int))))))).symm with hg | hg
          · exact .inr (.inr (.inr ⟨gr_eg rfl (yf (gr_yield rfl rfl e64)) hg, (gv_f hg).symm, S⟩))
          exact .inl ⟨gr_eg rfl (yf (gr_yield rfl rfl e64)) hg, .pointer (some ⟨g101, 3, none⟩), u, (run_fieldAddr rfl fl41_0 ((ev_sl e65).trans (gv_t hg)) rfl), (gv_t hg).symm, S⟩
        · intro a u X hB hu hp hr hz hl S
          replace S : St w u ([] ++ X) := S
          have e64 : sl a 64 = .bool ((!p111) || ((ltB 0 p108) && (leB (x6.getD p108.toNat (0 : Int)) (x6.getD ((w64 (p108 - 1)).toNat) (0 : Int))))) := hp 30 rfl
          have e66 : sl a 66 = gv (!((!p111) || ((ltB 0 p108) && (leB (x6.getD p108.toNat (0 : Int)) (x6.getD ((w64 (p108 - 1)).toNat) (0 : Int)))))) (.pointer (some ⟨g101, 3, none⟩)) := hp 32 rfl
          rcases (Bool.eq_false_or_eq_true (!((!p111) || ((ltB 0 p108) && (leB (x6.getD p108.toNat (0 : Int)) (x6.getD ((w64 (p108 - 1)).toNat) (0 : Int))))))).symm with hg | hg
          · exact .inr (.inr (.inr ⟨gr_eg rfl (yf (gr_yield rfl rfl e64)) hg, (gv_f hg).symm, S⟩))
          exact .inl ⟨gr_eg rfl (yf (gr_yield rfl rfl e64)) hg, .slice A3 x3.length c3, u, (run_load1 rfl one26 ((ev_sl e66).trans (gv_t hg)) ((gr_box S hl 0 rfl).cell rfl)), (gv_t hg).symm, S⟩
        · intro a u X hB hu hp hr hz hl S
          replace S : St w u ([] ++ X) := S
          have e64 : sl a 64 = .bool ((!p111) || ((ltB 0 p108) && (leB (x6.getD p108.toNat (0 : Int)) (x6.getD ((w64 (p108 - 1)).toNat) (0 : Int))))) := hp 30 rfl
          rcases (Bool.eq_false_or_eq_true (!((!p111) || ((ltB 0 p108) && (leB (x6.getD p108.toNat (0 : Int)) (x6.getD ((w64 (p108 - 1)).toNat) (0 : Int))))))).symm with hg | hg
          · exact .inr (.inr (.inr ⟨gr_eg rfl (yf (gr_yield rfl rfl e64)) hg, (gv_f hg).symm, S⟩))
          exact .inl ⟨gr_eg rfl (yf (gr_yield rfl rfl e64)) hg, .pointer (some ⟨g101, 6, none⟩), u, (run_fieldAddr rfl fl43_3 (hF.evB hB rfl rfl) rfl), (gv_t hg).symm, S⟩
        · intro a u X hB hu hp hr hz hl S
          replace S : St w u ([] ++ X) := S
          have e64 : sl a 64 = .bool ((!p111) || ((ltB 0 p108) && (leB (x6.getD p108.toNat (0 : Int)) (x6.getD ((w64 (p108 - 1)).toNat) (0 : Int))))) := hp 30 rfl
          have e68 : sl a 68 = gv (!((!p111) || ((ltB 0 p108) && (leB (x6.getD p108.toNat (0 : Int)) (x6.getD ((w64 (p108 - 1)).toNat) (0 : Int)))))) (.pointer (some ⟨g101, 6, none⟩)) := hp 34 rfl
          rcases (Bool.eq_false_or_eq_true (!((!p111) || ((ltB 0 p108) && (leB (x6.getD p108.toNat (0 : Int)) (x6.getD ((w64 (p108 - 1)).toNat) (0 : Int))))))).symm with hg | hg
          · exact .inr (.inr (.inr ⟨gr_eg rfl (yf (gr_yield rfl rfl e64)) hg, (gv_f hg).symm, S⟩))
          exact .inl ⟨gr_eg rfl (yf (gr_yield rfl rfl e64)) hg, .slice A6 x6.length c6, u, (run_load1 rfl one30 ((ev_sl e68).trans (gv_t hg)) ((gr_box S hl 0 rfl).cell rfl)), (gv_t hg).symm, S⟩
        · intro a u X hB hu hp hr hz hl S
          replace S : St w u ([] ++ X) := S
          have e64 : sl a 64 = .bool ((!p111) || ((ltB 0 p108) && (leB (x6.getD p108.toNat (0 : Int)) (x6.getD ((w64 (p108 - 1)).toNat) (0 : Int))))) := hp 30 rfl
          rcases (Bool.eq_false_or_eq_true (!((!p111) || ((ltB 0 p108) && (leB (x6.getD p108.toNat (0 : Int)) (x6.getD ((w64 (p108 - 1)).toNat) (0 : Int))))))).symm with hg | hg
          · exact .inr (.inr (.inr ⟨gr_eg rfl (yf (gr_yield rfl rfl e64)) hg, (gv_f hg).symm, S⟩))
          exact .inl ⟨gr_eg rfl (yf (gr_yield rfl rfl e64)) hg, .int .i64 p108, u, (run_move rfl (hF.evB hB rfl rfl)), (gv_t hg).symm, S⟩
        · intro a u X hB hu hp hr hz hl S
          replace S : St w u ([] ++ X) := S
          have e64 : sl a 64 = .bool ((!p111) || ((ltB 0 p108) && (leB (x6.getD p108.toNat (0 : Int)) (x6.getD ((w64 (p108 - 1)).toNat) (0 : Int))))) := hp 30 rfl
          have e69 : sl a 69 = gv (!((!p111) || ((ltB 0 p108) && (leB (x6.getD p108.toNat (0 : Int)) (x6.getD ((w64 (p108 - 1)).toNat) (0 : Int)))))) (.slice A6 x6.length c6) := hp 35 rfl
          have e70 : sl a 70 = gv (!((!p111) || ((ltB 0 p108) && (leB (x6.getD p108.toNat (0 : Int)) (x6.getD ((w64 (p108 - 1)).toNat) (0 : Int)))))) (.int .i64 p108) := hp 36 rfl
          rcases (Bool.eq_false_or_eq_true (!((!p111) || ((ltB 0 p108) && (leB (x6.getD p108.toNat (0 : Int)) (x6.getD ((w64 (p108 - 1)).toNat) (0 : Int))))))).symm with hg | hg
          · exact .inr (.inr (.inr ⟨gr_eg rfl (yf (gr_yield rfl rfl e64)) hg, (gv_f hg).symm, S⟩))
          exact .inl ⟨gr_eg rfl (yf (gr_yield rfl rfl e64)) hg, .pointer (some ⟨adB A6, adO A6 + p108.toNat * 1, none⟩), u, (run_indexAddr (b := adB A6) (off := adO A6) rfl Try.underlying30 sz3 (((ev_sl e69).trans (gv_t hg)).trans (congrArg (fun A => Value.slice A x6.length c6) ((S.rc0 h6.rc).rd.ad (ix_pos (hk114 hg))))) ((ev_sl e70).trans (gv_t hg)) (hk114 hg).1 (hk114 hg).2 (k' := adO A6 + p108.toNat * 1) rfl), (gv_t hg).symm, S⟩
        · intro a u X hB hu hp hr hz hl S
          replace S : St w u ([] ++ X) := S
          have e64 : sl a 64 = .bool ((!p111) || ((ltB 0 p108) && (leB (x6.getD p108.toNat (0 : Int)) (x6.getD ((w64 (p108 - 1)).toNat) (0 : Int))))) := hp 30 rfl
          have e71 : sl a 71 = gv (!((!p111) || ((ltB 0 p108) && (leB (x6.getD p108.toNat (0 : Int)) (x6.getD ((w64 (p108 - 1)).toNat) (0 : Int)))))) (.pointer (some ⟨adB A6, adO A6 + p108.toNat * 1, none⟩)) := hp 37 rfl
          rcases (Bool.eq_false_or_eq_true (!((!p111) || ((ltB 0 p108) && (leB (x6.getD p108.toNat (0 : Int)) (x6.getD ((w64 (p108 - 1)).toNat) (0 : Int))))))).symm with hg | hg
          · exact .inr (.inr (.inr ⟨gr_eg rfl (yf (gr_yield rfl rfl e64)) hg, (gv_f hg).symm, S⟩))
          exact .inl ⟨gr_eg rfl (yf (gr_yield rfl rfl e64)) hg, .int .i64 (x6.getD p108.toNat (0 : Int)), u, (run_load1 rfl one3 ((ev_sl e71).trans (gv_t hg)) (rd_el0 (l := x6) (S.rc0 h6.rc).rd rfl eI_len (0 : Int) (ix_ltn (hk114 hg) rfl) rfl)), (gv_t hg).symm, S⟩
        · intro a u X hB hu hp hr hz hl S
          replace S : St w u ([] ++ X) := S
          have e64 : sl a 64 = .bool ((!p111) || ((ltB 0 p108) && (leB (x6.getD p108.toNat (0 : Int)) (x6.getD ((w64 (p108 - 1)).toNat) (0 : Int))))) := hp 30 rfl
          have e67 : sl a 67 = gv (!((!p111) || ((ltB 0 p108) && (leB (x6.getD p108.toNat (0 : Int)) (x6.getD ((w64 (p108 - 1)).toNat) (0 : Int)))))) (.slice A3 x3.length c3) := hp 33 rfl
          have e72 : sl a 72 = gv (!((!p111) || ((ltB 0 p108) && (leB (x6.getD p108.toNat (0 : Int)) (x6.getD ((w64 (p108 - 1)).toNat) (0 : Int)))))) (.int .i64 (x6.getD p108.toNat (0 : Int))) := hp 38 rfl
          rcases (Bool.eq_false_or_eq_true (!((!p111) || ((ltB 0 p108) && (leB (x6.getD p108.toNat (0 : Int)) (x6.getD ((w64 (p108 - 1)).toNat) (0 : Int))))))).symm with hg | hg
          · exact .inr (.inr (.inr ⟨gr_eg rfl (yf (gr_yield rfl rfl e64)) hg, (gv_f hg).symm, S⟩))
          exact .inl ⟨gr_eg rfl (yf (gr_yield rfl rfl e64)) hg, .pointer (some ⟨adB A3, adO A3 + ((x6.getD p108.toNat (0 : Int)).toNat) * 1, none⟩), u, (run_indexAddr (b := adB A3) (off := adO A3) rfl Try.underlying26 sz4 (((ev_sl e67).trans (gv_t hg)).trans (congrArg (fun A => Value.slice A x3.length c3) ((S.rc0 h3.rc).rd.ad (ix_pos (hk115 hg))))) ((ev_sl e72).trans (gv_t hg)) (hk115 hg).1 (hk115 hg).2 (k' := adO A3 + ((x6.getD p108.toNat (0 : Int)).toNat) * 1) rfl), (gv_t hg).symm, S⟩
        · intro a u X hB hu hp hr hz hl S
          replace S : St w u ([] ++ X) := S
          have e64 : sl a 64 = .bool ((!p111) || ((ltB 0 p108) && (leB (x6.getD p108.toNat (0 : Int)) (x6.getD ((w64 (p108 - 1)).toNat) (0 : Int))))) := hp 30 rfl
          have e73 : sl a 73 = gv (!((!p111) || ((ltB 0 p108) && (leB (x6.getD p108.toNat (0 : Int)) (x6.getD ((w64 (p108 - 1)).toNat) (0 : Int)))))) (.pointer (some ⟨adB A3, adO A3 + ((x6.getD p108.toNat (0 : Int)).toNat) * 1, none⟩)) := hp 39 rfl
          rcases (Bool.eq_false_or_eq_true (!((!p111) || ((ltB 0 p108) && (leB (x6.getD p108.toNat (0 : Int)) (x6.getD ((w64 (p108 - 1)).toNat) (0 : Int))))))).symm with hg | hg
          · exact .inr (.inr (.inr ⟨gr_eg rfl (yf (gr_yield rfl rfl e64)) hg, (gv_f hg).symm, S⟩))
          exact .inl ⟨gr_eg rfl (yf (gr_yield rfl rfl e64)) hg, .bool (x3.getD ((x6.getD p108.toNat (0 : Int)).toNat) false), u, (run_load1 rfl one4 ((ev_sl e73).trans (gv_t hg)) (rd_el0 (l := x3) (S.rc0 h3.rc).rd rfl eB_len false (ix_ltn (hk115 hg) rfl) rfl)), (gv_t hg).symm, S⟩
        intro a u X hB hu hp hr hz hl S
        replace S : St w u ([] ++ X) := S
        have e64 : sl a 64 = .bool ((!p111) || ((ltB 0 p108) && (leB (x6.getD p108.toNat (0 : Int)) (x6.getD ((w64 (p108 - 1)).toNat) (0 : Int))))) := hp 30 rfl
        have e74 : sl a 74 = gv (!((!p111) || ((ltB 0 p108) && (leB (x6.getD p108.toNat (0 : Int)) (x6.getD ((w64 (p108 - 1)).toNat) (0 : Int)))))) (.bool (x3.getD ((x6.getD p108.toNat (0 : Int)).toNat) false)) := hp 40 rfl
        exact .inl ⟨rfl, .bool (((!p111) || ((ltB 0 p108) && (leB (x6.getD p108.toNat (0 : Int)) (x6.getD ((w64 (p108 - 1)).toNat) (0 : Int))))) || (x3.getD ((x6.getD p108.toNat (0 : Int)).toNat) false)), u, (run_pick_or rfl (ev_sl e64) (ev_const _ _) (fun hp => ((ev_sl e74).trans (gv_t (not_t hp))))), rfl, S⟩
      intro a u hB hp S
      obtain ⟨q0, q1, q2, q3, q4, q5, q6, q7, q8, q9, q10, q11, q12, q13, q14, q15, q16, q17, q18, q19, q20, q21, q22, q23, q24, q25, q26, q27, q28, q29, q30, q31, q32, q33, q34, q35, q36, q37, q38, q39, q40, q41, -⟩ := hp
      have e34 : sl a 34 = .pointer (some ⟨g101, 6, none⟩) := q0
      have e35 : sl a 35 = .slice A6 x6.length c6 := q1
      have e36 : sl a 36 = .int .i64 p108 := q2
      have e37 : sl a 37 = .pointer (some ⟨adB A6, adO A6 + p108.toNat * 1, none⟩) := q3
      have e38 : sl a 38 = .int .i64 (x6.getD p108.toNat (0 : Int)) := q4
      have e39 : sl a 39 = .pointer (some ⟨g101, 3, none⟩) := q5
      have e40 : sl a 40 = .pointer (some ⟨g101, 3, none⟩) := q6
      have e41 : sl a 41 = .slice A3 x3.length c3 := q7
      have e42 : sl a 42 = .int .i64 (x3.length : Int) := q8
      have e43 : sl a 43 = .int .i64 (w64 ((x3.length : Int) - 1)) := q9
      have e44 : sl a 44 = .bool p111 := q10
      have e45 : sl a 45 = .bool (!p111) := q11
      have e46 : sl a 46 = .bool (!p111) := q12
      have e47 : sl a 47 = gv (!(!p111)) (.int .i64 p108) := q13
      have e48 : sl a 48 = gv (!(!p111)) (.bool (ltB 0 p108)) := q14
      have e49 : sl a 49 = gv (!(!p111)) (.bool (ltB 0 p108)) := q15
      have e50 : sl a 50 = gv ((!(!p111)) && (ltB 0 p108)) (.pointer (some ⟨g101, 6, none⟩)) := q16
      have e51 : sl a 51 = gv ((!(!p111)) && (ltB 0 p108)) (.slice A6 x6.length c6) := q17
      have e52 : sl a 52 = gv ((!(!p111)) && (ltB 0 p108)) (.int .i64 p108) := q18
      have e53 : sl a 53 = gv ((!(!p111)) && (ltB 0 p108)) (.int .i64 (w64 (p108 - 1))) := q19
      have e54 : sl a 54 = gv ((!(!p111)) && (ltB 0 p108)) (.pointer (some ⟨adB A6, adO A6 + ((w64 (p108 - 1)).toNat) * 1, none⟩)) := q20
      have e55 : sl a 55 = gv ((!(!p111)) && (ltB 0 p108)) (.int .i64 (x6.getD ((w64 (p108 - 1)).toNat) (0 : Int))) := q21
      have e56 : sl a 56 = gv ((!(!p111)) && (ltB 0 p108)) (.pointer (some ⟨g101, 6, none⟩)) := q22
      have e57 : sl a 57 = gv ((!(!p111)) && (ltB 0 p108)) (.slice A6 x6.length c6) := q23
      have e58 : sl a 58 = gv ((!(!p111)) && (ltB 0 p108)) (.int .i64 p108) := q24
      have e59 : sl a 59 = gv ((!(!p111)) && (ltB 0 p108)) (.pointer (some ⟨adB A6, adO A6 + p108.toNat * 1, none⟩)) := q25
      have e60 : sl a 60 = gv ((!(!p111)) && (ltB 0 p108)) (.int .i64 (x6.getD p108.toNat (0 : Int))) := q26
      have e61 : sl a 61 = gv ((!(!p111)) && (ltB 0 p108)) (.bool (leB (x6.getD p108.toNat (0 : Int)) (x6.getD ((w64 (p108 - 1)).toNat) (0 : Int)))) := q27
      have e62 : sl a 62 = gv (!(!p111)) (.bool ((ltB 0 p108) && (leB (x6.getD p108.toNat (0 : Int)) (x6.getD ((w64 (p108 - 1)).toNat) (0 : Int))))) := q28
      have e63 : sl a 63 = .bool ((!p111) || ((ltB 0 p108) && (leB (x6.getD p108.toNat (0 : Int)) (x6.getD ((w64 (p108 - 1)).toNat) (0 : Int))))) := q29
      have e64 : sl a 64 = .bool ((!p111) || ((ltB 0 p108) && (leB (x6.getD p108.toNat (0 : Int)) (x6.getD ((w64 (p108 - 1)).toNat) (0 : Int))))) := q30
      have e65 : sl a 65 = gv (!((!p111) || ((ltB 0 p108) && (leB (x6.getD p108.toNat (0 : Int)) (x6.getD ((w64 (p108 - 1)).toNat) (0 : Int)))))) (.pointer (some ⟨g101, 3, none⟩)) := q31
      have e66 : sl a 66 = gv (!((!p111) || ((ltB 0 p108) && (leB (x6.getD p108.toNat (0 : Int)) (x6.getD ((w64 (p108 - 1)).toNat) (0 : Int)))))) (.pointer (some ⟨g101, 3, none⟩)) := q32
      have e67 : sl a 67 = gv (!((!p111) || ((ltB 0 p108) && (leB (x6.getD p108.toNat (0 : Int)) (x6.getD ((w64 (p108 - 1)).toNat) (0 : Int)))))) (.slice A3 x3.length c3) := q33
      have e68 : sl a 68 = gv (!((!p111) || ((ltB 0 p108) && (leB (x6.getD p108.toNat (0 : Int)) (x6.getD ((w64 (p108 - 1)).toNat) (0 : Int)))))) (.pointer (some ⟨g101, 6, none⟩)) := q34
      have e69 : sl a 69 = gv (!((!p111) || ((ltB 0 p108) && (leB (x6.getD p108.toNat (0 : Int)) (x6.getD ((w64 (p108 - 1)).toNat) (0 : Int)))))) (.slice A6 x6.length c6) := q35
      have e70 : sl a 70 = gv (!((!p111) || ((ltB 0 p108) && (leB (x6.getD p108.toNat (0 : Int)) (x6.getD ((w64 (p108 - 1)).toNat) (0 : Int)))))) (.int .i64 p108) := q36
      have e71 : sl a 71 = gv (!((!p111) || ((ltB 0 p108) && (leB (x6.getD p108.toNat (0 : Int)) (x6.getD ((w64 (p108 - 1)).toNat) (0 : Int)))))) (.pointer (some ⟨adB A6, adO A6 + p108.toNat * 1, none⟩)) := q37
      have e72 : sl a 72 = gv (!((!p111) || ((ltB 0 p108) && (leB (x6.getD p108.toNat (0 : Int)) (x6.getD ((w64 (p108 - 1)).toNat) (0 : Int)))))) (.int .i64 (x6.getD p108.toNat (0 : Int))) := q38
      have e73 : sl a 73 = gv (!((!p111) || ((ltB 0 p108) && (leB (x6.getD p108.toNat (0 : Int)) (x6.getD ((w64 (p108 - 1)).toNat) (0 : Int)))))) (.pointer (some ⟨adB A3, adO A3 + ((x6.getD p108.toNat (0 : Int)).toNat) * 1, none⟩)) := q39
      have e74 : sl a 74 = gv (!((!p111) || ((ltB 0 p108) && (leB (x6.getD p108.toNat (0 : Int)) (x6.getD ((w64 (p108 - 1)).toNat) (0 : Int)))))) (.bool (x3.getD ((x6.getD p108.toNat (0 : Int)).toNat) false)) := q40
      have e75 : sl a 75 = .bool (((!p111) || ((ltB 0 p108) && (leB (x6.getD p108.toNat (0 : Int)) (x6.getD ((w64 (p108 - 1)).toNat) (0 : Int))))) || (x3.getD ((x6.getD p108.toNat (0 : Int)).toNat) false)) := q41
      replace S : St w u [.box g101 43 #[.int .i64 x0, .slice A1 x1.length c1, .slice A2 x2.length c2, .slice A3 x3.length c3, .slice A4 x4.length c4, .slice A5 x5.length c5, .slice A6 x6.length c6]] := S
      clear q0 q1 q2 q3 q4 q5 q6 q7 q8 q9 q10 q11 q12 q13 q14 q15 q16 q17 q18 q19 q20 q21 q22 q23 q24 q25 q26 q27 q28 q29 q30 q31 q32 q33 q34 q35 q36 q37 q38 q39 q40 q41
      have hF := hF.region hB [(34, .pointer (some ⟨g101, 6, none⟩)), (35, .slice A6 x6.length c6), (36, .int .i64 p108), (37, .pointer (some ⟨adB A6, adO A6 + p108.toNat * 1, none⟩)), (38, .int .i64 (x6.getD p108.toNat (0 : Int))), (39, .pointer (some ⟨g101, 3, none⟩)), (40, .pointer (some ⟨g101, 3, none⟩)), (41, .slice A3 x3.length c3), (42, .int .i64 (x3.length : Int)), (43, .int .i64 (w64 ((x3.length : Int) - 1))), (44, .bool p111), (45, .bool (!p111)), (46, .bool (!p111)), (47, gv (!(!p111)) (.int .i64 p108)), (48, gv (!(!p111)) (.bool (ltB 0 p108))), (49, gv (!(!p111)) (.bool (ltB 0 p108))), (50, gv ((!(!p111)) && (ltB 0 p108)) (.pointer (some ⟨g101, 6, none⟩))), (51, gv ((!(!p111)) && (ltB 0 p108)) (.slice A6 x6.length c6)), (52, gv ((!(!p111)) && (ltB 0 p108)) (.int .i64 p108)), (53, gv ((!(!p111)) && (ltB 0 p108)) (.int .i64 (w64 (p108 - 1)))), (54, gv ((!(!p111)) && (ltB 0 p108)) (.pointer (some ⟨adB A6, adO A6 + ((w64 (p108 - 1)).toNat) * 1, none⟩))), (55, gv ((!(!p111)) && (ltB 0 p108)) (.int .i64 (x6.getD ((w64 (p108 - 1)).toNat) (0 : Int)))), (56, gv ((!(!p111)) && (ltB 0 p108)) (.pointer (some ⟨g101, 6, none⟩))), (57, gv ((!(!p111)) && (ltB 0 p108)) (.slice A6 x6.length c6)), (58, gv ((!(!p111)) && (ltB 0 p108)) (.int .i64 p108)), (59, gv ((!(!p111)) && (ltB 0 p108)) (.pointer (some ⟨adB A6, adO A6 + p108.toNat * 1, none⟩))), (60, gv ((!(!p111)) && (ltB 0 p108)) (.int .i64 (x6.getD p108.toNat (0 : Int)))), (61, gv ((!(!p111)) && (ltB 0 p108)) (.bool (leB (x6.getD p108.toNat (0 : Int)) (x6.getD ((w64 (p108 - 1)).toNat) (0 : Int))))), (62, gv (!(!p111)) (.bool ((ltB 0 p108) && (leB (x6.getD p108.toNat (0 : Int)) (x6.getD ((w64 (p108 - 1)).toNat) (0 : Int)))))), (63, .bool ((!p111) || ((ltB 0 p108) && (leB (x6.getD p108.toNat (0 : Int)) (x6.getD ((w64 (p108 - 1)).toNat) (0 : Int)))))), (64, .bool ((!p111) || ((ltB 0 p108) && (leB (x6.getD p108.toNat (0 : Int)) (x6.getD ((w64 (p108 - 1)).toNat) (0 : Int)))))), (65, gv (!((!p111) || ((ltB 0 p108) && (leB (x6.getD p108.toNat (0 : Int)) (x6.getD ((w64 (p108 - 1)).toNat) (0 : Int)))))) (.pointer (some ⟨g101, 3, none⟩))), (66, gv (!((!p111) || ((ltB 0 p108) && (leB (x6.getD p108.toNat (0 : Int)) (x6.getD ((w64 (p108 - 1)).toNat) (0 : Int)))))) (.pointer (some ⟨g101, 3, none⟩))), (67, gv (!((!p111) || ((ltB 0 p108) && (leB (x6.getD p108.toNat (0 : Int)) (x6.getD ((w64 (p108 - 1)).toNat) (0 : Int)))))) (.slice A3 x3.length c3)), (68, gv (!((!p111) || ((ltB 0 p108) && (leB (x6.getD p108.toNat (0 : Int)) (x6.getD ((w64 (p108 - 1)).toNat) (0 : Int)))))) (.pointer (some ⟨g101, 6, none⟩))), (69, gv (!((!p111) || ((ltB 0 p108) && (leB (x6.getD p108.toNat (0 : Int)) (x6.getD ((w64 (p108 - 1)).toNat) (0 : Int)))))) (.slice A6 x6.length c6)), (70, gv (!((!p111) || ((ltB 0 p108) && (leB (x6.getD p108.toNat (0 : Int)) (x6.getD ((w64 (p108 - 1)).toNat) (0 : Int)))))) (.int .i64 p108)), (71, gv (!((!p111) || ((ltB 0 p108) && (leB (x6.getD p108.toNat (0 : Int)) (x6.getD ((w64 (p108 - 1)).toNat) (0 : Int)))))) (.pointer (some ⟨adB A6, adO A6 + p108.toNat * 1, none⟩))), (72, gv (!((!p111) || ((ltB 0 p108) && (leB (x6.getD p108.toNat (0 : Int)) (x6.getD ((w64 (p108 - 1)).toNat) (0 : Int)))))) (.int .i64 (x6.getD p108.toNat (0 : Int)))), (73, gv (!((!p111) || ((ltB 0 p108) && (leB (x6.getD p108.toNat (0 : Int)) (x6.getD ((w64 (p108 - 1)).toNat) (0 : Int)))))) (.pointer (some ⟨adB A3, adO A3 + ((x6.getD p108.toNat (0 : Int)).toNat) * 1, none⟩))), (74, gv (!((!p111) || ((ltB 0 p108) && (leB (x6.getD p108.toNat (0 : Int)) (x6.getD ((w64 (p108 - 1)).toNat) (0 : Int)))))) (.bool (x3.getD ((x6.getD p108.toNat (0 : Int)).toNat) false))), (75, .bool (((!p111) || ((ltB 0 p108) && (leB (x6.getD p108.toNat (0 : Int)) (x6.getD ((w64 (p108 - 1)).toNat) (0 : Int))))) || (x3.getD ((x6.getD p108.toNat (0 : Int)).toNat) false)))] (allSl_mem ⟨e34, e35, e36, e37, e38, e39, e40, e41, e42, e43, e44, e45, e46, e47, e48, e49, e50, e51, e52, e53, e54, e55, e56, e57, e58, e59, e60, e61, e62, e63, e64, e65, e66, e67, e68, e69, e70, e71, e72, e73, e74, e75, trivial⟩) rfl
      clear hB e34 e35 e36 e37 e38 e39 e40 e41 e42 e43 e44 e45 e46 e47 e48 e49 e50 e51 e52 e53 e54 e55 e56 e57 e58 e59 e60 e61 e62 e63 e64 e65 e66 e67 e68 e69 e70 e71 e72 e73 e74 e75
      cases hc116 : (((!p111) || ((ltB 0 p108) && (leB (x6.getD p108.toNat (0 : Int)) (x6.getD ((w64 (p108 - 1)).toNat) (0 : Int))))) || (x3.getD ((x6.getD p108.toNat (0 : Int)).toNat) false))
      · replace hM107 := bif_f hc116 hM107
        refine cond_f hF rfl hc116 ?_
        refine wp_skip ?_
        revert a;refine rl (mv rfl rfl (ov (v := .int .i64 (w64 (p108 + 1))) rfl rfl rfl (fun a hF=>run_add (z := w64 (p108 + 1)) (hF.ev rfl) rfl rfl rfl) (ag rfl rfl fun a hF=>wn ?_)))
        exact ⟨f1, Nat.lt_succ_self _, w64 (p108 + 1), hM107, hF.keep _ ⟨rfl, rfl, rfl, trivial⟩, S.sel [0] rfl rfl⟩
      replace hM107 := bif_t hc116 hM107
      refine cond_t hF rfl hc116 ?_
      revert a;refine sr (ov (v := .bool false) rfl rfl rfl (fun a hF=>run_assign rfl rfl) fun a hF=>wn ?_)
      refine wp_ret ?_
      repeat with_reducible first|refine tr ?_|refine ir ?_|refine nr ?_
      refine ret1_gw (.inl rfl) hF rfl (res_tmp (hF.ev rfl)) ?_
      obtain rfl := Option.some.inj hM107
      obtain rfl := Option.some.inj hM
      exact ⟨rfl, S.sel [] rfl rfl⟩
    rintro a u ⟨p105, rfl, hF, S⟩
    replace hM := elim_l hM
    revert a;refine sr (ov (v := .pointer (some ⟨g101, 0, none⟩)) rfl rfl rfl (fun a hF=>run_fieldAddr rfl fl43_0 (hF.ev rfl) rfl) (ov rfl rfl rfl (fun a hF=>run_loadN rfl ag37 (hF.ev rfl) rfl ((S.free 0 rfl).cells 0 #[.int .i64 x0, .slice A1 x1.length c1] rfl)) (ov (v := .pointer (some ⟨g101, 3, none⟩)) rfl rfl rfl (fun a hF=>run_fieldAddr rfl fl43_2 (hF.ev rfl) rfl) (ov (v := .pointer (some ⟨g101, 3, none⟩)) rfl rfl rfl (fun a hF=>run_fieldAddr rfl fl41_0 (hF.ev rfl) rfl) (ov (v := .slice A3 x3.length c3) rfl rfl rfl (fun a hF=>run_load1 rfl one26 (hF.ev rfl) ((S.free 0 rfl).cell rfl)) (ov (v := .pointer (some ⟨g101, 2, none⟩)) rfl rfl rfl (fun a hF=>run_fieldAddr rfl fl43_1 (hF.ev rfl) rfl) (ov (v := .slice A2 x2.length c2) rfl rfl rfl (fun a hF=>run_load1 rfl one38 (hF.ev rfl) ((S.free 0 rfl).cell rfl)) fun a hF=>?_)))))))
    obtain ⟨p117, h117, hM⟩ := bind_ex hM
    refine op_call rfl rfl hF rfl (run_call (vs := [.agg #[.int .i64 x0, .slice A1 x1.length c1], .slice A3 x3.length c3, .slice A2 x2.length c2]) rfl rfl co23 ⟨(hF.ev rfl), (hF.ev rfl), (hF.ev rfl), trivial⟩) (c_spec_Radial (x0 := x0) (x1 := x1) (x2 := x3) (x3 := x2) ⟨(S.rc0 h1.rc), rfl⟩ ⟨(S.rc0 h3.rc), rfl⟩ ⟨(S.rc0 h2.rc), rfl⟩ h117) ?_
    rintro e u ⟨rfl, T⟩
    refine ⟨_, rfl, ?_⟩
    clear hF; intro a hF
    replace S := S.call0 T; clear T
    refine op_val (v := .bool p117) rfl rfl hF rfl (run_assign rfl (hF.ev rfl)) ?_;clear hF;intro a hF
    refine wn ?_
    refine wp_ret ?_
    repeat with_reducible first|refine tr ?_|refine ir ?_|refine nr ?_
    refine ret1_gw (.inl rfl) hF rfl (res_tmp (hF.ev rfl)) ?_
    obtain rfl := Option.some.inj hM
    exact ⟨rfl, S.sel [] rfl rfl⟩
  replace hM := bif_t hc104 hM
  refine cond_t hF rfl hc104 ?_
  revert a;refine sr (ov (v := .bool false) rfl rfl rfl (fun a hF=>run_assign rfl rfl) fun a hF=>wn ?_)
  refine wp_ret ?_
  repeat with_reducible first|refine tr ?_|refine ir ?_|refine nr ?_
  refine ret1_gw (.inl rfl) hF rfl (res_tmp (hF.ev rfl)) ?_
  obtain rfl := Option.some.inj hM
  exact ⟨rfl, S.sel [] rfl rfl⟩
theorem c_spec_IslandFeed {x0 : Int} {x1 : List (Int × Int × Int)} {x2 : List Bool} {x3 : List (Int × Int)} {x4 : Int} {A1 : Option Addr} {n1 c1 : Nat} {A2 : Option Addr} {n2 c2 : Nat} {A3 : Option Addr} {n3 c3 : Nat} {w : World} {r : Int} (h1 : Rt w 3 eLine A1 n1 c1 x1) (h2 : Rt w 1 eB A2 n2 c2 x2) (h3 : Rt w 2 eBus A3 n3 c3 x3) (hM : m_spec_IslandFeed x0 x1 x2 x3 x4 = some r) :
    Calls Try.prog 62 #[.agg #[.int .i64 x0, .slice A1 n1 c1], .slice A2 n2 c2, .slice A3 n3 c3, .int .i64 x4] w (fun e w' => e = .returned (.int .i64 r) ∧ St w w' []) := by
  obtain rfl := h1.len
  obtain rfl := h2.len
  obtain rfl := h3.len
  unfold m_spec_IslandFeed at hM
  refine calls_gw Try.func62 Try.ntmps62 rfl [(0, .agg #[.int .i64 x0, .slice A1 x1.length c1]), (1, .slice A2 x2.length c2), (2, .slice A3 x3.length c3), (3, .int .i64 x4)] ⟨rfl, rfl, rfl, rfl, trivial⟩ rfl ?_
  intro a hF
  have S := St.nil w
  refine wsg ?_
  refine op_new (cs := #[.int .i64 x0, .slice A1 x1.length c1]) rfl rfl hF rfl S (run_box rfl (hF.ev rfl) rfl) ?_; clear hF S; intro a g101 u hF S
  refine op_val (v := .int .i64 0) rfl rfl hF rfl (run_assign rfl rfl) ?_;clear hF;intro a hF
  refine wn ?_
  refine ws ?_
  revert a;refine sr (ov rfl rfl rfl (fun a hF=>run_loadN rfl ag37 (hF.ev rfl) rfl ((S.free 0 rfl).cells 0 #[.int .i64 x0, .slice A1 x1.length c1] rfl)) (mv rfl rfl (mv rfl rfl fun a hF=>?_)))
  obtain ⟨p102, h102, hM⟩ := bind_ex hM
  refine op_call rfl rfl hF rfl (run_call (vs := [.agg #[.int .i64 x0, .slice A1 x1.length c1], .slice A2 x2.length c2, .slice A3 x3.length c3]) rfl rfl co47 ⟨(hF.ev rfl), (hF.ev rfl), (hF.ev rfl), trivial⟩) (c_spec_l5Ok (x0 := x0) (x1 := x1) (x2 := x2) (x3 := x3) ⟨(S.rc0 h1.rc), rfl⟩ ⟨(S.rc0 h2.rc), rfl⟩ ⟨(S.rc0 h3.rc), rfl⟩ h102) ?_
  rintro e u ⟨rfl, T⟩
  refine ⟨_, rfl, ?_⟩
  clear hF; intro a hF
  replace S := S.call0 T; clear T
  revert a;refine ov (v := .bool (!p102)) rfl rfl rfl (fun a hF=>run_not rfl (hF.ev rfl)) (mv rfl rfl fun a hF=>?_)
  refine op_gv (v := .int .i64 x4) rfl rfl hF rfl (yf (gw_yield hF rfl rfl rfl)) (fun hg => (run_move rfl (hF.ev rfl))) ?_;clear hF;intro a hF
  refine op_gv (v := .pointer (some ⟨g101, 0, none⟩)) rfl rfl hF rfl (yf (gw_yield hF rfl rfl rfl)) (fun hg => (run_fieldAddr rfl fl37_0 (hF.ev rfl) rfl)) ?_;clear hF;intro a hF
  refine op_gv (v := .int .i64 x0) rfl rfl hF rfl (yf (gw_yield hF rfl rfl rfl)) (fun hg => (run_load1 rfl one3 ((hF.ev rfl).trans (gv_t hg)) ((S.free 0 rfl).cell rfl))) ?_;clear hF;intro a hF
  refine op_gv (v := .int .i64 (w64 (x0 - 1))) rfl rfl hF rfl (yf (gw_yield hF rfl rfl rfl)) (fun hg => (run_sub (z := w64 (x0 - 1)) ((hF.ev rfl).trans (gv_t hg)) rfl rfl rfl)) ?_;clear hF;intro a hF
  obtain ⟨p103, h103, hM⟩ := bind_ex hM
  refine op_gcall (v := .bool p103) rfl rfl hF rfl S (yf (gw_yield hF rfl rfl rfl)) (fun hg => (run_call (vs := [.int .i64 x4, .int .i64 0, .int .i64 (w64 (x0 - 1))]) rfl rfl co22 ⟨((hF.ev rfl).trans (gv_t hg)), rfl, ((hF.ev rfl).trans (gv_t hg)), trivial⟩)) (fun hg => c_spec_l1In (x0 := x4) (x1 := 0) (x2 := w64 (x0 - 1))  (gb_t h103 hg)) ?_; clear hF S; intro a u hF S
  refine op_gv (v := .bool (!p103)) rfl rfl hF rfl (yf (gw_yield hF rfl rfl rfl)) (fun hg => (run_not rfl ((hF.ev rfl).trans (gv_t hg)))) ?_;clear hF;intro a hF
  refine op_val (v := .bool ((!p102) || (!p103))) rfl rfl hF rfl (run_pick_or rfl (hF.ev rfl) rfl (fun hp => ((hF.ev rfl).trans (gv_t (not_t hp))))) ?_;clear hF;intro a hF
  refine wn ?_
  cases hc104 : ((!p102) || (!p103))
  · replace hM := bif_f hc104 hM
    refine cond_f hF rfl hc104 ?_
    refine wp_skip ?_
    revert a;refine sr (ov (v := .int .i64 0) rfl rfl rfl (fun a hF=>run_assign rfl rfl) fun a hF=>wn ?_)
    revert a;refine sr (ov rfl rfl rfl (fun a hF=>run_loadN rfl ag37 (hF.ev rfl) rfl ((S.free 0 rfl).cells 0 #[.int .i64 x0, .slice A1 x1.length c1] rfl)) (mv rfl rfl (mv rfl rfl fun a hF=>?_)))
    obtain ⟨p105, h105, hM⟩ := bind_ex hM
    refine op_call rfl rfl hF rfl (run_call (vs := [.agg #[.int .i64 x0, .slice A1 x1.length c1], .slice A2 x2.length c2, .int .i64 x4]) rfl rfl co73 ⟨(hF.ev rfl), (hF.ev rfl), (hF.ev rfl), trivial⟩) (c_spec_Reached (x0 := x0) (x1 := x1) (x2 := x2) (x3 := x4) ⟨(S.rc0 h1.rc), rfl⟩ ⟨(S.rc0 h2.rc), rfl⟩ h105) ?_
    rintro e u ⟨B106, n107, d108, rfl, rfl, T⟩
    refine ⟨_, rfl, ?_⟩
    clear hF; intro a hF
    replace S := S.call1 T; clear T
    refine op_val (v := .slice B106 p105.length d108) rfl rfl hF rfl (run_assign rfl (hF.ev rfl)) ?_;clear hF;intro a hF
    refine wn ?_
    refine ws ?_
    revert a;refine sr (ov (v := .int .i64 0) rfl rfl rfl (fun a hF=>run_assign rfl rfl) fun a hF=>wn ?_)
    obtain ⟨o110, hM111, hM⟩ := bind_ex hM
    refine wp_cut (fun a u => ∃ (p109 : Int), p109 = o110 ∧ Fr a 46 [(8, .int .i64 0), (9, .int .i64 p109)] ∧ St w u []) ?_ ?_
    · have _ := trivial
      refine wp_block ?_
      refine loop_gw (fun m a u => ∃ (p112 : Int × Int), m_spec_IslandFeed_l1 x3 p105 m p112 = some _ ∧ Fr a 46 [(2, .slice A3 x3.length c3), (8, .int .i64 0), (9, .int .i64 p112.1), (10, .slice B106 p105.length d108), (11, .int .i64 p112.2)] ∧ St w u [.row 3 1 (.slice B106 p105.length d108) p105.length (p105.flatMap eI)]) FUEL ⟨(0, 0), hM111, hF.keep _ ⟨rfl, rfl, rfl, rfl, rfl, trivial⟩, S.sel [0] rfl rfl⟩ ?_
      clear hF S hM111; rintro m a u ⟨p112, hM111, hF, S⟩
      rcases m with _ | f1
      · exact none_some hM111
      rw [m_spec_IslandFeed_l1.eq_2] at hM111
      refine ws ?_
      revert a;refine sr (mv rfl rfl (mv rfl rfl (ov rfl rfl rfl (fun a hF=>run_lenL rfl rfl Try.underlying30 (hF.ev rfl)) (ov (v := .bool (ltB p112.2 (p105.length : Int))) rfl rfl rfl (fun a hF=>run_lss (hF.ev rfl) (hF.ev rfl) rfl) fun a hF=>wn ?_))))
      cases hc113 : (ltB p112.2 (p105.length : Int))
      · replace hM111 := bif_f hc113 hM111
        refine cond_f hF rfl hc113 ?_
        refine wp_exit ?_
        repeat with_reducible (first | refine then_exit ?_ | refine in_hit ?_ | refine in_miss rfl ?_)
        obtain rfl := Option.some.inj hM111
        exact ⟨p112.1, rfl, hF.keep _ ⟨rfl, rfl, trivial⟩, S.sel [] rfl rfl⟩
      replace hM111 := bif_t hc113 hM111
      refine cond_t hF rfl hc113 ?_
      refine wp_skip ?_
      refine ws ?_
      refine wp_block ?_
      revert a;refine rl (mv rfl rfl (mv rfl rfl (mv rfl rfl (mv rfl rfl fun a hF=>?_))))
      obtain ⟨hk114, hM111⟩ := chk_ex hM111
      replace hk114 := ixB_t hk114
      revert a;refine ov rfl rfl rfl (fun a hF=>run_indexAddr (b := adB B106) (off := adO B106) rfl Try.underlying30 sz3 ((hF.ev rfl).trans (congrArg (fun A => Value.slice A p105.length d108) ((S.rc 0 rfl).rd.ad (ix_pos hk114)))) (hF.ev rfl) hk114.1 hk114.2 (k' := adO B106 + p112.2.toNat * 1) rfl) (ov (v := .int .i64 (p105.getD p112.2.toNat (0 : Int))) rfl rfl rfl (fun a hF=>run_load1 rfl one3 (hF.ev rfl) (rd_el0 (l := p105) (S.rc 0 rfl).rd rfl eI_len (0 : Int) (ix_ltn hk114 rfl) rfl)) fun a hF=>?_)
      obtain ⟨hk115, hM111⟩ := chk_ex hM111
      replace hk115 := ixB_t hk115
      revert a;refine ov rfl rfl rfl (fun a hF=>run_indexAddr (b := adB A3) (off := adO A3) rfl Try.underlying38 sz69 ((hF.ev rfl).trans (congrArg (fun A => Value.slice A x3.length c3) ((S.rc0 h3.rc).rd.ad (ix_pos hk115)))) (hF.ev rfl) hk115.1 hk115.2 (k' := adO A3 + ((p105.getD p112.2.toNat (0 : Int)).toNat) * 2) rfl) (ov (v := .pointer (some ⟨adB A3, adO A3 + ((p105.getD p112.2.toNat (0 : Int)).toNat) * 2, none⟩)) rfl rfl rfl (fun a hF=>run_fieldAddr rfl fl69_0 (hF.ev rfl) rfl) (ov (v := .int .i64 ((x3.getD ((p105.getD p112.2.toNat (0 : Int)).toNat) ((0, 0) : Int × Int)).1)) rfl rfl rfl (fun a hF=>run_load1 rfl one3 (hF.ev rfl) (rd_el0 (l := x3) (S.rc0 h3.rc).rd rfl eBus_len ((0, 0) : Int × Int) (ix_ltn hk115 rfl) rfl)) (ov (v := .int .i64 (w64 (p112.1 + ((x3.getD ((p105.getD p112.2.toNat (0 : Int)).toNat) ((0, 0) : Int × Int)).1)))) rfl rfl rfl (fun a hF=>run_add (z := w64 (p112.1 + ((x3.getD ((p105.getD p112.2.toNat (0 : Int)).toNat) ((0, 0) : Int × Int)).1))) (hF.ev rfl) (hF.ev rfl) rfl rfl) (ag rfl rfl fun a hF=>wn ?_))))
      revert a;refine rl (mv rfl rfl (ov (v := .int .i64 (w64 (p112.2 + 1))) rfl rfl rfl (fun a hF=>run_add (z := w64 (p112.2 + 1)) (hF.ev rfl) rfl rfl rfl) (ag rfl rfl fun a hF=>wn ?_)))
      exact ⟨f1, Nat.lt_succ_self _, (w64 (p112.1 + ((x3.getD ((p105.getD p112.2.toNat (0 : Int)).toNat) ((0, 0) : Int × Int)).1)), w64 (p112.2 + 1)), hM111, hF.keep _ ⟨rfl, rfl, rfl, rfl, rfl, trivial⟩, S.sel [0] rfl rfl⟩
    rintro a u ⟨p109, rfl, hF, S⟩
    revert a;refine sr (mv rfl rfl (ag rfl rfl fun a hF=>wn ?_))
    refine wp_ret ?_
    repeat with_reducible first|refine tr ?_|refine ir ?_|refine nr ?_
    refine ret1_gw (.inl rfl) hF rfl (res_tmp (hF.ev rfl)) ?_
    obtain rfl := Option.some.inj hM
    exact ⟨rfl, S.sel [] rfl rfl⟩
  replace hM := bif_t hc104 hM
  refine cond_t hF rfl hc104 ?_
  revert a;refine sr (ov (v := .int .i64 (-1)) rfl rfl rfl (fun a hF=>run_assign rfl rfl) fun a hF=>wn ?_)
  refine wp_ret ?_
  repeat with_reducible first|refine tr ?_|refine ir ?_|refine nr ?_
  refine ret1_gw (.inl rfl) hF rfl (res_tmp (hF.ev rfl)) ?_
  obtain rfl := Option.some.inj hM
  exact ⟨rfl, S.sel [] rfl rfl⟩
theorem c_spec_AliveBuses {x0 : Int} {x1 : List (Int × Int × Int)} {x2 : List Bool} {x3 : List (Int × Int)} {A1 : Option Addr} {n1 c1 : Nat} {A2 : Option Addr} {n2 c2 : Nat} {A3 : Option Addr} {n3 c3 : Nat} {w : World} {r : List Int} (h1 : Rt w 3 eLine A1 n1 c1 x1) (h2 : Rt w 1 eB A2 n2 c2 x2) (h3 : Rt w 2 eBus A3 n3 c3 x3) (hM : m_spec_AliveBuses x0 x1 x2 x3 = some r) :
    Calls Try.prog 35 #[.agg #[.int .i64 x0, .slice A1 n1 c1], .slice A2 n2 c2, .slice A3 n3 c3] w (fun e w' => ∃ (B0 : Option Addr) (N0 D0 : Nat), e = .returned (.slice B0 N0 D0) ∧ N0 = r.length ∧ St w w' [.row 3 1 (.slice B0 N0 D0) N0 (r.flatMap eI)]) := by
  obtain rfl := h1.len
  obtain rfl := h2.len
  obtain rfl := h3.len
  unfold m_spec_AliveBuses at hM
  refine calls_gw Try.func35 Try.ntmps35 rfl [(0, .agg #[.int .i64 x0, .slice A1 x1.length c1]), (1, .slice A2 x2.length c2), (2, .slice A3 x3.length c3)] ⟨rfl, rfl, rfl, trivial⟩ rfl ?_
  intro a hF
  have S := St.nil w
  refine wsg ?_
  refine op_new (cs := #[.int .i64 x0, .slice A1 x1.length c1]) rfl rfl hF rfl S (run_box rfl (hF.ev rfl) rfl) ?_; clear hF S; intro a g101 u hF S
  refine op_val (v := .slice none 0 0) rfl rfl hF rfl (run_assign rfl rfl) ?_;clear hF;intro a hF
  refine wn ?_
  refine wsg ?_
  refine op_newrow (cs := #[]) (size := 1) rfl rfl hF rfl S (run_buildSlice0 rfl Try.underlying30 (congrArg Option.isSome sz3)) rfl (Nat.zero_le _) ?_; clear hF S; intro a g102 u hF S
  refine op_val (v := .slice (some ⟨g102, 0, none⟩) 0 0) rfl rfl hF rfl (run_assign rfl (hF.ev rfl)) ?_;clear hF;intro a hF
  refine wn ?_
  refine ws ?_
  revert a;refine sr (ov (v := .int .i64 0) rfl rfl rfl (fun a hF=>run_assign rfl rfl) fun a hF=>wn ?_)
  obtain ⟨o104, hM107, hM⟩ := bind_ex hM
  refine wp_cut (fun a u => ∃ (p103 : List Int) (B105 : Option Addr) (d106 : Nat), p103 = o104 ∧ Fr a 33 [(6, .slice none 0 0), (7, .slice B105 p103.length d106)] ∧ St w u [.row 3 1 (.slice B105 p103.length d106) p103.length (p103.flatMap eI)]) ?_ ?_
  · have _ := trivial
    refine wp_block ?_
    refine loop_gw (fun m a u => ∃ (p108 : List Int × Int) (B109 : Option Addr) (d110 : Nat), m_spec_AliveBuses_l1 x0 x1 x2 x3 m p108 = some _ ∧ Fr a 33 [(1, .slice A2 x2.length c2), (2, .slice A3 x3.length c3), (3, .pointer (some ⟨g101, 0, none⟩)), (6, .slice none 0 0), (7, .slice B109 p108.1.length d110), (8, .int .i64 p108.2)] ∧ St w u [.box g101 37 #[.int .i64 x0, .slice A1 x1.length c1], .row 3 1 (.slice B109 p108.1.length d110) p108.1.length (p108.1.flatMap eI)]) FUEL ⟨(([] : List Int), 0), (some ⟨g102, 0, none⟩), 0, hM107, hF.keep _ ⟨rfl, rfl, rfl, rfl, rfl, rfl, trivial⟩, S.sel [1, 0] rfl rfl⟩ ?_
    clear hF S hM107; rintro m a u ⟨p108, B109, d110, hM107, hF, S⟩
    rcases m with _ | f1
    · exact none_some hM107
    rw [m_spec_AliveBuses_l1.eq_2] at hM107
    refine ws ?_
    revert a;refine sr (mv rfl rfl (ov (v := .pointer (some ⟨g101, 0, none⟩)) rfl rfl rfl (fun a hF=>run_fieldAddr rfl fl37_0 (hF.ev rfl) rfl) (ov (v := .int .i64 x0) rfl rfl rfl (fun a hF=>run_load1 rfl one3 (hF.ev rfl) ((S.free 0 rfl).cell rfl)) (ov (v := .bool (ltB p108.2 x0)) rfl rfl rfl (fun a hF=>run_lss (hF.ev rfl) (hF.ev rfl) rfl) (mv rfl rfl fun a hF=>?_)))))
    refine op_gv (v := .agg #[.int .i64 x0, .slice A1 x1.length c1]) rfl rfl hF rfl (yt (gw_yield hF rfl rfl rfl)) (fun hg => (run_loadN rfl ag37 (hF.ev rfl) rfl ((S.free 0 rfl).cells 0 #[.int .i64 x0, .slice A1 x1.length c1] rfl))) ?_;clear hF;intro a hF
    refine op_gv (v := .slice A2 x2.length c2) rfl rfl hF rfl (yt (gw_yield hF rfl rfl rfl)) (fun hg => (run_move rfl (hF.ev rfl))) ?_;clear hF;intro a hF
    refine op_gv (v := .slice A3 x3.length c3) rfl rfl hF rfl (yt (gw_yield hF rfl rfl rfl)) (fun hg => (run_move rfl (hF.ev rfl))) ?_;clear hF;intro a hF
    obtain ⟨p111, h111, hM107⟩ := bind_ex hM107
    refine op_gcall (v := .bool p111) rfl rfl hF rfl S (yt (gw_yield hF rfl rfl rfl)) (fun hg => (run_call (vs := [.agg #[.int .i64 x0, .slice A1 x1.length c1], .slice A2 x2.length c2, .slice A3 x3.length c3]) rfl rfl co47 ⟨((hF.ev rfl).trans (gv_t hg)), ((hF.ev rfl).trans (gv_t hg)), ((hF.ev rfl).trans (gv_t hg)), trivial⟩)) (fun hg => c_spec_l5Ok (x0 := x0) (x1 := x1) (x2 := x2) (x3 := x3) ⟨(S.rc0 h1.rc), rfl⟩ ⟨(S.rc0 h2.rc), rfl⟩ ⟨(S.rc0 h3.rc), rfl⟩ (gb_t h111 hg)) ?_; clear hF S; intro a u hF S
    refine op_val (v := .bool ((ltB p108.2 x0) && p111)) rfl rfl hF rfl (run_pick_and rfl (hF.ev rfl) (fun hp => ((hF.ev rfl).trans (gv_t hp))) rfl) ?_;clear hF;intro a hF
    refine wn ?_
    cases hc112 : ((ltB p108.2 x0) && p111)
    · replace hM107 := bif_f hc112 hM107
      refine cond_f hF rfl hc112 ?_
      refine wp_exit ?_
      repeat with_reducible (first | refine then_exit ?_ | refine in_hit ?_ | refine in_miss rfl ?_)
      obtain rfl := Option.some.inj hM107
      exact ⟨p108.1, B109, d110, rfl, hF.keep _ ⟨rfl, rfl, trivial⟩, S.sel [1] rfl rfl⟩
    replace hM107 := bif_t hc112 hM107
    refine cond_t hF rfl hc112 ?_
    refine wp_skip ?_
    refine ws ?_
    refine wp_block ?_
    revert a;refine sr (ov rfl rfl rfl (fun a hF=>run_loadN rfl ag37 (hF.ev rfl) rfl ((S.free 0 rfl).cells 0 #[.int .i64 x0, .slice A1 x1.length c1] rfl)) (mv rfl rfl (mv rfl rfl (mv rfl rfl fun a hF=>?_))))
    obtain ⟨p113, h113, hM107⟩ := bind_ex hM107
    refine op_call rfl rfl hF rfl (run_call (vs := [.agg #[.int .i64 x0, .slice A1 x1.length c1], .slice A2 x2.length c2, .slice A3 x3.length c3, .int .i64 p108.2]) rfl rfl co62 ⟨(hF.ev rfl), (hF.ev rfl), (hF.ev rfl), (hF.ev rfl), trivial⟩) (c_spec_IslandFeed (x0 := x0) (x1 := x1) (x2 := x2) (x3 := x3) (x4 := p108.2) ⟨(S.rc0 h1.rc), rfl⟩ ⟨(S.rc0 h2.rc), rfl⟩ ⟨(S.rc0 h3.rc), rfl⟩ h113) ?_
    rintro e u ⟨rfl, T⟩
    refine ⟨_, rfl, ?_⟩
    clear hF; intro a hF
    replace S := S.call0 T; clear T
    refine op_val (v := .bool (ltB 0 p113)) rfl rfl hF rfl (run_gtr (hF.ev rfl) rfl rfl) ?_;clear hF;intro a hF
    refine wn ?_
    obtain ⟨o115, hM118, hM107⟩ := bind_ex hM107
    refine wp_cut (fun a u => ∃ (p114 : List Int) (B116 : Option Addr) (d117 : Nat), p114 = o115 ∧ Fr a 33 [(1, .slice A2 x2.length c2), (2, .slice A3 x3.length c3), (3, .pointer (some ⟨g101, 0, none⟩)), (6, .slice none 0 0), (7, .slice B116 p114.length d117), (8, .int .i64 p108.2)] ∧ St w u [.box g101 37 #[.int .i64 x0, .slice A1 x1.length c1], .row 3 1 (.slice B116 p114.length d117) p114.length (p114.flatMap eI)]) ?_ ?_
    · have _ := trivial
      cases hc119 : (ltB 0 p113)
      · replace hM118 := bif_f hc119 hM118
        refine cond_f hF rfl hc119 ?_
        refine wp_skip ?_
        obtain rfl := Option.some.inj hM118
        exact ⟨p108.1, B109, d110, rfl, hF.keep _ ⟨rfl, rfl, rfl, rfl, rfl, rfl, trivial⟩, S.sel [0, 1] rfl rfl⟩
      replace hM118 := bif_t hc119 hM118
      refine cond_t hF rfl hc119 ?_
      revert a;refine rl (mv rfl rfl (mv rfl rfl fun a hF=>?_))
      refine op_newrowL (ls := (([p108.2] : List Int) : List Int)) (e := eI) rfl rfl hF rfl S (run_buildS (vs := [(0, .int .i64 p108.2)]) rfl ⟨⟨rfl, (hF.ev rfl)⟩, trivial⟩ (bs30_1_0 rfl)) rfl eI_len (Nat.le_of_ble_eq_true rfl) ?_; clear hF S; intro a g120 u hF S
      obtain ⟨hk123, hM118⟩ := chk_ex hM118
      replace hk123 := apB_t hk123
      refine op_appendL (lx := p108.1) (ly := ([p108.2] : List Int)) rfl rfl hF rfl S rfl (hF.ev rfl) (hF.ev rfl) (i := 2) rfl rfl Try.underlying30 inf3 rfl (by decide) (S.rc 0 rfl).rd rfl eI_one hk123 (by decide) ?_; clear hF S; intro a B121 d122 u hF S
      refine op_val (v := .slice B121 ((p108.1 ++ ([p108.2] : List Int)).length) d122) rfl rfl hF rfl (run_assign rfl (hF.ev rfl)) ?_;clear hF;intro a hF
      refine wn ?_
      obtain rfl := Option.some.inj hM118
      exact ⟨p108.1 ++ ([p108.2] : List Int), B121, d122, rfl, hF.keep _ ⟨rfl, rfl, rfl, rfl, rfl, rfl, trivial⟩, S.sel [1, 2] rfl rfl⟩
    rintro a u ⟨p114, B116, d117, rfl, hF, S⟩
    revert a;refine rl (mv rfl rfl (ov (v := .int .i64 (w64 (p108.2 + 1))) rfl rfl rfl (fun a hF=>run_add (z := w64 (p108.2 + 1)) (hF.ev rfl) rfl rfl rfl) (ag rfl rfl fun a hF=>wn ?_)))
    exact ⟨f1, Nat.lt_succ_self _, (p114, w64 (p108.2 + 1)), B116, d117, hM107, hF.keep _ ⟨rfl, rfl, rfl, rfl, rfl, rfl, trivial⟩, S.sel [0, 1] rfl rfl⟩
  rintro a u ⟨p103, B105, d106, rfl, hF, S⟩
  revert a;refine sr (mv rfl rfl (ag rfl rfl fun a hF=>wn ?_))
  refine wp_ret ?_
  repeat with_reducible first|refine tr ?_|refine ir ?_|refine nr ?_
  refine ret1_gw (.inl rfl) hF rfl (res_tmp (hF.ev rfl)) ?_
  obtain rfl := Option.some.inj hM
  exact ⟨B105, p103.length, d106, rfl, rfl, S.sel [0] rfl rfl⟩
theorem c_spec_WorldDark {x0 : Int} {x1 : List (Int × Int × Int)} {x2 : List (Int × Int)} {x3 : List Bool} {x4 : List Bool} {x5 : List (Int × Int)} {x6 : List Int} {A1 : Option Addr} {n1 c1 : Nat} {A2 : Option Addr} {n2 c2 : Nat} {A3 : Option Addr} {n3 c3 : Nat} {A4 : Option Addr} {n4 c4 : Nat} {A5 : Option Addr} {n5 c5 : Nat} {A6 : Option Addr} {n6 c6 : Nat} {w : World} {r : List Int} (h1 : Rt w 3 eLine A1 n1 c1 x1) (h2 : Rt w 2 eBus A2 n2 c2 x2) (h3 : Rt w 1 eB A3 n3 c3 x3) (h4 : Rt w 1 eB A4 n4 c4 x4) (h5 : Rt w 2 ePermit A5 n5 c5 x5) (h6 : Rt w 1 eI A6 n6 c6 x6) (hM : m_spec_WorldDark x0 x1 x2 x3 x4 x5 x6 = some r) :
    Calls Try.prog 10 #[.agg #[.int .i64 x0, .slice A1 n1 c1, .slice A2 n2 c2, .slice A3 n3 c3, .slice A4 n4 c4, .slice A5 n5 c5, .slice A6 n6 c6]] w (fun e w' => ∃ (B0 : Option Addr) (N0 D0 : Nat), e = .returned (.slice B0 N0 D0) ∧ N0 = r.length ∧ St w w' [.row 3 1 (.slice B0 N0 D0) N0 (r.flatMap eI)]) := by
  obtain rfl := h1.len
  obtain rfl := h2.len
  obtain rfl := h3.len
  obtain rfl := h4.len
  obtain rfl := h5.len
  obtain rfl := h6.len
  unfold m_spec_WorldDark at hM
  refine calls_gw Try.func10 Try.ntmps10 rfl [(0, .agg #[.int .i64 x0, .slice A1 x1.length c1, .slice A2 x2.length c2, .slice A3 x3.length c3, .slice A4 x4.length c4, .slice A5 x5.length c5, .slice A6 x6.length c6])] ⟨rfl, trivial⟩ rfl ?_
  intro a hF
  have S := St.nil w
  refine wsg ?_
  refine op_new (cs := #[.int .i64 x0, .slice A1 x1.length c1, .slice A2 x2.length c2, .slice A3 x3.length c3, .slice A4 x4.length c4, .slice A5 x5.length c5, .slice A6 x6.length c6]) rfl rfl hF rfl S (run_box rfl (hF.ev rfl) rfl) ?_; clear hF S; intro a g101 u hF S
  refine op_val (v := .slice none 0 0) rfl rfl hF rfl (run_assign rfl rfl) ?_;clear hF;intro a hF
  refine wn ?_
  refine wsg ?_
  refine op_newrow (cs := #[]) (size := 1) rfl rfl hF rfl S (run_buildSlice0 rfl Try.underlying30 (congrArg Option.isSome sz3)) rfl (Nat.zero_le _) ?_; clear hF S; intro a g102 u hF S
  refine op_val (v := .slice (some ⟨g102, 0, none⟩) 0 0) rfl rfl hF rfl (run_assign rfl (hF.ev rfl)) ?_;clear hF;intro a hF
  refine wn ?_
  refine ws ?_
  revert a;refine sr (ov rfl rfl rfl (fun a hF=>run_loadN rfl ag43 (hF.ev rfl) rfl ((S.free 1 rfl).cells 0 #[.int .i64 x0, .slice A1 x1.length c1, .slice A2 x2.length c2, .slice A3 x3.length c3, .slice A4 x4.length c4, .slice A5 x5.length c5, .slice A6 x6.length c6] rfl)) fun a hF=>?_)
  obtain ⟨p103, h103, hM⟩ := bind_ex hM
  refine op_call rfl rfl hF rfl (run_call (vs := [.agg #[.int .i64 x0, .slice A1 x1.length c1, .slice A2 x2.length c2, .slice A3 x3.length c3, .slice A4 x4.length c4, .slice A5 x5.length c5, .slice A6 x6.length c6]]) rfl rfl co6 ⟨(hF.ev rfl), trivial⟩) (c_spec_WorldValid (x0 := x0) (x1 := x1) (x2 := x2) (x3 := x3) (x4 := x4) (x5 := x5) (x6 := x6) ⟨(S.rc0 h1.rc), rfl⟩ ⟨(S.rc0 h2.rc), rfl⟩ ⟨(S.rc0 h3.rc), rfl⟩ ⟨(S.rc0 h4.rc), rfl⟩ ⟨(S.rc0 h5.rc), rfl⟩ ⟨(S.rc0 h6.rc), rfl⟩ h103) ?_
  rintro e u ⟨rfl, T⟩
  refine ⟨_, rfl, ?_⟩
  clear hF; intro a hF
  replace S := S.call0 T; clear T
  refine op_val (v := .bool (!p103)) rfl rfl hF rfl (run_not rfl (hF.ev rfl)) ?_;clear hF;intro a hF
  refine wn ?_
  cases hc104 : (p103)
  · replace hM := bif_f hc104 hM
    refine cond_t hF rfl (not_t hc104) ?_
    revert a;refine sr (mv rfl rfl (ag rfl rfl fun a hF=>wn ?_))
    refine wp_ret ?_
    repeat with_reducible first|refine tr ?_|refine ir ?_|refine nr ?_
    refine ret1_gw (.inl rfl) hF rfl (res_tmp (hF.ev rfl)) ?_
    obtain rfl := Option.some.inj hM
    exact ⟨(some ⟨g102, 0, none⟩), 0, 0, rfl, rfl, S.sel [0] rfl rfl⟩
  replace hM := bif_t hc104 hM
  refine cond_f hF rfl (not_f hc104) ?_
  refine wp_skip ?_
  revert a;refine sr (ov (v := .pointer (some ⟨g101, 0, none⟩)) rfl rfl rfl (fun a hF=>run_fieldAddr rfl fl43_0 (hF.ev rfl) rfl) (ov rfl rfl rfl (fun a hF=>run_loadN rfl ag37 (hF.ev rfl) rfl ((S.free 1 rfl).cells 0 #[.int .i64 x0, .slice A1 x1.length c1] rfl)) (ov (v := .pointer (some ⟨g101, 3, none⟩)) rfl rfl rfl (fun a hF=>run_fieldAddr rfl fl43_2 (hF.ev rfl) rfl) (ov (v := .pointer (some ⟨g101, 3, none⟩)) rfl rfl rfl (fun a hF=>run_fieldAddr rfl fl41_0 (hF.ev rfl) rfl) (ov (v := .slice A3 x3.length c3) rfl rfl rfl (fun a hF=>run_load1 rfl one26 (hF.ev rfl) ((S.free 1 rfl).cell rfl)) (ov (v := .pointer (some ⟨g101, 2, none⟩)) rfl rfl rfl (fun a hF=>run_fieldAddr rfl fl43_1 (hF.ev rfl) rfl) (ov (v := .slice A2 x2.length c2) rfl rfl rfl (fun a hF=>run_load1 rfl one38 (hF.ev rfl) ((S.free 1 rfl).cell rfl)) fun a hF=>?_)))))))
  obtain ⟨p105, h105, hM⟩ := bind_ex hM
  refine op_call rfl rfl hF rfl (run_call (vs := [.agg #[.int .i64 x0, .slice A1 x1.length c1], .slice A3 x3.length c3, .slice A2 x2.length c2]) rfl rfl co35 ⟨(hF.ev rfl), (hF.ev rfl), (hF.ev rfl), trivial⟩) (c_spec_AliveBuses (x0 := x0) (x1 := x1) (x2 := x3) (x3 := x2) ⟨(S.rc0 h1.rc), rfl⟩ ⟨(S.rc0 h3.rc), rfl⟩ ⟨(S.rc0 h2.rc), rfl⟩ h105) ?_
  rintro e u ⟨B106, n107, d108, rfl, rfl, T⟩
  refine ⟨_, rfl, ?_⟩
  clear hF; intro a hF
  replace S := S.call1 T; clear T
  refine op_val (v := .slice B106 p105.length d108) rfl rfl hF rfl (run_assign rfl (hF.ev rfl)) ?_;clear hF;intro a hF
  refine wn ?_
  refine ws ?_
  revert a;refine sr (ov (v := .int .i64 0) rfl rfl rfl (fun a hF=>run_assign rfl rfl) fun a hF=>wn ?_)
  obtain ⟨o110, hM113, hM⟩ := bind_ex hM
  refine wp_cut (fun a u => ∃ (p109 : List Int) (B111 : Option Addr) (d112 : Nat), p109 = o110 ∧ Fr a 44 [(2, .slice none 0 0), (3, .slice B111 p109.length d112)] ∧ St w u [.row 3 1 (.slice B111 p109.length d112) p109.length (p109.flatMap eI)]) ?_ ?_
  · have _ := trivial
    refine wp_block ?_
    refine loop_gw (fun m a u => ∃ (p114 : List Int × Int) (B115 : Option Addr) (d116 : Nat), m_spec_WorldDark_l1 x2 p105 m p114 = some _ ∧ Fr a 44 [(1, .pointer (some ⟨g101, 0, none⟩)), (2, .slice none 0 0), (3, .slice B115 p114.1.length d116), (4, .slice B106 p105.length d108), (5, .int .i64 p114.2)] ∧ St w u [.box g101 43 #[.int .i64 x0, .slice A1 x1.length c1, .slice A2 x2.length c2, .slice A3 x3.length c3, .slice A4 x4.length c4, .slice A5 x5.length c5, .slice A6 x6.length c6], .row 3 1 (.slice B115 p114.1.length d116) p114.1.length (p114.1.flatMap eI), .row 3 1 (.slice B106 p105.length d108) p105.length (p105.flatMap eI)]) FUEL ⟨(([] : List Int), 0), (some ⟨g102, 0, none⟩), 0, hM113, hF.keep _ ⟨rfl, rfl, rfl, rfl, rfl, trivial⟩, S.sel [2, 1, 0] rfl rfl⟩ ?_
    clear hF S hM113; rintro m a u ⟨p114, B115, d116, hM113, hF, S⟩
    rcases m with _ | f1
    · exact none_some hM113
    rw [m_spec_WorldDark_l1.eq_2] at hM113
    refine ws ?_
    revert a;refine sr (mv rfl rfl (ov (v := .pointer (some ⟨g101, 2, none⟩)) rfl rfl rfl (fun a hF=>run_fieldAddr rfl fl43_1 (hF.ev rfl) rfl) (ov (v := .slice A2 x2.length c2) rfl rfl rfl (fun a hF=>run_load1 rfl one38 (hF.ev rfl) ((S.free 0 rfl).cell rfl)) (ov rfl rfl rfl (fun a hF=>run_lenL rfl rfl Try.underlying38 (hF.ev rfl)) (ov (v := .bool (ltB p114.2 (x2.length : Int))) rfl rfl rfl (fun a hF=>run_lss (hF.ev rfl) (hF.ev rfl) rfl) fun a hF=>wn ?_)))))
    cases hc117 : (ltB p114.2 (x2.length : Int))
    · replace hM113 := bif_f hc117 hM113
      refine cond_f hF rfl hc117 ?_
      refine wp_exit ?_
      repeat with_reducible (first | refine then_exit ?_ | refine in_hit ?_ | refine in_miss rfl ?_)
      obtain rfl := Option.some.inj hM113
      exact ⟨p114.1, B115, d116, rfl, hF.keep _ ⟨rfl, rfl, trivial⟩, S.sel [1] rfl rfl⟩
    replace hM113 := bif_t hc117 hM113
    refine cond_t hF rfl hc117 ?_
    refine wp_skip ?_
    refine ws ?_
    refine wp_block ?_
    revert a;refine sr (mv rfl rfl (mv rfl rfl fun a hF=>?_))
    obtain ⟨p118, h118, hM113⟩ := bind_ex hM113
    refine op_call rfl rfl hF rfl (run_call (vs := [.slice B106 p105.length d108, .int .i64 p114.2]) rfl rfl co36 ⟨(hF.ev rfl), (hF.ev rfl), trivial⟩) (c_spec_l1Has (x0 := p105) (x1 := p114.2) ⟨(S.rc 2 rfl), rfl⟩ h118) ?_
    rintro e u ⟨rfl, T⟩
    refine ⟨_, rfl, ?_⟩
    clear hF; intro a hF
    replace S := S.call0 T; clear T
    revert a;refine ov (v := .bool (!p118)) rfl rfl rfl (fun a hF=>run_not rfl (hF.ev rfl)) (mv rfl rfl fun a hF=>?_)
    refine op_gv (v := .pointer (some ⟨g101, 2, none⟩)) rfl rfl hF rfl (yt (gw_yield hF rfl rfl rfl)) (fun hg => (run_fieldAddr rfl fl43_1 (hF.ev rfl) rfl)) ?_;clear hF;intro a hF
    refine op_gv (v := .slice A2 x2.length c2) rfl rfl hF rfl (yt (gw_yield hF rfl rfl rfl)) (fun hg => (run_load1 rfl one38 ((hF.ev rfl).trans (gv_t hg)) ((S.free 0 rfl).cell rfl))) ?_;clear hF;intro a hF
    refine op_gv (v := .int .i64 p114.2) rfl rfl hF rfl (yt (gw_yield hF rfl rfl rfl)) (fun hg => (run_move rfl (hF.ev rfl))) ?_;clear hF;intro a hF
    obtain ⟨hk119, hM113⟩ := chk_ex hM113
    replace hk119 := fun hg => ixB_t (imp_t hk119 hg)
    refine op_gv (v := .pointer (some ⟨adB A2, adO A2 + p114.2.toNat * 2, none⟩)) rfl rfl hF rfl (yt (gw_yield hF rfl rfl rfl)) (fun hg => (run_indexAddr (b := adB A2) (off := adO A2) rfl Try.underlying38 sz69 (((hF.ev rfl).trans (gv_t hg)).trans (congrArg (fun A => Value.slice A x2.length c2) ((S.rc0 h2.rc).rd.ad (ix_pos (hk119 hg))))) ((hF.ev rfl).trans (gv_t hg)) (hk119 hg).1 (hk119 hg).2 (k' := adO A2 + p114.2.toNat * 2) rfl)) ?_;clear hF;intro a hF
    refine op_gv (v := .pointer (some ⟨adB A2, adO A2 + p114.2.toNat * 2 + 1, none⟩)) rfl rfl hF rfl (yt (gw_yield hF rfl rfl rfl)) (fun hg => (run_fieldAddr rfl fl69_1 ((hF.ev rfl).trans (gv_t hg)) rfl)) ?_;clear hF;intro a hF
    refine op_gv (v := .int .i64 ((x2.getD p114.2.toNat ((0, 0) : Int × Int)).2)) rfl rfl hF rfl (yt (gw_yield hF rfl rfl rfl)) (fun hg => (run_load1 rfl one3 ((hF.ev rfl).trans (gv_t hg)) (rd_el (l := x2) (S.rc0 h2.rc).rd rfl eBus_len ((0, 0) : Int × Int) (ix_ltn (hk119 hg) rfl) rfl))) ?_;clear hF;intro a hF
    refine op_gv (v := .bool (ltB 0 ((x2.getD p114.2.toNat ((0, 0) : Int × Int)).2))) rfl rfl hF rfl (yt (gw_yield hF rfl rfl rfl)) (fun hg => (run_gtr ((hF.ev rfl).trans (gv_t hg)) rfl rfl)) ?_;clear hF;intro a hF
    refine op_val (v := .bool ((!p118) && (ltB 0 ((x2.getD p114.2.toNat ((0, 0) : Int × Int)).2)))) rfl rfl hF rfl (run_pick_and rfl (hF.ev rfl) (fun hp => ((hF.ev rfl).trans (gv_t hp))) rfl) ?_;clear hF;intro a hF
    refine wn ?_
    obtain ⟨o121, hM124, hM113⟩ := bind_ex hM113
    refine wp_cut (fun a u => ∃ (p120 : List Int) (B122 : Option Addr) (d123 : Nat), p120 = o121 ∧ Fr a 44 [(1, .pointer (some ⟨g101, 0, none⟩)), (2, .slice none 0 0), (3, .slice B122 p120.length d123), (4, .slice B106 p105.length d108), (5, .int .i64 p114.2)] ∧ St w u [.box g101 43 #[.int .i64 x0, .slice A1 x1.length c1, .slice A2 x2.length c2, .slice A3 x3.length c3, .slice A4 x4.length c4, .slice A5 x5.length c5, .slice A6 x6.length c6], .row 3 1 (.slice B122 p120.length d123) p120.length (p120.flatMap eI), .row 3 1 (.slice B106 p105.length d108) p105.length (p105.flatMap eI)]) ?_ ?_
    · have _ := trivial
      cases hc125 : ((!p118) && (ltB 0 ((x2.getD p114.2.toNat ((0, 0) : Int × Int)).2)))
      · replace hM124 := bif_f hc125 hM124
        refine cond_f hF rfl hc125 ?_
        refine wp_skip ?_
        obtain rfl := Option.some.inj hM124
        exact ⟨p114.1, B115, d116, rfl, hF.keep _ ⟨rfl, rfl, rfl, rfl, rfl, trivial⟩, S.sel [0, 1, 2] rfl rfl⟩
      replace hM124 := bif_t hc125 hM124
      refine cond_t hF rfl hc125 ?_
      revert a;refine rl (mv rfl rfl (mv rfl rfl fun a hF=>?_))
      refine op_newrowL (ls := (([p114.2] : List Int) : List Int)) (e := eI) rfl rfl hF rfl S (run_buildS (vs := [(0, .int .i64 p114.2)]) rfl ⟨⟨rfl, (hF.ev rfl)⟩, trivial⟩ (bs30_1_0 rfl)) rfl eI_len (Nat.le_of_ble_eq_true rfl) ?_; clear hF S; intro a g126 u hF S
      obtain ⟨hk129, hM124⟩ := chk_ex hM124
      replace hk129 := apB_t hk129
      refine op_appendL (lx := p114.1) (ly := ([p114.2] : List Int)) rfl rfl hF rfl S rfl (hF.ev rfl) (hF.ev rfl) (i := 2) rfl rfl Try.underlying30 inf3 rfl (by decide) (S.rc 0 rfl).rd rfl eI_one hk129 (by decide) ?_; clear hF S; intro a B127 d128 u hF S
      refine op_val (v := .slice B127 ((p114.1 ++ ([p114.2] : List Int)).length) d128) rfl rfl hF rfl (run_assign rfl (hF.ev rfl)) ?_;clear hF;intro a hF
      refine wn ?_
      obtain rfl := Option.some.inj hM124
      exact ⟨p114.1 ++ ([p114.2] : List Int), B127, d128, rfl, hF.keep _ ⟨rfl, rfl, rfl, rfl, rfl, trivial⟩, S.sel [1, 2, 3] rfl rfl⟩
    rintro a u ⟨p120, B122, d123, rfl, hF, S⟩
    revert a;refine rl (mv rfl rfl (ov (v := .int .i64 (w64 (p114.2 + 1))) rfl rfl rfl (fun a hF=>run_add (z := w64 (p114.2 + 1)) (hF.ev rfl) rfl rfl rfl) (ag rfl rfl fun a hF=>wn ?_)))
    exact ⟨f1, Nat.lt_succ_self _, (p120, w64 (p114.2 + 1)), B122, d123, hM113, hF.keep _ ⟨rfl, rfl, rfl, rfl, rfl, trivial⟩, S.sel [0, 1, 2] rfl rfl⟩
  rintro a u ⟨p109, B111, d112, rfl, hF, S⟩
  revert a;refine sr (mv rfl rfl (ag rfl rfl fun a hF=>wn ?_))
  refine wp_ret ?_
  repeat with_reducible first|refine tr ?_|refine ir ?_|refine nr ?_
  refine ret1_gw (.inl rfl) hF rfl (res_tmp (hF.ev rfl)) ?_
  obtain rfl := Option.some.inj hM
  exact ⟨B111, p109.length, d112, rfl, rfl, S.sel [0] rfl rfl⟩
theorem c_impl_Net_hasBus {x0 : Int} {x1 : List (Int × Int × Int)} {x2 : Int} {A1 : Option Addr} {n1 c1 : Nat} {w : World} {r : Bool} (h1 : Rt w 3 eLine A1 n1 c1 x1) (hM : m_impl_Net_hasBus x0 x1 x2 = some r) :
    Calls Try.prog 76 #[.agg #[.int .i64 x0, .slice A1 n1 c1], .int .i64 x2] w (fun e w' => e = .returned (.bool r) ∧ St w w' []) := by
  obtain rfl := h1.len
  unfold m_impl_Net_hasBus at hM
  refine calls_gw Try.func76 Try.ntmps76 rfl [(0, .agg #[.int .i64 x0, .slice A1 x1.length c1]), (1, .int .i64 x2)] ⟨rfl, rfl, trivial⟩ rfl ?_
  intro a hF
  have S := St.nil w
  refine wsg ?_
  refine op_new (cs := #[.int .i64 x0, .slice A1 x1.length c1]) rfl rfl hF rfl S (run_box rfl (hF.ev rfl) rfl) ?_; clear hF S; intro a g101 u hF S
  refine op_val (v := .bool false) rfl rfl hF rfl (run_assign rfl rfl) ?_;clear hF;intro a hF
  refine wn ?_
  revert a;refine sr (mv rfl rfl (ov (v := .bool (leB 0 x2)) rfl rfl rfl (fun a hF=>run_geq (hF.ev rfl) rfl rfl) (mv rfl rfl fun a hF=>?_)))
  refine op_gv (v := .int .i64 x2) rfl rfl hF rfl (yt (gw_yield hF rfl rfl rfl)) (fun hg => (run_move rfl (hF.ev rfl))) ?_;clear hF;intro a hF
  refine op_gv (v := .pointer (some ⟨g101, 0, none⟩)) rfl rfl hF rfl (yt (gw_yield hF rfl rfl rfl)) (fun hg => (run_fieldAddr rfl fl37_0 (hF.ev rfl) rfl)) ?_;clear hF;intro a hF
  refine op_gv (v := .int .i64 x0) rfl rfl hF rfl (yt (gw_yield hF rfl rfl rfl)) (fun hg => (run_load1 rfl one3 ((hF.ev rfl).trans (gv_t hg)) ((S.free 0 rfl).cell rfl))) ?_;clear hF;intro a hF
  refine op_gv (v := .bool (ltB x2 x0)) rfl rfl hF rfl (yt (gw_yield hF rfl rfl rfl)) (fun hg => (run_lss ((hF.ev rfl).trans (gv_t hg)) ((hF.ev rfl).trans (gv_t hg)) rfl)) ?_;clear hF;intro a hF
  revert a;refine ov (v := .bool ((leB 0 x2) && (ltB x2 x0))) rfl rfl rfl (fun a hF=>run_pick_and rfl (hF.ev rfl) (fun hp => ((hF.ev rfl).trans (gv_t hp))) rfl) (ag rfl rfl fun a hF=>wn ?_)
  refine wp_ret ?_
  repeat with_reducible first|refine tr ?_|refine ir ?_|refine nr ?_
  refine ret1_gw (.inl rfl) hF rfl (res_tmp (hF.ev rfl)) ?_
  obtain rfl := Option.some.inj hM
  exact ⟨rfl, S.sel [] rfl rfl⟩
theorem c_impl_NetValid {x0 : Int} {x1 : List (Int × Int × Int)} {A1 : Option Addr} {n1 c1 : Nat} {w : World} {r : Bool} (h1 : Rt w 3 eLine A1 n1 c1 x1) (hM : m_impl_NetValid x0 x1 = some r) :
    Calls Try.prog 54 #[.agg #[.int .i64 x0, .slice A1 n1 c1]] w (fun e w' => e = .returned (.bool r) ∧ St w w' []) := by
  obtain rfl := h1.len
  unfold m_impl_NetValid at hM
  refine calls_gw Try.func54 Try.ntmps54 rfl [(0, .agg #[.int .i64 x0, .slice A1 x1.length c1])] ⟨rfl, trivial⟩ rfl ?_
  intro a hF
  have S := St.nil w
  refine wsg ?_
  refine op_new (cs := #[.int .i64 x0, .slice A1 x1.length c1]) rfl rfl hF rfl S (run_box rfl (hF.ev rfl) rfl) ?_; clear hF S; intro a g101 u hF S
  refine op_val (v := .bool false) rfl rfl hF rfl (run_assign rfl rfl) ?_;clear hF;intro a hF
  refine wn ?_
  refine ws ?_
  revert a;refine sr (ov (v := .pointer (some ⟨g101, 0, none⟩)) rfl rfl rfl (fun a hF=>run_fieldAddr rfl fl37_0 (hF.ev rfl) rfl) (ov (v := .int .i64 x0) rfl rfl rfl (fun a hF=>run_load1 rfl one3 (hF.ev rfl) ((S.free 0 rfl).cell rfl)) (ov (v := .bool (ltB x0 1)) rfl rfl rfl (fun a hF=>run_lss (hF.ev rfl) rfl rfl) (mv rfl rfl fun a hF=>?_))))
  refine op_gv (v := .pointer (some ⟨g101, 0, none⟩)) rfl rfl hF rfl (yf (gw_yield hF rfl rfl rfl)) (fun hg => (run_fieldAddr rfl fl37_0 (hF.ev rfl) rfl)) ?_;clear hF;intro a hF
  refine op_gv (v := .int .i64 x0) rfl rfl hF rfl (yf (gw_yield hF rfl rfl rfl)) (fun hg => (run_load1 rfl one3 ((hF.ev rfl).trans (gv_t hg)) ((S.free 0 rfl).cell rfl))) ?_;clear hF;intro a hF
  refine op_gv (v := .bool (ltB 8 x0)) rfl rfl hF rfl (yf (gw_yield hF rfl rfl rfl)) (fun hg => (run_gtr ((hF.ev rfl).trans (gv_t hg)) rfl rfl)) ?_;clear hF;intro a hF
  revert a;refine ov (v := .bool ((ltB x0 1) || (ltB 8 x0))) rfl rfl rfl (fun a hF=>run_pick_or rfl (hF.ev rfl) rfl (fun hp => ((hF.ev rfl).trans (gv_t (not_t hp))))) (mv rfl rfl fun a hF=>?_)
  refine op_gv (v := .pointer (some ⟨g101, 1, none⟩)) rfl rfl hF rfl (yf (gw_yield hF rfl rfl rfl)) (fun hg => (run_fieldAddr rfl fl37_1 (hF.ev rfl) rfl)) ?_;clear hF;intro a hF
  refine op_gv (v := .slice A1 x1.length c1) rfl rfl hF rfl (yf (gw_yield hF rfl rfl rfl)) (fun hg => (run_load1 rfl one35 ((hF.ev rfl).trans (gv_t hg)) ((S.free 0 rfl).cell rfl))) ?_;clear hF;intro a hF
  refine op_gv (v := .int .i64 (x1.length : Int)) rfl rfl hF rfl (yf (gw_yield hF rfl rfl rfl)) (fun hg => (run_lenL rfl rfl Try.underlying35 ((hF.ev rfl).trans (gv_t hg)))) ?_;clear hF;intro a hF
  refine op_gv (v := .bool (ltB 10 (x1.length : Int))) rfl rfl hF rfl (yf (gw_yield hF rfl rfl rfl)) (fun hg => (run_gtr ((hF.ev rfl).trans (gv_t hg)) rfl rfl)) ?_;clear hF;intro a hF
  refine op_val (v := .bool (((ltB x0 1) || (ltB 8 x0)) || (ltB 10 (x1.length : Int)))) rfl rfl hF rfl (run_pick_or rfl (hF.ev rfl) rfl (fun hp => ((hF.ev rfl).trans (gv_t (not_t hp))))) ?_;clear hF;intro a hF
  refine wn ?_
  cases hc102 : (((ltB x0 1) || (ltB 8 x0)) || (ltB 10 (x1.length : Int)))
  · replace hM := bif_f hc102 hM
    refine cond_f hF rfl hc102 ?_
    refine wp_skip ?_
    refine ws ?_
    revert a;refine sr (ov (v := .pointer (some ⟨g101, 1, none⟩)) rfl rfl rfl (fun a hF=>run_fieldAddr rfl fl37_1 (hF.ev rfl) rfl) (ov (v := .slice A1 x1.length c1) rfl rfl rfl (fun a hF=>run_load1 rfl one35 (hF.ev rfl) ((S.free 0 rfl).cell rfl)) (ov rfl rfl rfl (fun a hF=>run_lenL rfl rfl Try.underlying35 (hF.ev rfl)) (ov (v := .int .i64 0) rfl rfl rfl (fun a hF=>run_move rfl rfl) fun a hF=>wn ?_))))
    obtain ⟨o104, hM105, hM⟩ := bind_ex hM
    refine wp_cut (fun a u => ∃ (p103 : Unit), (Sum.inl p103) = o104 ∧ Fr a 56 [(2, .bool false)] ∧ St w u []) ?_ ?_
    · have _ := trivial
      refine wp_block ?_
      refine loop_gw (fun m a u => ∃ (p106 : Int), m_impl_NetValid_l1 x0 x1 m p106 = some _ ∧ Fr a 56 [(1, .pointer (some ⟨g101, 0, none⟩)), (2, .bool false), (20, .slice A1 x1.length c1), (21, .int .i64 (x1.length : Int)), (22, .int .i64 p106)] ∧ St w u [.box g101 37 #[.int .i64 x0, .slice A1 x1.length c1]]) FUEL ⟨0, hM105, hF.keep _ ⟨rfl, rfl, rfl, rfl, rfl, trivial⟩, S.sel [0] rfl rfl⟩ ?_
      clear hF S hM105; rintro m a u ⟨p106, hM105, hF, S⟩
      rcases m with _ | f1
      · exact none_some hM105
      rw [m_impl_NetValid_l1.eq_2] at hM105
      revert a;refine sr (ov (v := .bool (ltB p106 (x1.length : Int))) rfl rfl rfl (fun a hF=>run_lss (hF.ev rfl) (hF.ev rfl) rfl) fun a hF=>wn ?_)
      refine ws ?_
      cases hc107 : (ltB p106 (x1.length : Int))
      · replace hM105 := bif_f hc107 hM105
        refine cond_f hF rfl hc107 ?_
        refine wp_exit ?_
        repeat with_reducible (first | refine then_exit ?_ | refine in_hit ?_ | refine in_miss rfl ?_)
        obtain rfl := Option.some.inj hM105
        exact ⟨(), rfl, hF.keep _ ⟨rfl, trivial⟩, S.sel [] rfl rfl⟩
      replace hM105 := bif_t hc107 hM105
      refine cond_t hF rfl hc107 ?_
      refine wp_skip ?_
      refine ws ?_
      refine wp_block ?_
      refine wsg ?_
      obtain ⟨hk108, hM105⟩ := chk_ex hM105
      replace hk108 := ixB_t hk108
      revert a;refine ov rfl rfl rfl (fun a hF=>run_indexAddr (b := adB A1) (off := adO A1) rfl Try.underlying35 sz107 ((hF.ev rfl).trans (congrArg (fun A => Value.slice A x1.length c1) ((S.rc0 h1.rc).rd.ad (ix_pos hk108)))) (hF.ev rfl) hk108.1 hk108.2 (k' := adO A1 + p106.toNat * 3) rfl) (ov rfl rfl rfl (fun a hF=>run_loadN (cs := #[.int .i64 ((x1.getD p106.toNat ((0, 0, 0) : Int × Int × Int)).1), .int .i64 ((x1.getD p106.toNat ((0, 0, 0) : Int × Int × Int)).2.1), .int .i64 ((x1.getD p106.toNat ((0, 0, 0) : Int × Int × Int)).2.2)]) rfl ag107 (hF.ev rfl) rfl (rd_elN (l := x1) (S.rc0 h1.rc).rd rfl eLine_len ((0, 0, 0) : Int × Int × Int) (ix_ltn hk108 rfl) rfl)) fun a hF=>?_)
      refine op_new (cs := #[.int .i64 0, .int .i64 0, .int .i64 0]) rfl rfl hF rfl S (run_allocZ rfl zr107) ?_; clear hF S; intro a g109 u hF S
      refine op_do rfl rfl (run_store (cs' := #[.int .i64 ((x1.getD p106.toNat ((0, 0, 0) : Int × Int × Int)).1), .int .i64 ((x1.getD p106.toNat ((0, 0, 0) : Int × Int × Int)).2.1), .int .i64 ((x1.getD p106.toNat ((0, 0, 0) : Int × Int × Int)).2.2)]) rfl sz107 (hF.ev rfl) (hF.ev rfl) rfl rfl rfl (S.free 0 rfl) rfl rfl) ?_; replace S := S.put 0 rfl (#[.int .i64 ((x1.getD p106.toNat ((0, 0, 0) : Int × Int × Int)).1), .int .i64 ((x1.getD p106.toNat ((0, 0, 0) : Int × Int × Int)).2.1), .int .i64 ((x1.getD p106.toNat ((0, 0, 0) : Int × Int × Int)).2.2)])
      generalize World.setRow _ _ _ = u at S ⊢
      refine wn ?_
      revert a;refine sr (ov rfl rfl rfl (fun a hF=>run_loadN rfl ag37 (hF.ev rfl) rfl ((S.free 1 rfl).cells 0 #[.int .i64 x0, .slice A1 x1.length c1] rfl)) (ov (v := .pointer (some ⟨g109, 0, none⟩)) rfl rfl rfl (fun a hF=>run_fieldAddr rfl fl107_0 (hF.ev rfl) rfl) (ov (v := .int .i64 ((x1.getD p106.toNat ((0, 0, 0) : Int × Int × Int)).1)) rfl rfl rfl (fun a hF=>run_load1 rfl one3 (hF.ev rfl) ((S.free 0 rfl).cell rfl)) fun a hF=>?_)))
      obtain ⟨p110, h110, hM105⟩ := bind_ex hM105
      refine op_call rfl rfl hF rfl (run_call (vs := [.agg #[.int .i64 x0, .slice A1 x1.length c1], .int .i64 ((x1.getD p106.toNat ((0, 0, 0) : Int × Int × Int)).1)]) rfl rfl co76 ⟨(hF.ev rfl), (hF.ev rfl), trivial⟩) (c_impl_Net_hasBus (x0 := x0) (x1 := x1) (x2 := (x1.getD p106.toNat ((0, 0, 0) : Int × Int × Int)).1) ⟨(S.rc0 h1.rc), rfl⟩ h110) ?_
      rintro e u ⟨rfl, T⟩
      refine ⟨_, rfl, ?_⟩
      clear hF; intro a hF
      replace S := S.call0 T; clear T
      revert a;refine ov (v := .bool (!p110)) rfl rfl rfl (fun a hF=>run_not rfl (hF.ev rfl)) (mv rfl rfl fun a hF=>?_)
      refine op_gv (v := .agg #[.int .i64 x0, .slice A1 x1.length c1]) rfl rfl hF rfl (yf (gw_yield hF rfl rfl rfl)) (fun hg => (run_loadN rfl ag37 (hF.ev rfl) rfl ((S.free 1 rfl).cells 0 #[.int .i64 x0, .slice A1 x1.length c1] rfl))) ?_;clear hF;intro a hF
      refine op_gv (v := .pointer (some ⟨g109, 1, none⟩)) rfl rfl hF rfl (yf (gw_yield hF rfl rfl rfl)) (fun hg => (run_fieldAddr rfl fl107_1 (hF.ev rfl) rfl)) ?_;clear hF;intro a hF
      refine op_gv (v := .int .i64 ((x1.getD p106.toNat ((0, 0, 0) : Int × Int × Int)).2.1)) rfl rfl hF rfl (yf (gw_yield hF rfl rfl rfl)) (fun hg => (run_load1 rfl one3 ((hF.ev rfl).trans (gv_t hg)) ((S.free 0 rfl).cell rfl))) ?_;clear hF;intro a hF
      obtain ⟨p111, h111, hM105⟩ := bind_ex hM105
      refine op_gcall (v := .bool p111) rfl rfl hF rfl S (yf (gw_yield hF rfl rfl rfl)) (fun hg => (run_call (vs := [.agg #[.int .i64 x0, .slice A1 x1.length c1], .int .i64 ((x1.getD p106.toNat ((0, 0, 0) : Int × Int × Int)).2.1)]) rfl rfl co76 ⟨((hF.ev rfl).trans (gv_t hg)), ((hF.ev rfl).trans (gv_t hg)), trivial⟩)) (fun hg => c_impl_Net_hasBus (x0 := x0) (x1 := x1) (x2 := (x1.getD p106.toNat ((0, 0, 0) : Int × Int × Int)).2.1) ⟨(S.rc0 h1.rc), rfl⟩ (gb_t h111 hg)) ?_; clear hF S; intro a u hF S
      refine op_gv (v := .bool (!p111)) rfl rfl hF rfl (yf (gw_yield hF rfl rfl rfl)) (fun hg => (run_not rfl ((hF.ev rfl).trans (gv_t hg)))) ?_;clear hF;intro a hF
      revert a;refine ov (v := .bool ((!p110) || (!p111))) rfl rfl rfl (fun a hF=>run_pick_or rfl (hF.ev rfl) rfl (fun hp => ((hF.ev rfl).trans (gv_t (not_t hp))))) (mv rfl rfl fun a hF=>?_)
      refine op_gv (v := .pointer (some ⟨g109, 0, none⟩)) rfl rfl hF rfl (yf (gw_yield hF rfl rfl rfl)) (fun hg => (run_fieldAddr rfl fl107_0 (hF.ev rfl) rfl)) ?_;clear hF;intro a hF
      refine op_gv (v := .int .i64 ((x1.getD p106.toNat ((0, 0, 0) : Int × Int × Int)).1)) rfl rfl hF rfl (yf (gw_yield hF rfl rfl rfl)) (fun hg => (run_load1 rfl one3 ((hF.ev rfl).trans (gv_t hg)) ((S.free 0 rfl).cell rfl))) ?_;clear hF;intro a hF
      refine op_gv (v := .pointer (some ⟨g109, 1, none⟩)) rfl rfl hF rfl (yf (gw_yield hF rfl rfl rfl)) (fun hg => (run_fieldAddr rfl fl107_1 (hF.ev rfl) rfl)) ?_;clear hF;intro a hF
      refine op_gv (v := .int .i64 ((x1.getD p106.toNat ((0, 0, 0) : Int × Int × Int)).2.1)) rfl rfl hF rfl (yf (gw_yield hF rfl rfl rfl)) (fun hg => (run_load1 rfl one3 ((hF.ev rfl).trans (gv_t hg)) ((S.free 0 rfl).cell rfl))) ?_;clear hF;intro a hF
      refine op_gv (v := .bool (((x1.getD p106.toNat ((0, 0, 0) : Int × Int × Int)).1) == ((x1.getD p106.toNat ((0, 0, 0) : Int × Int × Int)).2.1))) rfl rfl hF rfl (yf (gw_yield hF rfl rfl rfl)) (fun hg => (run_eql ((hF.ev rfl).trans (gv_t hg)) ((hF.ev rfl).trans (gv_t hg)) rfl)) ?_;clear hF;intro a hF
      revert a;refine ov (v := .bool (((!p110) || (!p111)) || (((x1.getD p106.toNat ((0, 0, 0) : Int × Int × Int)).1) == ((x1.getD p106.toNat ((0, 0, 0) : Int × Int × Int)).2.1)))) rfl rfl rfl (fun a hF=>run_pick_or rfl (hF.ev rfl) rfl (fun hp => ((hF.ev rfl).trans (gv_t (not_t hp))))) (mv rfl rfl fun a hF=>?_)
      refine op_gv (v := .pointer (some ⟨g109, 2, none⟩)) rfl rfl hF rfl (yf (gw_yield hF rfl rfl rfl)) (fun hg => (run_fieldAddr rfl fl107_2 (hF.ev rfl) rfl)) ?_;clear hF;intro a hF
      refine op_gv (v := .int .i64 ((x1.getD p106.toNat ((0, 0, 0) : Int × Int × Int)).2.2)) rfl rfl hF rfl (yf (gw_yield hF rfl rfl rfl)) (fun hg => (run_load1 rfl one3 ((hF.ev rfl).trans (gv_t hg)) ((S.free 0 rfl).cell rfl))) ?_;clear hF;intro a hF
      refine op_gv (v := .bool (ltB ((x1.getD p106.toNat ((0, 0, 0) : Int × Int × Int)).2.2) 1)) rfl rfl hF rfl (yf (gw_yield hF rfl rfl rfl)) (fun hg => (run_lss ((hF.ev rfl).trans (gv_t hg)) rfl rfl)) ?_;clear hF;intro a hF
      revert a;refine ov (v := .bool ((((!p110) || (!p111)) || (((x1.getD p106.toNat ((0, 0, 0) : Int × Int × Int)).1) == ((x1.getD p106.toNat ((0, 0, 0) : Int × Int × Int)).2.1))) || (ltB ((x1.getD p106.toNat ((0, 0, 0) : Int × Int × Int)).2.2) 1))) rfl rfl rfl (fun a hF=>run_pick_or rfl (hF.ev rfl) rfl (fun hp => ((hF.ev rfl).trans (gv_t (not_t hp))))) (mv rfl rfl fun a hF=>?_)
      refine op_gv (v := .pointer (some ⟨g109, 2, none⟩)) rfl rfl hF rfl (yf (gw_yield hF rfl rfl rfl)) (fun hg => (run_fieldAddr rfl fl107_2 (hF.ev rfl) rfl)) ?_;clear hF;intro a hF
      refine op_gv (v := .int .i64 ((x1.getD p106.toNat ((0, 0, 0) : Int × Int × Int)).2.2)) rfl rfl hF rfl (yf (gw_yield hF rfl rfl rfl)) (fun hg => (run_load1 rfl one3 ((hF.ev rfl).trans (gv_t hg)) ((S.free 0 rfl).cell rfl))) ?_;clear hF;intro a hF
      refine op_gv (v := .bool (ltB 999 ((x1.getD p106.toNat ((0, 0, 0) : Int × Int × Int)).2.2))) rfl rfl hF rfl (yf (gw_yield hF rfl rfl rfl)) (fun hg => (run_gtr ((hF.ev rfl).trans (gv_t hg)) rfl rfl)) ?_;clear hF;intro a hF
      refine op_val (v := .bool (((((!p110) || (!p111)) || (((x1.getD p106.toNat ((0, 0, 0) : Int × Int × Int)).1) == ((x1.getD p106.toNat ((0, 0, 0) : Int × Int × Int)).2.1))) || (ltB ((x1.getD p106.toNat ((0, 0, 0) : Int × Int × Int)).2.2) 1)) || (ltB 999 ((x1.getD p106.toNat ((0, 0, 0) : Int × Int × Int)).2.2)))) rfl rfl hF rfl (run_pick_or rfl (hF.ev rfl) rfl (fun hp => ((hF.ev rfl).trans (gv_t (not_t hp))))) ?_;clear hF;intro a hF
      refine wn ?_
      cases hc112 : (((((!p110) || (!p111)) || (((x1.getD p106.toNat ((0, 0, 0) : Int × Int × Int)).1) == ((x1.getD p106.toNat ((0, 0, 0) : Int × Int × Int)).2.1))) || (ltB ((x1.getD p106.toNat ((0, 0, 0) : Int × Int × Int)).2.2) 1)) || (ltB 999 ((x1.getD p106.toNat ((0, 0, 0) : Int × Int × Int)).2.2)))
      · replace hM105 := bif_f hc112 hM105
        refine cond_f hF rfl hc112 ?_
        refine wp_skip ?_
        revert a;refine rl (ov (v := .int .i64 (w64 (p106 + 1))) rfl rfl rfl (fun a hF=>run_add (z := w64 (p106 + 1)) (hF.ev rfl) rfl rfl rfl) (mv rfl rfl fun a hF=>wn ?_))
        exact ⟨f1, Nat.lt_succ_self _, w64 (p106 + 1), hM105, hF.keep _ ⟨rfl, rfl, rfl, rfl, rfl, trivial⟩, S.sel [1] rfl rfl⟩
      replace hM105 := bif_t hc112 hM105
      refine cond_t hF rfl hc112 ?_
      revert a;refine sr (ov (v := .bool false) rfl rfl rfl (fun a hF=>run_assign rfl rfl) fun a hF=>wn ?_)
      refine wp_ret ?_
      repeat with_reducible first|refine tr ?_|refine ir ?_|refine nr ?_
      refine ret1_gw (.inl rfl) hF rfl (res_tmp (hF.ev rfl)) ?_
      obtain rfl := Option.some.inj hM105
      obtain rfl := Option.some.inj hM
      exact ⟨rfl, S.sel [] rfl rfl⟩
    rintro a u ⟨p103, rfl, hF, S⟩
    replace hM := elim_l hM
    revert a;refine sr (ov (v := .bool true) rfl rfl rfl (fun a hF=>run_assign rfl rfl) fun a hF=>wn ?_)
    refine wp_ret ?_
    repeat with_reducible first|refine tr ?_|refine ir ?_|refine nr ?_
    refine ret1_gw (.inl rfl) hF rfl (res_tmp (hF.ev rfl)) ?_
    obtain rfl := Option.some.inj hM
    exact ⟨rfl, S.sel [] rfl rfl⟩
  replace hM := bif_t hc102 hM
  refine cond_t hF rfl hc102 ?_
  revert a;refine sr (ov (v := .bool false) rfl rfl rfl (fun a hF=>run_assign rfl rfl) fun a hF=>wn ?_)
  refine wp_ret ?_
  repeat with_reducible first|refine tr ?_|refine ir ?_|refine nr ?_
  refine ret1_gw (.inl rfl) hF rfl (res_tmp (hF.ev rfl)) ?_
  obtain rfl := Option.some.inj hM
  exact ⟨rfl, S.sel [] rfl rfl⟩
theorem c_impl_powerValid {x0 : Int} {w : World} {r : Bool}  (hM : m_impl_powerValid x0 = some r) :
    Calls Try.prog 55 #[.int .i64 x0] w (fun e w' => e = .returned (.bool r) ∧ St w w' []) := by
  unfold m_impl_powerValid at hM
  refine calls_gw Try.func55 Try.ntmps55 rfl [(0, .int .i64 x0)] ⟨rfl, trivial⟩ rfl ?_
  intro a hF
  have S := St.nil w
  revert a;refine sr (ov (v := .bool false) rfl rfl rfl (fun a hF=>run_assign rfl rfl) fun a hF=>wn ?_)
  revert a;refine sr (mv rfl rfl (ov (v := .bool (leB 0 x0)) rfl rfl rfl (fun a hF=>run_geq (hF.ev rfl) rfl rfl) (mv rfl rfl fun a hF=>?_)))
  refine op_gv (v := .int .i64 x0) rfl rfl hF rfl (yt (gw_yield hF rfl rfl rfl)) (fun hg => (run_move rfl (hF.ev rfl))) ?_;clear hF;intro a hF
  refine op_gv (v := .bool (leB x0 999)) rfl rfl hF rfl (yt (gw_yield hF rfl rfl rfl)) (fun hg => (run_leq ((hF.ev rfl).trans (gv_t hg)) rfl rfl)) ?_;clear hF;intro a hF
  revert a;refine ov (v := .bool ((leB 0 x0) && (leB x0 999))) rfl rfl rfl (fun a hF=>run_pick_and rfl (hF.ev rfl) (fun hp => ((hF.ev rfl).trans (gv_t hp))) rfl) (ag rfl rfl fun a hF=>wn ?_)
  refine wp_ret ?_
  repeat with_reducible first|refine tr ?_|refine ir ?_|refine nr ?_
  refine ret1_gw (.inl rfl) hF rfl (res_tmp (hF.ev rfl)) ?_
  obtain rfl := Option.some.inj hM
  exact ⟨rfl, S.sel [] rfl rfl⟩
theorem c_impl_BusesValid {x0 : Int} {x1 : List (Int × Int × Int)} {x2 : List (Int × Int)} {A1 : Option Addr} {n1 c1 : Nat} {A2 : Option Addr} {n2 c2 : Nat} {w : World} {r : Bool} (h1 : Rt w 3 eLine A1 n1 c1 x1) (h2 : Rt w 2 eBus A2 n2 c2 x2) (hM : m_impl_BusesValid x0 x1 x2 = some r) :
    Calls Try.prog 28 #[.agg #[.int .i64 x0, .slice A1 n1 c1], .slice A2 n2 c2] w (fun e w' => e = .returned (.bool r) ∧ St w w' []) := by
  obtain rfl := h1.len
  obtain rfl := h2.len
  unfold m_impl_BusesValid at hM
  refine calls_gw Try.func28 Try.ntmps28 rfl [(0, .agg #[.int .i64 x0, .slice A1 x1.length c1]), (1, .slice A2 x2.length c2)] ⟨rfl, rfl, trivial⟩ rfl ?_
  intro a hF
  have S := St.nil w
  refine wsg ?_
  refine op_new (cs := #[.int .i64 x0, .slice A1 x1.length c1]) rfl rfl hF rfl S (run_box rfl (hF.ev rfl) rfl) ?_; clear hF S; intro a g101 u hF S
  refine op_val (v := .bool false) rfl rfl hF rfl (run_assign rfl rfl) ?_;clear hF;intro a hF
  refine wn ?_
  refine ws ?_
  revert a;refine sr (ov rfl rfl rfl (fun a hF=>run_loadN rfl ag37 (hF.ev rfl) rfl ((S.free 0 rfl).cells 0 #[.int .i64 x0, .slice A1 x1.length c1] rfl)) fun a hF=>?_)
  obtain ⟨p102, h102, hM⟩ := bind_ex hM
  refine op_call rfl rfl hF rfl (run_call (vs := [.agg #[.int .i64 x0, .slice A1 x1.length c1]]) rfl rfl co54 ⟨(hF.ev rfl), trivial⟩) (c_impl_NetValid (x0 := x0) (x1 := x1) ⟨(S.rc0 h1.rc), rfl⟩ h102) ?_
  rintro e u ⟨rfl, T⟩
  refine ⟨_, rfl, ?_⟩
  clear hF; intro a hF
  replace S := S.call0 T; clear T
  revert a;refine ov (v := .bool (!p102)) rfl rfl rfl (fun a hF=>run_not rfl (hF.ev rfl)) (mv rfl rfl fun a hF=>?_)
  refine op_gv (v := .slice A2 x2.length c2) rfl rfl hF rfl (yf (gw_yield hF rfl rfl rfl)) (fun hg => (run_move rfl (hF.ev rfl))) ?_;clear hF;intro a hF
  refine op_gv (v := .int .i64 (x2.length : Int)) rfl rfl hF rfl (yf (gw_yield hF rfl rfl rfl)) (fun hg => (run_lenL rfl rfl Try.underlying38 ((hF.ev rfl).trans (gv_t hg)))) ?_;clear hF;intro a hF
  refine op_gv (v := .pointer (some ⟨g101, 0, none⟩)) rfl rfl hF rfl (yf (gw_yield hF rfl rfl rfl)) (fun hg => (run_fieldAddr rfl fl37_0 (hF.ev rfl) rfl)) ?_;clear hF;intro a hF
  refine op_gv (v := .int .i64 x0) rfl rfl hF rfl (yf (gw_yield hF rfl rfl rfl)) (fun hg => (run_load1 rfl one3 ((hF.ev rfl).trans (gv_t hg)) ((S.free 0 rfl).cell rfl))) ?_;clear hF;intro a hF
  refine op_gv (v := .bool ((x2.length : Int) != x0)) rfl rfl hF rfl (yf (gw_yield hF rfl rfl rfl)) (fun hg => (run_neq ((hF.ev rfl).trans (gv_t hg)) ((hF.ev rfl).trans (gv_t hg)) rfl)) ?_;clear hF;intro a hF
  refine op_val (v := .bool ((!p102) || ((x2.length : Int) != x0))) rfl rfl hF rfl (run_pick_or rfl (hF.ev rfl) rfl (fun hp => ((hF.ev rfl).trans (gv_t (not_t hp))))) ?_;clear hF;intro a hF
  refine wn ?_
  cases hc103 : ((!p102) || ((x2.length : Int) != x0))
  · replace hM := bif_f hc103 hM
    refine cond_f hF rfl hc103 ?_
    refine wp_skip ?_
    refine ws ?_
    revert a;refine sr (mv rfl rfl (ov rfl rfl rfl (fun a hF=>run_lenL rfl rfl Try.underlying38 (hF.ev rfl)) (ov (v := .int .i64 0) rfl rfl rfl (fun a hF=>run_move rfl rfl) fun a hF=>wn ?_)))
    obtain ⟨o105, hM106, hM⟩ := bind_ex hM
    refine wp_cut (fun a u => ∃ (p104 : Unit), (Sum.inl p104) = o105 ∧ Fr a 34 [(4, .bool false)] ∧ St w u []) ?_ ?_
    · have _ := trivial
      refine wp_block ?_
      refine loop_gw (fun m a u => ∃ (p107 : Int), m_impl_BusesValid_l1 x2 m p107 = some _ ∧ Fr a 34 [(4, .bool false), (17, .slice A2 x2.length c2), (18, .int .i64 (x2.length : Int)), (19, .int .i64 p107)] ∧ St w u []) FUEL ⟨0, hM106, hF.keep _ ⟨rfl, rfl, rfl, rfl, trivial⟩, S.sel [] rfl rfl⟩ ?_
      clear hF S hM106; rintro m a u ⟨p107, hM106, hF, S⟩
      rcases m with _ | f1
      · exact none_some hM106
      rw [m_impl_BusesValid_l1.eq_2] at hM106
      revert a;refine sr (ov (v := .bool (ltB p107 (x2.length : Int))) rfl rfl rfl (fun a hF=>run_lss (hF.ev rfl) (hF.ev rfl) rfl) fun a hF=>wn ?_)
      refine ws ?_
      cases hc108 : (ltB p107 (x2.length : Int))
      · replace hM106 := bif_f hc108 hM106
        refine cond_f hF rfl hc108 ?_
        refine wp_exit ?_
        repeat with_reducible (first | refine then_exit ?_ | refine in_hit ?_ | refine in_miss rfl ?_)
        obtain rfl := Option.some.inj hM106
        exact ⟨(), rfl, hF.keep _ ⟨rfl, trivial⟩, S.sel [] rfl rfl⟩
      replace hM106 := bif_t hc108 hM106
      refine cond_t hF rfl hc108 ?_
      refine wp_skip ?_
      refine ws ?_
      refine wp_block ?_
      refine wsg ?_
      obtain ⟨hk109, hM106⟩ := chk_ex hM106
      replace hk109 := ixB_t hk109
      revert a;refine ov rfl rfl rfl (fun a hF=>run_indexAddr (b := adB A2) (off := adO A2) rfl Try.underlying38 sz69 ((hF.ev rfl).trans (congrArg (fun A => Value.slice A x2.length c2) ((S.rc0 h2.rc).rd.ad (ix_pos hk109)))) (hF.ev rfl) hk109.1 hk109.2 (k' := adO A2 + p107.toNat * 2) rfl) (ov rfl rfl rfl (fun a hF=>run_loadN (cs := #[.int .i64 ((x2.getD p107.toNat ((0, 0) : Int × Int)).1), .int .i64 ((x2.getD p107.toNat ((0, 0) : Int × Int)).2)]) rfl ag69 (hF.ev rfl) rfl (rd_elN (l := x2) (S.rc0 h2.rc).rd rfl eBus_len ((0, 0) : Int × Int) (ix_ltn hk109 rfl) rfl)) fun a hF=>?_)
      refine op_new (cs := #[.int .i64 0, .int .i64 0]) rfl rfl hF rfl S (run_allocZ rfl zr69) ?_; clear hF S; intro a g110 u hF S
      refine op_do rfl rfl (run_store (cs' := #[.int .i64 ((x2.getD p107.toNat ((0, 0) : Int × Int)).1), .int .i64 ((x2.getD p107.toNat ((0, 0) : Int × Int)).2)]) rfl sz69 (hF.ev rfl) (hF.ev rfl) rfl rfl rfl (S.free 0 rfl) rfl rfl) ?_; replace S := S.put 0 rfl (#[.int .i64 ((x2.getD p107.toNat ((0, 0) : Int × Int)).1), .int .i64 ((x2.getD p107.toNat ((0, 0) : Int × Int)).2)])
      generalize World.setRow _ _ _ = u at S ⊢
      refine wn ?_
      revert a;refine sr (ov (v := .pointer (some ⟨g110, 0, none⟩)) rfl rfl rfl (fun a hF=>run_fieldAddr rfl fl69_0 (hF.ev rfl) rfl) (ov (v := .int .i64 ((x2.getD p107.toNat ((0, 0) : Int × Int)).1)) rfl rfl rfl (fun a hF=>run_load1 rfl one3 (hF.ev rfl) ((S.free 0 rfl).cell rfl)) fun a hF=>?_))
      obtain ⟨p111, h111, hM106⟩ := bind_ex hM106
      refine op_call rfl rfl hF rfl (run_call (vs := [.int .i64 ((x2.getD p107.toNat ((0, 0) : Int × Int)).1)]) rfl rfl co55 ⟨(hF.ev rfl), trivial⟩) (c_impl_powerValid (x0 := (x2.getD p107.toNat ((0, 0) : Int × Int)).1)  h111) ?_
      rintro e u ⟨rfl, T⟩
      refine ⟨_, rfl, ?_⟩
      clear hF; intro a hF
      replace S := S.call0 T; clear T
      revert a;refine ov (v := .bool (!p111)) rfl rfl rfl (fun a hF=>run_not rfl (hF.ev rfl)) (mv rfl rfl fun a hF=>?_)
      refine op_gv (v := .pointer (some ⟨g110, 1, none⟩)) rfl rfl hF rfl (yf (gw_yield hF rfl rfl rfl)) (fun hg => (run_fieldAddr rfl fl69_1 (hF.ev rfl) rfl)) ?_;clear hF;intro a hF
      refine op_gv (v := .int .i64 ((x2.getD p107.toNat ((0, 0) : Int × Int)).2)) rfl rfl hF rfl (yf (gw_yield hF rfl rfl rfl)) (fun hg => (run_load1 rfl one3 ((hF.ev rfl).trans (gv_t hg)) ((S.free 0 rfl).cell rfl))) ?_;clear hF;intro a hF
      obtain ⟨p112, h112, hM106⟩ := bind_ex hM106
      refine op_gcall (v := .bool p112) rfl rfl hF rfl S (yf (gw_yield hF rfl rfl rfl)) (fun hg => (run_call (vs := [.int .i64 ((x2.getD p107.toNat ((0, 0) : Int × Int)).2)]) rfl rfl co55 ⟨((hF.ev rfl).trans (gv_t hg)), trivial⟩)) (fun hg => c_impl_powerValid (x0 := (x2.getD p107.toNat ((0, 0) : Int × Int)).2)  (gb_t h112 hg)) ?_; clear hF S; intro a u hF S
      refine op_gv (v := .bool (!p112)) rfl rfl hF rfl (yf (gw_yield hF rfl rfl rfl)) (fun hg => (run_not rfl ((hF.ev rfl).trans (gv_t hg)))) ?_;clear hF;intro a hF
      refine op_val (v := .bool ((!p111) || (!p112))) rfl rfl hF rfl (run_pick_or rfl (hF.ev rfl) rfl (fun hp => ((hF.ev rfl).trans (gv_t (not_t hp))))) ?_;clear hF;intro a hF
      refine wn ?_
      cases hc113 : ((!p111) || (!p112))
      · replace hM106 := bif_f hc113 hM106
        refine cond_f hF rfl hc113 ?_
        refine wp_skip ?_
        revert a;refine rl (ov (v := .int .i64 (w64 (p107 + 1))) rfl rfl rfl (fun a hF=>run_add (z := w64 (p107 + 1)) (hF.ev rfl) rfl rfl rfl) (mv rfl rfl fun a hF=>wn ?_))
        exact ⟨f1, Nat.lt_succ_self _, w64 (p107 + 1), hM106, hF.keep _ ⟨rfl, rfl, rfl, rfl, trivial⟩, S.sel [] rfl rfl⟩
      replace hM106 := bif_t hc113 hM106
      refine cond_t hF rfl hc113 ?_
      revert a;refine sr (ov (v := .bool false) rfl rfl rfl (fun a hF=>run_assign rfl rfl) fun a hF=>wn ?_)
      refine wp_ret ?_
      repeat with_reducible first|refine tr ?_|refine ir ?_|refine nr ?_
      refine ret1_gw (.inl rfl) hF rfl (res_tmp (hF.ev rfl)) ?_
      obtain rfl := Option.some.inj hM106
      obtain rfl := Option.some.inj hM
      exact ⟨rfl, S.sel [] rfl rfl⟩
    rintro a u ⟨p104, rfl, hF, S⟩
    replace hM := elim_l hM
    revert a;refine sr (ov (v := .bool true) rfl rfl rfl (fun a hF=>run_assign rfl rfl) fun a hF=>wn ?_)
    refine wp_ret ?_
    repeat with_reducible first|refine tr ?_|refine ir ?_|refine nr ?_
    refine ret1_gw (.inl rfl) hF rfl (res_tmp (hF.ev rfl)) ?_
    obtain rfl := Option.some.inj hM
    exact ⟨rfl, S.sel [] rfl rfl⟩
  replace hM := bif_t hc103 hM
  refine cond_t hF rfl hc103 ?_
  revert a;refine sr (ov (v := .bool false) rfl rfl rfl (fun a hF=>run_assign rfl rfl) fun a hF=>wn ?_)
  refine wp_ret ?_
  repeat with_reducible first|refine tr ?_|refine ir ?_|refine nr ?_
  refine ret1_gw (.inl rfl) hF rfl (res_tmp (hF.ev rfl)) ?_
  obtain rfl := Option.some.inj hM
  exact ⟨rfl, S.sel [] rfl rfl⟩
theorem c_slices_Index_impl_Permit_impl_Permit {x0 : List (Int × Int)} {x1 : Int} {x2 : Int} {A0 : Option Addr} {n0 c0 : Nat} {w : World} {r : Int} (h0 : Rt w 2 ePermit A0 n0 c0 x0) (hM : m_slices_Index_impl_Permit_impl_Permit x0 x1 x2 = some r) :
    Calls Try.prog 77 #[.slice A0 n0 c0, .agg #[.int .i64 x1, .int .i64 x2]] w (fun e w' => e = .returned (.int .i64 r) ∧ St w w' []) := by
  obtain rfl := h0.len
  unfold m_slices_Index_impl_Permit_impl_Permit at hM
  refine calls_gw Try.func77 Try.ntmps77 rfl [(0, .slice A0 x0.length c0), (1, .agg #[.int .i64 x1, .int .i64 x2])] ⟨rfl, rfl, trivial⟩ rfl ?_
  intro a hF
  have S := St.nil w
  refine wsg ?_
  refine op_new (cs := #[.int .i64 x1, .int .i64 x2]) rfl rfl hF rfl S (run_box rfl (hF.ev rfl) rfl) ?_; clear hF S; intro a g101 u hF S
  refine op_val (v := .int .i64 0) rfl rfl hF rfl (run_assign rfl rfl) ?_;clear hF;intro a hF
  refine wn ?_
  refine ws ?_
  revert a;refine sr (mv rfl rfl (ov rfl rfl rfl (fun a hF=>run_lenL rfl rfl Try.underlying39 (hF.ev rfl)) (ov (v := .int .i64 0) rfl rfl rfl (fun a hF=>run_move rfl rfl) fun a hF=>wn ?_)))
  obtain ⟨o103, hM104, hM⟩ := bind_ex hM
  refine wp_cut (fun a u => ∃ (p102 : Unit), (Sum.inl p102) = o103 ∧ Fr a 19 [(4, .int .i64 0)] ∧ St w u []) ?_ ?_
  · have _ := trivial
    refine wp_block ?_
    refine loop_gw (fun m a u => ∃ (p105 : Int), m_slices_Index_impl_Permit_impl_Permit_l1 x0 x1 x2 m p105 = some _ ∧ Fr a 19 [(0, .slice A0 x0.length c0), (3, .pointer (some ⟨g101, 0, none⟩)), (4, .int .i64 0), (7, .int .i64 (x0.length : Int)), (8, .int .i64 p105)] ∧ St w u [.box g101 78 #[.int .i64 x1, .int .i64 x2]]) FUEL ⟨0, hM104, hF.keep _ ⟨rfl, rfl, rfl, rfl, rfl, trivial⟩, S.sel [0] rfl rfl⟩ ?_
    clear hF S hM104; rintro m a u ⟨p105, hM104, hF, S⟩
    rcases m with _ | f1
    · exact none_some hM104
    rw [m_slices_Index_impl_Permit_impl_Permit_l1.eq_2] at hM104
    revert a;refine sr (ov (v := .bool (ltB p105 (x0.length : Int))) rfl rfl rfl (fun a hF=>run_lss (hF.ev rfl) (hF.ev rfl) rfl) fun a hF=>wn ?_)
    refine ws ?_
    cases hc106 : (ltB p105 (x0.length : Int))
    · replace hM104 := bif_f hc106 hM104
      refine cond_f hF rfl hc106 ?_
      refine wp_exit ?_
      repeat with_reducible (first | refine then_exit ?_ | refine in_hit ?_ | refine in_miss rfl ?_)
      obtain rfl := Option.some.inj hM104
      exact ⟨(), rfl, hF.keep _ ⟨rfl, trivial⟩, S.sel [] rfl rfl⟩
    replace hM104 := bif_t hc106 hM104
    refine cond_t hF rfl hc106 ?_
    refine wp_skip ?_
    refine ws ?_
    refine wp_block ?_
    revert a;refine sr (mv rfl rfl (ag rfl rfl fun a hF=>wn ?_))
    refine ws ?_
    obtain ⟨hk107, hM104⟩ := chk_ex hM104
    replace hk107 := ixB_t hk107
    refine region_gw (D := [11, 12, 13, 14, 15, 16]) (Lr := [.box g101 78 #[.int .i64 x1, .int .i64 x2]]) (deps := (fun | 0 => [11] | 1 => [12] | 2 => [13] | 3 => [14] | 4 => [15] | 5 => [16] | _ => [])) (rd := (fun _ => [])) (zr := (fun _ => []))
      (φ := fun i vs => match i, vs with | 0, [v11] => v11 = .agg #[.int .i64 x1, .int .i64 x2] | 1, [v12] => v12 = .slice A0 x0.length c0 | 2, [v13] => v13 = .int .i64 p105 | 3, [v14] => v14 = .pointer (some ⟨adB A0, adO A0 + p105.toNat * 2, none⟩) | 4, [v15] => v15 = .agg #[.int .i64 ((x0.getD p105.toNat ((0, 0) : Int × Int)).1), .int .i64 ((x0.getD p105.toNat ((0, 0) : Int × Int)).2)] | 5, [v16] => v16 = .bool ((x1 == ((x0.getD p105.toNat ((0, 0) : Int × Int)).1)) && (x2 == ((x0.getD p105.toNat ((0, 0) : Int × Int)).2))) | _, _ => True)
      (C := fun _ _ => [])
      (κ := (fun _ => none)) (Z := (fun _ => [])) mixed hF (by kernel_rfl) S ?_ ?_
    · refine ⟨?_, ?_, ?_, ?_, ?_, ?_, trivial⟩
      · intro a u X hB hu hp hr hz hl S
        replace S : St w u ([] ++ X) := S
        exact .inl ⟨rfl, .agg #[.int .i64 x1, .int .i64 x2], u, (run_loadN rfl ag78 (hF.evB hB rfl rfl) rfl ((gr_box S hl 0 rfl).cells 0 #[.int .i64 x1, .int .i64 x2] rfl)), rfl, S⟩
      · intro a u X hB hu hp hr hz hl S
        replace S : St w u ([] ++ X) := S
        exact .inl ⟨rfl, .slice A0 x0.length c0, u, (run_move rfl (hF.evB hB rfl rfl)), rfl, S⟩
      · intro a u X hB hu hp hr hz hl S
        replace S : St w u ([] ++ X) := S
        exact .inl ⟨rfl, .int .i64 p105, u, (run_move rfl (hF.evB hB rfl rfl)), rfl, S⟩
      · intro a u X hB hu hp hr hz hl S
        replace S : St w u ([] ++ X) := S
        have e12 : sl a 12 = .slice A0 x0.length c0 := hp 1 rfl
        have e13 : sl a 13 = .int .i64 p105 := hp 2 rfl
        exact .inl ⟨rfl, .pointer (some ⟨adB A0, adO A0 + p105.toNat * 2, none⟩), u, (run_indexAddr (b := adB A0) (off := adO A0) rfl Try.underlying39 sz78 ((ev_sl e12).trans (congrArg (fun A => Value.slice A x0.length c0) ((S.rc0 h0.rc).rd.ad (ix_pos hk107)))) (ev_sl e13) hk107.1 hk107.2 (k' := adO A0 + p105.toNat * 2) rfl), rfl, S⟩
      · intro a u X hB hu hp hr hz hl S
        replace S : St w u ([] ++ X) := S
        have e14 : sl a 14 = .pointer (some ⟨adB A0, adO A0 + p105.toNat * 2, none⟩) := hp 3 rfl
        exact .inl ⟨rfl, .agg #[.int .i64 ((x0.getD p105.toNat ((0, 0) : Int × Int)).1), .int .i64 ((x0.getD p105.toNat ((0, 0) : Int × Int)).2)], u, (run_loadN (cs := #[.int .i64 ((x0.getD p105.toNat ((0, 0) : Int × Int)).1), .int .i64 ((x0.getD p105.toNat ((0, 0) : Int × Int)).2)]) rfl ag78 (ev_sl e14) rfl (rd_elN (l := x0) (S.rc0 h0.rc).rd rfl ePermit_len ((0, 0) : Int × Int) (ix_ltn hk107 rfl) rfl)), rfl, S⟩
      intro a u X hB hu hp hr hz hl S
      replace S : St w u ([] ++ X) := S
      have e11 : sl a 11 = .agg #[.int .i64 x1, .int .i64 x2] := hp 0 rfl
      have e15 : sl a 15 = .agg #[.int .i64 ((x0.getD p105.toNat ((0, 0) : Int × Int)).1), .int .i64 ((x0.getD p105.toNat ((0, 0) : Int × Int)).2)] := hp 4 rfl
      exact .inl ⟨rfl, .bool ((x1 == ((x0.getD p105.toNat ((0, 0) : Int × Int)).1)) && (x2 == ((x0.getD p105.toNat ((0, 0) : Int × Int)).2))), u, (run_eqlA (ev_sl e11) (ev_sl e15) rfl eg78 eq78), rfl, S⟩
    intro a u hB hp S
    obtain ⟨q0, q1, q2, q3, q4, q5, -⟩ := hp
    have e11 : sl a 11 = .agg #[.int .i64 x1, .int .i64 x2] := q0
    have e12 : sl a 12 = .slice A0 x0.length c0 := q1
    have e13 : sl a 13 = .int .i64 p105 := q2
    have e14 : sl a 14 = .pointer (some ⟨adB A0, adO A0 + p105.toNat * 2, none⟩) := q3
    have e15 : sl a 15 = .agg #[.int .i64 ((x0.getD p105.toNat ((0, 0) : Int × Int)).1), .int .i64 ((x0.getD p105.toNat ((0, 0) : Int × Int)).2)] := q4
    have e16 : sl a 16 = .bool ((x1 == ((x0.getD p105.toNat ((0, 0) : Int × Int)).1)) && (x2 == ((x0.getD p105.toNat ((0, 0) : Int × Int)).2))) := q5
    replace S : St w u [.box g101 78 #[.int .i64 x1, .int .i64 x2]] := S
    clear q0 q1 q2 q3 q4 q5
    have hF := hF.region hB [(11, .agg #[.int .i64 x1, .int .i64 x2]), (12, .slice A0 x0.length c0), (13, .int .i64 p105), (14, .pointer (some ⟨adB A0, adO A0 + p105.toNat * 2, none⟩)), (15, .agg #[.int .i64 ((x0.getD p105.toNat ((0, 0) : Int × Int)).1), .int .i64 ((x0.getD p105.toNat ((0, 0) : Int × Int)).2)]), (16, .bool ((x1 == ((x0.getD p105.toNat ((0, 0) : Int × Int)).1)) && (x2 == ((x0.getD p105.toNat ((0, 0) : Int × Int)).2))))] (allSl_mem ⟨e11, e12, e13, e14, e15, e16, trivial⟩) rfl
    clear hB e11 e12 e13 e14 e15 e16
    cases hc108 : ((x1 == ((x0.getD p105.toNat ((0, 0) : Int × Int)).1)) && (x2 == ((x0.getD p105.toNat ((0, 0) : Int × Int)).2)))
    · replace hM104 := bif_f hc108 hM104
      refine cond_f hF rfl hc108 ?_
      refine wp_skip ?_
      revert a;refine rl (ov (v := .int .i64 (w64 (p105 + 1))) rfl rfl rfl (fun a hF=>run_add (z := w64 (p105 + 1)) (hF.ev rfl) rfl rfl rfl) (mv rfl rfl fun a hF=>wn ?_))
      exact ⟨f1, Nat.lt_succ_self _, w64 (p105 + 1), hM104, hF.keep _ ⟨rfl, rfl, rfl, rfl, rfl, trivial⟩, S.sel [0] rfl rfl⟩
    replace hM104 := bif_t hc108 hM104
    refine cond_t hF rfl hc108 ?_
    revert a;refine sr (mv rfl rfl (ag rfl rfl fun a hF=>wn ?_))
    refine wp_ret ?_
    repeat with_reducible first|refine tr ?_|refine ir ?_|refine nr ?_
    refine ret1_gw (.inl rfl) hF rfl (res_tmp (hF.ev rfl)) ?_
    obtain rfl := Option.some.inj hM104
    obtain rfl := Option.some.inj hM
    exact ⟨rfl, S.sel [] rfl rfl⟩
  rintro a u ⟨p102, rfl, hF, S⟩
  replace hM := elim_l hM
  revert a;refine sr (ov (v := .int .i64 (-1)) rfl rfl rfl (fun a hF=>run_assign rfl rfl) fun a hF=>wn ?_)
  refine wp_ret ?_
  repeat with_reducible first|refine tr ?_|refine ir ?_|refine nr ?_
  refine ret1_gw (.inl rfl) hF rfl (res_tmp (hF.ev rfl)) ?_
  obtain rfl := Option.some.inj hM
  exact ⟨rfl, S.sel [] rfl rfl⟩
theorem c_slices_Contains_impl_Permit_impl_Permit {x0 : List (Int × Int)} {x1 : Int} {x2 : Int} {A0 : Option Addr} {n0 c0 : Nat} {w : World} {r : Bool} (h0 : Rt w 2 ePermit A0 n0 c0 x0) (hM : m_slices_Contains_impl_Permit_impl_Permit x0 x1 x2 = some r) :
    Calls Try.prog 56 #[.slice A0 n0 c0, .agg #[.int .i64 x1, .int .i64 x2]] w (fun e w' => e = .returned (.bool r) ∧ St w w' []) := by
  obtain rfl := h0.len
  unfold m_slices_Contains_impl_Permit_impl_Permit at hM
  refine calls_gw Try.func56 Try.ntmps56 rfl [(0, .slice A0 x0.length c0), (1, .agg #[.int .i64 x1, .int .i64 x2])] ⟨rfl, rfl, trivial⟩ rfl ?_
  intro a hF
  have S := St.nil w
  refine wsg ?_
  refine op_new (cs := #[.int .i64 x1, .int .i64 x2]) rfl rfl hF rfl S (run_box rfl (hF.ev rfl) rfl) ?_; clear hF S; intro a g101 u hF S
  refine op_val (v := .bool false) rfl rfl hF rfl (run_assign rfl rfl) ?_;clear hF;intro a hF
  refine wn ?_
  revert a;refine sr (mv rfl rfl (ov rfl rfl rfl (fun a hF=>run_loadN rfl ag78 (hF.ev rfl) rfl ((S.free 0 rfl).cells 0 #[.int .i64 x1, .int .i64 x2] rfl)) fun a hF=>?_))
  obtain ⟨p102, h102, hM⟩ := bind_ex hM
  refine op_call rfl rfl hF rfl (run_call (vs := [.slice A0 x0.length c0, .agg #[.int .i64 x1, .int .i64 x2]]) rfl rfl co77 ⟨(hF.ev rfl), (hF.ev rfl), trivial⟩) (c_slices_Index_impl_Permit_impl_Permit (x0 := x0) (x1 := x1) (x2 := x2) ⟨(S.rc0 h0.rc), rfl⟩ h102) ?_
  rintro e u ⟨rfl, T⟩
  refine ⟨_, rfl, ?_⟩
  clear hF; intro a hF
  replace S := S.call0 T; clear T
  revert a;refine ov (v := .bool (leB 0 p102)) rfl rfl rfl (fun a hF=>run_geq (hF.ev rfl) rfl rfl) (ag rfl rfl fun a hF=>wn ?_)
  refine wp_ret ?_
  repeat with_reducible first|refine tr ?_|refine ir ?_|refine nr ?_
  refine ret1_gw (.inl rfl) hF rfl (res_tmp (hF.ev rfl)) ?_
  obtain rfl := Option.some.inj hM
  exact ⟨rfl, S.sel [] rfl rfl⟩
end Go.Proofs.Ytcmnjaccapbhfaa
