/- Calls return what the models say. -/
import Derived.Test.YtapkaobelejkkaaDoorDa4
namespace Go.Proofs.YtapkaobelejkkaaDoor
open Go.ChangeShapes Go.WideShapes Go.ChangeAt Go.RowKit
set_option linter.unusedVariables false
set_option linter.unusedSimpArgs false

set_option maxHeartbeats 4000000 in
theorem c_spec_Operations {x0 : List Bool} {x1 : Int} {x2 : Int} {x3 : Bool} {x4 : Int} {x5 : List (Int × Int × Int × Bool)} {A0 : Option Addr} {n0 c0 : Nat} {A5 : Option Addr} {n5 c5 : Nat} {w : World} {r : List (Int × Bool)} (h0 : Rt w 1 eB A0 n0 c0 x0) (h5 : Rt w 4 eCommand A5 n5 c5 x5) (hM : m_spec_Operations x0 x1 x2 x3 x4 x5 = some r) :
    Calls Tryd.prog 23 #[.agg #[.slice A0 n0 c0, .int .i64 x1, .int .i64 x2, .bool x3, .int .i64 x4], .slice A5 n5 c5] w (fun e w' => ∃ (B0 : Option Addr) (N0 D0 : Nat), e = .returned (.slice B0 N0 D0) ∧ N0 = r.length ∧ St w w' [.row 50 2 (.slice B0 N0 D0) N0 (r.flatMap eStep)]) := by
  obtain rfl := h0.len
  obtain rfl := h5.len
  unfold m_spec_Operations at hM
  refine calls_gw Tryd.func23 Tryd.ntmps23 rfl [(0, .agg #[.slice A0 x0.length c0, .int .i64 x1, .int .i64 x2, .bool x3, .int .i64 x4]), (1, .slice A5 x5.length c5)] ⟨rfl, rfl, trivial⟩ rfl ?_
  intro a hF
  have S := St.nil w
  refine wp_seq ?_
  refine wp_region_lit ?_
  refine op_new (cs := #[.slice A0 x0.length c0, .int .i64 x1, .int .i64 x2, .bool x3, .int .i64 x4]) rfl rfl hF rfl S (run_box rfl (hF.ev rfl) rfl) ?_; clear hF S; intro a g101 u hF S
  refine op_val (v := .slice none 0 0) rfl rfl hF rfl (run_assign rfl rfl) ?_; clear hF; intro a hF
  refine wpList_nil ?_
  refine wp_seq ?_
  refine wp_region_lit ?_
  refine op_newrow (cs := #[]) (size := 2) rfl rfl hF rfl S (run_buildSlice0 rfl Tryd.underlying46 rfl) rfl (Nat.zero_le _) ?_; clear hF S; intro a g102 u hF S
  refine op_val (v := .slice (some ⟨g102, 0, none⟩) 0 0) rfl rfl hF rfl (run_assign rfl (hF.ev rfl)) ?_; clear hF; intro a hF
  refine wpList_nil ?_
  refine wp_seq ?_
  refine wp_region_lit ?_
  refine op_val (v := .agg #[.slice A0 x0.length c0, .int .i64 x1, .int .i64 x2, .bool x3, .int .i64 x4]) rfl rfl hF rfl (run_loadN rfl ag25 (hF.ev rfl) rfl ((S.free 1 rfl).cells 0 #[.slice A0 x0.length c0, .int .i64 x1, .int .i64 x2, .bool x3, .int .i64 x4] rfl)) ?_; clear hF; intro a hF
  refine op_val (v := .slice A5 x5.length c5) rfl rfl hF rfl (run_move rfl (hF.ev rfl)) ?_; clear hF; intro a hF
  obtain ⟨p103, h103, hM⟩ := bind_ex hM
  refine op_call rfl rfl hF rfl (run_call (vs := [.agg #[.slice A0 x0.length c0, .int .i64 x1, .int .i64 x2, .bool x3, .int .i64 x4], .slice A5 x5.length c5]) rfl rfl co16 ⟨(hF.ev rfl), (hF.ev rfl), trivial⟩) (c_spec_PanelRun (x0 := x0) (x1 := x1) (x2 := x2) (x3 := x3) (x4 := x4) (x5 := x5) ⟨(S.rc0 h0.rc), rfl⟩ ⟨(S.rc0 h5.rc), rfl⟩ h103) ?_
  rintro e u ⟨B104, n105, d106, B107, n108, d109, rfl, rfl, rfl, T⟩
  refine ⟨_, rfl, ?_⟩
  clear hF; intro a hF
  replace S := S.call2 T; clear T
  refine op_val (v := .tuple #[.agg #[.slice B104 p103.1.length d106, .int .i64 p103.2.1, .int .i64 p103.2.2.1, .bool p103.2.2.2.1, .int .i64 p103.2.2.2.2.1], .slice B107 p103.2.2.2.2.2.length d109]) rfl rfl hF rfl (run_move rfl (hF.ev rfl)) ?_; clear hF; intro a hF
  refine op_val (v := .agg #[.slice B104 p103.1.length d106, .int .i64 p103.2.1, .int .i64 p103.2.2.1, .bool p103.2.2.2.1, .int .i64 p103.2.2.2.2.1]) rfl rfl hF rfl (run_extract rfl (hF.ev rfl) rfl) ?_; clear hF; intro a hF
  refine op_val (v := .slice B107 p103.2.2.2.2.2.length d109) rfl rfl hF rfl (run_extract rfl (hF.ev rfl) rfl) ?_; clear hF; intro a hF
  refine op_new (cs := #[.slice none 0 0, .int .i64 0, .int .i64 0, .bool false, .int .i64 0]) rfl rfl hF rfl S (run_allocZ rfl zr25) ?_; clear hF S; intro a g110 u hF S
  refine op_do rfl rfl (run_store (cs' := #[.slice B104 p103.1.length d106, .int .i64 p103.2.1, .int .i64 p103.2.2.1, .bool p103.2.2.2.1, .int .i64 p103.2.2.2.2.1]) rfl sz25 (hF.ev rfl) (hF.ev rfl) rfl rfl rfl (S.free 0 rfl) rfl rfl) ?_; replace S := S.put 0 rfl (#[.slice B104 p103.1.length d106, .int .i64 p103.2.1, .int .i64 p103.2.2.1, .bool p103.2.2.2.1, .int .i64 p103.2.2.2.2.1])
  generalize World.setRow _ _ _ = u at S ⊢
  refine op_val (v := .slice B107 p103.2.2.2.2.2.length d109) rfl rfl hF rfl (run_assign rfl (hF.ev rfl)) ?_; clear hF; intro a hF
  refine wpList_nil ?_
  refine wp_seq ?_
  refine wp_seq ?_
  refine wp_region_lit ?_
  refine op_val (v := .int .i64 0) rfl rfl hF rfl (run_assign rfl rfl) ?_; clear hF; intro a hF
  refine wpList_nil ?_
  obtain ⟨o112, hM115, hM⟩ := bind_ex hM
  refine wp_cut (fun a u => ∃ (p111 : List (Int × Bool)) (B113 : Option Addr) (d114 : Nat), p111 = o112 ∧ Fr a 49 [(4, .slice none 0 0), (5, .slice B113 p111.length d114)] ∧ St w u [.box g110 25 #[.slice B104 p103.1.length d106, .int .i64 p103.2.1, .int .i64 p103.2.2.1, .bool p103.2.2.2.1, .int .i64 p103.2.2.2.2.1], .box g101 25 #[.slice A0 x0.length c0, .int .i64 x1, .int .i64 x2, .bool x3, .int .i64 x4], .row 50 2 (.slice B113 p111.length d114) p111.length (p111.flatMap eStep), .row 4 1 (.slice B104 p103.1.length d106) p103.1.length (p103.1.flatMap eB)]) ?_ ?_
  · have _ := trivial
    refine wp_block ?_
    refine loop_gw (fun m a u => ∃ (p116 : List (Int × Bool) × Int) (B117 : Option Addr) (d118 : Nat), m_spec_Operations_l1 x5 p103 m p116 = some _ ∧ Fr a 49 [(1, .slice A5 x5.length c5), (4, .slice none 0 0), (5, .slice B117 p116.1.length d118), (7, .slice B107 p103.2.2.2.2.2.length d109), (8, .int .i64 p116.2)] ∧ St w u [.box g110 25 #[.slice B104 p103.1.length d106, .int .i64 p103.2.1, .int .i64 p103.2.2.1, .bool p103.2.2.2.1, .int .i64 p103.2.2.2.2.1], .box g101 25 #[.slice A0 x0.length c0, .int .i64 x1, .int .i64 x2, .bool x3, .int .i64 x4], .row 50 2 (.slice B117 p116.1.length d118) p116.1.length (p116.1.flatMap eStep), .row 4 1 (.slice B107 p103.2.2.2.2.2.length d109) p103.2.2.2.2.2.length (p103.2.2.2.2.2.flatMap eB), .row 4 1 (.slice B104 p103.1.length d106) p103.1.length (p103.1.flatMap eB)]) FUEL ⟨(([] : List (Int × Bool)), 0), (some ⟨g102, 0, none⟩), 0, hM115, hF.keep _ ⟨rfl, rfl, rfl, rfl, rfl, trivial⟩, S.sel [0, 4, 3, 2, 1] rfl rfl⟩ ?_
    clear hF S hM115; rintro m a u ⟨p116, B117, d118, hM115, hF, S⟩
    rcases m with _ | f1
    · exact none_some hM115
    rw [m_spec_Operations_l1.eq_2] at hM115
    refine wp_seq ?_
    refine wp_seq ?_
    refine wp_region_lit ?_
    refine op_val (v := .int .i64 p116.2) rfl rfl hF rfl (run_move rfl (hF.ev rfl)) ?_; clear hF; intro a hF
    refine op_val (v := .slice B107 p103.2.2.2.2.2.length d109) rfl rfl hF rfl (run_move rfl (hF.ev rfl)) ?_; clear hF; intro a hF
    refine op_val (v := .int .i64 (p103.2.2.2.2.2.length : Int)) rfl rfl hF rfl (run_lenL rfl rfl Tryd.underlying23 (hF.ev rfl)) ?_; clear hF; intro a hF
    refine op_val (v := .bool (ltB p116.2 (p103.2.2.2.2.2.length : Int))) rfl rfl hF rfl (run_lss (hF.ev rfl) (hF.ev rfl) rfl) ?_; clear hF; intro a hF
    refine wpList_nil ?_
    cases hc119 : (ltB p116.2 (p103.2.2.2.2.2.length : Int))
    · replace hM115 := bif_f hc119 hM115
      refine cond_f hF rfl hc119 ?_
      refine wp_exit ?_
      repeat with_reducible (first | refine then_exit ?_ | refine in_hit ?_ | refine in_miss rfl ?_)
      obtain rfl := Option.some.inj hM115
      exact ⟨p116.1, B117, d118, rfl, hF.keep _ ⟨rfl, rfl, trivial⟩, S.sel [0, 1, 2, 4] rfl rfl⟩
    · replace hM115 := bif_t hc119 hM115
      refine cond_t hF rfl hc119 ?_
      refine wp_skip ?_
      refine wp_seq ?_
      refine wp_block ?_
      refine wp_seq ?_
      refine wp_region_lit ?_
      refine op_val (v := .slice B107 p103.2.2.2.2.2.length d109) rfl rfl hF rfl (run_move rfl (hF.ev rfl)) ?_; clear hF; intro a hF
      refine op_val (v := .int .i64 p116.2) rfl rfl hF rfl (run_move rfl (hF.ev rfl)) ?_; clear hF; intro a hF
      obtain ⟨hk120, hM115⟩ := chk_ex hM115
      replace hk120 := ixB_t hk120
      refine op_val (v := .pointer (some ⟨adB B107, adO B107 + p116.2.toNat * 1, none⟩)) rfl rfl hF rfl (run_indexAddr (b := adB B107) (off := adO B107) rfl Tryd.underlying23 sz4 ((hF.ev rfl).trans (congrArg (fun A => Value.slice A p103.2.2.2.2.2.length d109) ((S.rc 3 rfl).rd.ad (ix_pos hk120)))) (hF.ev rfl) hk120.1 hk120.2 (k' := adO B107 + p116.2.toNat * 1) rfl) ?_; clear hF; intro a hF
      refine op_val (v := .bool (p103.2.2.2.2.2.getD p116.2.toNat false)) rfl rfl hF rfl (run_load1 rfl one4 (hF.ev rfl) (rd_el0 (l := p103.2.2.2.2.2) (S.rc 3 rfl).rd rfl eB_len false (ix_ltn hk120 rfl) rfl)) ?_; clear hF; intro a hF
      refine op_val (v := .bool (p103.2.2.2.2.2.getD p116.2.toNat false)) rfl rfl hF rfl (run_move rfl (hF.ev rfl)) ?_; clear hF; intro a hF
      refine op_gv (v := .slice A5 x5.length c5) rfl rfl hF rfl (yt (gw_yield hF rfl rfl rfl)) (fun hg => (run_move rfl (hF.ev rfl))) ?_; clear hF; intro a hF
      refine op_gv (v := .int .i64 p116.2) rfl rfl hF rfl (yt (gw_yield hF rfl rfl rfl)) (fun hg => (run_move rfl (hF.ev rfl))) ?_; clear hF; intro a hF
      obtain ⟨hk121, hM115⟩ := chk_ex hM115
      replace hk121 := fun hg => ixB_t (imp_t hk121 hg)
      refine op_gv (v := .pointer (some ⟨adB A5, adO A5 + p116.2.toNat * 4, none⟩)) rfl rfl hF rfl (yt (gw_yield hF rfl rfl rfl)) (fun hg => (run_indexAddr (b := adB A5) (off := adO A5) rfl Tryd.underlying39 sz27 (((hF.ev rfl).trans (gv_t hg)).trans (congrArg (fun A => Value.slice A x5.length c5) ((S.rc0 h5.rc).rd.ad (ix_pos (hk121 hg))))) ((hF.ev rfl).trans (gv_t hg)) (hk121 hg).1 (hk121 hg).2 (k' := adO A5 + p116.2.toNat * 4) rfl)) ?_; clear hF; intro a hF
      refine op_gv (v := .pointer (some ⟨adB A5, adO A5 + p116.2.toNat * 4, none⟩)) rfl rfl hF rfl (yt (gw_yield hF rfl rfl rfl)) (fun hg => (run_fieldAddr rfl fl27_0 ((hF.ev rfl).trans (gv_t hg)) rfl)) ?_; clear hF; intro a hF
      refine op_gv (v := .int .i64 ((x5.getD p116.2.toNat ((0, 0, 0, false) : Int × Int × Int × Bool)).1)) rfl rfl hF rfl (yt (gw_yield hF rfl rfl rfl)) (fun hg => (run_load1 rfl one3 ((hF.ev rfl).trans (gv_t hg)) (rd_el0 (l := x5) (S.rc0 h5.rc).rd rfl eCommand_len ((0, 0, 0, false) : Int × Int × Int × Bool) (ix_ltn (hk121 hg) rfl) rfl))) ?_; clear hF; intro a hF
      refine op_gv (v := .bool (((x5.getD p116.2.toNat ((0, 0, 0, false) : Int × Int × Int × Bool)).1) == 1)) rfl rfl hF rfl (yt (gw_yield hF rfl rfl rfl)) (fun hg => (run_eql ((hF.ev rfl).trans (gv_t hg)) rfl rfl)) ?_; clear hF; intro a hF
      refine op_val (v := .bool ((p103.2.2.2.2.2.getD p116.2.toNat false) && (((x5.getD p116.2.toNat ((0, 0, 0, false) : Int × Int × Int × Bool)).1) == 1))) rfl rfl hF rfl (run_pick_and rfl (hF.ev rfl) (fun hp => ((hF.ev rfl).trans (gv_t hp))) rfl) ?_; clear hF; intro a hF
      refine wpList_nil ?_
      obtain ⟨o123, hM126, hM115⟩ := bind_ex hM115
      refine wp_cut (fun a u => ∃ (p122 : List (Int × Bool)) (B124 : Option Addr) (d125 : Nat), p122 = o123 ∧ Fr a 49 [(1, .slice A5 x5.length c5), (4, .slice none 0 0), (5, .slice B124 p122.length d125), (7, .slice B107 p103.2.2.2.2.2.length d109), (8, .int .i64 p116.2)] ∧ St w u [.box g110 25 #[.slice B104 p103.1.length d106, .int .i64 p103.2.1, .int .i64 p103.2.2.1, .bool p103.2.2.2.1, .int .i64 p103.2.2.2.2.1], .box g101 25 #[.slice A0 x0.length c0, .int .i64 x1, .int .i64 x2, .bool x3, .int .i64 x4], .row 50 2 (.slice B124 p122.length d125) p122.length (p122.flatMap eStep), .row 4 1 (.slice B107 p103.2.2.2.2.2.length d109) p103.2.2.2.2.2.length (p103.2.2.2.2.2.flatMap eB), .row 4 1 (.slice B104 p103.1.length d106) p103.1.length (p103.1.flatMap eB)]) ?_ ?_
      · have _ := trivial
        cases hc127 : ((p103.2.2.2.2.2.getD p116.2.toNat false) && (((x5.getD p116.2.toNat ((0, 0, 0, false) : Int × Int × Int × Bool)).1) == 1))
        · replace hM126 := bif_f hc127 hM126
          refine cond_f hF rfl hc127 ?_
          refine wp_skip ?_
          obtain rfl := Option.some.inj hM126
          exact ⟨p116.1, B117, d118, rfl, hF.keep _ ⟨rfl, rfl, rfl, rfl, rfl, trivial⟩, S.sel [0, 1, 2, 3, 4] rfl rfl⟩
        · replace hM126 := bif_t hc127 hM126
          refine cond_t hF rfl hc127 ?_
          obtain ⟨hk128, hM126⟩ := chk_ex hM126
          replace hk128 := ixB_t hk128
          obtain ⟨hk129, hM126⟩ := chk_ex hM126
          replace hk129 := ixB_t hk129
          obtain ⟨hk130, hM126⟩ := chk_ex hM126
          replace hk130 := apB_t hk130
          refine region_gw (D := [34, 35, 36, 37, 38, 39, 40, 41, 42, 43, 44, 45, 46, 47, 5]) (Lr := [.box g110 25 #[.slice B104 p103.1.length d106, .int .i64 p103.2.1, .int .i64 p103.2.2.1, .bool p103.2.2.2.1, .int .i64 p103.2.2.2.2.1], .box g101 25 #[.slice A0 x0.length c0, .int .i64 x1, .int .i64 x2, .bool x3, .int .i64 x4], .row 4 1 (.slice B107 p103.2.2.2.2.2.length d109) p103.2.2.2.2.2.length (p103.2.2.2.2.2.flatMap eB), .row 4 1 (.slice B104 p103.1.length d106) p103.1.length (p103.1.flatMap eB)]) (deps := (fun | 0 => [34] | 1 => [35] | 2 => [36] | 3 => [37] | 4 => [38] | 5 => [39] | 6 => [40] | 7 => [41] | 8 => [42] | 9 => [43] | 10 => [44] | 11 => [45] | 12 => [46] | 13 => [47] | 14 => [5, 47] | _ => [])) (rd := (fun | 13 => [12] | _ => [])) (zr := (fun _ => []))
            (φ := fun i vs => match i, vs with | 0, [v34] => v34 = .slice B117 p116.1.length d118 | 1, [v35] => v35 = .slice A5 x5.length c5 | 2, [v36] => v36 = .int .i64 p116.2 | 3, [v37] => v37 = .pointer (some ⟨adB A5, adO A5 + p116.2.toNat * 4, none⟩) | 4, [v38] => v38 = .pointer (some ⟨adB A5, adO A5 + p116.2.toNat * 4 + 2, none⟩) | 5, [v39] => v39 = .int .i64 ((x5.getD p116.2.toNat ((0, 0, 0, false) : Int × Int × Int × Bool)).2.2.1) | 6, [v40] => v40 = .slice A5 x5.length c5 | 7, [v41] => v41 = .int .i64 p116.2 | 8, [v42] => v42 = .pointer (some ⟨adB A5, adO A5 + p116.2.toNat * 4, none⟩) | 9, [v43] => v43 = .pointer (some ⟨adB A5, adO A5 + p116.2.toNat * 4 + 3, none⟩) | 10, [v44] => v44 = .bool ((x5.getD p116.2.toNat ((0, 0, 0, false) : Int × Int × Int × Bool)).2.2.2) | 11, [v45] => v45 = .agg #[.int .i64 ((x5.getD p116.2.toNat ((0, 0, 0, false) : Int × Int × Int × Bool)).2.2.1), .bool ((x5.getD p116.2.toNat ((0, 0, 0, false) : Int × Int × Int × Bool)).2.2.2)] | 12, [v46] => v46 = .slice (slA v46) (([((x5.getD p116.2.toNat ((0, 0, 0, false) : Int × Int × Int × Bool)).2.2.1, (x5.getD p116.2.toNat ((0, 0, 0, false) : Int × Int × Int × Bool)).2.2.2)] : List (Int × Bool)).length) (([((x5.getD p116.2.toNat ((0, 0, 0, false) : Int × Int × Int × Bool)).2.2.1, (x5.getD p116.2.toNat ((0, 0, 0, false) : Int × Int × Int × Bool)).2.2.2)] : List (Int × Bool)).length) | 13, [v47] => v47 = .slice (slA v47) ((p116.1 ++ ([((x5.getD p116.2.toNat ((0, 0, 0, false) : Int × Int × Int × Bool)).2.2.1, (x5.getD p116.2.toNat ((0, 0, 0, false) : Int × Int × Int × Bool)).2.2.2)])).length) (slC v47) | 14, [v5, v47] => v5 = .slice (slA v47) ((p116.1 ++ ([((x5.getD p116.2.toNat ((0, 0, 0, false) : Int × Int × Int × Bool)).2.2.1, (x5.getD p116.2.toNat ((0, 0, 0, false) : Int × Int × Int × Bool)).2.2.2)])).length) (slC v47) | _, _ => True)
            (C := fun i vs => match i, vs with | 12, [v46] => [.row 50 2 (.slice (slA v46) (([((x5.getD p116.2.toNat ((0, 0, 0, false) : Int × Int × Int × Bool)).2.2.1, (x5.getD p116.2.toNat ((0, 0, 0, false) : Int × Int × Int × Bool)).2.2.2)] : List (Int × Bool)).length) (([((x5.getD p116.2.toNat ((0, 0, 0, false) : Int × Int × Int × Bool)).2.2.1, (x5.getD p116.2.toNat ((0, 0, 0, false) : Int × Int × Int × Bool)).2.2.2)] : List (Int × Bool)).length)) (([((x5.getD p116.2.toNat ((0, 0, 0, false) : Int × Int × Int × Bool)).2.2.1, (x5.getD p116.2.toNat ((0, 0, 0, false) : Int × Int × Int × Bool)).2.2.2)] : List (Int × Bool)).length) (([((x5.getD p116.2.toNat ((0, 0, 0, false) : Int × Int × Int × Bool)).2.2.1, (x5.getD p116.2.toNat ((0, 0, 0, false) : Int × Int × Int × Bool)).2.2.2)]).flatMap eStep)] | 13, [v47] => [.row 50 2 (.slice (slA v47) ((p116.1 ++ ([((x5.getD p116.2.toNat ((0, 0, 0, false) : Int × Int × Int × Bool)).2.2.1, (x5.getD p116.2.toNat ((0, 0, 0, false) : Int × Int × Int × Bool)).2.2.2)])).length) (slC v47)) ((p116.1 ++ ([((x5.getD p116.2.toNat ((0, 0, 0, false) : Int × Int × Int × Bool)).2.2.1, (x5.getD p116.2.toNat ((0, 0, 0, false) : Int × Int × Int × Bool)).2.2.2)])).length) ((p116.1 ++ ([((x5.getD p116.2.toNat ((0, 0, 0, false) : Int × Int × Int × Bool)).2.2.1, (x5.getD p116.2.toNat ((0, 0, 0, false) : Int × Int × Int × Bool)).2.2.2)])).flatMap eStep)] | _, _ => [])
            (κ := (fun _ => none)) (Z := (fun | 13 => [.row 50 2 (.slice B117 p116.1.length d118) p116.1.length (p116.1.flatMap eStep)] | _ => [])) mixed hF (by kernel_rfl) (show St w _ [.row 50 2 (.slice B117 p116.1.length d118) p116.1.length (p116.1.flatMap eStep), .box g110 25 #[.slice B104 p103.1.length d106, .int .i64 p103.2.1, .int .i64 p103.2.2.1, .bool p103.2.2.2.1, .int .i64 p103.2.2.2.2.1], .box g101 25 #[.slice A0 x0.length c0, .int .i64 x1, .int .i64 x2, .bool x3, .int .i64 x4], .row 4 1 (.slice B107 p103.2.2.2.2.2.length d109) p103.2.2.2.2.2.length (p103.2.2.2.2.2.flatMap eB), .row 4 1 (.slice B104 p103.1.length d106) p103.1.length (p103.1.flatMap eB)] from S.sel [2, 0, 1, 3, 4] rfl rfl) ?_ ?_
          · refine ⟨?_, ?_, ?_, ?_, ?_, ?_, ?_, ?_, ?_, ?_, ?_, ?_, ?_, ?_, ?_, trivial⟩
            · intro a u X hB hu hp hr hz hl S
              replace S : St w u ([] ++ X) := S
              exact .inl ⟨rfl, .slice B117 p116.1.length d118, u, (run_move rfl (hF.evU (hu 14 5 rfl rfl) rfl)), rfl, S⟩
            · intro a u X hB hu hp hr hz hl S
              replace S : St w u ([] ++ X) := S
              exact .inl ⟨rfl, .slice A5 x5.length c5, u, (run_move rfl (hF.evB hB rfl rfl)), rfl, S⟩
            · intro a u X hB hu hp hr hz hl S
              replace S : St w u ([] ++ X) := S
              exact .inl ⟨rfl, .int .i64 p116.2, u, (run_move rfl (hF.evB hB rfl rfl)), rfl, S⟩
            · intro a u X hB hu hp hr hz hl S
              replace S : St w u ([] ++ X) := S
              have e35 : sl a 35 = .slice A5 x5.length c5 := hp 1 rfl
              have e36 : sl a 36 = .int .i64 p116.2 := hp 2 rfl
              exact .inl ⟨rfl, .pointer (some ⟨adB A5, adO A5 + p116.2.toNat * 4, none⟩), u, (run_indexAddr (b := adB A5) (off := adO A5) rfl Tryd.underlying39 sz27 ((ev_sl e35).trans (congrArg (fun A => Value.slice A x5.length c5) ((S.rc0 h5.rc).rd.ad (ix_pos hk128)))) (ev_sl e36) hk128.1 hk128.2 (k' := adO A5 + p116.2.toNat * 4) rfl), rfl, S⟩
            · intro a u X hB hu hp hr hz hl S
              replace S : St w u ([] ++ X) := S
              have e37 : sl a 37 = .pointer (some ⟨adB A5, adO A5 + p116.2.toNat * 4, none⟩) := hp 3 rfl
              exact .inl ⟨rfl, .pointer (some ⟨adB A5, adO A5 + p116.2.toNat * 4 + 2, none⟩), u, (run_fieldAddr rfl fl27_2 (ev_sl e37) rfl), rfl, S⟩
            · intro a u X hB hu hp hr hz hl S
              replace S : St w u ([] ++ X) := S
              have e38 : sl a 38 = .pointer (some ⟨adB A5, adO A5 + p116.2.toNat * 4 + 2, none⟩) := hp 4 rfl
              exact .inl ⟨rfl, .int .i64 ((x5.getD p116.2.toNat ((0, 0, 0, false) : Int × Int × Int × Bool)).2.2.1), u, (run_load1 rfl one3 (ev_sl e38) (rd_el (l := x5) (S.rc0 h5.rc).rd rfl eCommand_len ((0, 0, 0, false) : Int × Int × Int × Bool) (ix_ltn hk128 rfl) rfl)), rfl, S⟩
            · intro a u X hB hu hp hr hz hl S
              replace S : St w u ([] ++ X) := S
              exact .inl ⟨rfl, .slice A5 x5.length c5, u, (run_move rfl (hF.evB hB rfl rfl)), rfl, S⟩
            · intro a u X hB hu hp hr hz hl S
              replace S : St w u ([] ++ X) := S
              exact .inl ⟨rfl, .int .i64 p116.2, u, (run_move rfl (hF.evB hB rfl rfl)), rfl, S⟩
            · intro a u X hB hu hp hr hz hl S
              replace S : St w u ([] ++ X) := S
              have e40 : sl a 40 = .slice A5 x5.length c5 := hp 6 rfl
              have e41 : sl a 41 = .int .i64 p116.2 := hp 7 rfl
              exact .inl ⟨rfl, .pointer (some ⟨adB A5, adO A5 + p116.2.toNat * 4, none⟩), u, (run_indexAddr (b := adB A5) (off := adO A5) rfl Tryd.underlying39 sz27 ((ev_sl e40).trans (congrArg (fun A => Value.slice A x5.length c5) ((S.rc0 h5.rc).rd.ad (ix_pos hk129)))) (ev_sl e41) hk129.1 hk129.2 (k' := adO A5 + p116.2.toNat * 4) rfl), rfl, S⟩
            · intro a u X hB hu hp hr hz hl S
              replace S : St w u ([] ++ X) := S
              have e42 : sl a 42 = .pointer (some ⟨adB A5, adO A5 + p116.2.toNat * 4, none⟩) := hp 8 rfl
              exact .inl ⟨rfl, .pointer (some ⟨adB A5, adO A5 + p116.2.toNat * 4 + 3, none⟩), u, (run_fieldAddr rfl fl27_3 (ev_sl e42) rfl), rfl, S⟩
            · intro a u X hB hu hp hr hz hl S
              replace S : St w u ([] ++ X) := S
              have e43 : sl a 43 = .pointer (some ⟨adB A5, adO A5 + p116.2.toNat * 4 + 3, none⟩) := hp 9 rfl
              exact .inl ⟨rfl, .bool ((x5.getD p116.2.toNat ((0, 0, 0, false) : Int × Int × Int × Bool)).2.2.2), u, (run_load1 rfl one4 (ev_sl e43) (rd_el (l := x5) (S.rc0 h5.rc).rd rfl eCommand_len ((0, 0, 0, false) : Int × Int × Int × Bool) (ix_ltn hk129 rfl) rfl)), rfl, S⟩
            · intro a u X hB hu hp hr hz hl S
              replace S : St w u ([] ++ X) := S
              have e39 : sl a 39 = .int .i64 ((x5.getD p116.2.toNat ((0, 0, 0, false) : Int × Int × Int × Bool)).2.2.1) := hp 5 rfl
              have e44 : sl a 44 = .bool ((x5.getD p116.2.toNat ((0, 0, 0, false) : Int × Int × Int × Bool)).2.2.2) := hp 10 rfl
              exact .inl ⟨rfl, .agg #[.int .i64 ((x5.getD p116.2.toNat ((0, 0, 0, false) : Int × Int × Int × Bool)).2.2.1), .bool ((x5.getD p116.2.toNat ((0, 0, 0, false) : Int × Int × Int × Bool)).2.2.2)], u, (run_build (vs := [(0, .int .i64 ((x5.getD p116.2.toNat ((0, 0, 0, false) : Int × Int × Int × Bool)).2.2.1)), (1, .bool ((x5.getD p116.2.toNat ((0, 0, 0, false) : Int × Int × Int × Bool)).2.2.2))]) rfl ⟨⟨rfl, (ev_sl e39)⟩, ⟨rfl, (ev_sl e44)⟩, trivial⟩ (bd50_0_1 rfl rfl)), rfl, S⟩
            · intro a u X hB hu hp hr hz hl S
              replace S : St w u ([] ++ X) := S
              have e45 : sl a 45 = .agg #[.int .i64 ((x5.getD p116.2.toNat ((0, 0, 0, false) : Int × Int × Int × Bool)).2.2.1), .bool ((x5.getD p116.2.toNat ((0, 0, 0, false) : Int × Int × Int × Bool)).2.2.2)] := hp 11 rfl
              exact .inl ⟨rfl, _, _, run_buildS (vs := [(0, .agg #[.int .i64 ((x5.getD p116.2.toNat ((0, 0, 0, false) : Int × Int × Int × Bool)).2.2.1), .bool ((x5.getD p116.2.toNat ((0, 0, 0, false) : Int × Int × Int × Bool)).2.2.2)])]) rfl ⟨⟨rfl, (ev_sl e45)⟩, trivial⟩ (bs46_1_2 ), rfl, S.newrowL (e := eStep) (ls := [((x5.getD p116.2.toNat ((0, 0, 0, false) : Int × Int × Int × Bool)).2.2.1, (x5.getD p116.2.toNat ((0, 0, 0, false) : Int × Int × Int × Bool)).2.2.2)]) rfl eStep_len (Nat.le_of_ble_eq_true rfl)⟩
            · intro a u X hB hu hp hr hz hl S
              replace S : St w u ([.row 50 2 (.slice B117 p116.1.length d118) p116.1.length (p116.1.flatMap eStep)] ++ X) := S
              have e34 : sl a 34 = .slice B117 p116.1.length d118 := hp 0 rfl
              have e46 : sl a 46 = .slice (slA (sl a 46)) (([((x5.getD p116.2.toNat ((0, 0, 0, false) : Int × Int × Int × Bool)).2.2.1, (x5.getD p116.2.toNat ((0, 0, 0, false) : Int × Int × Int × Bool)).2.2.2)] : List (Int × Bool)).length) (([((x5.getD p116.2.toNat ((0, 0, 0, false) : Int × Int × Int × Bool)).2.2.1, (x5.getD p116.2.toNat ((0, 0, 0, false) : Int × Int × Int × Bool)).2.2.2)] : List (Int × Bool)).length) := hp 12 rfl
              obtain ⟨B, d, w', hrun, S'⟩ := S.appendL (i := 0) (P := Tryd.prog) (ty := 46) (lx := p116.1) (ly := [((x5.getD p116.2.toNat ((0, 0, 0, false) : Int × Int × Int × Bool)).2.2.1, (x5.getD p116.2.toNat ((0, 0, 0, false) : Int × Int × Int × Bool)).2.2.2)]) (c' := (([((x5.getD p116.2.toNat ((0, 0, 0, false) : Int × Int × Int × Bool)).2.2.1, (x5.getD p116.2.toNat ((0, 0, 0, false) : Int × Int × Int × Bool)).2.2.2)] : List (Int × Bool)).length)) rfl rfl Tryd.underlying46 inf50 rfl (by decide) (own_rc (show World.ownsRow _ 0 _ _ _ _ _ from S.mem (List.mem_append_right _ (hr 12 (List.mem_of_getElem? (i := 0) rfl) _ (List.mem_of_getElem? (i := 0) rfl))))).rd rfl eStep_one hk130 (by decide)
              exact .inl ⟨rfl, _, w', run_append rfl (ev_sl e34) (ev_sl e46) hrun, rfl, S'⟩
            · intro a u X hB hu hp hr hz hl S
              replace S : St w u ([] ++ X) := S
              have e47 : sl a 47 = .slice (slA (sl a 47)) ((p116.1 ++ ([((x5.getD p116.2.toNat ((0, 0, 0, false) : Int × Int × Int × Bool)).2.2.1, (x5.getD p116.2.toNat ((0, 0, 0, false) : Int × Int × Int × Bool)).2.2.2)])).length) (slC (sl a 47)) := hp 13 rfl
              exact .inl ⟨rfl, .slice (slA (sl a 47)) ((p116.1 ++ ([((x5.getD p116.2.toNat ((0, 0, 0, false) : Int × Int × Int × Bool)).2.2.1, (x5.getD p116.2.toNat ((0, 0, 0, false) : Int × Int × Int × Bool)).2.2.2)])).length) (slC (sl a 47)), u, (run_assign rfl (ev_sl e47)), rfl, S⟩
          · intro a u hB hp S
            obtain ⟨q0, q1, q2, q3, q4, q5, q6, q7, q8, q9, q10, q11, q12, q13, q14, _⟩ := hp
            have e34 : sl a 34 = .slice B117 p116.1.length d118 := q0
            have e35 : sl a 35 = .slice A5 x5.length c5 := q1
            have e36 : sl a 36 = .int .i64 p116.2 := q2
            have e37 : sl a 37 = .pointer (some ⟨adB A5, adO A5 + p116.2.toNat * 4, none⟩) := q3
            have e38 : sl a 38 = .pointer (some ⟨adB A5, adO A5 + p116.2.toNat * 4 + 2, none⟩) := q4
            have e39 : sl a 39 = .int .i64 ((x5.getD p116.2.toNat ((0, 0, 0, false) : Int × Int × Int × Bool)).2.2.1) := q5
            have e40 : sl a 40 = .slice A5 x5.length c5 := q6
            have e41 : sl a 41 = .int .i64 p116.2 := q7
            have e42 : sl a 42 = .pointer (some ⟨adB A5, adO A5 + p116.2.toNat * 4, none⟩) := q8
            have e43 : sl a 43 = .pointer (some ⟨adB A5, adO A5 + p116.2.toNat * 4 + 3, none⟩) := q9
            have e44 : sl a 44 = .bool ((x5.getD p116.2.toNat ((0, 0, 0, false) : Int × Int × Int × Bool)).2.2.2) := q10
            have e45 : sl a 45 = .agg #[.int .i64 ((x5.getD p116.2.toNat ((0, 0, 0, false) : Int × Int × Int × Bool)).2.2.1), .bool ((x5.getD p116.2.toNat ((0, 0, 0, false) : Int × Int × Int × Bool)).2.2.2)] := q11
            have e46 : sl a 46 = .slice (slA (sl a 46)) (([((x5.getD p116.2.toNat ((0, 0, 0, false) : Int × Int × Int × Bool)).2.2.1, (x5.getD p116.2.toNat ((0, 0, 0, false) : Int × Int × Int × Bool)).2.2.2)] : List (Int × Bool)).length) (([((x5.getD p116.2.toNat ((0, 0, 0, false) : Int × Int × Int × Bool)).2.2.1, (x5.getD p116.2.toNat ((0, 0, 0, false) : Int × Int × Int × Bool)).2.2.2)] : List (Int × Bool)).length) := q12
            have e47 : sl a 47 = .slice (slA (sl a 47)) ((p116.1 ++ ([((x5.getD p116.2.toNat ((0, 0, 0, false) : Int × Int × Int × Bool)).2.2.1, (x5.getD p116.2.toNat ((0, 0, 0, false) : Int × Int × Int × Bool)).2.2.2)])).length) (slC (sl a 47)) := q13
            have e5 : sl a 5 = .slice (slA (sl a 47)) ((p116.1 ++ ([((x5.getD p116.2.toNat ((0, 0, 0, false) : Int × Int × Int × Bool)).2.2.1, (x5.getD p116.2.toNat ((0, 0, 0, false) : Int × Int × Int × Bool)).2.2.2)])).length) (slC (sl a 47)) := q14
            replace S : St w u [.row 50 2 (.slice (slA (sl a 46)) (([((x5.getD p116.2.toNat ((0, 0, 0, false) : Int × Int × Int × Bool)).2.2.1, (x5.getD p116.2.toNat ((0, 0, 0, false) : Int × Int × Int × Bool)).2.2.2)] : List (Int × Bool)).length) (([((x5.getD p116.2.toNat ((0, 0, 0, false) : Int × Int × Int × Bool)).2.2.1, (x5.getD p116.2.toNat ((0, 0, 0, false) : Int × Int × Int × Bool)).2.2.2)] : List (Int × Bool)).length)) (([((x5.getD p116.2.toNat ((0, 0, 0, false) : Int × Int × Int × Bool)).2.2.1, (x5.getD p116.2.toNat ((0, 0, 0, false) : Int × Int × Int × Bool)).2.2.2)] : List (Int × Bool)).length) (([((x5.getD p116.2.toNat ((0, 0, 0, false) : Int × Int × Int × Bool)).2.2.1, (x5.getD p116.2.toNat ((0, 0, 0, false) : Int × Int × Int × Bool)).2.2.2)]).flatMap eStep), .row 50 2 (.slice (slA (sl a 47)) ((p116.1 ++ ([((x5.getD p116.2.toNat ((0, 0, 0, false) : Int × Int × Int × Bool)).2.2.1, (x5.getD p116.2.toNat ((0, 0, 0, false) : Int × Int × Int × Bool)).2.2.2)])).length) (slC (sl a 47))) ((p116.1 ++ ([((x5.getD p116.2.toNat ((0, 0, 0, false) : Int × Int × Int × Bool)).2.2.1, (x5.getD p116.2.toNat ((0, 0, 0, false) : Int × Int × Int × Bool)).2.2.2)])).length) ((p116.1 ++ ([((x5.getD p116.2.toNat ((0, 0, 0, false) : Int × Int × Int × Bool)).2.2.1, (x5.getD p116.2.toNat ((0, 0, 0, false) : Int × Int × Int × Bool)).2.2.2)])).flatMap eStep), .box g110 25 #[.slice B104 p103.1.length d106, .int .i64 p103.2.1, .int .i64 p103.2.2.1, .bool p103.2.2.2.1, .int .i64 p103.2.2.2.2.1], .box g101 25 #[.slice A0 x0.length c0, .int .i64 x1, .int .i64 x2, .bool x3, .int .i64 x4], .row 4 1 (.slice B107 p103.2.2.2.2.2.length d109) p103.2.2.2.2.2.length (p103.2.2.2.2.2.flatMap eB), .row 4 1 (.slice B104 p103.1.length d106) p103.1.length (p103.1.flatMap eB)] := S
            clear q0 q1 q2 q3 q4 q5 q6 q7 q8 q9 q10 q11 q12 q13 q14
            generalize slA (sl a 46) = B131 at *
            generalize slA (sl a 47) = B132 at *
            generalize slC (sl a 47) = d133 at *
            have hF := hF.region hB [(34, .slice B117 p116.1.length d118), (35, .slice A5 x5.length c5), (36, .int .i64 p116.2), (37, .pointer (some ⟨adB A5, adO A5 + p116.2.toNat * 4, none⟩)), (38, .pointer (some ⟨adB A5, adO A5 + p116.2.toNat * 4 + 2, none⟩)), (39, .int .i64 ((x5.getD p116.2.toNat ((0, 0, 0, false) : Int × Int × Int × Bool)).2.2.1)), (40, .slice A5 x5.length c5), (41, .int .i64 p116.2), (42, .pointer (some ⟨adB A5, adO A5 + p116.2.toNat * 4, none⟩)), (43, .pointer (some ⟨adB A5, adO A5 + p116.2.toNat * 4 + 3, none⟩)), (44, .bool ((x5.getD p116.2.toNat ((0, 0, 0, false) : Int × Int × Int × Bool)).2.2.2)), (45, .agg #[.int .i64 ((x5.getD p116.2.toNat ((0, 0, 0, false) : Int × Int × Int × Bool)).2.2.1), .bool ((x5.getD p116.2.toNat ((0, 0, 0, false) : Int × Int × Int × Bool)).2.2.2)]), (46, .slice B131 (([((x5.getD p116.2.toNat ((0, 0, 0, false) : Int × Int × Int × Bool)).2.2.1, (x5.getD p116.2.toNat ((0, 0, 0, false) : Int × Int × Int × Bool)).2.2.2)] : List (Int × Bool)).length) (([((x5.getD p116.2.toNat ((0, 0, 0, false) : Int × Int × Int × Bool)).2.2.1, (x5.getD p116.2.toNat ((0, 0, 0, false) : Int × Int × Int × Bool)).2.2.2)] : List (Int × Bool)).length)), (47, .slice B132 ((p116.1 ++ ([((x5.getD p116.2.toNat ((0, 0, 0, false) : Int × Int × Int × Bool)).2.2.1, (x5.getD p116.2.toNat ((0, 0, 0, false) : Int × Int × Int × Bool)).2.2.2)])).length) d133), (5, .slice B132 ((p116.1 ++ ([((x5.getD p116.2.toNat ((0, 0, 0, false) : Int × Int × Int × Bool)).2.2.1, (x5.getD p116.2.toNat ((0, 0, 0, false) : Int × Int × Int × Bool)).2.2.2)])).length) d133)] (allSl_mem ⟨e34, e35, e36, e37, e38, e39, e40, e41, e42, e43, e44, e45, e46, e47, e5, trivial⟩) rfl
            clear hB e34 e35 e36 e37 e38 e39 e40 e41 e42 e43 e44 e45 e46 e47 e5
            obtain rfl := Option.some.inj hM126
            exact ⟨p116.1 ++ ([((x5.getD p116.2.toNat ((0, 0, 0, false) : Int × Int × Int × Bool)).2.2.1, (x5.getD p116.2.toNat ((0, 0, 0, false) : Int × Int × Int × Bool)).2.2.2)]), B132, d133, rfl, hF.keep _ ⟨rfl, rfl, rfl, rfl, rfl, trivial⟩, S.sel [2, 3, 1, 4, 5] rfl rfl⟩
      · rintro a u ⟨p122, B124, d125, rfl, hF, S⟩
        refine wp_region_lit ?_
        refine op_val (v := .int .i64 p116.2) rfl rfl hF rfl (run_move rfl (hF.ev rfl)) ?_; clear hF; intro a hF
        refine op_val (v := .int .i64 (w64 (p116.2 + 1))) rfl rfl hF rfl (run_add (z := w64 (p116.2 + 1)) (hF.ev rfl) rfl rfl rfl) ?_; clear hF; intro a hF
        refine op_val (v := .int .i64 (w64 (p116.2 + 1))) rfl rfl hF rfl (run_assign rfl (hF.ev rfl)) ?_; clear hF; intro a hF
        refine wpList_nil ?_
        exact ⟨f1, Nat.lt_succ_self _, (p122, w64 (p116.2 + 1)), B124, d125, hM115, hF.keep _ ⟨rfl, rfl, rfl, rfl, rfl, trivial⟩, S.sel [0, 1, 2, 3, 4] rfl rfl⟩
  · rintro a u ⟨p111, B113, d114, rfl, hF, S⟩
    refine wp_seq ?_
    refine wp_region_lit ?_
    refine op_val (v := .slice B113 p111.length d114) rfl rfl hF rfl (run_move rfl (hF.ev rfl)) ?_; clear hF; intro a hF
    refine op_val (v := .slice B113 p111.length d114) rfl rfl hF rfl (run_assign rfl (hF.ev rfl)) ?_; clear hF; intro a hF
    refine wpList_nil ?_
    refine wp_ret ?_
    repeat with_reducible (first | refine then_ret ?_ | refine in_ret ?_ | refine in_nrm ?_)
    refine ret1_gw (.inl rfl) hF rfl (res_tmp (hF.ev rfl)) ?_
    obtain rfl := Option.some.inj hM
    exact ⟨B113, p111.length, d114, rfl, rfl, S.sel [2] rfl rfl⟩

set_option maxHeartbeats 4000000 in
theorem c_laws_sameSteps {x0 : List (Int × Bool)} {x1 : List (Int × Bool)} {A0 : Option Addr} {n0 c0 : Nat} {A1 : Option Addr} {n1 c1 : Nat} {w : World} {r : Bool} (h0 : Rt w 2 eStep A0 n0 c0 x0) (h1 : Rt w 2 eStep A1 n1 c1 x1) (hM : m_laws_sameSteps x0 x1 = some r) :
    Calls Tryd.prog 22 #[.slice A0 n0 c0, .slice A1 n1 c1] w (fun e w' => e = .returned (.bool r) ∧ St w w' []) := by
  obtain rfl := h0.len
  obtain rfl := h1.len
  unfold m_laws_sameSteps at hM
  refine calls_gw Tryd.func22 Tryd.ntmps22 rfl [(0, .slice A0 x0.length c0), (1, .slice A1 x1.length c1)] ⟨rfl, rfl, trivial⟩ rfl ?_
  intro a hF
  have S := St.nil w
  refine wp_seq ?_
  refine wp_region_lit ?_
  refine op_val (v := .bool false) rfl rfl hF rfl (run_assign rfl rfl) ?_; clear hF; intro a hF
  refine wpList_nil ?_
  refine wp_seq ?_
  refine wp_seq ?_
  refine wp_region_lit ?_
  refine op_val (v := .slice A0 x0.length c0) rfl rfl hF rfl (run_move rfl (hF.ev rfl)) ?_; clear hF; intro a hF
  refine op_val (v := .int .i64 (x0.length : Int)) rfl rfl hF rfl (run_lenL rfl rfl Tryd.underlying46 (hF.ev rfl)) ?_; clear hF; intro a hF
  refine op_val (v := .slice A1 x1.length c1) rfl rfl hF rfl (run_move rfl (hF.ev rfl)) ?_; clear hF; intro a hF
  refine op_val (v := .int .i64 (x1.length : Int)) rfl rfl hF rfl (run_lenL rfl rfl Tryd.underlying46 (hF.ev rfl)) ?_; clear hF; intro a hF
  refine op_val (v := .bool ((x0.length : Int) != (x1.length : Int))) rfl rfl hF rfl (run_neq (hF.ev rfl) (hF.ev rfl) rfl) ?_; clear hF; intro a hF
  refine wpList_nil ?_
  cases hc101 : ((x0.length : Int) != (x1.length : Int))
  · replace hM := bif_f hc101 hM
    refine cond_f hF rfl hc101 ?_
    refine wp_skip ?_
    refine wp_seq ?_
    refine wp_seq ?_
    refine wp_region_lit ?_
    refine op_val (v := .int .i64 0) rfl rfl hF rfl (run_assign rfl rfl) ?_; clear hF; intro a hF
    refine wpList_nil ?_
    obtain ⟨o103, hM104, hM⟩ := bind_ex hM
    refine wp_cut (fun a u => ∃ (p102 : Unit), (Sum.inl p102) = o103 ∧ Fr a 26 [(4, .bool false)] ∧ St w u []) ?_ ?_
    · have _ := trivial
      refine wp_block ?_
      refine loop_gw (fun m a u => ∃ (p105 : Int), m_laws_sameSteps_l1 x0 x1 m p105 = some _ ∧ Fr a 26 [(0, .slice A0 x0.length c0), (1, .slice A1 x1.length c1), (4, .bool false), (5, .int .i64 p105)] ∧ St w u []) FUEL ⟨0, hM104, hF.keep _ ⟨rfl, rfl, rfl, rfl, trivial⟩, S.sel [] rfl rfl⟩ ?_
      clear hF S hM104; rintro m a u ⟨p105, hM104, hF, S⟩
      rcases m with _ | f1
      · exact none_some hM104
      rw [m_laws_sameSteps_l1.eq_2] at hM104
      refine wp_seq ?_
      refine wp_seq ?_
      refine wp_region_lit ?_
      refine op_val (v := .int .i64 p105) rfl rfl hF rfl (run_move rfl (hF.ev rfl)) ?_; clear hF; intro a hF
      refine op_val (v := .slice A0 x0.length c0) rfl rfl hF rfl (run_move rfl (hF.ev rfl)) ?_; clear hF; intro a hF
      refine op_val (v := .int .i64 (x0.length : Int)) rfl rfl hF rfl (run_lenL rfl rfl Tryd.underlying46 (hF.ev rfl)) ?_; clear hF; intro a hF
      refine op_val (v := .bool (ltB p105 (x0.length : Int))) rfl rfl hF rfl (run_lss (hF.ev rfl) (hF.ev rfl) rfl) ?_; clear hF; intro a hF
      refine wpList_nil ?_
      cases hc106 : (ltB p105 (x0.length : Int))
      · replace hM104 := bif_f hc106 hM104
        refine cond_f hF rfl hc106 ?_
        refine wp_exit ?_
        repeat with_reducible (first | refine then_exit ?_ | refine in_hit ?_ | refine in_miss rfl ?_)
        obtain rfl := Option.some.inj hM104
        exact ⟨(), rfl, hF.keep _ ⟨rfl, trivial⟩, S.sel [] rfl rfl⟩
      · replace hM104 := bif_t hc106 hM104
        refine cond_t hF rfl hc106 ?_
        refine wp_skip ?_
        refine wp_seq ?_
        refine wp_block ?_
        refine wp_seq ?_
        obtain ⟨hk107, hM104⟩ := chk_ex hM104
        replace hk107 := ixB_t hk107
        obtain ⟨hk108, hM104⟩ := chk_ex hM104
        replace hk108 := ixB_t hk108
        refine region_gw (D := [17, 18, 19, 20, 21, 22, 23, 24, 25]) (Lr := []) (deps := (fun | 0 => [17] | 1 => [18] | 2 => [19] | 3 => [20] | 4 => [21] | 5 => [22] | 6 => [23] | 7 => [24] | 8 => [25] | _ => [])) (rd := (fun _ => [])) (zr := (fun _ => []))
          (φ := fun i vs => match i, vs with | 0, [v17] => v17 = .slice A0 x0.length c0 | 1, [v18] => v18 = .int .i64 p105 | 2, [v19] => v19 = .pointer (some ⟨adB A0, adO A0 + p105.toNat * 2, none⟩) | 3, [v20] => v20 = .agg #[.int .i64 ((x0.getD p105.toNat ((0, false) : Int × Bool)).1), .bool ((x0.getD p105.toNat ((0, false) : Int × Bool)).2)] | 4, [v21] => v21 = .slice A1 x1.length c1 | 5, [v22] => v22 = .int .i64 p105 | 6, [v23] => v23 = .pointer (some ⟨adB A1, adO A1 + p105.toNat * 2, none⟩) | 7, [v24] => v24 = .agg #[.int .i64 ((x1.getD p105.toNat ((0, false) : Int × Bool)).1), .bool ((x1.getD p105.toNat ((0, false) : Int × Bool)).2)] | 8, [v25] => v25 = .bool (!((((x0.getD p105.toNat ((0, false) : Int × Bool)).1) == ((x1.getD p105.toNat ((0, false) : Int × Bool)).1)) && (((x0.getD p105.toNat ((0, false) : Int × Bool)).2) == ((x1.getD p105.toNat ((0, false) : Int × Bool)).2)))) | _, _ => True)
          (C := fun _ _ => [])
          (κ := (fun _ => none)) (Z := (fun _ => [])) mixed hF (by kernel_rfl) S ?_ ?_
        · refine ⟨?_, ?_, ?_, ?_, ?_, ?_, ?_, ?_, ?_, trivial⟩
          · intro a u X hB hu hp hr hz hl S
            replace S : St w u ([] ++ X) := S
            exact .inl ⟨rfl, .slice A0 x0.length c0, u, (run_move rfl (hF.evB hB rfl rfl)), rfl, S⟩
          · intro a u X hB hu hp hr hz hl S
            replace S : St w u ([] ++ X) := S
            exact .inl ⟨rfl, .int .i64 p105, u, (run_move rfl (hF.evB hB rfl rfl)), rfl, S⟩
          · intro a u X hB hu hp hr hz hl S
            replace S : St w u ([] ++ X) := S
            have e17 : sl a 17 = .slice A0 x0.length c0 := hp 0 rfl
            have e18 : sl a 18 = .int .i64 p105 := hp 1 rfl
            exact .inl ⟨rfl, .pointer (some ⟨adB A0, adO A0 + p105.toNat * 2, none⟩), u, (run_indexAddr (b := adB A0) (off := adO A0) rfl Tryd.underlying46 sz50 ((ev_sl e17).trans (congrArg (fun A => Value.slice A x0.length c0) ((S.rc0 h0.rc).rd.ad (ix_pos hk107)))) (ev_sl e18) hk107.1 hk107.2 (k' := adO A0 + p105.toNat * 2) rfl), rfl, S⟩
          · intro a u X hB hu hp hr hz hl S
            replace S : St w u ([] ++ X) := S
            have e19 : sl a 19 = .pointer (some ⟨adB A0, adO A0 + p105.toNat * 2, none⟩) := hp 2 rfl
            exact .inl ⟨rfl, .agg #[.int .i64 ((x0.getD p105.toNat ((0, false) : Int × Bool)).1), .bool ((x0.getD p105.toNat ((0, false) : Int × Bool)).2)], u, (run_loadN (cs := #[.int .i64 ((x0.getD p105.toNat ((0, false) : Int × Bool)).1), .bool ((x0.getD p105.toNat ((0, false) : Int × Bool)).2)]) rfl ag50 (ev_sl e19) rfl (rd_elN (l := x0) (S.rc0 h0.rc).rd rfl eStep_len ((0, false) : Int × Bool) (ix_ltn hk107 rfl) rfl)), rfl, S⟩
          · intro a u X hB hu hp hr hz hl S
            replace S : St w u ([] ++ X) := S
            exact .inl ⟨rfl, .slice A1 x1.length c1, u, (run_move rfl (hF.evB hB rfl rfl)), rfl, S⟩
          · intro a u X hB hu hp hr hz hl S
            replace S : St w u ([] ++ X) := S
            exact .inl ⟨rfl, .int .i64 p105, u, (run_move rfl (hF.evB hB rfl rfl)), rfl, S⟩
          · intro a u X hB hu hp hr hz hl S
            replace S : St w u ([] ++ X) := S
            have e21 : sl a 21 = .slice A1 x1.length c1 := hp 4 rfl
            have e22 : sl a 22 = .int .i64 p105 := hp 5 rfl
            exact .inl ⟨rfl, .pointer (some ⟨adB A1, adO A1 + p105.toNat * 2, none⟩), u, (run_indexAddr (b := adB A1) (off := adO A1) rfl Tryd.underlying46 sz50 ((ev_sl e21).trans (congrArg (fun A => Value.slice A x1.length c1) ((S.rc0 h1.rc).rd.ad (ix_pos hk108)))) (ev_sl e22) hk108.1 hk108.2 (k' := adO A1 + p105.toNat * 2) rfl), rfl, S⟩
          · intro a u X hB hu hp hr hz hl S
            replace S : St w u ([] ++ X) := S
            have e23 : sl a 23 = .pointer (some ⟨adB A1, adO A1 + p105.toNat * 2, none⟩) := hp 6 rfl
            exact .inl ⟨rfl, .agg #[.int .i64 ((x1.getD p105.toNat ((0, false) : Int × Bool)).1), .bool ((x1.getD p105.toNat ((0, false) : Int × Bool)).2)], u, (run_loadN (cs := #[.int .i64 ((x1.getD p105.toNat ((0, false) : Int × Bool)).1), .bool ((x1.getD p105.toNat ((0, false) : Int × Bool)).2)]) rfl ag50 (ev_sl e23) rfl (rd_elN (l := x1) (S.rc0 h1.rc).rd rfl eStep_len ((0, false) : Int × Bool) (ix_ltn hk108 rfl) rfl)), rfl, S⟩
          · intro a u X hB hu hp hr hz hl S
            replace S : St w u ([] ++ X) := S
            have e20 : sl a 20 = .agg #[.int .i64 ((x0.getD p105.toNat ((0, false) : Int × Bool)).1), .bool ((x0.getD p105.toNat ((0, false) : Int × Bool)).2)] := hp 3 rfl
            have e24 : sl a 24 = .agg #[.int .i64 ((x1.getD p105.toNat ((0, false) : Int × Bool)).1), .bool ((x1.getD p105.toNat ((0, false) : Int × Bool)).2)] := hp 7 rfl
            exact .inl ⟨rfl, .bool (!((((x0.getD p105.toNat ((0, false) : Int × Bool)).1) == ((x1.getD p105.toNat ((0, false) : Int × Bool)).1)) && (((x0.getD p105.toNat ((0, false) : Int × Bool)).2) == ((x1.getD p105.toNat ((0, false) : Int × Bool)).2)))), u, (run_neqA (ev_sl e20) (ev_sl e24) rfl eg50 eq50), rfl, S⟩
        · intro a u hB hp S
          obtain ⟨q0, q1, q2, q3, q4, q5, q6, q7, q8, _⟩ := hp
          have e17 : sl a 17 = .slice A0 x0.length c0 := q0
          have e18 : sl a 18 = .int .i64 p105 := q1
          have e19 : sl a 19 = .pointer (some ⟨adB A0, adO A0 + p105.toNat * 2, none⟩) := q2
          have e20 : sl a 20 = .agg #[.int .i64 ((x0.getD p105.toNat ((0, false) : Int × Bool)).1), .bool ((x0.getD p105.toNat ((0, false) : Int × Bool)).2)] := q3
          have e21 : sl a 21 = .slice A1 x1.length c1 := q4
          have e22 : sl a 22 = .int .i64 p105 := q5
          have e23 : sl a 23 = .pointer (some ⟨adB A1, adO A1 + p105.toNat * 2, none⟩) := q6
          have e24 : sl a 24 = .agg #[.int .i64 ((x1.getD p105.toNat ((0, false) : Int × Bool)).1), .bool ((x1.getD p105.toNat ((0, false) : Int × Bool)).2)] := q7
          have e25 : sl a 25 = .bool (!((((x0.getD p105.toNat ((0, false) : Int × Bool)).1) == ((x1.getD p105.toNat ((0, false) : Int × Bool)).1)) && (((x0.getD p105.toNat ((0, false) : Int × Bool)).2) == ((x1.getD p105.toNat ((0, false) : Int × Bool)).2)))) := q8
          replace S : St w u [] := S
          clear q0 q1 q2 q3 q4 q5 q6 q7 q8
          have hF := hF.region hB [(17, .slice A0 x0.length c0), (18, .int .i64 p105), (19, .pointer (some ⟨adB A0, adO A0 + p105.toNat * 2, none⟩)), (20, .agg #[.int .i64 ((x0.getD p105.toNat ((0, false) : Int × Bool)).1), .bool ((x0.getD p105.toNat ((0, false) : Int × Bool)).2)]), (21, .slice A1 x1.length c1), (22, .int .i64 p105), (23, .pointer (some ⟨adB A1, adO A1 + p105.toNat * 2, none⟩)), (24, .agg #[.int .i64 ((x1.getD p105.toNat ((0, false) : Int × Bool)).1), .bool ((x1.getD p105.toNat ((0, false) : Int × Bool)).2)]), (25, .bool (!((((x0.getD p105.toNat ((0, false) : Int × Bool)).1) == ((x1.getD p105.toNat ((0, false) : Int × Bool)).1)) && (((x0.getD p105.toNat ((0, false) : Int × Bool)).2) == ((x1.getD p105.toNat ((0, false) : Int × Bool)).2)))))] (allSl_mem ⟨e17, e18, e19, e20, e21, e22, e23, e24, e25, trivial⟩) rfl
          clear hB e17 e18 e19 e20 e21 e22 e23 e24 e25
          cases hc109 : ((((x0.getD p105.toNat ((0, false) : Int × Bool)).1) == ((x1.getD p105.toNat ((0, false) : Int × Bool)).1)) && (((x0.getD p105.toNat ((0, false) : Int × Bool)).2) == ((x1.getD p105.toNat ((0, false) : Int × Bool)).2)))
          · replace hM104 := bif_f hc109 hM104
            refine cond_t hF rfl (not_t hc109) ?_
            refine wp_seq ?_
            refine wp_region_lit ?_
            refine op_val (v := .bool false) rfl rfl hF rfl (run_assign rfl rfl) ?_; clear hF; intro a hF
            refine wpList_nil ?_
            refine wp_ret ?_
            repeat with_reducible (first | refine then_ret ?_ | refine in_ret ?_ | refine in_nrm ?_)
            refine ret1_gw (.inl rfl) hF rfl (res_tmp (hF.ev rfl)) ?_
            obtain rfl := Option.some.inj hM104
            obtain rfl := Option.some.inj hM
            exact ⟨rfl, S.sel [] rfl rfl⟩
          · replace hM104 := bif_t hc109 hM104
            refine cond_f hF rfl (not_f hc109) ?_
            refine wp_skip ?_
            refine wp_region_lit ?_
            refine op_val (v := .int .i64 p105) rfl rfl hF rfl (run_move rfl (hF.ev rfl)) ?_; clear hF; intro a hF
            refine op_val (v := .int .i64 (w64 (p105 + 1))) rfl rfl hF rfl (run_add (z := w64 (p105 + 1)) (hF.ev rfl) rfl rfl rfl) ?_; clear hF; intro a hF
            refine op_val (v := .int .i64 (w64 (p105 + 1))) rfl rfl hF rfl (run_assign rfl (hF.ev rfl)) ?_; clear hF; intro a hF
            refine wpList_nil ?_
            exact ⟨f1, Nat.lt_succ_self _, w64 (p105 + 1), hM104, hF.keep _ ⟨rfl, rfl, rfl, rfl, trivial⟩, S.sel [] rfl rfl⟩
    · rintro a u ⟨p102, rfl, hF, S⟩
      replace hM := elim_l hM
      refine wp_seq ?_
      refine wp_region_lit ?_
      refine op_val (v := .bool true) rfl rfl hF rfl (run_assign rfl rfl) ?_; clear hF; intro a hF
      refine wpList_nil ?_
      refine wp_ret ?_
      repeat with_reducible (first | refine then_ret ?_ | refine in_ret ?_ | refine in_nrm ?_)
      refine ret1_gw (.inl rfl) hF rfl (res_tmp (hF.ev rfl)) ?_
      obtain rfl := Option.some.inj hM
      exact ⟨rfl, S.sel [] rfl rfl⟩
  · replace hM := bif_t hc101 hM
    refine cond_t hF rfl hc101 ?_
    refine wp_seq ?_
    refine wp_region_lit ?_
    refine op_val (v := .bool false) rfl rfl hF rfl (run_assign rfl rfl) ?_; clear hF; intro a hF
    refine wpList_nil ?_
    refine wp_ret ?_
    repeat with_reducible (first | refine then_ret ?_ | refine in_ret ?_ | refine in_nrm ?_)
    refine ret1_gw (.inl rfl) hF rfl (res_tmp (hF.ev rfl)) ?_
    obtain rfl := Option.some.inj hM
    exact ⟨rfl, S.sel [] rfl rfl⟩

set_option maxHeartbeats 4000000 in
theorem c_laws_FnOperations {x0 : List Int} {A0 : Option Addr} {n0 c0 : Nat} {w : World} {r : Bool} (h0 : Rt w 1 eU A0 n0 c0 x0) (hM : m_laws_FnOperations x0 = some r) :
    Calls Tryd.prog 5 #[.slice A0 n0 c0] w (fun e w' => e = .returned (.bool r) ∧ St w w' []) := by
  obtain rfl := h0.len
  unfold m_laws_FnOperations at hM
  refine calls_gw Tryd.func5 Tryd.ntmps5 rfl [(0, .slice A0 x0.length c0)] ⟨rfl, trivial⟩ rfl ?_
  intro a hF
  have S := St.nil w
  refine wp_seq ?_
  refine wp_region_lit ?_
  refine op_val (v := .bool false) rfl rfl hF rfl (run_assign rfl rfl) ?_; clear hF; intro a hF
  refine wpList_nil ?_
  refine wp_seq ?_
  refine wp_seq ?_
  refine wp_region_lit ?_
  refine op_val (v := .slice A0 x0.length c0) rfl rfl hF rfl (run_move rfl (hF.ev rfl)) ?_; clear hF; intro a hF
  refine op_val (v := .int .i64 (x0.length : Int)) rfl rfl hF rfl (run_lenL rfl rfl Tryd.underlying22 (hF.ev rfl)) ?_; clear hF; intro a hF
  refine op_val (v := .bool (ltB 1048576 (x0.length : Int))) rfl rfl hF rfl (run_gtr (hF.ev rfl) rfl rfl) ?_; clear hF; intro a hF
  refine wpList_nil ?_
  cases hc101 : (ltB 1048576 (x0.length : Int))
  · replace hM := bif_f hc101 hM
    refine cond_f hF rfl hc101 ?_
    refine wp_skip ?_
    refine wp_seq ?_
    refine wp_region_lit ?_
    refine op_val (v := .slice A0 x0.length c0) rfl rfl hF rfl (run_move rfl (hF.ev rfl)) ?_; clear hF; intro a hF
    obtain ⟨p102, h102, hM⟩ := bind_ex hM
    refine op_call rfl rfl hF rfl (run_call (vs := [.slice A0 x0.length c0]) rfl rfl co20 ⟨(hF.ev rfl), trivial⟩) (c_spec_DrawOperations (x0 := x0) ⟨(S.rc0 h0.rc), rfl⟩ h102) ?_
    rintro e u ⟨B103, n104, d105, B106, n107, d108, rfl, rfl, rfl, T⟩
    refine ⟨_, rfl, ?_⟩
    clear hF; intro a hF
    replace S := S.call2 T; clear T
    refine op_val (v := .tuple #[.agg #[.slice B103 p102.1.length d105, .int .i64 p102.2.1, .int .i64 p102.2.2.1, .bool p102.2.2.2.1, .int .i64 p102.2.2.2.2.1], .slice B106 p102.2.2.2.2.2.length d108]) rfl rfl hF rfl (run_move rfl (hF.ev rfl)) ?_; clear hF; intro a hF
    refine op_val (v := .agg #[.slice B103 p102.1.length d105, .int .i64 p102.2.1, .int .i64 p102.2.2.1, .bool p102.2.2.2.1, .int .i64 p102.2.2.2.2.1]) rfl rfl hF rfl (run_extract rfl (hF.ev rfl) rfl) ?_; clear hF; intro a hF
    refine op_val (v := .slice B106 p102.2.2.2.2.2.length d108) rfl rfl hF rfl (run_extract rfl (hF.ev rfl) rfl) ?_; clear hF; intro a hF
    refine op_new (cs := #[.slice none 0 0, .int .i64 0, .int .i64 0, .bool false, .int .i64 0]) rfl rfl hF rfl S (run_allocZ rfl zr25) ?_; clear hF S; intro a g109 u hF S
    refine op_do rfl rfl (run_store (cs' := #[.slice B103 p102.1.length d105, .int .i64 p102.2.1, .int .i64 p102.2.2.1, .bool p102.2.2.2.1, .int .i64 p102.2.2.2.2.1]) rfl sz25 (hF.ev rfl) (hF.ev rfl) rfl rfl rfl (S.free 0 rfl) rfl rfl) ?_; replace S := S.put 0 rfl (#[.slice B103 p102.1.length d105, .int .i64 p102.2.1, .int .i64 p102.2.2.1, .bool p102.2.2.2.1, .int .i64 p102.2.2.2.2.1])
    generalize World.setRow _ _ _ = u at S ⊢
    refine op_val (v := .slice B106 p102.2.2.2.2.2.length d108) rfl rfl hF rfl (run_assign rfl (hF.ev rfl)) ?_; clear hF; intro a hF
    refine wpList_nil ?_
    refine wp_seq ?_
    refine wp_region_lit ?_
    refine op_val (v := .agg #[.slice B103 p102.1.length d105, .int .i64 p102.2.1, .int .i64 p102.2.2.1, .bool p102.2.2.2.1, .int .i64 p102.2.2.2.2.1]) rfl rfl hF rfl (run_loadN rfl ag25 (hF.ev rfl) rfl ((S.free 0 rfl).cells 0 #[.slice B103 p102.1.length d105, .int .i64 p102.2.1, .int .i64 p102.2.2.1, .bool p102.2.2.2.1, .int .i64 p102.2.2.2.2.1] rfl)) ?_; clear hF; intro a hF
    refine op_val (v := .slice B106 p102.2.2.2.2.2.length d108) rfl rfl hF rfl (run_move rfl (hF.ev rfl)) ?_; clear hF; intro a hF
    obtain ⟨p110, h110, hM⟩ := bind_ex hM
    refine op_call rfl rfl hF rfl (run_call (vs := [.agg #[.slice B103 p102.1.length d105, .int .i64 p102.2.1, .int .i64 p102.2.2.1, .bool p102.2.2.2.1, .int .i64 p102.2.2.2.2.1], .slice B106 p102.2.2.2.2.2.length d108]) rfl rfl co21 ⟨(hF.ev rfl), (hF.ev rfl), trivial⟩) (c_impl_Operations (x0 := p102.1) (x1 := p102.2.1) (x2 := p102.2.2.1) (x3 := p102.2.2.2.1) (x4 := p102.2.2.2.2.1) (x5 := p102.2.2.2.2.2) ⟨(S.rcp 1 rfl), rfl⟩ ⟨(S.rc 2 rfl), rfl⟩ h110) ?_
    rintro e u ⟨B111, n112, d113, rfl, rfl, T⟩
    refine ⟨_, rfl, ?_⟩
    clear hF; intro a hF
    replace S := S.call1 T; clear T
    refine op_val (v := .slice B111 p110.length d113) rfl rfl hF rfl (run_assign rfl (hF.ev rfl)) ?_; clear hF; intro a hF
    refine wpList_nil ?_
    refine wp_seq ?_
    refine wp_seq ?_
    refine wp_region_lit ?_
    refine op_val (v := .slice B111 p110.length d113) rfl rfl hF rfl (run_move rfl (hF.ev rfl)) ?_; clear hF; intro a hF
    refine op_val (v := .agg #[.slice B103 p102.1.length d105, .int .i64 p102.2.1, .int .i64 p102.2.2.1, .bool p102.2.2.2.1, .int .i64 p102.2.2.2.2.1]) rfl rfl hF rfl (run_loadN rfl ag25 (hF.ev rfl) rfl ((S.free 1 rfl).cells 0 #[.slice B103 p102.1.length d105, .int .i64 p102.2.1, .int .i64 p102.2.2.1, .bool p102.2.2.2.1, .int .i64 p102.2.2.2.2.1] rfl)) ?_; clear hF; intro a hF
    refine op_val (v := .slice B106 p102.2.2.2.2.2.length d108) rfl rfl hF rfl (run_move rfl (hF.ev rfl)) ?_; clear hF; intro a hF
    obtain ⟨p114, h114, hM⟩ := bind_ex hM
    refine op_call rfl rfl hF rfl (run_call (vs := [.agg #[.slice B103 p102.1.length d105, .int .i64 p102.2.1, .int .i64 p102.2.2.1, .bool p102.2.2.2.1, .int .i64 p102.2.2.2.2.1], .slice B106 p102.2.2.2.2.2.length d108]) rfl rfl co23 ⟨(hF.ev rfl), (hF.ev rfl), trivial⟩) (c_spec_Operations (x0 := p102.1) (x1 := p102.2.1) (x2 := p102.2.2.1) (x3 := p102.2.2.2.1) (x4 := p102.2.2.2.2.1) (x5 := p102.2.2.2.2.2) ⟨(S.rcp 2 rfl), rfl⟩ ⟨(S.rc 3 rfl), rfl⟩ h114) ?_
    rintro e u ⟨B115, n116, d117, rfl, rfl, T⟩
    refine ⟨_, rfl, ?_⟩
    clear hF; intro a hF
    replace S := S.call1 T; clear T
    obtain ⟨p118, h118, hM⟩ := bind_ex hM
    refine op_call rfl rfl hF rfl (run_call (vs := [.slice B111 p110.length d113, .slice B115 p114.length d117]) rfl rfl co22 ⟨(hF.ev rfl), (hF.ev rfl), trivial⟩) (c_laws_sameSteps (x0 := p110) (x1 := p114) ⟨(S.rc 1 rfl), rfl⟩ ⟨(S.rc 0 rfl), rfl⟩ h118) ?_
    rintro e u ⟨rfl, T⟩
    refine ⟨_, rfl, ?_⟩
    clear hF; intro a hF
    replace S := S.call0 T; clear T
    refine op_val (v := .bool (!p118)) rfl rfl hF rfl (run_not rfl (hF.ev rfl)) ?_; clear hF; intro a hF
    refine wpList_nil ?_
    cases hc119 : (p118)
    · replace hM := bif_f hc119 hM
      refine cond_t hF rfl (not_t hc119) ?_
      refine wp_seq ?_
      refine wp_region_lit ?_
      refine op_val (v := .bool false) rfl rfl hF rfl (run_assign rfl rfl) ?_; clear hF; intro a hF
      refine wpList_nil ?_
      refine wp_ret ?_
      repeat with_reducible (first | refine then_ret ?_ | refine in_ret ?_ | refine in_nrm ?_)
      refine ret1_gw (.inl rfl) hF rfl (res_tmp (hF.ev rfl)) ?_
      obtain rfl := Option.some.inj hM
      exact ⟨rfl, S.sel [] rfl rfl⟩
    · replace hM := bif_t hc119 hM
      refine cond_f hF rfl (not_f hc119) ?_
      refine wp_skip ?_
      refine wp_seq ?_
      refine wp_seq ?_
      refine wp_region_lit ?_
      refine op_val (v := .agg #[.slice B103 p102.1.length d105, .int .i64 p102.2.1, .int .i64 p102.2.2.1, .bool p102.2.2.2.1, .int .i64 p102.2.2.2.2.1]) rfl rfl hF rfl (run_loadN rfl ag25 (hF.ev rfl) rfl ((S.free 2 rfl).cells 0 #[.slice B103 p102.1.length d105, .int .i64 p102.2.1, .int .i64 p102.2.2.1, .bool p102.2.2.2.1, .int .i64 p102.2.2.2.2.1] rfl)) ?_; clear hF; intro a hF
      obtain ⟨p120, h120, hM⟩ := bind_ex hM
      refine op_call rfl rfl hF rfl (run_call (vs := [.agg #[.slice B103 p102.1.length d105, .int .i64 p102.2.1, .int .i64 p102.2.2.1, .bool p102.2.2.2.1, .int .i64 p102.2.2.2.2.1]]) rfl rfl co18 ⟨(hF.ev rfl), trivial⟩) (c_spec_PanelValid (x0 := p102.1) (x1 := p102.2.1) (x2 := p102.2.2.1) (x3 := p102.2.2.2.1) (x4 := p102.2.2.2.2.1) ⟨(S.rcp 3 rfl), rfl⟩ h120) ?_
      rintro e u ⟨rfl, T⟩
      refine ⟨_, rfl, ?_⟩
      clear hF; intro a hF
      replace S := S.call0 T; clear T
      refine op_val (v := .bool (!p120)) rfl rfl hF rfl (run_not rfl (hF.ev rfl)) ?_; clear hF; intro a hF
      refine wpList_nil ?_
      cases hc121 : (p120)
      · replace hM := bif_f hc121 hM
        refine cond_t hF rfl (not_t hc121) ?_
        refine wp_seq ?_
        refine wp_region_lit ?_
        refine op_val (v := .slice B111 p110.length d113) rfl rfl hF rfl (run_move rfl (hF.ev rfl)) ?_; clear hF; intro a hF
        refine op_val (v := .int .i64 (p110.length : Int)) rfl rfl hF rfl (run_lenL rfl rfl Tryd.underlying46 (hF.ev rfl)) ?_; clear hF; intro a hF
        refine op_val (v := .bool ((p110.length : Int) == 0)) rfl rfl hF rfl (run_eql (hF.ev rfl) rfl rfl) ?_; clear hF; intro a hF
        refine op_val (v := .bool ((p110.length : Int) == 0)) rfl rfl hF rfl (run_move rfl (hF.ev rfl)) ?_; clear hF; intro a hF
        obtain ⟨p122, h122, hM⟩ := bind_ex hM
        refine op_gcall (v := .bool p122) rfl rfl hF rfl S (yt (gw_yield hF rfl rfl rfl)) (fun hg => (run_call (vs := []) rfl rfl co11 trivial)) (fun hg => c_laws_alive   (gb_t h122 hg)) ?_; clear hF S; intro a u hF S
        refine op_val (v := .bool (((p110.length : Int) == 0) && p122)) rfl rfl hF rfl (run_pick_and rfl (hF.ev rfl) (fun hp => ((hF.ev rfl).trans (gv_t hp))) rfl) ?_; clear hF; intro a hF
        refine op_val (v := .bool (((p110.length : Int) == 0) && p122)) rfl rfl hF rfl (run_assign rfl (hF.ev rfl)) ?_; clear hF; intro a hF
        refine wpList_nil ?_
        refine wp_ret ?_
        repeat with_reducible (first | refine then_ret ?_ | refine in_ret ?_ | refine in_nrm ?_)
        refine ret1_gw (.inl rfl) hF rfl (res_tmp (hF.ev rfl)) ?_
        obtain rfl := Option.some.inj hM
        exact ⟨rfl, S.sel [] rfl rfl⟩
      · replace hM := bif_t hc121 hM
        refine cond_f hF rfl (not_f hc121) ?_
        refine wp_skip ?_
        refine wp_seq ?_
        refine wp_region_lit ?_
        refine op_val (v := .agg #[.slice B103 p102.1.length d105, .int .i64 p102.2.1, .int .i64 p102.2.2.1, .bool p102.2.2.2.1, .int .i64 p102.2.2.2.2.1]) rfl rfl hF rfl (run_loadN rfl ag25 (hF.ev rfl) rfl ((S.free 2 rfl).cells 0 #[.slice B103 p102.1.length d105, .int .i64 p102.2.1, .int .i64 p102.2.2.1, .bool p102.2.2.2.1, .int .i64 p102.2.2.2.2.1] rfl)) ?_; clear hF; intro a hF
        refine op_val (v := .slice B106 p102.2.2.2.2.2.length d108) rfl rfl hF rfl (run_move rfl (hF.ev rfl)) ?_; clear hF; intro a hF
        obtain ⟨p123, h123, hM⟩ := bind_ex hM
        refine op_call rfl rfl hF rfl (run_call (vs := [.agg #[.slice B103 p102.1.length d105, .int .i64 p102.2.1, .int .i64 p102.2.2.1, .bool p102.2.2.2.1, .int .i64 p102.2.2.2.2.1], .slice B106 p102.2.2.2.2.2.length d108]) rfl rfl co15 ⟨(hF.ev rfl), (hF.ev rfl), trivial⟩) (c_impl_PanelRun (x0 := p102.1) (x1 := p102.2.1) (x2 := p102.2.2.1) (x3 := p102.2.2.2.1) (x4 := p102.2.2.2.2.1) (x5 := p102.2.2.2.2.2) ⟨(S.rcp 3 rfl), rfl⟩ ⟨(S.rc 4 rfl), rfl⟩ h123) ?_
        rintro e u ⟨B124, n125, d126, B127, n128, d129, rfl, rfl, rfl, T⟩
        refine ⟨_, rfl, ?_⟩
        clear hF; intro a hF
        replace S := S.call2 T; clear T
        refine op_val (v := .tuple #[.agg #[.slice B124 p123.1.length d126, .int .i64 p123.2.1, .int .i64 p123.2.2.1, .bool p123.2.2.2.1, .int .i64 p123.2.2.2.2.1], .slice B127 p123.2.2.2.2.2.length d129]) rfl rfl hF rfl (run_move rfl (hF.ev rfl)) ?_; clear hF; intro a hF
        refine op_val (v := .agg #[.slice B124 p123.1.length d126, .int .i64 p123.2.1, .int .i64 p123.2.2.1, .bool p123.2.2.2.1, .int .i64 p123.2.2.2.2.1]) rfl rfl hF rfl (run_extract rfl (hF.ev rfl) rfl) ?_; clear hF; intro a hF
        refine op_val (v := .slice B127 p123.2.2.2.2.2.length d129) rfl rfl hF rfl (run_extract rfl (hF.ev rfl) rfl) ?_; clear hF; intro a hF
        refine op_new (cs := #[.slice none 0 0, .int .i64 0, .int .i64 0, .bool false, .int .i64 0]) rfl rfl hF rfl S (run_allocZ rfl zr25) ?_; clear hF S; intro a g130 u hF S
        refine op_do rfl rfl (run_store (cs' := #[.slice B124 p123.1.length d126, .int .i64 p123.2.1, .int .i64 p123.2.2.1, .bool p123.2.2.2.1, .int .i64 p123.2.2.2.2.1]) rfl sz25 (hF.ev rfl) (hF.ev rfl) rfl rfl rfl (S.free 0 rfl) rfl rfl) ?_; replace S := S.put 0 rfl (#[.slice B124 p123.1.length d126, .int .i64 p123.2.1, .int .i64 p123.2.2.1, .bool p123.2.2.2.1, .int .i64 p123.2.2.2.2.1])
        generalize World.setRow _ _ _ = u at S ⊢
        refine op_val (v := .slice B127 p123.2.2.2.2.2.length d129) rfl rfl hF rfl (run_assign rfl (hF.ev rfl)) ?_; clear hF; intro a hF
        refine wpList_nil ?_
        refine wp_seq ?_
        refine wp_region_lit ?_
        refine op_newrow (cs := #[]) (size := 1) rfl rfl hF rfl S (run_buildSlice0 rfl Tryd.underlying23 rfl) rfl (Nat.zero_le _) ?_; clear hF S; intro a g131 u hF S
        refine op_val (v := .pointer (some ⟨g109, 0, none⟩)) rfl rfl hF rfl (run_fieldAddr rfl fl25_0 (hF.ev rfl) rfl) ?_; clear hF; intro a hF
        refine op_val (v := .slice B103 p102.1.length d105) rfl rfl hF rfl (run_load1 rfl one23 (hF.ev rfl) ((S.free 6 rfl).cell rfl)) ?_; clear hF; intro a hF
        obtain ⟨hk134, hM⟩ := chk_ex hM
        replace hk134 := apB_t hk134
        refine op_appendL (lx := []) (ly := p102.1) rfl rfl hF rfl S rfl (hF.ev rfl) (hF.ev rfl) (i := 0) rfl rfl Tryd.underlying23 inf4 rfl (by decide) (S.rcp 7 rfl).rd rfl eB_one hk134 (by decide) ?_; clear hF S; intro a B132 d133 u hF S
        refine op_val (v := .slice B132 (([] ++ p102.1).length) d133) rfl rfl hF rfl (run_assign rfl (hF.ev rfl)) ?_; clear hF; intro a hF
        refine wpList_nil ?_
        refine wp_seq ?_
        refine wp_seq ?_
        refine wp_region_lit ?_
        refine op_val (v := .int .i64 0) rfl rfl hF rfl (run_assign rfl rfl) ?_; clear hF; intro a hF
        refine wpList_nil ?_
        obtain ⟨o136, hM138, hM⟩ := bind_ex hM
        refine wp_cut (fun a u => ∃ (p135 : List Bool), (Sum.inl p135) = o136 ∧ ([] ++ p102.1).length = p135.length ∧ Fr a 100 [(2, .bool false), (6, .pointer (some ⟨g130, 0, none⟩)), (8, .slice B132 (([] ++ p102.1).length) d133)] ∧ St w u [.box g130 25 #[.slice B124 p123.1.length d126, .int .i64 p123.2.1, .int .i64 p123.2.2.1, .bool p123.2.2.2.1, .int .i64 p123.2.2.2.2.1], .box g109 25 #[.slice B103 p102.1.length d105, .int .i64 p102.2.1, .int .i64 p102.2.2.1, .bool p102.2.2.2.1, .int .i64 p102.2.2.2.2.1], .row 4 1 (.slice B132 (([] ++ p102.1).length) d133) (([] ++ p102.1).length) (p135.flatMap eB), .row 4 1 (.slice B124 p123.1.length d126) p123.1.length (p123.1.flatMap eB), .part 1 (.slice B103 p102.1.length d105) p102.1.length (p102.1.flatMap eB)]) ?_ ?_
        · have _ := trivial
          refine wp_block ?_
          refine loop_gw (fun m a u => ∃ (p139 : List Bool × Int), m_laws_FnOperations_l1 p102 p110 m p139 = some _ ∧ ([] ++ p102.1).length = p139.1.length ∧ Fr a 100 [(2, .bool false), (5, .slice B111 p110.length d113), (6, .pointer (some ⟨g130, 0, none⟩)), (8, .slice B132 (([] ++ p102.1).length) d133), (9, .int .i64 p139.2)] ∧ St w u [.box g130 25 #[.slice B124 p123.1.length d126, .int .i64 p123.2.1, .int .i64 p123.2.2.1, .bool p123.2.2.2.1, .int .i64 p123.2.2.2.2.1], .box g109 25 #[.slice B103 p102.1.length d105, .int .i64 p102.2.1, .int .i64 p102.2.2.1, .bool p102.2.2.2.1, .int .i64 p102.2.2.2.2.1], .row 50 2 (.slice B111 p110.length d113) p110.length (p110.flatMap eStep), .row 4 1 (.slice B132 (([] ++ p102.1).length) d133) (([] ++ p102.1).length) (p139.1.flatMap eB), .row 4 1 (.slice B124 p123.1.length d126) p123.1.length (p123.1.flatMap eB), .part 1 (.slice B103 p102.1.length d105) p102.1.length (p102.1.flatMap eB)]) FUEL ⟨([] ++ p102.1, 0), hM138, rfl, hF.keep _ ⟨rfl, rfl, rfl, rfl, rfl, trivial⟩, S.sel [1, 6, 5, 0, 2, 7] rfl rfl⟩ ?_
          clear hF S hM138; rintro m a u ⟨p139, hM138, hn140, hF, S⟩
          rcases m with _ | f1
          · exact none_some hM138
          rw [m_laws_FnOperations_l1.eq_2] at hM138
          refine wp_seq ?_
          refine wp_seq ?_
          refine wp_region_lit ?_
          refine op_val (v := .int .i64 p139.2) rfl rfl hF rfl (run_move rfl (hF.ev rfl)) ?_; clear hF; intro a hF
          refine op_val (v := .slice B111 p110.length d113) rfl rfl hF rfl (run_move rfl (hF.ev rfl)) ?_; clear hF; intro a hF
          refine op_val (v := .int .i64 (p110.length : Int)) rfl rfl hF rfl (run_lenL rfl rfl Tryd.underlying46 (hF.ev rfl)) ?_; clear hF; intro a hF
          refine op_val (v := .bool (ltB p139.2 (p110.length : Int))) rfl rfl hF rfl (run_lss (hF.ev rfl) (hF.ev rfl) rfl) ?_; clear hF; intro a hF
          refine wpList_nil ?_
          cases hc141 : (ltB p139.2 (p110.length : Int))
          · replace hM138 := bif_f hc141 hM138
            refine cond_f hF rfl hc141 ?_
            refine wp_exit ?_
            repeat with_reducible (first | refine then_exit ?_ | refine in_hit ?_ | refine in_miss rfl ?_)
            obtain rfl := Option.some.inj hM138
            exact ⟨p139.1, rfl, hn140, hF.keep _ ⟨rfl, rfl, rfl, trivial⟩, S.sel [0, 1, 3, 4, 5] rfl rfl⟩
          · replace hM138 := bif_t hc141 hM138
            refine cond_t hF rfl hc141 ?_
            refine wp_skip ?_
            refine wp_seq ?_
            refine wp_block ?_
            refine wp_seq ?_
            refine wp_seq ?_
            obtain ⟨hk142, hM138⟩ := chk_ex hM138
            replace hk142 := ixB_t hk142
            obtain ⟨hk143, hM138⟩ := chk_ex hM138
            replace hk143 := fun hg => ixB_t (imp_t hk143 hg)
            obtain ⟨hk144, hM138⟩ := chk_ex hM138
            replace hk144 := fun hg => ixB_t (imp_t hk144 hg)
            obtain ⟨hk145, hM138⟩ := chk_ex hM138
            replace hk145 := fun hg => ixB_t (imp_t hk145 hg)
            obtain ⟨hk146, hM138⟩ := chk_ex hM138
            replace hk146 := fun hg => ixB_t (imp_t hk146 hg)
            refine region_gw (D := [52, 53, 54, 55, 56, 57, 58, 59, 60, 61, 62, 63, 64, 65, 66, 67, 68, 69, 70, 71, 72, 73, 74, 75, 76, 77, 78, 79, 80, 81, 82, 83]) (Lr := [.box g130 25 #[.slice B124 p123.1.length d126, .int .i64 p123.2.1, .int .i64 p123.2.2.1, .bool p123.2.2.2.1, .int .i64 p123.2.2.2.2.1], .box g109 25 #[.slice B103 p102.1.length d105, .int .i64 p102.2.1, .int .i64 p102.2.2.1, .bool p102.2.2.2.1, .int .i64 p102.2.2.2.2.1], .row 50 2 (.slice B111 p110.length d113) p110.length (p110.flatMap eStep), .row 4 1 (.slice B132 (([] ++ p102.1).length) d133) (([] ++ p102.1).length) (p139.1.flatMap eB), .row 4 1 (.slice B124 p123.1.length d126) p123.1.length (p123.1.flatMap eB), .part 1 (.slice B103 p102.1.length d105) p102.1.length (p102.1.flatMap eB)]) (deps := (fun | 0 => [52] | 1 => [53] | 2 => [54] | 3 => [55] | 4 => [56] | 5 => [57] | 6 => [58] | 7 => [59] | 8 => [60] | 9 => [61] | 10 => [62] | 11 => [63] | 12 => [64] | 13 => [65] | 14 => [66] | 15 => [67] | 16 => [68] | 17 => [69] | 18 => [70] | 19 => [71] | 20 => [72] | 21 => [73] | 22 => [74] | 23 => [75] | 24 => [76] | 25 => [77] | 26 => [78] | 27 => [79] | 28 => [80] | 29 => [81] | 30 => [82] | 31 => [83] | _ => [])) (rd := (fun _ => [])) (zr := (fun _ => []))
              (φ := fun i vs => match i, vs with | 0, [v52] => v52 = .slice B111 p110.length d113 | 1, [v53] => v53 = .int .i64 p139.2 | 2, [v54] => v54 = .pointer (some ⟨adB B111, adO B111 + p139.2.toNat * 2, none⟩) | 3, [v55] => v55 = .pointer (some ⟨adB B111, adO B111 + p139.2.toNat * 2, none⟩) | 4, [v56] => v56 = .int .i64 ((p110.getD p139.2.toNat ((0, false) : Int × Bool)).1) | 5, [v57] => v57 = .bool (ltB ((p110.getD p139.2.toNat ((0, false) : Int × Bool)).1) 0) | 6, [v58] => v58 = .bool (ltB ((p110.getD p139.2.toNat ((0, false) : Int × Bool)).1) 0) | 7, [v59] => v59 = gv (!(ltB ((p110.getD p139.2.toNat ((0, false) : Int × Bool)).1) 0)) (.slice B111 p110.length d113) | 8, [v60] => v60 = gv (!(ltB ((p110.getD p139.2.toNat ((0, false) : Int × Bool)).1) 0)) (.int .i64 p139.2) | 9, [v61] => v61 = gv (!(ltB ((p110.getD p139.2.toNat ((0, false) : Int × Bool)).1) 0)) (.pointer (some ⟨adB B111, adO B111 + p139.2.toNat * 2, none⟩)) | 10, [v62] => v62 = gv (!(ltB ((p110.getD p139.2.toNat ((0, false) : Int × Bool)).1) 0)) (.pointer (some ⟨adB B111, adO B111 + p139.2.toNat * 2, none⟩)) | 11, [v63] => v63 = gv (!(ltB ((p110.getD p139.2.toNat ((0, false) : Int × Bool)).1) 0)) (.int .i64 ((p110.getD p139.2.toNat ((0, false) : Int × Bool)).1)) | 12, [v64] => v64 = gv (!(ltB ((p110.getD p139.2.toNat ((0, false) : Int × Bool)).1) 0)) (.slice B132 (([] ++ p102.1).length) d133) | 13, [v65] => v65 = gv (!(ltB ((p110.getD p139.2.toNat ((0, false) : Int × Bool)).1) 0)) (.int .i64 ((([] ++ p102.1).length) : Int)) | 14, [v66] => v66 = gv (!(ltB ((p110.getD p139.2.toNat ((0, false) : Int × Bool)).1) 0)) (.bool (leB ((([] ++ p102.1).length) : Int) ((p110.getD p139.2.toNat ((0, false) : Int × Bool)).1))) | 15, [v67] => v67 = .bool ((ltB ((p110.getD p139.2.toNat ((0, false) : Int × Bool)).1) 0) || (leB ((([] ++ p102.1).length) : Int) ((p110.getD p139.2.toNat ((0, false) : Int × Bool)).1))) | 16, [v68] => v68 = .bool ((ltB ((p110.getD p139.2.toNat ((0, false) : Int × Bool)).1) 0) || (leB ((([] ++ p102.1).length) : Int) ((p110.getD p139.2.toNat ((0, false) : Int × Bool)).1))) | 17, [v69] => v69 = gv (!((ltB ((p110.getD p139.2.toNat ((0, false) : Int × Bool)).1) 0) || (leB ((([] ++ p102.1).length) : Int) ((p110.getD p139.2.toNat ((0, false) : Int × Bool)).1)))) (.slice B132 (([] ++ p102.1).length) d133) | 18, [v70] => v70 = gv (!((ltB ((p110.getD p139.2.toNat ((0, false) : Int × Bool)).1) 0) || (leB ((([] ++ p102.1).length) : Int) ((p110.getD p139.2.toNat ((0, false) : Int × Bool)).1)))) (.slice B111 p110.length d113) | 19, [v71] => v71 = gv (!((ltB ((p110.getD p139.2.toNat ((0, false) : Int × Bool)).1) 0) || (leB ((([] ++ p102.1).length) : Int) ((p110.getD p139.2.toNat ((0, false) : Int × Bool)).1)))) (.int .i64 p139.2) | 20, [v72] => v72 = gv (!((ltB ((p110.getD p139.2.toNat ((0, false) : Int × Bool)).1) 0) || (leB ((([] ++ p102.1).length) : Int) ((p110.getD p139.2.toNat ((0, false) : Int × Bool)).1)))) (.pointer (some ⟨adB B111, adO B111 + p139.2.toNat * 2, none⟩)) | 21, [v73] => v73 = gv (!((ltB ((p110.getD p139.2.toNat ((0, false) : Int × Bool)).1) 0) || (leB ((([] ++ p102.1).length) : Int) ((p110.getD p139.2.toNat ((0, false) : Int × Bool)).1)))) (.pointer (some ⟨adB B111, adO B111 + p139.2.toNat * 2, none⟩)) | 22, [v74] => v74 = gv (!((ltB ((p110.getD p139.2.toNat ((0, false) : Int × Bool)).1) 0) || (leB ((([] ++ p102.1).length) : Int) ((p110.getD p139.2.toNat ((0, false) : Int × Bool)).1)))) (.int .i64 ((p110.getD p139.2.toNat ((0, false) : Int × Bool)).1)) | 23, [v75] => v75 = gv (!((ltB ((p110.getD p139.2.toNat ((0, false) : Int × Bool)).1) 0) || (leB ((([] ++ p102.1).length) : Int) ((p110.getD p139.2.toNat ((0, false) : Int × Bool)).1)))) (.pointer (some ⟨adB B132, adO B132 + (((p110.getD p139.2.toNat ((0, false) : Int × Bool)).1).toNat) * 1, none⟩)) | 24, [v76] => v76 = gv (!((ltB ((p110.getD p139.2.toNat ((0, false) : Int × Bool)).1) 0) || (leB ((([] ++ p102.1).length) : Int) ((p110.getD p139.2.toNat ((0, false) : Int × Bool)).1)))) (.bool (p139.1.getD (((p110.getD p139.2.toNat ((0, false) : Int × Bool)).1).toNat) false)) | 25, [v77] => v77 = gv (!((ltB ((p110.getD p139.2.toNat ((0, false) : Int × Bool)).1) 0) || (leB ((([] ++ p102.1).length) : Int) ((p110.getD p139.2.toNat ((0, false) : Int × Bool)).1)))) (.slice B111 p110.length d113) | 26, [v78] => v78 = gv (!((ltB ((p110.getD p139.2.toNat ((0, false) : Int × Bool)).1) 0) || (leB ((([] ++ p102.1).length) : Int) ((p110.getD p139.2.toNat ((0, false) : Int × Bool)).1)))) (.int .i64 p139.2) | 27, [v79] => v79 = gv (!((ltB ((p110.getD p139.2.toNat ((0, false) : Int × Bool)).1) 0) || (leB ((([] ++ p102.1).length) : Int) ((p110.getD p139.2.toNat ((0, false) : Int × Bool)).1)))) (.pointer (some ⟨adB B111, adO B111 + p139.2.toNat * 2, none⟩)) | 28, [v80] => v80 = gv (!((ltB ((p110.getD p139.2.toNat ((0, false) : Int × Bool)).1) 0) || (leB ((([] ++ p102.1).length) : Int) ((p110.getD p139.2.toNat ((0, false) : Int × Bool)).1)))) (.pointer (some ⟨adB B111, adO B111 + p139.2.toNat * 2 + 1, none⟩)) | 29, [v81] => v81 = gv (!((ltB ((p110.getD p139.2.toNat ((0, false) : Int × Bool)).1) 0) || (leB ((([] ++ p102.1).length) : Int) ((p110.getD p139.2.toNat ((0, false) : Int × Bool)).1)))) (.bool ((p110.getD p139.2.toNat ((0, false) : Int × Bool)).2)) | 30, [v82] => v82 = gv (!((ltB ((p110.getD p139.2.toNat ((0, false) : Int × Bool)).1) 0) || (leB ((([] ++ p102.1).length) : Int) ((p110.getD p139.2.toNat ((0, false) : Int × Bool)).1)))) (.bool ((p139.1.getD (((p110.getD p139.2.toNat ((0, false) : Int × Bool)).1).toNat) false) == ((p110.getD p139.2.toNat ((0, false) : Int × Bool)).2))) | 31, [v83] => v83 = .bool (((ltB ((p110.getD p139.2.toNat ((0, false) : Int × Bool)).1) 0) || (leB ((([] ++ p102.1).length) : Int) ((p110.getD p139.2.toNat ((0, false) : Int × Bool)).1))) || ((p139.1.getD (((p110.getD p139.2.toNat ((0, false) : Int × Bool)).1).toNat) false) == ((p110.getD p139.2.toNat ((0, false) : Int × Bool)).2))) | _, _ => True)
              (C := fun _ _ => [])
              (κ := (fun _ => none)) (Z := (fun _ => [])) mixed hF (by kernel_rfl) S ?_ ?_
            · refine ⟨?_, ?_, ?_, ?_, ?_, ?_, ?_, ?_, ?_, ?_, ?_, ?_, ?_, ?_, ?_, ?_, ?_, ?_, ?_, ?_, ?_, ?_, ?_, ?_, ?_, ?_, ?_, ?_, ?_, ?_, ?_, ?_, trivial⟩
              · intro a u X hB hu hp hr hz hl S
                replace S : St w u ([] ++ X) := S
                exact .inl ⟨rfl, .slice B111 p110.length d113, u, (run_move rfl (hF.evB hB rfl rfl)), rfl, S⟩
              · intro a u X hB hu hp hr hz hl S
                replace S : St w u ([] ++ X) := S
                exact .inl ⟨rfl, .int .i64 p139.2, u, (run_move rfl (hF.evB hB rfl rfl)), rfl, S⟩
              · intro a u X hB hu hp hr hz hl S
                replace S : St w u ([] ++ X) := S
                have e52 : sl a 52 = .slice B111 p110.length d113 := hp 0 rfl
                have e53 : sl a 53 = .int .i64 p139.2 := hp 1 rfl
                exact .inl ⟨rfl, .pointer (some ⟨adB B111, adO B111 + p139.2.toNat * 2, none⟩), u, (run_indexAddr (b := adB B111) (off := adO B111) rfl Tryd.underlying46 sz50 ((ev_sl e52).trans (congrArg (fun A => Value.slice A p110.length d113) ((gr_rc S hl 2 rfl).rd.ad (ix_pos hk142)))) (ev_sl e53) hk142.1 hk142.2 (k' := adO B111 + p139.2.toNat * 2) rfl), rfl, S⟩
              · intro a u X hB hu hp hr hz hl S
                replace S : St w u ([] ++ X) := S
                have e54 : sl a 54 = .pointer (some ⟨adB B111, adO B111 + p139.2.toNat * 2, none⟩) := hp 2 rfl
                exact .inl ⟨rfl, .pointer (some ⟨adB B111, adO B111 + p139.2.toNat * 2, none⟩), u, (run_fieldAddr rfl fl50_0 (ev_sl e54) rfl), rfl, S⟩
              · intro a u X hB hu hp hr hz hl S
                replace S : St w u ([] ++ X) := S
                have e55 : sl a 55 = .pointer (some ⟨adB B111, adO B111 + p139.2.toNat * 2, none⟩) := hp 3 rfl
                exact .inl ⟨rfl, .int .i64 ((p110.getD p139.2.toNat ((0, false) : Int × Bool)).1), u, (run_load1 rfl one3 (ev_sl e55) (rd_el0 (l := p110) (gr_rc S hl 2 rfl).rd rfl eStep_len ((0, false) : Int × Bool) (ix_ltn hk142 rfl) rfl)), rfl, S⟩
              · intro a u X hB hu hp hr hz hl S
                replace S : St w u ([] ++ X) := S
                have e56 : sl a 56 = .int .i64 ((p110.getD p139.2.toNat ((0, false) : Int × Bool)).1) := hp 4 rfl
                exact .inl ⟨rfl, .bool (ltB ((p110.getD p139.2.toNat ((0, false) : Int × Bool)).1) 0), u, (run_lss (ev_sl e56) (ev_const _ _) rfl), rfl, S⟩
              · intro a u X hB hu hp hr hz hl S
                replace S : St w u ([] ++ X) := S
                have e57 : sl a 57 = .bool (ltB ((p110.getD p139.2.toNat ((0, false) : Int × Bool)).1) 0) := hp 5 rfl
                exact .inl ⟨rfl, .bool (ltB ((p110.getD p139.2.toNat ((0, false) : Int × Bool)).1) 0), u, (run_move rfl (ev_sl e57)), rfl, S⟩
              · intro a u X hB hu hp hr hz hl S
                replace S : St w u ([] ++ X) := S
                have e58 : sl a 58 = .bool (ltB ((p110.getD p139.2.toNat ((0, false) : Int × Bool)).1) 0) := hp 6 rfl
                rcases (Bool.eq_false_or_eq_true (!(ltB ((p110.getD p139.2.toNat ((0, false) : Int × Bool)).1) 0))).symm with hg | hg
                · exact .inr (.inr (.inr ⟨gr_eg rfl (yf (gr_yield rfl rfl e58)) hg, (gv_f hg).symm, S⟩))
                · exact .inl ⟨gr_eg rfl (yf (gr_yield rfl rfl e58)) hg, .slice B111 p110.length d113, u, (run_move rfl (hF.evB hB rfl rfl)), (gv_t hg).symm, S⟩
              · intro a u X hB hu hp hr hz hl S
                replace S : St w u ([] ++ X) := S
                have e58 : sl a 58 = .bool (ltB ((p110.getD p139.2.toNat ((0, false) : Int × Bool)).1) 0) := hp 6 rfl
                rcases (Bool.eq_false_or_eq_true (!(ltB ((p110.getD p139.2.toNat ((0, false) : Int × Bool)).1) 0))).symm with hg | hg
                · exact .inr (.inr (.inr ⟨gr_eg rfl (yf (gr_yield rfl rfl e58)) hg, (gv_f hg).symm, S⟩))
                · exact .inl ⟨gr_eg rfl (yf (gr_yield rfl rfl e58)) hg, .int .i64 p139.2, u, (run_move rfl (hF.evB hB rfl rfl)), (gv_t hg).symm, S⟩
              · intro a u X hB hu hp hr hz hl S
                replace S : St w u ([] ++ X) := S
                have e58 : sl a 58 = .bool (ltB ((p110.getD p139.2.toNat ((0, false) : Int × Bool)).1) 0) := hp 6 rfl
                have e59 : sl a 59 = gv (!(ltB ((p110.getD p139.2.toNat ((0, false) : Int × Bool)).1) 0)) (.slice B111 p110.length d113) := hp 7 rfl
                have e60 : sl a 60 = gv (!(ltB ((p110.getD p139.2.toNat ((0, false) : Int × Bool)).1) 0)) (.int .i64 p139.2) := hp 8 rfl
                rcases (Bool.eq_false_or_eq_true (!(ltB ((p110.getD p139.2.toNat ((0, false) : Int × Bool)).1) 0))).symm with hg | hg
                · exact .inr (.inr (.inr ⟨gr_eg rfl (yf (gr_yield rfl rfl e58)) hg, (gv_f hg).symm, S⟩))
                · exact .inl ⟨gr_eg rfl (yf (gr_yield rfl rfl e58)) hg, .pointer (some ⟨adB B111, adO B111 + p139.2.toNat * 2, none⟩), u, (run_indexAddr (b := adB B111) (off := adO B111) rfl Tryd.underlying46 sz50 (((ev_sl e59).trans (gv_t hg)).trans (congrArg (fun A => Value.slice A p110.length d113) ((gr_rc S hl 2 rfl).rd.ad (ix_pos (hk143 hg))))) ((ev_sl e60).trans (gv_t hg)) (hk143 hg).1 (hk143 hg).2 (k' := adO B111 + p139.2.toNat * 2) rfl), (gv_t hg).symm, S⟩
              · intro a u X hB hu hp hr hz hl S
                replace S : St w u ([] ++ X) := S
                have e58 : sl a 58 = .bool (ltB ((p110.getD p139.2.toNat ((0, false) : Int × Bool)).1) 0) := hp 6 rfl
                have e61 : sl a 61 = gv (!(ltB ((p110.getD p139.2.toNat ((0, false) : Int × Bool)).1) 0)) (.pointer (some ⟨adB B111, adO B111 + p139.2.toNat * 2, none⟩)) := hp 9 rfl
                rcases (Bool.eq_false_or_eq_true (!(ltB ((p110.getD p139.2.toNat ((0, false) : Int × Bool)).1) 0))).symm with hg | hg
                · exact .inr (.inr (.inr ⟨gr_eg rfl (yf (gr_yield rfl rfl e58)) hg, (gv_f hg).symm, S⟩))
                · exact .inl ⟨gr_eg rfl (yf (gr_yield rfl rfl e58)) hg, .pointer (some ⟨adB B111, adO B111 + p139.2.toNat * 2, none⟩), u, (run_fieldAddr rfl fl50_0 ((ev_sl e61).trans (gv_t hg)) rfl), (gv_t hg).symm, S⟩
              · intro a u X hB hu hp hr hz hl S
                replace S : St w u ([] ++ X) := S
                have e58 : sl a 58 = .bool (ltB ((p110.getD p139.2.toNat ((0, false) : Int × Bool)).1) 0) := hp 6 rfl
                have e62 : sl a 62 = gv (!(ltB ((p110.getD p139.2.toNat ((0, false) : Int × Bool)).1) 0)) (.pointer (some ⟨adB B111, adO B111 + p139.2.toNat * 2, none⟩)) := hp 10 rfl
                rcases (Bool.eq_false_or_eq_true (!(ltB ((p110.getD p139.2.toNat ((0, false) : Int × Bool)).1) 0))).symm with hg | hg
                · exact .inr (.inr (.inr ⟨gr_eg rfl (yf (gr_yield rfl rfl e58)) hg, (gv_f hg).symm, S⟩))
                · exact .inl ⟨gr_eg rfl (yf (gr_yield rfl rfl e58)) hg, .int .i64 ((p110.getD p139.2.toNat ((0, false) : Int × Bool)).1), u, (run_load1 rfl one3 ((ev_sl e62).trans (gv_t hg)) (rd_el0 (l := p110) (gr_rc S hl 2 rfl).rd rfl eStep_len ((0, false) : Int × Bool) (ix_ltn (hk143 hg) rfl) rfl)), (gv_t hg).symm, S⟩
              · intro a u X hB hu hp hr hz hl S
                replace S : St w u ([] ++ X) := S
                have e58 : sl a 58 = .bool (ltB ((p110.getD p139.2.toNat ((0, false) : Int × Bool)).1) 0) := hp 6 rfl
                rcases (Bool.eq_false_or_eq_true (!(ltB ((p110.getD p139.2.toNat ((0, false) : Int × Bool)).1) 0))).symm with hg | hg
                · exact .inr (.inr (.inr ⟨gr_eg rfl (yf (gr_yield rfl rfl e58)) hg, (gv_f hg).symm, S⟩))
                · exact .inl ⟨gr_eg rfl (yf (gr_yield rfl rfl e58)) hg, .slice B132 (([] ++ p102.1).length) d133, u, (run_move rfl (hF.evB hB rfl rfl)), (gv_t hg).symm, S⟩
              · intro a u X hB hu hp hr hz hl S
                replace S : St w u ([] ++ X) := S
                have e58 : sl a 58 = .bool (ltB ((p110.getD p139.2.toNat ((0, false) : Int × Bool)).1) 0) := hp 6 rfl
                have e64 : sl a 64 = gv (!(ltB ((p110.getD p139.2.toNat ((0, false) : Int × Bool)).1) 0)) (.slice B132 (([] ++ p102.1).length) d133) := hp 12 rfl
                rcases (Bool.eq_false_or_eq_true (!(ltB ((p110.getD p139.2.toNat ((0, false) : Int × Bool)).1) 0))).symm with hg | hg
                · exact .inr (.inr (.inr ⟨gr_eg rfl (yf (gr_yield rfl rfl e58)) hg, (gv_f hg).symm, S⟩))
                · exact .inl ⟨gr_eg rfl (yf (gr_yield rfl rfl e58)) hg, .int .i64 ((([] ++ p102.1).length) : Int), u, (run_lenL rfl rfl Tryd.underlying23 ((ev_sl e64).trans (gv_t hg))), (gv_t hg).symm, S⟩
              · intro a u X hB hu hp hr hz hl S
                replace S : St w u ([] ++ X) := S
                have e58 : sl a 58 = .bool (ltB ((p110.getD p139.2.toNat ((0, false) : Int × Bool)).1) 0) := hp 6 rfl
                have e63 : sl a 63 = gv (!(ltB ((p110.getD p139.2.toNat ((0, false) : Int × Bool)).1) 0)) (.int .i64 ((p110.getD p139.2.toNat ((0, false) : Int × Bool)).1)) := hp 11 rfl
                have e65 : sl a 65 = gv (!(ltB ((p110.getD p139.2.toNat ((0, false) : Int × Bool)).1) 0)) (.int .i64 ((([] ++ p102.1).length) : Int)) := hp 13 rfl
                rcases (Bool.eq_false_or_eq_true (!(ltB ((p110.getD p139.2.toNat ((0, false) : Int × Bool)).1) 0))).symm with hg | hg
                · exact .inr (.inr (.inr ⟨gr_eg rfl (yf (gr_yield rfl rfl e58)) hg, (gv_f hg).symm, S⟩))
                · exact .inl ⟨gr_eg rfl (yf (gr_yield rfl rfl e58)) hg, .bool (leB ((([] ++ p102.1).length) : Int) ((p110.getD p139.2.toNat ((0, false) : Int × Bool)).1)), u, (run_geq ((ev_sl e63).trans (gv_t hg)) ((ev_sl e65).trans (gv_t hg)) rfl), (gv_t hg).symm, S⟩
              · intro a u X hB hu hp hr hz hl S
                replace S : St w u ([] ++ X) := S
                have e58 : sl a 58 = .bool (ltB ((p110.getD p139.2.toNat ((0, false) : Int × Bool)).1) 0) := hp 6 rfl
                have e66 : sl a 66 = gv (!(ltB ((p110.getD p139.2.toNat ((0, false) : Int × Bool)).1) 0)) (.bool (leB ((([] ++ p102.1).length) : Int) ((p110.getD p139.2.toNat ((0, false) : Int × Bool)).1))) := hp 14 rfl
                exact .inl ⟨rfl, .bool ((ltB ((p110.getD p139.2.toNat ((0, false) : Int × Bool)).1) 0) || (leB ((([] ++ p102.1).length) : Int) ((p110.getD p139.2.toNat ((0, false) : Int × Bool)).1))), u, (run_pick_or rfl (ev_sl e58) (ev_const _ _) (fun hp => ((ev_sl e66).trans (gv_t (not_t hp))))), rfl, S⟩
              · intro a u X hB hu hp hr hz hl S
                replace S : St w u ([] ++ X) := S
                have e67 : sl a 67 = .bool ((ltB ((p110.getD p139.2.toNat ((0, false) : Int × Bool)).1) 0) || (leB ((([] ++ p102.1).length) : Int) ((p110.getD p139.2.toNat ((0, false) : Int × Bool)).1))) := hp 15 rfl
                exact .inl ⟨rfl, .bool ((ltB ((p110.getD p139.2.toNat ((0, false) : Int × Bool)).1) 0) || (leB ((([] ++ p102.1).length) : Int) ((p110.getD p139.2.toNat ((0, false) : Int × Bool)).1))), u, (run_move rfl (ev_sl e67)), rfl, S⟩
              · intro a u X hB hu hp hr hz hl S
                replace S : St w u ([] ++ X) := S
                have e68 : sl a 68 = .bool ((ltB ((p110.getD p139.2.toNat ((0, false) : Int × Bool)).1) 0) || (leB ((([] ++ p102.1).length) : Int) ((p110.getD p139.2.toNat ((0, false) : Int × Bool)).1))) := hp 16 rfl
                rcases (Bool.eq_false_or_eq_true (!((ltB ((p110.getD p139.2.toNat ((0, false) : Int × Bool)).1) 0) || (leB ((([] ++ p102.1).length) : Int) ((p110.getD p139.2.toNat ((0, false) : Int × Bool)).1))))).symm with hg | hg
                · exact .inr (.inr (.inr ⟨gr_eg rfl (yf (gr_yield rfl rfl e68)) hg, (gv_f hg).symm, S⟩))
                · exact .inl ⟨gr_eg rfl (yf (gr_yield rfl rfl e68)) hg, .slice B132 (([] ++ p102.1).length) d133, u, (run_move rfl (hF.evB hB rfl rfl)), (gv_t hg).symm, S⟩
              · intro a u X hB hu hp hr hz hl S
                replace S : St w u ([] ++ X) := S
                have e68 : sl a 68 = .bool ((ltB ((p110.getD p139.2.toNat ((0, false) : Int × Bool)).1) 0) || (leB ((([] ++ p102.1).length) : Int) ((p110.getD p139.2.toNat ((0, false) : Int × Bool)).1))) := hp 16 rfl
                rcases (Bool.eq_false_or_eq_true (!((ltB ((p110.getD p139.2.toNat ((0, false) : Int × Bool)).1) 0) || (leB ((([] ++ p102.1).length) : Int) ((p110.getD p139.2.toNat ((0, false) : Int × Bool)).1))))).symm with hg | hg
                · exact .inr (.inr (.inr ⟨gr_eg rfl (yf (gr_yield rfl rfl e68)) hg, (gv_f hg).symm, S⟩))
                · exact .inl ⟨gr_eg rfl (yf (gr_yield rfl rfl e68)) hg, .slice B111 p110.length d113, u, (run_move rfl (hF.evB hB rfl rfl)), (gv_t hg).symm, S⟩
              · intro a u X hB hu hp hr hz hl S
                replace S : St w u ([] ++ X) := S
                have e68 : sl a 68 = .bool ((ltB ((p110.getD p139.2.toNat ((0, false) : Int × Bool)).1) 0) || (leB ((([] ++ p102.1).length) : Int) ((p110.getD p139.2.toNat ((0, false) : Int × Bool)).1))) := hp 16 rfl
                rcases (Bool.eq_false_or_eq_true (!((ltB ((p110.getD p139.2.toNat ((0, false) : Int × Bool)).1) 0) || (leB ((([] ++ p102.1).length) : Int) ((p110.getD p139.2.toNat ((0, false) : Int × Bool)).1))))).symm with hg | hg
                · exact .inr (.inr (.inr ⟨gr_eg rfl (yf (gr_yield rfl rfl e68)) hg, (gv_f hg).symm, S⟩))
                · exact .inl ⟨gr_eg rfl (yf (gr_yield rfl rfl e68)) hg, .int .i64 p139.2, u, (run_move rfl (hF.evB hB rfl rfl)), (gv_t hg).symm, S⟩
              · intro a u X hB hu hp hr hz hl S
                replace S : St w u ([] ++ X) := S
                have e68 : sl a 68 = .bool ((ltB ((p110.getD p139.2.toNat ((0, false) : Int × Bool)).1) 0) || (leB ((([] ++ p102.1).length) : Int) ((p110.getD p139.2.toNat ((0, false) : Int × Bool)).1))) := hp 16 rfl
                have e70 : sl a 70 = gv (!((ltB ((p110.getD p139.2.toNat ((0, false) : Int × Bool)).1) 0) || (leB ((([] ++ p102.1).length) : Int) ((p110.getD p139.2.toNat ((0, false) : Int × Bool)).1)))) (.slice B111 p110.length d113) := hp 18 rfl
                have e71 : sl a 71 = gv (!((ltB ((p110.getD p139.2.toNat ((0, false) : Int × Bool)).1) 0) || (leB ((([] ++ p102.1).length) : Int) ((p110.getD p139.2.toNat ((0, false) : Int × Bool)).1)))) (.int .i64 p139.2) := hp 19 rfl
                rcases (Bool.eq_false_or_eq_true (!((ltB ((p110.getD p139.2.toNat ((0, false) : Int × Bool)).1) 0) || (leB ((([] ++ p102.1).length) : Int) ((p110.getD p139.2.toNat ((0, false) : Int × Bool)).1))))).symm with hg | hg
                · exact .inr (.inr (.inr ⟨gr_eg rfl (yf (gr_yield rfl rfl e68)) hg, (gv_f hg).symm, S⟩))
                · exact .inl ⟨gr_eg rfl (yf (gr_yield rfl rfl e68)) hg, .pointer (some ⟨adB B111, adO B111 + p139.2.toNat * 2, none⟩), u, (run_indexAddr (b := adB B111) (off := adO B111) rfl Tryd.underlying46 sz50 (((ev_sl e70).trans (gv_t hg)).trans (congrArg (fun A => Value.slice A p110.length d113) ((gr_rc S hl 2 rfl).rd.ad (ix_pos (hk144 hg))))) ((ev_sl e71).trans (gv_t hg)) (hk144 hg).1 (hk144 hg).2 (k' := adO B111 + p139.2.toNat * 2) rfl), (gv_t hg).symm, S⟩
              · intro a u X hB hu hp hr hz hl S
                replace S : St w u ([] ++ X) := S
                have e68 : sl a 68 = .bool ((ltB ((p110.getD p139.2.toNat ((0, false) : Int × Bool)).1) 0) || (leB ((([] ++ p102.1).length) : Int) ((p110.getD p139.2.toNat ((0, false) : Int × Bool)).1))) := hp 16 rfl
                have e72 : sl a 72 = gv (!((ltB ((p110.getD p139.2.toNat ((0, false) : Int × Bool)).1) 0) || (leB ((([] ++ p102.1).length) : Int) ((p110.getD p139.2.toNat ((0, false) : Int × Bool)).1)))) (.pointer (some ⟨adB B111, adO B111 + p139.2.toNat * 2, none⟩)) := hp 20 rfl
                rcases (Bool.eq_false_or_eq_true (!((ltB ((p110.getD p139.2.toNat ((0, false) : Int × Bool)).1) 0) || (leB ((([] ++ p102.1).length) : Int) ((p110.getD p139.2.toNat ((0, false) : Int × Bool)).1))))).symm with hg | hg
                · exact .inr (.inr (.inr ⟨gr_eg rfl (yf (gr_yield rfl rfl e68)) hg, (gv_f hg).symm, S⟩))
                · exact .inl ⟨gr_eg rfl (yf (gr_yield rfl rfl e68)) hg, .pointer (some ⟨adB B111, adO B111 + p139.2.toNat * 2, none⟩), u, (run_fieldAddr rfl fl50_0 ((ev_sl e72).trans (gv_t hg)) rfl), (gv_t hg).symm, S⟩
              · intro a u X hB hu hp hr hz hl S
                replace S : St w u ([] ++ X) := S
                have e68 : sl a 68 = .bool ((ltB ((p110.getD p139.2.toNat ((0, false) : Int × Bool)).1) 0) || (leB ((([] ++ p102.1).length) : Int) ((p110.getD p139.2.toNat ((0, false) : Int × Bool)).1))) := hp 16 rfl
                have e73 : sl a 73 = gv (!((ltB ((p110.getD p139.2.toNat ((0, false) : Int × Bool)).1) 0) || (leB ((([] ++ p102.1).length) : Int) ((p110.getD p139.2.toNat ((0, false) : Int × Bool)).1)))) (.pointer (some ⟨adB B111, adO B111 + p139.2.toNat * 2, none⟩)) := hp 21 rfl
                rcases (Bool.eq_false_or_eq_true (!((ltB ((p110.getD p139.2.toNat ((0, false) : Int × Bool)).1) 0) || (leB ((([] ++ p102.1).length) : Int) ((p110.getD p139.2.toNat ((0, false) : Int × Bool)).1))))).symm with hg | hg
                · exact .inr (.inr (.inr ⟨gr_eg rfl (yf (gr_yield rfl rfl e68)) hg, (gv_f hg).symm, S⟩))
                · exact .inl ⟨gr_eg rfl (yf (gr_yield rfl rfl e68)) hg, .int .i64 ((p110.getD p139.2.toNat ((0, false) : Int × Bool)).1), u, (run_load1 rfl one3 ((ev_sl e73).trans (gv_t hg)) (rd_el0 (l := p110) (gr_rc S hl 2 rfl).rd rfl eStep_len ((0, false) : Int × Bool) (ix_ltn (hk144 hg) rfl) rfl)), (gv_t hg).symm, S⟩
              · intro a u X hB hu hp hr hz hl S
                replace S : St w u ([] ++ X) := S
                have e68 : sl a 68 = .bool ((ltB ((p110.getD p139.2.toNat ((0, false) : Int × Bool)).1) 0) || (leB ((([] ++ p102.1).length) : Int) ((p110.getD p139.2.toNat ((0, false) : Int × Bool)).1))) := hp 16 rfl
                have e69 : sl a 69 = gv (!((ltB ((p110.getD p139.2.toNat ((0, false) : Int × Bool)).1) 0) || (leB ((([] ++ p102.1).length) : Int) ((p110.getD p139.2.toNat ((0, false) : Int × Bool)).1)))) (.slice B132 (([] ++ p102.1).length) d133) := hp 17 rfl
                have e74 : sl a 74 = gv (!((ltB ((p110.getD p139.2.toNat ((0, false) : Int × Bool)).1) 0) || (leB ((([] ++ p102.1).length) : Int) ((p110.getD p139.2.toNat ((0, false) : Int × Bool)).1)))) (.int .i64 ((p110.getD p139.2.toNat ((0, false) : Int × Bool)).1)) := hp 22 rfl
                rcases (Bool.eq_false_or_eq_true (!((ltB ((p110.getD p139.2.toNat ((0, false) : Int × Bool)).1) 0) || (leB ((([] ++ p102.1).length) : Int) ((p110.getD p139.2.toNat ((0, false) : Int × Bool)).1))))).symm with hg | hg
                · exact .inr (.inr (.inr ⟨gr_eg rfl (yf (gr_yield rfl rfl e68)) hg, (gv_f hg).symm, S⟩))
                · exact .inl ⟨gr_eg rfl (yf (gr_yield rfl rfl e68)) hg, .pointer (some ⟨adB B132, adO B132 + (((p110.getD p139.2.toNat ((0, false) : Int × Bool)).1).toNat) * 1, none⟩), u, (run_indexAddr (b := adB B132) (off := adO B132) rfl Tryd.underlying23 sz4 (((ev_sl e69).trans (gv_t hg)).trans (congrArg (fun A => Value.slice A (([] ++ p102.1).length) d133) ((gr_rc S hl 3 rfl).rd.ad (ix_pos (hk145 hg))))) ((ev_sl e74).trans (gv_t hg)) (hk145 hg).1 (hk145 hg).2 (k' := adO B132 + (((p110.getD p139.2.toNat ((0, false) : Int × Bool)).1).toNat) * 1) rfl), (gv_t hg).symm, S⟩
              · intro a u X hB hu hp hr hz hl S
                replace S : St w u ([] ++ X) := S
                have e68 : sl a 68 = .bool ((ltB ((p110.getD p139.2.toNat ((0, false) : Int × Bool)).1) 0) || (leB ((([] ++ p102.1).length) : Int) ((p110.getD p139.2.toNat ((0, false) : Int × Bool)).1))) := hp 16 rfl
                have e75 : sl a 75 = gv (!((ltB ((p110.getD p139.2.toNat ((0, false) : Int × Bool)).1) 0) || (leB ((([] ++ p102.1).length) : Int) ((p110.getD p139.2.toNat ((0, false) : Int × Bool)).1)))) (.pointer (some ⟨adB B132, adO B132 + (((p110.getD p139.2.toNat ((0, false) : Int × Bool)).1).toNat) * 1, none⟩)) := hp 23 rfl
                rcases (Bool.eq_false_or_eq_true (!((ltB ((p110.getD p139.2.toNat ((0, false) : Int × Bool)).1) 0) || (leB ((([] ++ p102.1).length) : Int) ((p110.getD p139.2.toNat ((0, false) : Int × Bool)).1))))).symm with hg | hg
                · exact .inr (.inr (.inr ⟨gr_eg rfl (yf (gr_yield rfl rfl e68)) hg, (gv_f hg).symm, S⟩))
                · exact .inl ⟨gr_eg rfl (yf (gr_yield rfl rfl e68)) hg, .bool (p139.1.getD (((p110.getD p139.2.toNat ((0, false) : Int × Bool)).1).toNat) false), u, (run_load1 rfl one4 ((ev_sl e75).trans (gv_t hg)) (rd_el0 (l := p139.1) (gr_rc S hl 3 rfl).rd hn140 eB_len false (ix_ltn (hk145 hg) hn140) rfl)), (gv_t hg).symm, S⟩
              · intro a u X hB hu hp hr hz hl S
                replace S : St w u ([] ++ X) := S
                have e68 : sl a 68 = .bool ((ltB ((p110.getD p139.2.toNat ((0, false) : Int × Bool)).1) 0) || (leB ((([] ++ p102.1).length) : Int) ((p110.getD p139.2.toNat ((0, false) : Int × Bool)).1))) := hp 16 rfl
                rcases (Bool.eq_false_or_eq_true (!((ltB ((p110.getD p139.2.toNat ((0, false) : Int × Bool)).1) 0) || (leB ((([] ++ p102.1).length) : Int) ((p110.getD p139.2.toNat ((0, false) : Int × Bool)).1))))).symm with hg | hg
                · exact .inr (.inr (.inr ⟨gr_eg rfl (yf (gr_yield rfl rfl e68)) hg, (gv_f hg).symm, S⟩))
                · exact .inl ⟨gr_eg rfl (yf (gr_yield rfl rfl e68)) hg, .slice B111 p110.length d113, u, (run_move rfl (hF.evB hB rfl rfl)), (gv_t hg).symm, S⟩
              · intro a u X hB hu hp hr hz hl S
                replace S : St w u ([] ++ X) := S
                have e68 : sl a 68 = .bool ((ltB ((p110.getD p139.2.toNat ((0, false) : Int × Bool)).1) 0) || (leB ((([] ++ p102.1).length) : Int) ((p110.getD p139.2.toNat ((0, false) : Int × Bool)).1))) := hp 16 rfl
                rcases (Bool.eq_false_or_eq_true (!((ltB ((p110.getD p139.2.toNat ((0, false) : Int × Bool)).1) 0) || (leB ((([] ++ p102.1).length) : Int) ((p110.getD p139.2.toNat ((0, false) : Int × Bool)).1))))).symm with hg | hg
                · exact .inr (.inr (.inr ⟨gr_eg rfl (yf (gr_yield rfl rfl e68)) hg, (gv_f hg).symm, S⟩))
                · exact .inl ⟨gr_eg rfl (yf (gr_yield rfl rfl e68)) hg, .int .i64 p139.2, u, (run_move rfl (hF.evB hB rfl rfl)), (gv_t hg).symm, S⟩
              · intro a u X hB hu hp hr hz hl S
                replace S : St w u ([] ++ X) := S
                have e68 : sl a 68 = .bool ((ltB ((p110.getD p139.2.toNat ((0, false) : Int × Bool)).1) 0) || (leB ((([] ++ p102.1).length) : Int) ((p110.getD p139.2.toNat ((0, false) : Int × Bool)).1))) := hp 16 rfl
                have e77 : sl a 77 = gv (!((ltB ((p110.getD p139.2.toNat ((0, false) : Int × Bool)).1) 0) || (leB ((([] ++ p102.1).length) : Int) ((p110.getD p139.2.toNat ((0, false) : Int × Bool)).1)))) (.slice B111 p110.length d113) := hp 25 rfl
                have e78 : sl a 78 = gv (!((ltB ((p110.getD p139.2.toNat ((0, false) : Int × Bool)).1) 0) || (leB ((([] ++ p102.1).length) : Int) ((p110.getD p139.2.toNat ((0, false) : Int × Bool)).1)))) (.int .i64 p139.2) := hp 26 rfl
                rcases (Bool.eq_false_or_eq_true (!((ltB ((p110.getD p139.2.toNat ((0, false) : Int × Bool)).1) 0) || (leB ((([] ++ p102.1).length) : Int) ((p110.getD p139.2.toNat ((0, false) : Int × Bool)).1))))).symm with hg | hg
                · exact .inr (.inr (.inr ⟨gr_eg rfl (yf (gr_yield rfl rfl e68)) hg, (gv_f hg).symm, S⟩))
                · exact .inl ⟨gr_eg rfl (yf (gr_yield rfl rfl e68)) hg, .pointer (some ⟨adB B111, adO B111 + p139.2.toNat * 2, none⟩), u, (run_indexAddr (b := adB B111) (off := adO B111) rfl Tryd.underlying46 sz50 (((ev_sl e77).trans (gv_t hg)).trans (congrArg (fun A => Value.slice A p110.length d113) ((gr_rc S hl 2 rfl).rd.ad (ix_pos (hk146 hg))))) ((ev_sl e78).trans (gv_t hg)) (hk146 hg).1 (hk146 hg).2 (k' := adO B111 + p139.2.toNat * 2) rfl), (gv_t hg).symm, S⟩
              · intro a u X hB hu hp hr hz hl S
                replace S : St w u ([] ++ X) := S
                have e68 : sl a 68 = .bool ((ltB ((p110.getD p139.2.toNat ((0, false) : Int × Bool)).1) 0) || (leB ((([] ++ p102.1).length) : Int) ((p110.getD p139.2.toNat ((0, false) : Int × Bool)).1))) := hp 16 rfl
                have e79 : sl a 79 = gv (!((ltB ((p110.getD p139.2.toNat ((0, false) : Int × Bool)).1) 0) || (leB ((([] ++ p102.1).length) : Int) ((p110.getD p139.2.toNat ((0, false) : Int × Bool)).1)))) (.pointer (some ⟨adB B111, adO B111 + p139.2.toNat * 2, none⟩)) := hp 27 rfl
                rcases (Bool.eq_false_or_eq_true (!((ltB ((p110.getD p139.2.toNat ((0, false) : Int × Bool)).1) 0) || (leB ((([] ++ p102.1).length) : Int) ((p110.getD p139.2.toNat ((0, false) : Int × Bool)).1))))).symm with hg | hg
                · exact .inr (.inr (.inr ⟨gr_eg rfl (yf (gr_yield rfl rfl e68)) hg, (gv_f hg).symm, S⟩))
                · exact .inl ⟨gr_eg rfl (yf (gr_yield rfl rfl e68)) hg, .pointer (some ⟨adB B111, adO B111 + p139.2.toNat * 2 + 1, none⟩), u, (run_fieldAddr rfl fl50_1 ((ev_sl e79).trans (gv_t hg)) rfl), (gv_t hg).symm, S⟩
              · intro a u X hB hu hp hr hz hl S
                replace S : St w u ([] ++ X) := S
                have e68 : sl a 68 = .bool ((ltB ((p110.getD p139.2.toNat ((0, false) : Int × Bool)).1) 0) || (leB ((([] ++ p102.1).length) : Int) ((p110.getD p139.2.toNat ((0, false) : Int × Bool)).1))) := hp 16 rfl
                have e80 : sl a 80 = gv (!((ltB ((p110.getD p139.2.toNat ((0, false) : Int × Bool)).1) 0) || (leB ((([] ++ p102.1).length) : Int) ((p110.getD p139.2.toNat ((0, false) : Int × Bool)).1)))) (.pointer (some ⟨adB B111, adO B111 + p139.2.toNat * 2 + 1, none⟩)) := hp 28 rfl
                rcases (Bool.eq_false_or_eq_true (!((ltB ((p110.getD p139.2.toNat ((0, false) : Int × Bool)).1) 0) || (leB ((([] ++ p102.1).length) : Int) ((p110.getD p139.2.toNat ((0, false) : Int × Bool)).1))))).symm with hg | hg
                · exact .inr (.inr (.inr ⟨gr_eg rfl (yf (gr_yield rfl rfl e68)) hg, (gv_f hg).symm, S⟩))
                · exact .inl ⟨gr_eg rfl (yf (gr_yield rfl rfl e68)) hg, .bool ((p110.getD p139.2.toNat ((0, false) : Int × Bool)).2), u, (run_load1 rfl one4 ((ev_sl e80).trans (gv_t hg)) (rd_el (l := p110) (gr_rc S hl 2 rfl).rd rfl eStep_len ((0, false) : Int × Bool) (ix_ltn (hk146 hg) rfl) rfl)), (gv_t hg).symm, S⟩
              · intro a u X hB hu hp hr hz hl S
                replace S : St w u ([] ++ X) := S
                have e68 : sl a 68 = .bool ((ltB ((p110.getD p139.2.toNat ((0, false) : Int × Bool)).1) 0) || (leB ((([] ++ p102.1).length) : Int) ((p110.getD p139.2.toNat ((0, false) : Int × Bool)).1))) := hp 16 rfl
                have e76 : sl a 76 = gv (!((ltB ((p110.getD p139.2.toNat ((0, false) : Int × Bool)).1) 0) || (leB ((([] ++ p102.1).length) : Int) ((p110.getD p139.2.toNat ((0, false) : Int × Bool)).1)))) (.bool (p139.1.getD (((p110.getD p139.2.toNat ((0, false) : Int × Bool)).1).toNat) false)) := hp 24 rfl
                have e81 : sl a 81 = gv (!((ltB ((p110.getD p139.2.toNat ((0, false) : Int × Bool)).1) 0) || (leB ((([] ++ p102.1).length) : Int) ((p110.getD p139.2.toNat ((0, false) : Int × Bool)).1)))) (.bool ((p110.getD p139.2.toNat ((0, false) : Int × Bool)).2)) := hp 29 rfl
                rcases (Bool.eq_false_or_eq_true (!((ltB ((p110.getD p139.2.toNat ((0, false) : Int × Bool)).1) 0) || (leB ((([] ++ p102.1).length) : Int) ((p110.getD p139.2.toNat ((0, false) : Int × Bool)).1))))).symm with hg | hg
                · exact .inr (.inr (.inr ⟨gr_eg rfl (yf (gr_yield rfl rfl e68)) hg, (gv_f hg).symm, S⟩))
                · exact .inl ⟨gr_eg rfl (yf (gr_yield rfl rfl e68)) hg, .bool ((p139.1.getD (((p110.getD p139.2.toNat ((0, false) : Int × Bool)).1).toNat) false) == ((p110.getD p139.2.toNat ((0, false) : Int × Bool)).2)), u, (run_eqlB ((ev_sl e76).trans (gv_t hg)) ((ev_sl e81).trans (gv_t hg)) Tryd.underlying4 rfl), (gv_t hg).symm, S⟩
              · intro a u X hB hu hp hr hz hl S
                replace S : St w u ([] ++ X) := S
                have e68 : sl a 68 = .bool ((ltB ((p110.getD p139.2.toNat ((0, false) : Int × Bool)).1) 0) || (leB ((([] ++ p102.1).length) : Int) ((p110.getD p139.2.toNat ((0, false) : Int × Bool)).1))) := hp 16 rfl
                have e82 : sl a 82 = gv (!((ltB ((p110.getD p139.2.toNat ((0, false) : Int × Bool)).1) 0) || (leB ((([] ++ p102.1).length) : Int) ((p110.getD p139.2.toNat ((0, false) : Int × Bool)).1)))) (.bool ((p139.1.getD (((p110.getD p139.2.toNat ((0, false) : Int × Bool)).1).toNat) false) == ((p110.getD p139.2.toNat ((0, false) : Int × Bool)).2))) := hp 30 rfl
                exact .inl ⟨rfl, .bool (((ltB ((p110.getD p139.2.toNat ((0, false) : Int × Bool)).1) 0) || (leB ((([] ++ p102.1).length) : Int) ((p110.getD p139.2.toNat ((0, false) : Int × Bool)).1))) || ((p139.1.getD (((p110.getD p139.2.toNat ((0, false) : Int × Bool)).1).toNat) false) == ((p110.getD p139.2.toNat ((0, false) : Int × Bool)).2))), u, (run_pick_or rfl (ev_sl e68) (ev_const _ _) (fun hp => ((ev_sl e82).trans (gv_t (not_t hp))))), rfl, S⟩
            · intro a u hB hp S
              obtain ⟨q0, q1, q2, q3, q4, q5, q6, q7, q8, q9, q10, q11, q12, q13, q14, q15, q16, q17, q18, q19, q20, q21, q22, q23, q24, q25, q26, q27, q28, q29, q30, q31, _⟩ := hp
              have e52 : sl a 52 = .slice B111 p110.length d113 := q0
              have e53 : sl a 53 = .int .i64 p139.2 := q1
              have e54 : sl a 54 = .pointer (some ⟨adB B111, adO B111 + p139.2.toNat * 2, none⟩) := q2
              have e55 : sl a 55 = .pointer (some ⟨adB B111, adO B111 + p139.2.toNat * 2, none⟩) := q3
              have e56 : sl a 56 = .int .i64 ((p110.getD p139.2.toNat ((0, false) : Int × Bool)).1) := q4
              have e57 : sl a 57 = .bool (ltB ((p110.getD p139.2.toNat ((0, false) : Int × Bool)).1) 0) := q5
              have e58 : sl a 58 = .bool (ltB ((p110.getD p139.2.toNat ((0, false) : Int × Bool)).1) 0) := q6
              have e59 : sl a 59 = gv (!(ltB ((p110.getD p139.2.toNat ((0, false) : Int × Bool)).1) 0)) (.slice B111 p110.length d113) := q7
              have e60 : sl a 60 = gv (!(ltB ((p110.getD p139.2.toNat ((0, false) : Int × Bool)).1) 0)) (.int .i64 p139.2) := q8
              have e61 : sl a 61 = gv (!(ltB ((p110.getD p139.2.toNat ((0, false) : Int × Bool)).1) 0)) (.pointer (some ⟨adB B111, adO B111 + p139.2.toNat * 2, none⟩)) := q9
              have e62 : sl a 62 = gv (!(ltB ((p110.getD p139.2.toNat ((0, false) : Int × Bool)).1) 0)) (.pointer (some ⟨adB B111, adO B111 + p139.2.toNat * 2, none⟩)) := q10
              have e63 : sl a 63 = gv (!(ltB ((p110.getD p139.2.toNat ((0, false) : Int × Bool)).1) 0)) (.int .i64 ((p110.getD p139.2.toNat ((0, false) : Int × Bool)).1)) := q11
              have e64 : sl a 64 = gv (!(ltB ((p110.getD p139.2.toNat ((0, false) : Int × Bool)).1) 0)) (.slice B132 (([] ++ p102.1).length) d133) := q12
              have e65 : sl a 65 = gv (!(ltB ((p110.getD p139.2.toNat ((0, false) : Int × Bool)).1) 0)) (.int .i64 ((([] ++ p102.1).length) : Int)) := q13
              have e66 : sl a 66 = gv (!(ltB ((p110.getD p139.2.toNat ((0, false) : Int × Bool)).1) 0)) (.bool (leB ((([] ++ p102.1).length) : Int) ((p110.getD p139.2.toNat ((0, false) : Int × Bool)).1))) := q14
              have e67 : sl a 67 = .bool ((ltB ((p110.getD p139.2.toNat ((0, false) : Int × Bool)).1) 0) || (leB ((([] ++ p102.1).length) : Int) ((p110.getD p139.2.toNat ((0, false) : Int × Bool)).1))) := q15
              have e68 : sl a 68 = .bool ((ltB ((p110.getD p139.2.toNat ((0, false) : Int × Bool)).1) 0) || (leB ((([] ++ p102.1).length) : Int) ((p110.getD p139.2.toNat ((0, false) : Int × Bool)).1))) := q16
              have e69 : sl a 69 = gv (!((ltB ((p110.getD p139.2.toNat ((0, false) : Int × Bool)).1) 0) || (leB ((([] ++ p102.1).length) : Int) ((p110.getD p139.2.toNat ((0, false) : Int × Bool)).1)))) (.slice B132 (([] ++ p102.1).length) d133) := q17
              have e70 : sl a 70 = gv (!((ltB ((p110.getD p139.2.toNat ((0, false) : Int × Bool)).1) 0) || (leB ((([] ++ p102.1).length) : Int) ((p110.getD p139.2.toNat ((0, false) : Int × Bool)).1)))) (.slice B111 p110.length d113) := q18
              have e71 : sl a 71 = gv (!((ltB ((p110.getD p139.2.toNat ((0, false) : Int × Bool)).1) 0) || (leB ((([] ++ p102.1).length) : Int) ((p110.getD p139.2.toNat ((0, false) : Int × Bool)).1)))) (.int .i64 p139.2) := q19
              have e72 : sl a 72 = gv (!((ltB ((p110.getD p139.2.toNat ((0, false) : Int × Bool)).1) 0) || (leB ((([] ++ p102.1).length) : Int) ((p110.getD p139.2.toNat ((0, false) : Int × Bool)).1)))) (.pointer (some ⟨adB B111, adO B111 + p139.2.toNat * 2, none⟩)) := q20
              have e73 : sl a 73 = gv (!((ltB ((p110.getD p139.2.toNat ((0, false) : Int × Bool)).1) 0) || (leB ((([] ++ p102.1).length) : Int) ((p110.getD p139.2.toNat ((0, false) : Int × Bool)).1)))) (.pointer (some ⟨adB B111, adO B111 + p139.2.toNat * 2, none⟩)) := q21
              have e74 : sl a 74 = gv (!((ltB ((p110.getD p139.2.toNat ((0, false) : Int × Bool)).1) 0) || (leB ((([] ++ p102.1).length) : Int) ((p110.getD p139.2.toNat ((0, false) : Int × Bool)).1)))) (.int .i64 ((p110.getD p139.2.toNat ((0, false) : Int × Bool)).1)) := q22
              have e75 : sl a 75 = gv (!((ltB ((p110.getD p139.2.toNat ((0, false) : Int × Bool)).1) 0) || (leB ((([] ++ p102.1).length) : Int) ((p110.getD p139.2.toNat ((0, false) : Int × Bool)).1)))) (.pointer (some ⟨adB B132, adO B132 + (((p110.getD p139.2.toNat ((0, false) : Int × Bool)).1).toNat) * 1, none⟩)) := q23
              have e76 : sl a 76 = gv (!((ltB ((p110.getD p139.2.toNat ((0, false) : Int × Bool)).1) 0) || (leB ((([] ++ p102.1).length) : Int) ((p110.getD p139.2.toNat ((0, false) : Int × Bool)).1)))) (.bool (p139.1.getD (((p110.getD p139.2.toNat ((0, false) : Int × Bool)).1).toNat) false)) := q24
              have e77 : sl a 77 = gv (!((ltB ((p110.getD p139.2.toNat ((0, false) : Int × Bool)).1) 0) || (leB ((([] ++ p102.1).length) : Int) ((p110.getD p139.2.toNat ((0, false) : Int × Bool)).1)))) (.slice B111 p110.length d113) := q25
              have e78 : sl a 78 = gv (!((ltB ((p110.getD p139.2.toNat ((0, false) : Int × Bool)).1) 0) || (leB ((([] ++ p102.1).length) : Int) ((p110.getD p139.2.toNat ((0, false) : Int × Bool)).1)))) (.int .i64 p139.2) := q26
              have e79 : sl a 79 = gv (!((ltB ((p110.getD p139.2.toNat ((0, false) : Int × Bool)).1) 0) || (leB ((([] ++ p102.1).length) : Int) ((p110.getD p139.2.toNat ((0, false) : Int × Bool)).1)))) (.pointer (some ⟨adB B111, adO B111 + p139.2.toNat * 2, none⟩)) := q27
              have e80 : sl a 80 = gv (!((ltB ((p110.getD p139.2.toNat ((0, false) : Int × Bool)).1) 0) || (leB ((([] ++ p102.1).length) : Int) ((p110.getD p139.2.toNat ((0, false) : Int × Bool)).1)))) (.pointer (some ⟨adB B111, adO B111 + p139.2.toNat * 2 + 1, none⟩)) := q28
              have e81 : sl a 81 = gv (!((ltB ((p110.getD p139.2.toNat ((0, false) : Int × Bool)).1) 0) || (leB ((([] ++ p102.1).length) : Int) ((p110.getD p139.2.toNat ((0, false) : Int × Bool)).1)))) (.bool ((p110.getD p139.2.toNat ((0, false) : Int × Bool)).2)) := q29
              have e82 : sl a 82 = gv (!((ltB ((p110.getD p139.2.toNat ((0, false) : Int × Bool)).1) 0) || (leB ((([] ++ p102.1).length) : Int) ((p110.getD p139.2.toNat ((0, false) : Int × Bool)).1)))) (.bool ((p139.1.getD (((p110.getD p139.2.toNat ((0, false) : Int × Bool)).1).toNat) false) == ((p110.getD p139.2.toNat ((0, false) : Int × Bool)).2))) := q30
              have e83 : sl a 83 = .bool (((ltB ((p110.getD p139.2.toNat ((0, false) : Int × Bool)).1) 0) || (leB ((([] ++ p102.1).length) : Int) ((p110.getD p139.2.toNat ((0, false) : Int × Bool)).1))) || ((p139.1.getD (((p110.getD p139.2.toNat ((0, false) : Int × Bool)).1).toNat) false) == ((p110.getD p139.2.toNat ((0, false) : Int × Bool)).2))) := q31
              replace S : St w u [.box g130 25 #[.slice B124 p123.1.length d126, .int .i64 p123.2.1, .int .i64 p123.2.2.1, .bool p123.2.2.2.1, .int .i64 p123.2.2.2.2.1], .box g109 25 #[.slice B103 p102.1.length d105, .int .i64 p102.2.1, .int .i64 p102.2.2.1, .bool p102.2.2.2.1, .int .i64 p102.2.2.2.2.1], .row 50 2 (.slice B111 p110.length d113) p110.length (p110.flatMap eStep), .row 4 1 (.slice B132 (([] ++ p102.1).length) d133) (([] ++ p102.1).length) (p139.1.flatMap eB), .row 4 1 (.slice B124 p123.1.length d126) p123.1.length (p123.1.flatMap eB), .part 1 (.slice B103 p102.1.length d105) p102.1.length (p102.1.flatMap eB)] := S
              clear q0 q1 q2 q3 q4 q5 q6 q7 q8 q9 q10 q11 q12 q13 q14 q15 q16 q17 q18 q19 q20 q21 q22 q23 q24 q25 q26 q27 q28 q29 q30 q31
              have hF := hF.region hB [(52, .slice B111 p110.length d113), (53, .int .i64 p139.2), (54, .pointer (some ⟨adB B111, adO B111 + p139.2.toNat * 2, none⟩)), (55, .pointer (some ⟨adB B111, adO B111 + p139.2.toNat * 2, none⟩)), (56, .int .i64 ((p110.getD p139.2.toNat ((0, false) : Int × Bool)).1)), (57, .bool (ltB ((p110.getD p139.2.toNat ((0, false) : Int × Bool)).1) 0)), (58, .bool (ltB ((p110.getD p139.2.toNat ((0, false) : Int × Bool)).1) 0)), (59, gv (!(ltB ((p110.getD p139.2.toNat ((0, false) : Int × Bool)).1) 0)) (.slice B111 p110.length d113)), (60, gv (!(ltB ((p110.getD p139.2.toNat ((0, false) : Int × Bool)).1) 0)) (.int .i64 p139.2)), (61, gv (!(ltB ((p110.getD p139.2.toNat ((0, false) : Int × Bool)).1) 0)) (.pointer (some ⟨adB B111, adO B111 + p139.2.toNat * 2, none⟩))), (62, gv (!(ltB ((p110.getD p139.2.toNat ((0, false) : Int × Bool)).1) 0)) (.pointer (some ⟨adB B111, adO B111 + p139.2.toNat * 2, none⟩))), (63, gv (!(ltB ((p110.getD p139.2.toNat ((0, false) : Int × Bool)).1) 0)) (.int .i64 ((p110.getD p139.2.toNat ((0, false) : Int × Bool)).1))), (64, gv (!(ltB ((p110.getD p139.2.toNat ((0, false) : Int × Bool)).1) 0)) (.slice B132 (([] ++ p102.1).length) d133)), (65, gv (!(ltB ((p110.getD p139.2.toNat ((0, false) : Int × Bool)).1) 0)) (.int .i64 ((([] ++ p102.1).length) : Int))), (66, gv (!(ltB ((p110.getD p139.2.toNat ((0, false) : Int × Bool)).1) 0)) (.bool (leB ((([] ++ p102.1).length) : Int) ((p110.getD p139.2.toNat ((0, false) : Int × Bool)).1)))), (67, .bool ((ltB ((p110.getD p139.2.toNat ((0, false) : Int × Bool)).1) 0) || (leB ((([] ++ p102.1).length) : Int) ((p110.getD p139.2.toNat ((0, false) : Int × Bool)).1)))), (68, .bool ((ltB ((p110.getD p139.2.toNat ((0, false) : Int × Bool)).1) 0) || (leB ((([] ++ p102.1).length) : Int) ((p110.getD p139.2.toNat ((0, false) : Int × Bool)).1)))), (69, gv (!((ltB ((p110.getD p139.2.toNat ((0, false) : Int × Bool)).1) 0) || (leB ((([] ++ p102.1).length) : Int) ((p110.getD p139.2.toNat ((0, false) : Int × Bool)).1)))) (.slice B132 (([] ++ p102.1).length) d133)), (70, gv (!((ltB ((p110.getD p139.2.toNat ((0, false) : Int × Bool)).1) 0) || (leB ((([] ++ p102.1).length) : Int) ((p110.getD p139.2.toNat ((0, false) : Int × Bool)).1)))) (.slice B111 p110.length d113)), (71, gv (!((ltB ((p110.getD p139.2.toNat ((0, false) : Int × Bool)).1) 0) || (leB ((([] ++ p102.1).length) : Int) ((p110.getD p139.2.toNat ((0, false) : Int × Bool)).1)))) (.int .i64 p139.2)), (72, gv (!((ltB ((p110.getD p139.2.toNat ((0, false) : Int × Bool)).1) 0) || (leB ((([] ++ p102.1).length) : Int) ((p110.getD p139.2.toNat ((0, false) : Int × Bool)).1)))) (.pointer (some ⟨adB B111, adO B111 + p139.2.toNat * 2, none⟩))), (73, gv (!((ltB ((p110.getD p139.2.toNat ((0, false) : Int × Bool)).1) 0) || (leB ((([] ++ p102.1).length) : Int) ((p110.getD p139.2.toNat ((0, false) : Int × Bool)).1)))) (.pointer (some ⟨adB B111, adO B111 + p139.2.toNat * 2, none⟩))), (74, gv (!((ltB ((p110.getD p139.2.toNat ((0, false) : Int × Bool)).1) 0) || (leB ((([] ++ p102.1).length) : Int) ((p110.getD p139.2.toNat ((0, false) : Int × Bool)).1)))) (.int .i64 ((p110.getD p139.2.toNat ((0, false) : Int × Bool)).1))), (75, gv (!((ltB ((p110.getD p139.2.toNat ((0, false) : Int × Bool)).1) 0) || (leB ((([] ++ p102.1).length) : Int) ((p110.getD p139.2.toNat ((0, false) : Int × Bool)).1)))) (.pointer (some ⟨adB B132, adO B132 + (((p110.getD p139.2.toNat ((0, false) : Int × Bool)).1).toNat) * 1, none⟩))), (76, gv (!((ltB ((p110.getD p139.2.toNat ((0, false) : Int × Bool)).1) 0) || (leB ((([] ++ p102.1).length) : Int) ((p110.getD p139.2.toNat ((0, false) : Int × Bool)).1)))) (.bool (p139.1.getD (((p110.getD p139.2.toNat ((0, false) : Int × Bool)).1).toNat) false))), (77, gv (!((ltB ((p110.getD p139.2.toNat ((0, false) : Int × Bool)).1) 0) || (leB ((([] ++ p102.1).length) : Int) ((p110.getD p139.2.toNat ((0, false) : Int × Bool)).1)))) (.slice B111 p110.length d113)), (78, gv (!((ltB ((p110.getD p139.2.toNat ((0, false) : Int × Bool)).1) 0) || (leB ((([] ++ p102.1).length) : Int) ((p110.getD p139.2.toNat ((0, false) : Int × Bool)).1)))) (.int .i64 p139.2)), (79, gv (!((ltB ((p110.getD p139.2.toNat ((0, false) : Int × Bool)).1) 0) || (leB ((([] ++ p102.1).length) : Int) ((p110.getD p139.2.toNat ((0, false) : Int × Bool)).1)))) (.pointer (some ⟨adB B111, adO B111 + p139.2.toNat * 2, none⟩))), (80, gv (!((ltB ((p110.getD p139.2.toNat ((0, false) : Int × Bool)).1) 0) || (leB ((([] ++ p102.1).length) : Int) ((p110.getD p139.2.toNat ((0, false) : Int × Bool)).1)))) (.pointer (some ⟨adB B111, adO B111 + p139.2.toNat * 2 + 1, none⟩))), (81, gv (!((ltB ((p110.getD p139.2.toNat ((0, false) : Int × Bool)).1) 0) || (leB ((([] ++ p102.1).length) : Int) ((p110.getD p139.2.toNat ((0, false) : Int × Bool)).1)))) (.bool ((p110.getD p139.2.toNat ((0, false) : Int × Bool)).2))), (82, gv (!((ltB ((p110.getD p139.2.toNat ((0, false) : Int × Bool)).1) 0) || (leB ((([] ++ p102.1).length) : Int) ((p110.getD p139.2.toNat ((0, false) : Int × Bool)).1)))) (.bool ((p139.1.getD (((p110.getD p139.2.toNat ((0, false) : Int × Bool)).1).toNat) false) == ((p110.getD p139.2.toNat ((0, false) : Int × Bool)).2)))), (83, .bool (((ltB ((p110.getD p139.2.toNat ((0, false) : Int × Bool)).1) 0) || (leB ((([] ++ p102.1).length) : Int) ((p110.getD p139.2.toNat ((0, false) : Int × Bool)).1))) || ((p139.1.getD (((p110.getD p139.2.toNat ((0, false) : Int × Bool)).1).toNat) false) == ((p110.getD p139.2.toNat ((0, false) : Int × Bool)).2))))] (allSl_mem ⟨e52, e53, e54, e55, e56, e57, e58, e59, e60, e61, e62, e63, e64, e65, e66, e67, e68, e69, e70, e71, e72, e73, e74, e75, e76, e77, e78, e79, e80, e81, e82, e83, trivial⟩) rfl
              clear hB e52 e53 e54 e55 e56 e57 e58 e59 e60 e61 e62 e63 e64 e65 e66 e67 e68 e69 e70 e71 e72 e73 e74 e75 e76 e77 e78 e79 e80 e81 e82 e83
              cases hc147 : (((ltB ((p110.getD p139.2.toNat ((0, false) : Int × Bool)).1) 0) || (leB ((([] ++ p102.1).length) : Int) ((p110.getD p139.2.toNat ((0, false) : Int × Bool)).1))) || ((p139.1.getD (((p110.getD p139.2.toNat ((0, false) : Int × Bool)).1).toNat) false) == ((p110.getD p139.2.toNat ((0, false) : Int × Bool)).2)))
              · replace hM138 := bif_f hc147 hM138
                refine cond_f hF rfl hc147 ?_
                refine wp_skip ?_
                obtain ⟨hk148, hM138⟩ := chk_ex hM138
                replace hk148 := ixB_t hk148
                obtain ⟨hk149, hM138⟩ := chk_ex hM138
                replace hk149 := ixB_t hk149
                obtain ⟨hk150, hM138⟩ := chk_ex hM138
                replace hk150 := ixB_t hk150
                refine region_gw (D := [84, 85, 86, 87, 88, 89, 90, 91, 92, 93, 94, 95]) (Lr := [.box g130 25 #[.slice B124 p123.1.length d126, .int .i64 p123.2.1, .int .i64 p123.2.2.1, .bool p123.2.2.2.1, .int .i64 p123.2.2.2.2.1], .box g109 25 #[.slice B103 p102.1.length d105, .int .i64 p102.2.1, .int .i64 p102.2.2.1, .bool p102.2.2.2.1, .int .i64 p102.2.2.2.2.1], .row 50 2 (.slice B111 p110.length d113) p110.length (p110.flatMap eStep), .row 4 1 (.slice B124 p123.1.length d126) p123.1.length (p123.1.flatMap eB), .part 1 (.slice B103 p102.1.length d105) p102.1.length (p102.1.flatMap eB)]) (deps := (fun | 0 => [84] | 1 => [85] | 2 => [86] | 3 => [87] | 4 => [88] | 5 => [89] | 6 => [90] | 7 => [91] | 8 => [92] | 9 => [93] | 10 => [94] | 11 => [95] | 12 => [95] | _ => [])) (rd := (fun _ => [])) (zr := (fun | 11 => [12] | _ => []))
                  (φ := fun i vs => match i, vs with | 0, [v84] => v84 = .slice B132 (([] ++ p102.1).length) d133 | 1, [v85] => v85 = .slice B111 p110.length d113 | 2, [v86] => v86 = .int .i64 p139.2 | 3, [v87] => v87 = .pointer (some ⟨adB B111, adO B111 + p139.2.toNat * 2, none⟩) | 4, [v88] => v88 = .pointer (some ⟨adB B111, adO B111 + p139.2.toNat * 2, none⟩) | 5, [v89] => v89 = .int .i64 ((p110.getD p139.2.toNat ((0, false) : Int × Bool)).1) | 6, [v90] => v90 = .slice B111 p110.length d113 | 7, [v91] => v91 = .int .i64 p139.2 | 8, [v92] => v92 = .pointer (some ⟨adB B111, adO B111 + p139.2.toNat * 2, none⟩) | 9, [v93] => v93 = .pointer (some ⟨adB B111, adO B111 + p139.2.toNat * 2 + 1, none⟩) | 10, [v94] => v94 = .bool ((p110.getD p139.2.toNat ((0, false) : Int × Bool)).2) | 11, [v95] => v95 = .pointer (some ⟨adB B132, adO B132 + (((p110.getD p139.2.toNat ((0, false) : Int × Bool)).1).toNat) * 1, none⟩) | _, _ => True)
                  (C := fun i vs => match i, vs with | 12, [v95] => [.row 4 1 (.slice B132 (([] ++ p102.1).length) d133) (([] ++ p102.1).length) ((p139.1.set (((p110.getD p139.2.toNat ((0, false) : Int × Bool)).1).toNat) ((p110.getD p139.2.toNat ((0, false) : Int × Bool)).2)).flatMap eB)] | _, _ => [])
                  (κ := (fun _ => none)) (Z := (fun | 12 => [.row 4 1 (.slice B132 (([] ++ p102.1).length) d133) (([] ++ p102.1).length) (p139.1.flatMap eB)] | _ => [])) mixed hF (by kernel_rfl) (show St w _ [.row 4 1 (.slice B132 (([] ++ p102.1).length) d133) (([] ++ p102.1).length) (p139.1.flatMap eB), .box g130 25 #[.slice B124 p123.1.length d126, .int .i64 p123.2.1, .int .i64 p123.2.2.1, .bool p123.2.2.2.1, .int .i64 p123.2.2.2.2.1], .box g109 25 #[.slice B103 p102.1.length d105, .int .i64 p102.2.1, .int .i64 p102.2.2.1, .bool p102.2.2.2.1, .int .i64 p102.2.2.2.2.1], .row 50 2 (.slice B111 p110.length d113) p110.length (p110.flatMap eStep), .row 4 1 (.slice B124 p123.1.length d126) p123.1.length (p123.1.flatMap eB), .part 1 (.slice B103 p102.1.length d105) p102.1.length (p102.1.flatMap eB)] from S.sel [3, 0, 1, 2, 4, 5] rfl rfl) ?_ ?_
                · refine ⟨?_, ?_, ?_, ?_, ?_, ?_, ?_, ?_, ?_, ?_, ?_, ?_, ?_, trivial⟩
                  · intro a u X hB hu hp hr hz hl S
                    replace S : St w u ([] ++ X) := S
                    exact .inl ⟨rfl, .slice B132 (([] ++ p102.1).length) d133, u, (run_move rfl (hF.evB hB rfl rfl)), rfl, S⟩
                  · intro a u X hB hu hp hr hz hl S
                    replace S : St w u ([] ++ X) := S
                    exact .inl ⟨rfl, .slice B111 p110.length d113, u, (run_move rfl (hF.evB hB rfl rfl)), rfl, S⟩
                  · intro a u X hB hu hp hr hz hl S
                    replace S : St w u ([] ++ X) := S
                    exact .inl ⟨rfl, .int .i64 p139.2, u, (run_move rfl (hF.evB hB rfl rfl)), rfl, S⟩
                  · intro a u X hB hu hp hr hz hl S
                    replace S : St w u ([] ++ X) := S
                    have e85 : sl a 85 = .slice B111 p110.length d113 := hp 1 rfl
                    have e86 : sl a 86 = .int .i64 p139.2 := hp 2 rfl
                    exact .inl ⟨rfl, .pointer (some ⟨adB B111, adO B111 + p139.2.toNat * 2, none⟩), u, (run_indexAddr (b := adB B111) (off := adO B111) rfl Tryd.underlying46 sz50 ((ev_sl e85).trans (congrArg (fun A => Value.slice A p110.length d113) ((gr_rc S hl 2 rfl).rd.ad (ix_pos hk148)))) (ev_sl e86) hk148.1 hk148.2 (k' := adO B111 + p139.2.toNat * 2) rfl), rfl, S⟩
                  · intro a u X hB hu hp hr hz hl S
                    replace S : St w u ([] ++ X) := S
                    have e87 : sl a 87 = .pointer (some ⟨adB B111, adO B111 + p139.2.toNat * 2, none⟩) := hp 3 rfl
                    exact .inl ⟨rfl, .pointer (some ⟨adB B111, adO B111 + p139.2.toNat * 2, none⟩), u, (run_fieldAddr rfl fl50_0 (ev_sl e87) rfl), rfl, S⟩
                  · intro a u X hB hu hp hr hz hl S
                    replace S : St w u ([] ++ X) := S
                    have e88 : sl a 88 = .pointer (some ⟨adB B111, adO B111 + p139.2.toNat * 2, none⟩) := hp 4 rfl
                    exact .inl ⟨rfl, .int .i64 ((p110.getD p139.2.toNat ((0, false) : Int × Bool)).1), u, (run_load1 rfl one3 (ev_sl e88) (rd_el0 (l := p110) (gr_rc S hl 2 rfl).rd rfl eStep_len ((0, false) : Int × Bool) (ix_ltn hk148 rfl) rfl)), rfl, S⟩
                  · intro a u X hB hu hp hr hz hl S
                    replace S : St w u ([] ++ X) := S
                    exact .inl ⟨rfl, .slice B111 p110.length d113, u, (run_move rfl (hF.evB hB rfl rfl)), rfl, S⟩
                  · intro a u X hB hu hp hr hz hl S
                    replace S : St w u ([] ++ X) := S
                    exact .inl ⟨rfl, .int .i64 p139.2, u, (run_move rfl (hF.evB hB rfl rfl)), rfl, S⟩
                  · intro a u X hB hu hp hr hz hl S
                    replace S : St w u ([] ++ X) := S
                    have e90 : sl a 90 = .slice B111 p110.length d113 := hp 6 rfl
                    have e91 : sl a 91 = .int .i64 p139.2 := hp 7 rfl
                    exact .inl ⟨rfl, .pointer (some ⟨adB B111, adO B111 + p139.2.toNat * 2, none⟩), u, (run_indexAddr (b := adB B111) (off := adO B111) rfl Tryd.underlying46 sz50 ((ev_sl e90).trans (congrArg (fun A => Value.slice A p110.length d113) ((gr_rc S hl 2 rfl).rd.ad (ix_pos hk149)))) (ev_sl e91) hk149.1 hk149.2 (k' := adO B111 + p139.2.toNat * 2) rfl), rfl, S⟩
                  · intro a u X hB hu hp hr hz hl S
                    replace S : St w u ([] ++ X) := S
                    have e92 : sl a 92 = .pointer (some ⟨adB B111, adO B111 + p139.2.toNat * 2, none⟩) := hp 8 rfl
                    exact .inl ⟨rfl, .pointer (some ⟨adB B111, adO B111 + p139.2.toNat * 2 + 1, none⟩), u, (run_fieldAddr rfl fl50_1 (ev_sl e92) rfl), rfl, S⟩
                  · intro a u X hB hu hp hr hz hl S
                    replace S : St w u ([] ++ X) := S
                    have e93 : sl a 93 = .pointer (some ⟨adB B111, adO B111 + p139.2.toNat * 2 + 1, none⟩) := hp 9 rfl
                    exact .inl ⟨rfl, .bool ((p110.getD p139.2.toNat ((0, false) : Int × Bool)).2), u, (run_load1 rfl one4 (ev_sl e93) (rd_el (l := p110) (gr_rc S hl 2 rfl).rd rfl eStep_len ((0, false) : Int × Bool) (ix_ltn hk149 rfl) rfl)), rfl, S⟩
                  · intro a u X hB hu hp hr hz hl S
                    replace S : St w u ([] ++ X) := S
                    have e84 : sl a 84 = .slice B132 (([] ++ p102.1).length) d133 := hp 0 rfl
                    have e89 : sl a 89 = .int .i64 ((p110.getD p139.2.toNat ((0, false) : Int × Bool)).1) := hp 5 rfl
                    exact .inl ⟨rfl, .pointer (some ⟨adB B132, adO B132 + (((p110.getD p139.2.toNat ((0, false) : Int × Bool)).1).toNat) * 1, none⟩), u, (run_indexAddr (b := adB B132) (off := adO B132) rfl Tryd.underlying23 sz4 ((ev_sl e84).trans (congrArg (fun A => Value.slice A (([] ++ p102.1).length) d133) ((own_rc (show World.ownsRow _ 0 _ _ _ _ _ from S.mem (List.mem_append_right _ (hz 12 (List.mem_of_getElem? (i := 0) rfl) _ (List.mem_of_getElem? (i := 0) rfl))))).rd.ad (ix_pos hk150)))) (ev_sl e89) hk150.1 hk150.2 (k' := adO B132 + (((p110.getD p139.2.toNat ((0, false) : Int × Bool)).1).toNat) * 1) rfl), rfl, S⟩
                  · intro a u X hB hu hp hr hz hl S
                    replace S : St w u ([.row 4 1 (.slice B132 (([] ++ p102.1).length) d133) (([] ++ p102.1).length) (p139.1.flatMap eB)] ++ X) := S
                    have e94 : sl a 94 = .bool ((p110.getD p139.2.toNat ((0, false) : Int × Bool)).2) := hp 10 rfl
                    have e95 : sl a 95 = .pointer (some ⟨adB B132, adO B132 + (((p110.getD p139.2.toNat ((0, false) : Int × Bool)).1).toNat) * 1, none⟩) := hp 11 rfl
                    obtain ⟨w', hrun, S'⟩ := run_storeElN (P := Tryd.prog) (ρ := a.eval) (y0 := (p110.getD p139.2.toNat ((0, false) : Int × Bool)).2) (off := 0) S 4 (.tmp 95) (.tmp 94) (i := 0) sz4 (ev_sl e95) (ev_sl e94) rfl rfl rfl rfl hn140 eB_len false (ix_ltn hk150 hn140) rfl rfl
                    exact .inr (.inl ⟨rfl, w', hrun _ rfl, trivial, S'⟩)
                · intro a u hB hp S
                  obtain ⟨q0, q1, q2, q3, q4, q5, q6, q7, q8, q9, q10, q11, q12, _⟩ := hp
                  have e84 : sl a 84 = .slice B132 (([] ++ p102.1).length) d133 := q0
                  have e85 : sl a 85 = .slice B111 p110.length d113 := q1
                  have e86 : sl a 86 = .int .i64 p139.2 := q2
                  have e87 : sl a 87 = .pointer (some ⟨adB B111, adO B111 + p139.2.toNat * 2, none⟩) := q3
                  have e88 : sl a 88 = .pointer (some ⟨adB B111, adO B111 + p139.2.toNat * 2, none⟩) := q4
                  have e89 : sl a 89 = .int .i64 ((p110.getD p139.2.toNat ((0, false) : Int × Bool)).1) := q5
                  have e90 : sl a 90 = .slice B111 p110.length d113 := q6
                  have e91 : sl a 91 = .int .i64 p139.2 := q7
                  have e92 : sl a 92 = .pointer (some ⟨adB B111, adO B111 + p139.2.toNat * 2, none⟩) := q8
                  have e93 : sl a 93 = .pointer (some ⟨adB B111, adO B111 + p139.2.toNat * 2 + 1, none⟩) := q9
                  have e94 : sl a 94 = .bool ((p110.getD p139.2.toNat ((0, false) : Int × Bool)).2) := q10
                  have e95 : sl a 95 = .pointer (some ⟨adB B132, adO B132 + (((p110.getD p139.2.toNat ((0, false) : Int × Bool)).1).toNat) * 1, none⟩) := q11
                  replace S : St w u [.row 4 1 (.slice B132 (([] ++ p102.1).length) d133) (([] ++ p102.1).length) ((p139.1.set (((p110.getD p139.2.toNat ((0, false) : Int × Bool)).1).toNat) ((p110.getD p139.2.toNat ((0, false) : Int × Bool)).2)).flatMap eB), .box g130 25 #[.slice B124 p123.1.length d126, .int .i64 p123.2.1, .int .i64 p123.2.2.1, .bool p123.2.2.2.1, .int .i64 p123.2.2.2.2.1], .box g109 25 #[.slice B103 p102.1.length d105, .int .i64 p102.2.1, .int .i64 p102.2.2.1, .bool p102.2.2.2.1, .int .i64 p102.2.2.2.2.1], .row 50 2 (.slice B111 p110.length d113) p110.length (p110.flatMap eStep), .row 4 1 (.slice B124 p123.1.length d126) p123.1.length (p123.1.flatMap eB), .part 1 (.slice B103 p102.1.length d105) p102.1.length (p102.1.flatMap eB)] := S
                  clear q0 q1 q2 q3 q4 q5 q6 q7 q8 q9 q10 q11 q12
                  have hF := hF.region hB [(84, .slice B132 (([] ++ p102.1).length) d133), (85, .slice B111 p110.length d113), (86, .int .i64 p139.2), (87, .pointer (some ⟨adB B111, adO B111 + p139.2.toNat * 2, none⟩)), (88, .pointer (some ⟨adB B111, adO B111 + p139.2.toNat * 2, none⟩)), (89, .int .i64 ((p110.getD p139.2.toNat ((0, false) : Int × Bool)).1)), (90, .slice B111 p110.length d113), (91, .int .i64 p139.2), (92, .pointer (some ⟨adB B111, adO B111 + p139.2.toNat * 2, none⟩)), (93, .pointer (some ⟨adB B111, adO B111 + p139.2.toNat * 2 + 1, none⟩)), (94, .bool ((p110.getD p139.2.toNat ((0, false) : Int × Bool)).2)), (95, .pointer (some ⟨adB B132, adO B132 + (((p110.getD p139.2.toNat ((0, false) : Int × Bool)).1).toNat) * 1, none⟩))] (allSl_mem ⟨e84, e85, e86, e87, e88, e89, e90, e91, e92, e93, e94, e95, trivial⟩) rfl
                  clear hB e84 e85 e86 e87 e88 e89 e90 e91 e92 e93 e94 e95
                  refine wp_region_lit ?_
                  refine op_val (v := .int .i64 p139.2) rfl rfl hF rfl (run_move rfl (hF.ev rfl)) ?_; clear hF; intro a hF
                  refine op_val (v := .int .i64 (w64 (p139.2 + 1))) rfl rfl hF rfl (run_add (z := w64 (p139.2 + 1)) (hF.ev rfl) rfl rfl rfl) ?_; clear hF; intro a hF
                  refine op_val (v := .int .i64 (w64 (p139.2 + 1))) rfl rfl hF rfl (run_assign rfl (hF.ev rfl)) ?_; clear hF; intro a hF
                  refine wpList_nil ?_
                  exact ⟨f1, Nat.lt_succ_self _, (p139.1.set (((p110.getD p139.2.toNat ((0, false) : Int × Bool)).1).toNat) ((p110.getD p139.2.toNat ((0, false) : Int × Bool)).2), w64 (p139.2 + 1)), hM138, (len_set hn140), hF.keep _ ⟨rfl, rfl, rfl, rfl, rfl, trivial⟩, S.sel [1, 2, 3, 0, 4, 5] rfl rfl⟩
              · replace hM138 := bif_t hc147 hM138
                refine cond_t hF rfl hc147 ?_
                refine wp_seq ?_
                refine wp_region_lit ?_
                refine op_val (v := .bool false) rfl rfl hF rfl (run_assign rfl rfl) ?_; clear hF; intro a hF
                refine wpList_nil ?_
                refine wp_ret ?_
                repeat with_reducible (first | refine then_ret ?_ | refine in_ret ?_ | refine in_nrm ?_)
                refine ret1_gw (.inl rfl) hF rfl (res_tmp (hF.ev rfl)) ?_
                obtain rfl := Option.some.inj hM138
                obtain rfl := Option.some.inj hM
                exact ⟨rfl, S.sel [] rfl rfl⟩
        · rintro a u ⟨p135, rfl, hn137, hF, S⟩
          replace hM := elim_l hM
          refine wp_seq ?_
          refine wp_region_lit ?_
          refine op_val (v := .slice B132 (([] ++ p102.1).length) d133) rfl rfl hF rfl (run_move rfl (hF.ev rfl)) ?_; clear hF; intro a hF
          refine op_val (v := .pointer (some ⟨g130, 0, none⟩)) rfl rfl hF rfl (run_fieldAddr rfl fl25_0 (hF.ev rfl) rfl) ?_; clear hF; intro a hF
          refine op_val (v := .slice B124 p123.1.length d126) rfl rfl hF rfl (run_load1 rfl one23 (hF.ev rfl) ((S.free 0 rfl).cell rfl)) ?_; clear hF; intro a hF
          obtain ⟨p151, h151, hM⟩ := bind_ex hM
          refine op_call rfl rfl hF rfl (run_call (vs := [.slice B132 (([] ++ p102.1).length) d133, .slice B124 p123.1.length d126]) rfl rfl co17 ⟨(hF.ev rfl), (hF.ev rfl), trivial⟩) (c_laws_sameBools (x0 := p135) (x1 := p123.1) ⟨(S.rc 2 rfl), hn137⟩ ⟨(S.rc 3 rfl), rfl⟩ h151) ?_
          rintro e u ⟨rfl, T⟩
          refine ⟨_, rfl, ?_⟩
          clear hF; intro a hF
          replace S := S.call0 T; clear T
          refine op_val (v := .bool p151) rfl rfl hF rfl (run_assign rfl (hF.ev rfl)) ?_; clear hF; intro a hF
          refine wpList_nil ?_
          refine wp_ret ?_
          repeat with_reducible (first | refine then_ret ?_ | refine in_ret ?_ | refine in_nrm ?_)
          refine ret1_gw (.inl rfl) hF rfl (res_tmp (hF.ev rfl)) ?_
          obtain rfl := Option.some.inj hM
          exact ⟨rfl, S.sel [] rfl rfl⟩
  · replace hM := bif_t hc101 hM
    refine cond_t hF rfl hc101 ?_
    refine wp_seq ?_
    refine wp_region_lit ?_
    refine op_val (v := .bool true) rfl rfl hF rfl (run_assign rfl rfl) ?_; clear hF; intro a hF
    refine wpList_nil ?_
    refine wp_ret ?_
    repeat with_reducible (first | refine then_ret ?_ | refine in_ret ?_ | refine in_nrm ?_)
    refine ret1_gw (.inl rfl) hF rfl (res_tmp (hF.ev rfl)) ?_
    obtain rfl := Option.some.inj hM
    exact ⟨rfl, S.sel [] rfl rfl⟩

end Go.Proofs.YtapkaobelejkkaaDoor
