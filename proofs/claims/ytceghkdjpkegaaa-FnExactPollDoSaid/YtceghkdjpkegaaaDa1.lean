/- Calls return what the models say. -/
import Derived.Test.YtceghkdjpkegaaaDaT
namespace Go.Proofs.Ytceghkdjpkegaaa
open Go.ChangeShapes Go.WideShapes Go.ChangeAt Go.RowKit
set_option linter.unusedVariables false
set_option linter.unusedSimpArgs false

theorem c_grow_nil {x1 : Int} {w : World} (h : 0 ≤ x1 ∧ x1 ≤ 1099511627776) :
    Calls Try.prog 44 #[.slice none 0 0, .int .i64 x1] w (fun e w' => ∃ B D, e = .returned (.slice B 0 D) ∧ St w w' [.row 3 1 (.slice B 0 D) 0 []]) := by
  refine calls_gw Try.func44 Try.ntmps44 rfl [(0, .slice none 0 0), (1, .int .i64 x1)] ⟨rfl, rfl, trivial⟩ rfl ?_
  intro a hF
  have S := St.nil w
  have e0 : w64 (x1 - w64 ((0 : Int) - 0)) = x1 := by rw [show w64 ((0 : Int) - 0) = 0 from rfl, Int.sub_zero]; exact w64_in (by omega) (by omega)
  refine wp_seq ?_
  refine wp_region_lit ?_
  refine op_val (v := .slice none 0 0) rfl rfl hF rfl (run_assign rfl rfl) ?_; clear hF; intro a hF
  refine wpList_nil ?_
  refine wp_seq ?_
  refine wp_seq ?_
  refine wp_region_lit ?_
  refine op_val (v := .int .i64 x1) rfl rfl hF rfl (run_move rfl (hF.ev rfl)) ?_; clear hF; intro a hF
  refine op_val (v := .bool (ltB x1 0)) rfl rfl hF rfl (run_lss (hF.ev rfl) rfl rfl) ?_; clear hF; intro a hF
  refine wpList_nil ?_
  refine cond_f hF rfl (decide_eq_false (by omega)) ?_
  refine wp_skip ?_
  refine wp_seq ?_
  refine wp_seq ?_
  refine wp_region_lit ?_
  refine op_val (v := .int .i64 x1) rfl rfl hF rfl (run_move rfl (hF.ev rfl)) ?_; clear hF; intro a hF
  refine op_val (v := .slice none 0 0) rfl rfl hF rfl (run_move rfl (hF.ev rfl)) ?_; clear hF; intro a hF
  refine op_val (v := .int .i64 ((0 : Nat) : Int)) rfl rfl hF rfl (run_capL rfl rfl Try.underlying22 (hF.ev rfl)) ?_; clear hF; intro a hF
  refine op_val (v := .slice none 0 0) rfl rfl hF rfl (run_move rfl (hF.ev rfl)) ?_; clear hF; intro a hF
  refine op_val (v := .int .i64 ((0 : Nat) : Int)) rfl rfl hF rfl (run_lenL rfl rfl Try.underlying22 (hF.ev rfl)) ?_; clear hF; intro a hF
  refine op_val (v := .int .i64 (w64 ((0 : Int) - 0))) rfl rfl hF rfl (run_sub (z := w64 ((0 : Int) - 0)) (hF.ev rfl) (hF.ev rfl) rfl rfl) ?_; clear hF; intro a hF
  refine op_val (v := .int .i64 (w64 (x1 - w64 ((0 : Int) - 0)))) rfl rfl hF rfl (run_sub (z := w64 (x1 - w64 ((0 : Int) - 0))) (hF.ev rfl) (hF.ev rfl) rfl rfl) ?_; clear hF; intro a hF
  rw [e0] at hF
  refine op_val (v := .int .i64 x1) rfl rfl hF rfl (run_assign rfl (hF.ev rfl)) ?_; clear hF; intro a hF
  refine wpList_nil ?_
  refine wp_seq ?_
  refine wp_region_lit ?_
  refine op_val (v := .int .i64 x1) rfl rfl hF rfl (run_move rfl (hF.ev rfl)) ?_; clear hF; intro a hF
  refine op_val (v := .bool (ltB 0 x1)) rfl rfl hF rfl (run_gtr (hF.ev rfl) rfl rfl) ?_; clear hF; intro a hF
  refine wpList_nil ?_
  by_cases h0 : 0 < x1
  · refine cond_t hF rfl (decide_eq_true h0) ?_
    refine wp_region_lit ?_
    refine op_val (v := .slice none 0 0) rfl rfl hF rfl (run_move rfl (hF.ev rfl)) ?_; clear hF; intro a hF
    refine op_val (v := .slice none 0 0) rfl rfl hF rfl (run_move rfl (hF.ev rfl)) ?_; clear hF; intro a hF
    refine op_val (v := .int .i64 ((0 : Nat) : Int)) rfl rfl hF rfl (run_capL rfl rfl Try.underlying22 (hF.ev rfl)) ?_; clear hF; intro a hF
    refine op_val (v := .slice none 0 0) rfl rfl hF rfl (run_slicenil rfl Try.underlying22 sz3 (hF.ev rfl) (hF.ev rfl)) ?_; clear hF; intro a hF
    refine op_val (v := .int .i64 x1) rfl rfl hF rfl (run_move rfl (hF.ev rfl)) ?_; clear hF; intro a hF
    refine op_zeros rfl rfl hF rfl S rfl (hF.ev rfl) (hF.ev rfl) Try.underlying22 Try.underlying3 inf3 rfl (by decide) ⟨h0, h.2⟩ ?_; clear hF S; intro a g c u hc hF S
    refine op_val (v := .slice none 0 0) rfl rfl hF rfl (run_move rfl (hF.ev rfl)) ?_; clear hF; intro a hF
    refine op_val (v := .int .i64 ((0 : Nat) : Int)) rfl rfl hF rfl (run_lenL rfl rfl Try.underlying22 (hF.ev rfl)) ?_; clear hF; intro a hF
    refine op_val (v := .slice (some ⟨g, 0, none⟩) 0 c) rfl rfl hF rfl (run_slice0 rfl Try.underlying22 sz3 (hF.ev rfl) (hF.ev rfl) hc) ?_; clear hF; intro a hF
    refine op_val (v := .slice (some ⟨g, 0, none⟩) 0 c) rfl rfl hF rfl (run_assign rfl (hF.ev rfl)) ?_; clear hF; intro a hF
    refine wpList_nil ?_
    refine wp_seq ?_
    refine wp_region_lit ?_
    refine op_val (v := .slice (some ⟨g, 0, none⟩) 0 c) rfl rfl hF rfl (run_move rfl (hF.ev rfl)) ?_; clear hF; intro a hF
    refine op_val (v := .slice (some ⟨g, 0, none⟩) 0 c) rfl rfl hF rfl (run_assign rfl (hF.ev rfl)) ?_; clear hF; intro a hF
    refine wpList_nil ?_
    refine wp_ret ?_
    refine ret1_gw (.inl rfl) hF rfl (res_tmp (hF.ev rfl)) ?_
    exact ⟨_, _, rfl, S⟩
  · refine cond_f hF rfl (decide_eq_false h0) ?_
    refine wp_skip ?_
    refine wp_seq ?_
    refine wp_region_lit ?_
    refine op_val (v := .slice none 0 0) rfl rfl hF rfl (run_move rfl (hF.ev rfl)) ?_; clear hF; intro a hF
    refine op_val (v := .slice none 0 0) rfl rfl hF rfl (run_assign rfl (hF.ev rfl)) ?_; clear hF; intro a hF
    refine wpList_nil ?_
    refine wp_ret ?_
    refine ret1_gw (.inl rfl) hF rfl (res_tmp (hF.ev rfl)) ?_
    exact ⟨_, _, rfl, S.nilrow 3 1⟩

set_option maxHeartbeats 4000000 in
theorem c_slices_Concat_int_int {x0 : List Sl} {A0 : Option Addr} {n0 c0 : Nat} {w : World} {r : List Int} (h0 : Rt w 1 eSl A0 n0 c0 x0) (hq : Slq w x0) (hM : m_slices_Concat_int_int x0 = some r) :
    Calls Try.prog 39 #[.slice A0 n0 c0] w (fun e w' => ∃ (B0 : Option Addr) (N0 D0 : Nat), e = .returned (.slice B0 N0 D0) ∧ N0 = r.length ∧ St w w' [.row 3 1 (.slice B0 N0 D0) N0 (r.flatMap eI)]) := by
  obtain rfl := h0.len
  unfold m_slices_Concat_int_int at hM
  refine calls_gw Try.func39 Try.ntmps39 rfl [(0, .slice A0 x0.length c0)] ⟨rfl, trivial⟩ rfl ?_
  intro a hF
  have S := St.nil w
  refine wp_seq ?_
  refine wp_region_lit ?_
  refine op_val (v := .slice none 0 0) rfl rfl hF rfl (run_assign rfl rfl) ?_; clear hF; intro a hF
  refine wpList_nil ?_
  refine wp_seq ?_
  refine wp_region_lit ?_
  refine op_val (v := .int .i64 0) rfl rfl hF rfl (run_assign rfl rfl) ?_; clear hF; intro a hF
  refine wpList_nil ?_
  refine wp_seq ?_
  refine wp_seq ?_
  refine wp_region_lit ?_
  refine op_val (v := .slice A0 x0.length c0) rfl rfl hF rfl (run_move rfl (hF.ev rfl)) ?_; clear hF; intro a hF
  refine op_val (v := .int .i64 (x0.length : Int)) rfl rfl hF rfl (run_lenL rfl rfl Try.underlying61 (hF.ev rfl)) ?_; clear hF; intro a hF
  refine op_val (v := .int .i64 0) rfl rfl hF rfl (run_move rfl rfl) ?_; clear hF; intro a hF
  refine wpList_nil ?_
  obtain ⟨o102, hM103, hM⟩ := bind_ex hM
  refine wp_cut (fun a u => ∃ (p101 : Int), p101 = o102 ∧ Fr a 36 [(0, .slice A0 x0.length c0), (2, .slice none 0 0), (3, .int .i64 p101)] ∧ St w u []) ?_ ?_
  · have _ := trivial
    refine wp_block ?_
    refine loop_gw (fun m a u => ∃ (p104 : Int × Int), m_slices_Concat_int_int_l1 x0 m p104 = some _ ∧ Fr a 36 [(0, .slice A0 x0.length c0), (2, .slice none 0 0), (3, .int .i64 p104.1), (9, .slice A0 x0.length c0), (10, .int .i64 (x0.length : Int)), (11, .int .i64 p104.2)] ∧ St w u []) FUEL ⟨(0, 0), hM103, hF.keep _ ⟨rfl, rfl, rfl, rfl, rfl, rfl, trivial⟩, S.sel [] rfl rfl⟩ ?_
    clear hF S hM103; rintro m a u ⟨p104, hM103, hF, S⟩
    rcases m with _ | f1
    · exact none_some hM103
    rw [m_slices_Concat_int_int_l1.eq_2] at hM103
    refine wp_seq ?_
    refine wp_region_lit ?_
    refine op_val (v := .bool (ltB p104.2 (x0.length : Int))) rfl rfl hF rfl (run_lss (hF.ev rfl) (hF.ev rfl) rfl) ?_; clear hF; intro a hF
    refine wpList_nil ?_
    refine wp_seq ?_
    cases hc105 : (ltB p104.2 (x0.length : Int))
    · replace hM103 := bif_f hc105 hM103
      refine cond_f hF rfl hc105 ?_
      refine wp_exit ?_
      repeat with_reducible (first | refine then_exit ?_ | refine in_hit ?_ | refine in_miss rfl ?_)
      obtain rfl := Option.some.inj hM103
      exact ⟨p104.1, rfl, hF.keep _ ⟨rfl, rfl, rfl, trivial⟩, S.sel [] rfl rfl⟩
    · replace hM103 := bif_t hc105 hM103
      refine cond_t hF rfl hc105 ?_
      refine wp_skip ?_
      refine wp_seq ?_
      refine wp_block ?_
      refine wp_seq ?_
      refine wp_region_lit ?_
      obtain ⟨hk106, hM103⟩ := chk_ex hM103
      replace hk106 := ixB_t hk106
      refine op_val (v := .pointer (some ⟨adB A0, adO A0 + p104.2.toNat * 1, none⟩)) rfl rfl hF rfl (run_indexAddr (b := adB A0) (off := adO A0) rfl Try.underlying61 sz22 ((hF.ev rfl).trans (congrArg (fun A => Value.slice A x0.length c0) ((S.rc0 h0.rc).rd.ad (ix_pos hk106)))) (hF.ev rfl) hk106.1 hk106.2 (k' := adO A0 + p104.2.toNat * 1) rfl) ?_; clear hF; intro a hF
      refine op_val (v := .slice ((x0.getD p104.2.toNat ((none, [], 0) : Sl)).1) ((x0.getD p104.2.toNat ((none, [], 0) : Sl)).2.1.length) ((x0.getD p104.2.toNat ((none, [], 0) : Sl)).2.2)) rfl rfl hF rfl (run_load1 rfl one22 (hF.ev rfl) (rd_el0 (l := x0) (S.rc0 h0.rc).rd rfl eSl_len ((none, [], 0) : Sl) (ix_ltn hk106 rfl) rfl)) ?_; clear hF; intro a hF
      refine op_val (v := .slice ((x0.getD p104.2.toNat ((none, [], 0) : Sl)).1) ((x0.getD p104.2.toNat ((none, [], 0) : Sl)).2.1.length) ((x0.getD p104.2.toNat ((none, [], 0) : Sl)).2.2)) rfl rfl hF rfl (run_assign rfl (hF.ev rfl)) ?_; clear hF; intro a hF
      refine wpList_nil ?_
      refine wp_seq ?_
      refine wp_region_lit ?_
      refine op_val (v := .int .i64 p104.1) rfl rfl hF rfl (run_move rfl (hF.ev rfl)) ?_; clear hF; intro a hF
      refine op_val (v := .slice ((x0.getD p104.2.toNat ((none, [], 0) : Sl)).1) ((x0.getD p104.2.toNat ((none, [], 0) : Sl)).2.1.length) ((x0.getD p104.2.toNat ((none, [], 0) : Sl)).2.2)) rfl rfl hF rfl (run_move rfl (hF.ev rfl)) ?_; clear hF; intro a hF
      refine op_val (v := .int .i64 (((x0.getD p104.2.toNat ((none, [], 0) : Sl)).2.1.length) : Int)) rfl rfl hF rfl (run_lenL rfl rfl Try.underlying22 (hF.ev rfl)) ?_; clear hF; intro a hF
      refine op_val (v := .int .i64 (w64 (p104.1 + (((x0.getD p104.2.toNat ((none, [], 0) : Sl)).2.1.length) : Int)))) rfl rfl hF rfl (run_add (z := w64 (p104.1 + (((x0.getD p104.2.toNat ((none, [], 0) : Sl)).2.1.length) : Int))) (hF.ev rfl) (hF.ev rfl) rfl rfl) ?_; clear hF; intro a hF
      refine op_val (v := .int .i64 (w64 (p104.1 + (((x0.getD p104.2.toNat ((none, [], 0) : Sl)).2.1.length) : Int)))) rfl rfl hF rfl (run_assign rfl (hF.ev rfl)) ?_; clear hF; intro a hF
      refine wpList_nil ?_
      refine wp_seq ?_
      refine wp_region_lit ?_
      refine op_val (v := .int .i64 (w64 (p104.1 + (((x0.getD p104.2.toNat ((none, [], 0) : Sl)).2.1.length) : Int)))) rfl rfl hF rfl (run_move rfl (hF.ev rfl)) ?_; clear hF; intro a hF
      refine op_val (v := .bool (ltB (w64 (p104.1 + (((x0.getD p104.2.toNat ((none, [], 0) : Sl)).2.1.length) : Int))) 0)) rfl rfl hF rfl (run_lss (hF.ev rfl) rfl rfl) ?_; clear hF; intro a hF
      refine wpList_nil ?_
      cases hc107 : (ltB (w64 (p104.1 + (((x0.getD p104.2.toNat ((none, [], 0) : Sl)).2.1.length) : Int))) 0)
      · replace hM103 := bif_f hc107 hM103
        refine cond_f hF rfl hc107 ?_
        refine wp_skip ?_
        refine wp_region_lit ?_
        refine op_val (v := .int .i64 (w64 (p104.2 + 1))) rfl rfl hF rfl (run_add (z := w64 (p104.2 + 1)) (hF.ev rfl) rfl rfl rfl) ?_; clear hF; intro a hF
        refine op_val (v := .int .i64 (w64 (p104.2 + 1))) rfl rfl hF rfl (run_move rfl (hF.ev rfl)) ?_; clear hF; intro a hF
        refine wpList_nil ?_
        exact ⟨f1, Nat.lt_succ_self _, (w64 (p104.1 + (((x0.getD p104.2.toNat ((none, [], 0) : Sl)).2.1.length) : Int)), w64 (p104.2 + 1)), hM103, hF.keep _ ⟨rfl, rfl, rfl, rfl, rfl, rfl, trivial⟩, S.sel [] rfl rfl⟩
      · replace hM103 := bif_t hc107 hM103
        refine cond_t hF rfl hc107 ?_
        refine wp_region_lit ?_
        exact none_some hM103
  · rintro a u ⟨p101, rfl, hF, S⟩
    refine wp_seq ?_
    refine wp_region_lit ?_
    refine op_val (v := .int .i64 p101) rfl rfl hF rfl (run_move rfl (hF.ev rfl)) ?_; clear hF; intro a hF
    obtain ⟨hk108, hM⟩ := chk_ex hM
    replace hk108 := mkB_t hk108
    refine op_call rfl rfl hF rfl (run_call (vs := [.slice none 0 0, .int .i64 p101]) rfl rfl co44 ⟨rfl, (hF.ev rfl), trivial⟩) (c_grow_nil hk108) ?_
    rintro e u ⟨B109, d110, rfl, T⟩
    refine ⟨_, rfl, ?_⟩
    clear hF; intro a hF
    replace S := S.call1 T; clear T
    refine op_val (v := .slice B109 0 d110) rfl rfl hF rfl (run_assign rfl (hF.ev rfl)) ?_; clear hF; intro a hF
    refine wpList_nil ?_
    refine wp_seq ?_
    refine wp_seq ?_
    refine wp_region_lit ?_
    refine op_val (v := .slice A0 x0.length c0) rfl rfl hF rfl (run_move rfl (hF.ev rfl)) ?_; clear hF; intro a hF
    refine op_val (v := .int .i64 (x0.length : Int)) rfl rfl hF rfl (run_lenL rfl rfl Try.underlying61 (hF.ev rfl)) ?_; clear hF; intro a hF
    refine op_val (v := .int .i64 0) rfl rfl hF rfl (run_move rfl rfl) ?_; clear hF; intro a hF
    refine wpList_nil ?_
    obtain ⟨o112, hM115, hM⟩ := bind_ex hM
    refine wp_cut (fun a u => ∃ (p111 : List Int) (B113 : Option Addr) (d114 : Nat), p111 = o112 ∧ Fr a 36 [(2, .slice none 0 0), (6, .slice B113 p111.length d114)] ∧ St w u [.row 3 1 (.slice B113 p111.length d114) p111.length (p111.flatMap eI)]) ?_ ?_
    · have _ := trivial
      refine wp_block ?_
      refine loop_gw (fun m a u => ∃ (p116 : List Int × Int) (B117 : Option Addr) (d118 : Nat), m_slices_Concat_int_int_l2 x0 m p116 = some _ ∧ Fr a 36 [(2, .slice none 0 0), (6, .slice B117 p116.1.length d118), (25, .slice A0 x0.length c0), (26, .int .i64 (x0.length : Int)), (27, .int .i64 p116.2)] ∧ St w u [.row 3 1 (.slice B117 p116.1.length d118) p116.1.length (p116.1.flatMap eI)]) FUEL ⟨(([] : List Int), 0), B109, d110, hM115, hF.keep _ ⟨rfl, rfl, rfl, rfl, rfl, trivial⟩, S.sel [0] rfl rfl⟩ ?_
      clear hF S hM115; rintro m a u ⟨p116, B117, d118, hM115, hF, S⟩
      rcases m with _ | f2
      · exact none_some hM115
      rw [m_slices_Concat_int_int_l2.eq_2] at hM115
      refine wp_seq ?_
      refine wp_region_lit ?_
      refine op_val (v := .bool (ltB p116.2 (x0.length : Int))) rfl rfl hF rfl (run_lss (hF.ev rfl) (hF.ev rfl) rfl) ?_; clear hF; intro a hF
      refine wpList_nil ?_
      refine wp_seq ?_
      cases hc119 : (ltB p116.2 (x0.length : Int))
      · replace hM115 := bif_f hc119 hM115
        refine cond_f hF rfl hc119 ?_
        refine wp_exit ?_
        repeat with_reducible (first | refine then_exit ?_ | refine in_hit ?_ | refine in_miss rfl ?_)
        obtain rfl := Option.some.inj hM115
        exact ⟨p116.1, B117, d118, rfl, hF.keep _ ⟨rfl, rfl, trivial⟩, S.sel [0] rfl rfl⟩
      · replace hM115 := bif_t hc119 hM115
        refine cond_t hF rfl hc119 ?_
        refine wp_skip ?_
        refine wp_seq ?_
        refine wp_block ?_
        refine wp_seq ?_
        refine wp_region_lit ?_
        obtain ⟨hk120, hM115⟩ := chk_ex hM115
        replace hk120 := ixB_t hk120
        refine op_val (v := .pointer (some ⟨adB A0, adO A0 + p116.2.toNat * 1, none⟩)) rfl rfl hF rfl (run_indexAddr (b := adB A0) (off := adO A0) rfl Try.underlying61 sz22 ((hF.ev rfl).trans (congrArg (fun A => Value.slice A x0.length c0) ((S.rc0 h0.rc).rd.ad (ix_pos hk120)))) (hF.ev rfl) hk120.1 hk120.2 (k' := adO A0 + p116.2.toNat * 1) rfl) ?_; clear hF; intro a hF
        refine op_val (v := .slice ((x0.getD p116.2.toNat ((none, [], 0) : Sl)).1) ((x0.getD p116.2.toNat ((none, [], 0) : Sl)).2.1.length) ((x0.getD p116.2.toNat ((none, [], 0) : Sl)).2.2)) rfl rfl hF rfl (run_load1 rfl one22 (hF.ev rfl) (rd_el0 (l := x0) (S.rc0 h0.rc).rd rfl eSl_len ((none, [], 0) : Sl) (ix_ltn hk120 rfl) rfl)) ?_; clear hF; intro a hF
        refine op_val (v := .slice ((x0.getD p116.2.toNat ((none, [], 0) : Sl)).1) ((x0.getD p116.2.toNat ((none, [], 0) : Sl)).2.1.length) ((x0.getD p116.2.toNat ((none, [], 0) : Sl)).2.2)) rfl rfl hF rfl (run_assign rfl (hF.ev rfl)) ?_; clear hF; intro a hF
        refine wpList_nil ?_
        refine wp_region_lit ?_
        refine op_val (v := .slice B117 p116.1.length d118) rfl rfl hF rfl (run_move rfl (hF.ev rfl)) ?_; clear hF; intro a hF
        refine op_val (v := .slice ((x0.getD p116.2.toNat ((none, [], 0) : Sl)).1) ((x0.getD p116.2.toNat ((none, [], 0) : Sl)).2.1.length) ((x0.getD p116.2.toNat ((none, [], 0) : Sl)).2.2)) rfl rfl hF rfl (run_move rfl (hF.ev rfl)) ?_; clear hF; intro a hF
        obtain ⟨hk123, hM115⟩ := chk_ex hM115
        replace hk123 := apB_t hk123
        refine op_appendL (lx := p116.1) (ly := (x0.getD p116.2.toNat ((none, [], 0) : Sl)).2.1) rfl rfl hF rfl S rfl (hF.ev rfl) (hF.ev rfl) (i := 0) rfl rfl Try.underlying22 inf3 rfl (by decide) (S.rc0 (slr hq hk120 rfl ((none, [], 0) : Sl))).rd rfl eI_one hk123 (by decide) ?_; clear hF S; intro a B121 d122 u hF S
        refine op_val (v := .slice B121 ((p116.1 ++ ((x0.getD p116.2.toNat ((none, [], 0) : Sl)).2.1)).length) d122) rfl rfl hF rfl (run_assign rfl (hF.ev rfl)) ?_; clear hF; intro a hF
        refine wpList_nil ?_
        refine wp_region_lit ?_
        refine op_val (v := .int .i64 (w64 (p116.2 + 1))) rfl rfl hF rfl (run_add (z := w64 (p116.2 + 1)) (hF.ev rfl) rfl rfl rfl) ?_; clear hF; intro a hF
        refine op_val (v := .int .i64 (w64 (p116.2 + 1))) rfl rfl hF rfl (run_move rfl (hF.ev rfl)) ?_; clear hF; intro a hF
        refine wpList_nil ?_
        exact ⟨f2, Nat.lt_succ_self _, (p116.1 ++ ((x0.getD p116.2.toNat ((none, [], 0) : Sl)).2.1), w64 (p116.2 + 1)), B121, d122, hM115, hF.keep _ ⟨rfl, rfl, rfl, rfl, rfl, trivial⟩, S.sel [0] rfl rfl⟩
    · rintro a u ⟨p111, B113, d114, rfl, hF, S⟩
      refine wp_seq ?_
      refine wp_region_lit ?_
      refine op_val (v := .slice B113 p111.length d114) rfl rfl hF rfl (run_move rfl (hF.ev rfl)) ?_; clear hF; intro a hF
      refine op_val (v := .slice B113 p111.length d114) rfl rfl hF rfl (run_assign rfl (hF.ev rfl)) ?_; clear hF; intro a hF
      refine wpList_nil ?_
      refine wp_ret ?_
      repeat with_reducible (first | refine then_ret ?_ | refine in_ret ?_ | refine in_nrm ?_)
      refine ret1_gw (.inl rfl) hF rfl (res_tmp (hF.ev rfl)) ?_
      obtain rfl := Option.some.inj hM
      exact ⟨B113, p111.length, d114, rfl, rfl, S.sel [0] rfl rfl⟩

theorem cat_l1 (x : List Sl) (hx : x.length ≤ 1000) (hs : ∀ z ∈ x, z.2.1.length ≤ 1099511627776) : ∃ t : Int, m_slices_Concat_int_int_l1 x FUEL (0, 0) = some t ∧ t = ((x.map (·.2.1.length)).sum : Nat) := by
  have hb : ∀ k, k ≤ x.length → ((x.take k).map (·.2.1.length)).sum ≤ k * 1099511627776 := by
    intro k
    induction k with
    | zero => intro _; simp
    | succ k ih =>
      intro hk
      have := ih (by omega)
      have h2 := hs x[k] (List.getElem_mem _)
      rw [List.take_succ_eq_append_getElem (by omega), List.map_append, List.sum_append]
      simp only [List.map_cons, List.map_nil, List.sum_cons, List.sum_nil]
      omega
  refine ⟨_, ?_, rfl⟩
  have h := loop_all (m_slices_Concat_int_int_l1 x) (fun k => (((((x.take k).map (·.2.1.length)).sum : Nat) : Int), (k : Int))) x.length (some (((x.map (·.2.1.length)).sum : Nat) : Int)) (by omega) (fun k fuel hk => ?_) (fun fuel => ?_)
  · rw [show m_slices_Concat_int_int_l1 x FUEL (0, 0) = _ from h]
  · rw [m_slices_Concat_int_int_l1.eq_2]
    have h1 := hb k (by omega)
    have h2 := hs x[k] (List.getElem_mem _)
    have w1 : w64 (((((x.take k).map (·.2.1.length)).sum : Nat) : Int) + (((x.getD k ((none, [], 0) : Sl)).2.1.length : Nat) : Int)) = ((((x.take (k + 1)).map (·.2.1.length)).sum : Nat) : Int) := by
      rw [List.take_succ_eq_append_getElem hk, List.map_append, List.sum_append, getD_ge hk, w64_in (by omega) (by omega)]
      simp
    have c1 : ltB ((((x.take (k + 1)).map (·.2.1.length)).sum : Nat) : Int) 0 = false := decide_eq_false (by omega)
    simp only [lt_dec hk, ix_dec hk, chk_true, cond_true, Int.toNat_natCast, w1, c1, cond_false, w64_succ (by omega : k < 4611686018427387904)]
  · rw [m_slices_Concat_int_int_l1.eq_2]; simp [nlt_dec]
theorem cat_len : ∀ (x : List Sl) (b : List Int), (x.foldl (fun a z => a ++ z.2.1) b).length = b.length + (x.map (·.2.1.length)).sum
  | [], b => by simp
  | z :: x, b => by rw [List.foldl_cons, cat_len x]; simp; omega
theorem cat_val (x : List Sl) (hx : x.length ≤ 1000) (hs : (x.map (·.2.1.length)).sum ≤ 1099511627776) : m_slices_Concat_int_int x = some (catL x) := by
  have hz : ∀ z ∈ x, z.2.1.length ≤ 1099511627776 := fun z hz => Nat.le_trans (le_sum (List.mem_map.2 ⟨z, hz, rfl⟩)) hs
  have hk : ∀ k, ((x.take k).map (·.2.1.length)).sum ≤ 1099511627776 := fun k => by
    have : (x.map (·.2.1.length)).sum = ((x.take k).map (·.2.1.length)).sum + ((x.drop k).map (·.2.1.length)).sum := by rw [← List.sum_append, ← List.map_append, List.take_append_drop]
    omega
  obtain ⟨t, h1, rfl⟩ := cat_l1 x hx hz
  unfold m_slices_Concat_int_int
  have c1 : mkB (((x.map (·.2.1.length)).sum : Nat) : Int) = true := decide_eq_true (by omega)
  have h := loop_all (m_slices_Concat_int_int_l2 x) (fun k => (catL (x.take k), (k : Int))) x.length (some (catL x)) (by omega) (fun k fuel hk2 => ?_) (fun fuel => ?_)
  · simp only [h1, Option.bind_some, c1, chk_true]
    rw [show m_slices_Concat_int_int_l2 x FUEL ([], 0) = _ from h]; rfl
  · rw [m_slices_Concat_int_int_l2.eq_2]
    have h3 := cat_len (x.take (k + 1)) []
    have h4 := hk (k + 1)
    have hc : catL (x.take (k + 1)) = catL (x.take k) ++ (x.getD k ((none, [], 0) : Sl)).2.1 := by
      unfold catL; rw [take_fold _ x [] ((none, [], 0) : Sl) hk2]
    have a1 : apB (catL (x.take k)).length (x.getD k ((none, [], 0) : Sl)).2.1.length = true := by
      refine decide_eq_true ?_
      have : (catL (x.take (k + 1))).length = (catL (x.take k)).length + (x.getD k ((none, [], 0) : Sl)).2.1.length := by rw [hc, List.length_append]
      have h5 : (catL (x.take (k + 1))).length = ([] : List Int).length + ((x.take (k + 1)).map (·.2.1.length)).sum := h3
      rw [List.length_nil, Nat.zero_add] at h5
      omega
    simp only [lt_dec hk2, ix_dec hk2, chk_true, cond_true, Int.toNat_natCast, a1, hc, w64_succ (by omega : k < 4611686018427387904)]
  · rw [m_slices_Concat_int_int_l2.eq_2]; simp [nlt_dec]
theorem c_cat2 {x0 : List Int} {A0 : Option Addr} {n0 c0 : Nat} {x1 : List Int} {A1 : Option Addr} {n1 c1 : Nat} {g : Nat} {w : World} (hb : Bk w g 22 #[.slice A0 n0 c0, .slice A1 n1 c1]) (h0 : Rt w 1 eI A0 n0 c0 x0) (h1 : Rt w 1 eI A1 n1 c1 x1) (hl : x0.length + x1.length ≤ 1099511627776) :
    Calls Try.prog 39 #[.slice (some ⟨g, 0, none⟩) 2 2] w (fun e w' => ∃ (B0 : Option Addr) (N0 D0 : Nat), e = .returned (.slice B0 N0 D0) ∧ N0 = (x0 ++ x1).length ∧ St w w' [.row 3 1 (.slice B0 N0 D0) N0 ((x0 ++ x1).flatMap eI)]) := by
  obtain rfl := h0.len
  obtain rfl := h1.len
  have hv : m_slices_Concat_int_int ([(A0, x0, c0), (A1, x1, c1)] : List Sl) = some (x0 ++ x1) := by
    rw [cat_val _ (by simp) (by simp; omega)]; simp [catL]
  refine c_slices_Concat_int_int (x0 := ([(A0, x0, c0), (A1, x1, c1)] : List Sl)) ⟨⟨Rd.of_bk hb rfl (fun j u hu => by simpa [eSl] using hu), Nat.le_refl _⟩, rfl⟩ (fun z hz => ?_) hv
  simp at hz
  rcases hz with rfl | rfl
  · exact h0.rc
  · exact h1.rc
theorem c_cat3 {x0 : List Int} {A0 : Option Addr} {n0 c0 : Nat} {x1 : List Int} {A1 : Option Addr} {n1 c1 : Nat} {x2 : List Int} {A2 : Option Addr} {n2 c2 : Nat} {g : Nat} {w : World} (hb : Bk w g 22 #[.slice A0 n0 c0, .slice A1 n1 c1, .slice A2 n2 c2]) (h0 : Rt w 1 eI A0 n0 c0 x0) (h1 : Rt w 1 eI A1 n1 c1 x1) (h2 : Rt w 1 eI A2 n2 c2 x2) (hl : x0.length + x1.length + x2.length ≤ 1099511627776) :
    Calls Try.prog 39 #[.slice (some ⟨g, 0, none⟩) 3 3] w (fun e w' => ∃ (B0 : Option Addr) (N0 D0 : Nat), e = .returned (.slice B0 N0 D0) ∧ N0 = (x0 ++ x1 ++ x2).length ∧ St w w' [.row 3 1 (.slice B0 N0 D0) N0 ((x0 ++ x1 ++ x2).flatMap eI)]) := by
  obtain rfl := h0.len
  obtain rfl := h1.len
  obtain rfl := h2.len
  have hv : m_slices_Concat_int_int ([(A0, x0, c0), (A1, x1, c1), (A2, x2, c2)] : List Sl) = some (x0 ++ x1 ++ x2) := by
    rw [cat_val _ (by simp) (by simp; omega)]; simp [catL]
  refine c_slices_Concat_int_int (x0 := ([(A0, x0, c0), (A1, x1, c1), (A2, x2, c2)] : List Sl)) ⟨⟨Rd.of_bk hb rfl (fun j u hu => by simpa [eSl] using hu), Nat.le_refl _⟩, rfl⟩ (fun z hz => ?_) hv
  simp at hz
  rcases hz with rfl | rfl | rfl
  · exact h0.rc
  · exact h1.rc
  · exact h2.rc

set_option maxHeartbeats 4000000 in
theorem c_laws_szIntS {x0 : List Int} {x1 : Int} {A0 : Option Addr} {n0 c0 : Nat} {w : World} {r : Int} (h0 : Rt w 1 eI A0 n0 c0 x0) (hM : m_laws_szIntS x0 x1 = some r) :
    Calls Try.prog 22 #[.slice A0 n0 c0, .int .i64 x1] w (fun e w' => e = .returned (.int .i64 r) ∧ St w w' []) := by
  obtain rfl := h0.len
  unfold m_laws_szIntS at hM
  refine calls_gw Try.func22 Try.ntmps22 rfl [(0, .slice A0 x0.length c0), (1, .int .i64 x1)] ⟨rfl, rfl, trivial⟩ rfl ?_
  intro a hF
  have S := St.nil w
  refine wp_seq ?_
  refine wp_region_lit ?_
  refine op_val (v := .int .i64 0) rfl rfl hF rfl (run_assign rfl rfl) ?_; clear hF; intro a hF
  refine wpList_nil ?_
  refine wp_seq ?_
  refine wp_region_lit ?_
  refine op_val (v := .int .i64 x1) rfl rfl hF rfl (run_move rfl (hF.ev rfl)) ?_; clear hF; intro a hF
  refine op_val (v := .slice A0 x0.length c0) rfl rfl hF rfl (run_move rfl (hF.ev rfl)) ?_; clear hF; intro a hF
  refine op_val (v := .int .i64 (x0.length : Int)) rfl rfl hF rfl (run_lenL rfl rfl Try.underlying22 (hF.ev rfl)) ?_; clear hF; intro a hF
  refine op_val (v := .int .i64 (w64 (x1 - (x0.length : Int)))) rfl rfl hF rfl (run_sub (z := w64 (x1 - (x0.length : Int))) (hF.ev rfl) (hF.ev rfl) rfl rfl) ?_; clear hF; intro a hF
  refine op_val (v := .int .i64 (w64 (x1 - (x0.length : Int)))) rfl rfl hF rfl (run_assign rfl (hF.ev rfl)) ?_; clear hF; intro a hF
  refine wpList_nil ?_
  refine wp_seq ?_
  refine wp_seq ?_
  refine wp_region_lit ?_
  refine op_val (v := .int .i64 (w64 (x1 - (x0.length : Int)))) rfl rfl hF rfl (run_move rfl (hF.ev rfl)) ?_; clear hF; intro a hF
  refine op_val (v := .bool (ltB (w64 (x1 - (x0.length : Int))) 0)) rfl rfl hF rfl (run_lss (hF.ev rfl) rfl rfl) ?_; clear hF; intro a hF
  refine wpList_nil ?_
  cases hc101 : (ltB (w64 (x1 - (x0.length : Int))) 0)
  · replace hM := bif_f hc101 hM
    refine cond_f hF rfl hc101 ?_
    refine wp_skip ?_
    refine wp_seq ?_
    refine wp_region_lit ?_
    refine op_val (v := .int .i64 (w64 (x1 - (x0.length : Int)))) rfl rfl hF rfl (run_move rfl (hF.ev rfl)) ?_; clear hF; intro a hF
    refine op_val (v := .int .i64 (w64 (x1 - (x0.length : Int)))) rfl rfl hF rfl (run_assign rfl (hF.ev rfl)) ?_; clear hF; intro a hF
    refine wpList_nil ?_
    refine wp_ret ?_
    repeat with_reducible (first | refine then_ret ?_ | refine in_ret ?_ | refine in_nrm ?_)
    refine ret1_gw (.inl rfl) hF rfl (res_tmp (hF.ev rfl)) ?_
    obtain rfl := Option.some.inj hM
    exact ⟨rfl, S.sel [] rfl rfl⟩
  · replace hM := bif_t hc101 hM
    refine cond_t hF rfl hc101 ?_
    refine wp_seq ?_
    refine wp_region_lit ?_
    refine op_val (v := .int .i64 (-1)) rfl rfl hF rfl (run_assign rfl rfl) ?_; clear hF; intro a hF
    refine wpList_nil ?_
    refine wp_ret ?_
    repeat with_reducible (first | refine then_ret ?_ | refine in_ret ?_ | refine in_nrm ?_)
    refine ret1_gw (.inl rfl) hF rfl (res_tmp (hF.ev rfl)) ?_
    obtain rfl := Option.some.inj hM
    exact ⟨rfl, S.sel [] rfl rfl⟩

set_option maxHeartbeats 4000000 in
theorem c_laws_szPoll {x0 : Int} {x1 : List Int} {x2 : Int} {x3 : List Int} {x4 : Int} {x5 : Int} {x6 : Int} {x7 : Int} {x8 : Int} {A1 : Option Addr} {n1 c1 : Nat} {A3 : Option Addr} {n3 c3 : Nat} {w : World} {r : Int} (h1 : Rt w 1 eI A1 n1 c1 x1) (h3 : Rt w 1 eI A3 n3 c3 x3) (hM : m_laws_szPoll x0 x1 x2 x3 x4 x5 x6 x7 x8 = some r) :
    Calls Try.prog 6 #[.agg #[.int .i64 x0, .slice A1 n1 c1, .int .i64 x2, .slice A3 n3 c3, .int .i64 x4, .int .i64 x5, .int .i64 x6, .int .i64 x7], .int .i64 x8] w (fun e w' => e = .returned (.int .i64 r) ∧ St w w' []) := by
  obtain rfl := h1.len
  obtain rfl := h3.len
  unfold m_laws_szPoll at hM
  refine calls_gw Try.func6 Try.ntmps6 rfl [(0, .agg #[.int .i64 x0, .slice A1 x1.length c1, .int .i64 x2, .slice A3 x3.length c3, .int .i64 x4, .int .i64 x5, .int .i64 x6, .int .i64 x7]), (1, .int .i64 x8)] ⟨rfl, rfl, trivial⟩ rfl ?_
  intro a hF
  have S := St.nil w
  refine wp_seq ?_
  refine wp_region_lit ?_
  refine op_new (cs := #[.int .i64 x0, .slice A1 x1.length c1, .int .i64 x2, .slice A3 x3.length c3, .int .i64 x4, .int .i64 x5, .int .i64 x6, .int .i64 x7]) rfl rfl hF rfl S (run_box rfl (hF.ev rfl) rfl) ?_; clear hF S; intro a g101 u hF S
  refine op_val (v := .int .i64 0) rfl rfl hF rfl (run_assign rfl rfl) ?_; clear hF; intro a hF
  refine wpList_nil ?_
  refine wp_seq ?_
  refine wp_region_lit ?_
  refine op_val (v := .pointer (some ⟨g101, 1, none⟩)) rfl rfl hF rfl (run_fieldAddr rfl fl24_1 (hF.ev rfl) rfl) ?_; clear hF; intro a hF
  refine op_val (v := .slice A1 x1.length c1) rfl rfl hF rfl (run_load1 rfl one22 (hF.ev rfl) ((S.free 0 rfl).cell rfl)) ?_; clear hF; intro a hF
  refine op_val (v := .int .i64 x8) rfl rfl hF rfl (run_move rfl (hF.ev rfl)) ?_; clear hF; intro a hF
  obtain ⟨p102, h102, hM⟩ := bind_ex hM
  refine op_call rfl rfl hF rfl (run_call (vs := [.slice A1 x1.length c1, .int .i64 x8]) rfl rfl co22 ⟨(hF.ev rfl), (hF.ev rfl), trivial⟩) (c_laws_szIntS (x0 := x1) (x1 := x8) ⟨(S.rc0 h1.rc), rfl⟩ h102) ?_
  rintro e u ⟨rfl, T⟩
  refine ⟨_, rfl, ?_⟩
  clear hF; intro a hF
  replace S := S.call0 T; clear T
  refine op_val (v := .int .i64 p102) rfl rfl hF rfl (run_assign rfl (hF.ev rfl)) ?_; clear hF; intro a hF
  refine wpList_nil ?_
  refine wp_seq ?_
  refine wp_seq ?_
  refine wp_region_lit ?_
  refine op_val (v := .int .i64 p102) rfl rfl hF rfl (run_move rfl (hF.ev rfl)) ?_; clear hF; intro a hF
  refine op_val (v := .bool (ltB p102 0)) rfl rfl hF rfl (run_lss (hF.ev rfl) rfl rfl) ?_; clear hF; intro a hF
  refine wpList_nil ?_
  cases hc103 : (ltB p102 0)
  · replace hM := bif_f hc103 hM
    refine cond_f hF rfl hc103 ?_
    refine wp_skip ?_
    refine wp_seq ?_
    refine wp_region_lit ?_
    refine op_val (v := .pointer (some ⟨g101, 3, none⟩)) rfl rfl hF rfl (run_fieldAddr rfl fl24_3 (hF.ev rfl) rfl) ?_; clear hF; intro a hF
    refine op_val (v := .slice A3 x3.length c3) rfl rfl hF rfl (run_load1 rfl one22 (hF.ev rfl) ((S.free 0 rfl).cell rfl)) ?_; clear hF; intro a hF
    refine op_val (v := .int .i64 p102) rfl rfl hF rfl (run_move rfl (hF.ev rfl)) ?_; clear hF; intro a hF
    obtain ⟨p104, h104, hM⟩ := bind_ex hM
    refine op_call rfl rfl hF rfl (run_call (vs := [.slice A3 x3.length c3, .int .i64 p102]) rfl rfl co22 ⟨(hF.ev rfl), (hF.ev rfl), trivial⟩) (c_laws_szIntS (x0 := x3) (x1 := p102) ⟨(S.rc0 h3.rc), rfl⟩ h104) ?_
    rintro e u ⟨rfl, T⟩
    refine ⟨_, rfl, ?_⟩
    clear hF; intro a hF
    replace S := S.call0 T; clear T
    refine op_val (v := .int .i64 p104) rfl rfl hF rfl (run_assign rfl (hF.ev rfl)) ?_; clear hF; intro a hF
    refine wpList_nil ?_
    refine wp_seq ?_
    refine wp_seq ?_
    refine wp_region_lit ?_
    refine op_val (v := .int .i64 p104) rfl rfl hF rfl (run_move rfl (hF.ev rfl)) ?_; clear hF; intro a hF
    refine op_val (v := .bool (ltB p104 0)) rfl rfl hF rfl (run_lss (hF.ev rfl) rfl rfl) ?_; clear hF; intro a hF
    refine wpList_nil ?_
    cases hc105 : (ltB p104 0)
    · replace hM := bif_f hc105 hM
      refine cond_f hF rfl hc105 ?_
      refine wp_skip ?_
      refine wp_seq ?_
      refine wp_region_lit ?_
      refine op_val (v := .int .i64 p104) rfl rfl hF rfl (run_move rfl (hF.ev rfl)) ?_; clear hF; intro a hF
      refine op_val (v := .int .i64 p104) rfl rfl hF rfl (run_assign rfl (hF.ev rfl)) ?_; clear hF; intro a hF
      refine wpList_nil ?_
      refine wp_ret ?_
      repeat with_reducible (first | refine then_ret ?_ | refine in_ret ?_ | refine in_nrm ?_)
      refine ret1_gw (.inl rfl) hF rfl (res_tmp (hF.ev rfl)) ?_
      obtain rfl := Option.some.inj hM
      exact ⟨rfl, S.sel [] rfl rfl⟩
    · replace hM := bif_t hc105 hM
      refine cond_t hF rfl hc105 ?_
      refine wp_seq ?_
      refine wp_region_lit ?_
      refine op_val (v := .int .i64 (-1)) rfl rfl hF rfl (run_assign rfl rfl) ?_; clear hF; intro a hF
      refine wpList_nil ?_
      refine wp_ret ?_
      repeat with_reducible (first | refine then_ret ?_ | refine in_ret ?_ | refine in_nrm ?_)
      refine ret1_gw (.inl rfl) hF rfl (res_tmp (hF.ev rfl)) ?_
      obtain rfl := Option.some.inj hM
      exact ⟨rfl, S.sel [] rfl rfl⟩
  · replace hM := bif_t hc103 hM
    refine cond_t hF rfl hc103 ?_
    refine wp_seq ?_
    refine wp_region_lit ?_
    refine op_val (v := .int .i64 (-1)) rfl rfl hF rfl (run_assign rfl rfl) ?_; clear hF; intro a hF
    refine wpList_nil ?_
    refine wp_ret ?_
    repeat with_reducible (first | refine then_ret ?_ | refine in_ret ?_ | refine in_nrm ?_)
    refine ret1_gw (.inl rfl) hF rfl (res_tmp (hF.ev rfl)) ?_
    obtain rfl := Option.some.inj hM
    exact ⟨rfl, S.sel [] rfl rfl⟩

set_option maxHeartbeats 4000000 in
theorem c_laws_toIntS {x0 : List Int} {A0 : Option Addr} {n0 c0 : Nat} {w : World} {r : List Int} (h0 : Rt w 1 eI A0 n0 c0 x0) (hM : m_laws_toIntS x0 = some r) :
    Calls Try.prog 27 #[.slice A0 n0 c0] w (fun e w' => ∃ (B0 : Option Addr) (N0 D0 : Nat), e = .returned (.slice B0 N0 D0) ∧ N0 = r.length ∧ St w w' [.row 3 1 (.slice B0 N0 D0) N0 (r.flatMap eI)]) := by
  obtain rfl := h0.len
  unfold m_laws_toIntS at hM
  refine calls_gw Try.func27 Try.ntmps27 rfl [(0, .slice A0 x0.length c0)] ⟨rfl, trivial⟩ rfl ?_
  intro a hF
  have S := St.nil w
  refine wp_seq ?_
  refine wp_region_lit ?_
  refine op_val (v := .slice none 0 0) rfl rfl hF rfl (run_assign rfl rfl) ?_; clear hF; intro a hF
  refine wpList_nil ?_
  refine wp_seq ?_
  refine wp_region_lit ?_
  refine op_val (v := .slice A0 x0.length c0) rfl rfl hF rfl (run_move rfl (hF.ev rfl)) ?_; clear hF; intro a hF
  refine op_val (v := .int .i64 (x0.length : Int)) rfl rfl hF rfl (run_lenL rfl rfl Try.underlying22 (hF.ev rfl)) ?_; clear hF; intro a hF
  obtain ⟨hk102, hM⟩ := chk_ex hM
  replace hk102 := mkB_t hk102
  refine op_newrowL (m := x0.length) (ls := List.replicate x0.length (0 : Int)) (e := eI) rfl rfl hF rfl S (run_makeL rfl (hF.ev rfl) (hF.ev rfl) Try.underlying22 inf3 eI_len rfl (by decide) hk102) List.length_replicate eI_len (by rw [List.length_replicate]; omega) ?_; clear hF S; intro a g101 u hF S
  refine op_val (v := .slice (some ⟨g101, 0, none⟩) x0.length x0.length) rfl rfl hF rfl (run_assign rfl (hF.ev rfl)) ?_; clear hF; intro a hF
  refine wpList_nil ?_
  refine wp_seq ?_
  refine wp_seq ?_
  refine wp_region_lit ?_
  refine op_val (v := .int .i64 0) rfl rfl hF rfl (run_assign rfl rfl) ?_; clear hF; intro a hF
  refine wpList_nil ?_
  obtain ⟨o104, hM106, hM⟩ := bind_ex hM
  refine wp_cut (fun a u => ∃ (p103 : List Int), p103 = o104 ∧ x0.length = p103.length ∧ Fr a 22 [(2, .slice none 0 0), (3, .slice (some ⟨g101, 0, none⟩) x0.length x0.length)] ∧ St w u [.row 3 1 (.slice (some ⟨g101, 0, none⟩) x0.length x0.length) x0.length (p103.flatMap eI)]) ?_ ?_
  · have _ := trivial
    refine wp_block ?_
    refine loop_gw (fun m a u => ∃ (p107 : List Int × Int), m_laws_toIntS_l1 x0 m p107 = some _ ∧ x0.length = p107.1.length ∧ Fr a 22 [(0, .slice A0 x0.length c0), (2, .slice none 0 0), (3, .slice (some ⟨g101, 0, none⟩) x0.length x0.length), (4, .int .i64 p107.2)] ∧ St w u [.row 3 1 (.slice (some ⟨g101, 0, none⟩) x0.length x0.length) x0.length (p107.1.flatMap eI)]) FUEL ⟨(List.replicate x0.length (0 : Int), 0), hM106, List.length_replicate.symm, hF.keep _ ⟨rfl, rfl, rfl, rfl, trivial⟩, S.sel [0] rfl rfl⟩ ?_
    clear hF S hM106; rintro m a u ⟨p107, hM106, hn108, hF, S⟩
    rcases m with _ | f1
    · exact none_some hM106
    rw [m_laws_toIntS_l1.eq_2] at hM106
    refine wp_seq ?_
    refine wp_seq ?_
    refine wp_region_lit ?_
    refine op_val (v := .int .i64 p107.2) rfl rfl hF rfl (run_move rfl (hF.ev rfl)) ?_; clear hF; intro a hF
    refine op_val (v := .slice A0 x0.length c0) rfl rfl hF rfl (run_move rfl (hF.ev rfl)) ?_; clear hF; intro a hF
    refine op_val (v := .int .i64 (x0.length : Int)) rfl rfl hF rfl (run_lenL rfl rfl Try.underlying22 (hF.ev rfl)) ?_; clear hF; intro a hF
    refine op_val (v := .bool (ltB p107.2 (x0.length : Int))) rfl rfl hF rfl (run_lss (hF.ev rfl) (hF.ev rfl) rfl) ?_; clear hF; intro a hF
    refine wpList_nil ?_
    cases hc109 : (ltB p107.2 (x0.length : Int))
    · replace hM106 := bif_f hc109 hM106
      refine cond_f hF rfl hc109 ?_
      refine wp_exit ?_
      repeat with_reducible (first | refine then_exit ?_ | refine in_hit ?_ | refine in_miss rfl ?_)
      obtain rfl := Option.some.inj hM106
      exact ⟨p107.1, rfl, hn108, hF.keep _ ⟨rfl, rfl, trivial⟩, S.sel [0] rfl rfl⟩
    · replace hM106 := bif_t hc109 hM106
      refine cond_t hF rfl hc109 ?_
      refine wp_skip ?_
      refine wp_seq ?_
      refine wp_block ?_
      refine wp_region_lit ?_
      refine op_val (v := .slice (some ⟨g101, 0, none⟩) x0.length x0.length) rfl rfl hF rfl (run_move rfl (hF.ev rfl)) ?_; clear hF; intro a hF
      refine op_val (v := .int .i64 p107.2) rfl rfl hF rfl (run_move rfl (hF.ev rfl)) ?_; clear hF; intro a hF
      refine op_val (v := .slice A0 x0.length c0) rfl rfl hF rfl (run_move rfl (hF.ev rfl)) ?_; clear hF; intro a hF
      refine op_val (v := .int .i64 p107.2) rfl rfl hF rfl (run_move rfl (hF.ev rfl)) ?_; clear hF; intro a hF
      obtain ⟨hk110, hM106⟩ := chk_ex hM106
      replace hk110 := ixB_t hk110
      refine op_val (v := .pointer (some ⟨adB A0, adO A0 + p107.2.toNat * 1, none⟩)) rfl rfl hF rfl (run_indexAddr (b := adB A0) (off := adO A0) rfl Try.underlying22 sz3 ((hF.ev rfl).trans (congrArg (fun A => Value.slice A x0.length c0) ((S.rc0 h0.rc).rd.ad (ix_pos hk110)))) (hF.ev rfl) hk110.1 hk110.2 (k' := adO A0 + p107.2.toNat * 1) rfl) ?_; clear hF; intro a hF
      refine op_val (v := .int .i64 (x0.getD p107.2.toNat (0 : Int))) rfl rfl hF rfl (run_load1 rfl one3 (hF.ev rfl) (rd_el0 (l := x0) (S.rc0 h0.rc).rd rfl eI_len (0 : Int) (ix_ltn hk110 rfl) rfl)) ?_; clear hF; intro a hF
      obtain ⟨hk111, hM106⟩ := chk_ex hM106
      replace hk111 := ixB_t hk111
      refine op_val (v := .pointer (some ⟨adB (some ⟨g101, 0, none⟩), adO (some ⟨g101, 0, none⟩) + p107.2.toNat * 1, none⟩)) rfl rfl hF rfl (run_indexAddr (b := adB (some ⟨g101, 0, none⟩)) (off := adO (some ⟨g101, 0, none⟩)) rfl Try.underlying22 sz3 ((hF.ev rfl).trans (congrArg (fun A => Value.slice A x0.length x0.length) ((S.rc 0 rfl).rd.ad (ix_pos hk111)))) (hF.ev rfl) hk111.1 hk111.2 (k' := adO (some ⟨g101, 0, none⟩) + p107.2.toNat * 1) rfl) ?_; clear hF; intro a hF
      obtain ⟨w', hrun, S'⟩ := run_storeElN (P := Try.prog) (ρ := a.eval) (y0 := (x0.getD p107.2.toNat (0 : Int))) (off := 0) S 3 (.tmp 20) (.tmp 19) (i := 0) sz3 (hF.ev rfl) (hF.ev rfl) rfl rfl rfl rfl hn108 eI_len (0 : Int) (ix_ltn hk111 hn108) rfl rfl
      refine op_do rfl rfl (hrun _ rfl) ?_; clear hrun S; have S := S'; clear S'; generalize w' = u at S ⊢
      refine wpList_nil ?_
      refine wp_region_lit ?_
      refine op_val (v := .int .i64 p107.2) rfl rfl hF rfl (run_move rfl (hF.ev rfl)) ?_; clear hF; intro a hF
      refine op_val (v := .int .i64 (w64 (p107.2 + 1))) rfl rfl hF rfl (run_add (z := w64 (p107.2 + 1)) (hF.ev rfl) rfl rfl rfl) ?_; clear hF; intro a hF
      refine op_val (v := .int .i64 (w64 (p107.2 + 1))) rfl rfl hF rfl (run_assign rfl (hF.ev rfl)) ?_; clear hF; intro a hF
      refine wpList_nil ?_
      exact ⟨f1, Nat.lt_succ_self _, (p107.1.set p107.2.toNat (x0.getD p107.2.toNat (0 : Int)), w64 (p107.2 + 1)), hM106, (len_set hn108), hF.keep _ ⟨rfl, rfl, rfl, rfl, trivial⟩, S.sel [0] rfl rfl⟩
  · rintro a u ⟨p103, rfl, hn105, hF, S⟩
    refine wp_seq ?_
    refine wp_region_lit ?_
    refine op_val (v := .slice (some ⟨g101, 0, none⟩) x0.length x0.length) rfl rfl hF rfl (run_move rfl (hF.ev rfl)) ?_; clear hF; intro a hF
    refine op_val (v := .slice (some ⟨g101, 0, none⟩) x0.length x0.length) rfl rfl hF rfl (run_assign rfl (hF.ev rfl)) ?_; clear hF; intro a hF
    refine wpList_nil ?_
    refine wp_ret ?_
    repeat with_reducible (first | refine then_ret ?_ | refine in_ret ?_ | refine in_nrm ?_)
    refine ret1_gw (.inl rfl) hF rfl (res_tmp (hF.ev rfl)) ?_
    obtain rfl := Option.some.inj hM
    exact ⟨(some ⟨g101, 0, none⟩), x0.length, x0.length, rfl, hn105, S.sel [0] rfl rfl⟩

set_option maxHeartbeats 4000000 in
theorem c_laws_toPoll {x0 : Int} {x1 : List Int} {x2 : Int} {x3 : List Int} {x4 : Int} {x5 : Int} {x6 : Int} {x7 : Int} {A1 : Option Addr} {n1 c1 : Nat} {A3 : Option Addr} {n3 c3 : Nat} {w : World} {r : Int × List Int × Int × List Int × Int × Int × Int × Int} (h1 : Rt w 1 eI A1 n1 c1 x1) (h3 : Rt w 1 eI A3 n3 c3 x3) (hM : m_laws_toPoll x0 x1 x2 x3 x4 x5 x6 x7 = some r) :
    Calls Try.prog 8 #[.agg #[.int .i64 x0, .slice A1 n1 c1, .int .i64 x2, .slice A3 n3 c3, .int .i64 x4, .int .i64 x5, .int .i64 x6, .int .i64 x7]] w (fun e w' => ∃ (B0 : Option Addr) (N0 D0 : Nat) (B1 : Option Addr) (N1 D1 : Nat), e = .returned (.agg #[.int .i64 r.1, .slice B0 N0 D0, .int .i64 r.2.2.1, .slice B1 N1 D1, .int .i64 r.2.2.2.2.1, .int .i64 r.2.2.2.2.2.1, .int .i64 r.2.2.2.2.2.2.1, .int .i64 r.2.2.2.2.2.2.2]) ∧ N0 = r.2.1.length ∧ N1 = r.2.2.2.1.length ∧ St w w' [.row 3 1 (.slice B0 N0 D0) N0 (r.2.1.flatMap eI), .row 3 1 (.slice B1 N1 D1) N1 (r.2.2.2.1.flatMap eI)]) := by
  obtain rfl := h1.len
  obtain rfl := h3.len
  unfold m_laws_toPoll at hM
  refine calls_gw Try.func8 Try.ntmps8 rfl [(0, .agg #[.int .i64 x0, .slice A1 x1.length c1, .int .i64 x2, .slice A3 x3.length c3, .int .i64 x4, .int .i64 x5, .int .i64 x6, .int .i64 x7])] ⟨rfl, trivial⟩ rfl ?_
  intro a hF
  have S := St.nil w
  refine wp_seq ?_
  refine wp_region_lit ?_
  refine op_new (cs := #[.int .i64 x0, .slice A1 x1.length c1, .int .i64 x2, .slice A3 x3.length c3, .int .i64 x4, .int .i64 x5, .int .i64 x6, .int .i64 x7]) rfl rfl hF rfl S (run_box rfl (hF.ev rfl) rfl) ?_; clear hF S; intro a g101 u hF S
  refine op_new (cs := #[.int .i64 0, .slice none 0 0, .int .i64 0, .slice none 0 0, .int .i64 0, .int .i64 0, .int .i64 0, .int .i64 0]) rfl rfl hF rfl S (run_allocZ rfl zr28) ?_; clear hF S; intro a g102 u hF S
  refine wpList_nil ?_
  refine wp_seq ?_
  refine wp_region_lit ?_
  refine op_new (cs := #[.int .i64 0, .slice none 0 0, .int .i64 0, .slice none 0 0, .int .i64 0, .int .i64 0, .int .i64 0, .int .i64 0]) rfl rfl hF rfl S (run_allocZ rfl zr28) ?_; clear hF S; intro a g103 u hF S
  refine wpList_nil ?_
  refine wp_seq ?_
  refine wp_region_lit ?_
  refine op_val (v := .pointer (some ⟨g101, 0, none⟩)) rfl rfl hF rfl (run_fieldAddr rfl fl24_0 (hF.ev rfl) rfl) ?_; clear hF; intro a hF
  refine op_val (v := .int .i64 x0) rfl rfl hF rfl (run_load1 rfl one3 (hF.ev rfl) ((S.free 2 rfl).cell rfl)) ?_; clear hF; intro a hF
  refine op_val (v := .pointer (some ⟨g103, 0, none⟩)) rfl rfl hF rfl (run_fieldAddr rfl fl28_0 (hF.ev rfl) rfl) ?_; clear hF; intro a hF
  refine op_do rfl rfl (run_store (cs' := #[.int .i64 x0, .slice none 0 0, .int .i64 0, .slice none 0 0, .int .i64 0, .int .i64 0, .int .i64 0, .int .i64 0]) rfl sz3 (hF.ev rfl) (hF.ev rfl) rfl rfl rfl (S.free 0 rfl) rfl rfl) ?_; replace S := S.put 0 rfl (#[.int .i64 x0, .slice none 0 0, .int .i64 0, .slice none 0 0, .int .i64 0, .int .i64 0, .int .i64 0, .int .i64 0])
  generalize World.setRow _ _ _ = u at S ⊢
  refine wpList_nil ?_
  refine wp_seq ?_
  refine wp_region_lit ?_
  refine op_val (v := .pointer (some ⟨g101, 1, none⟩)) rfl rfl hF rfl (run_fieldAddr rfl fl24_1 (hF.ev rfl) rfl) ?_; clear hF; intro a hF
  refine op_val (v := .slice A1 x1.length c1) rfl rfl hF rfl (run_load1 rfl one22 (hF.ev rfl) ((S.free 2 rfl).cell rfl)) ?_; clear hF; intro a hF
  obtain ⟨p104, h104, hM⟩ := bind_ex hM
  refine op_call rfl rfl hF rfl (run_call (vs := [.slice A1 x1.length c1]) rfl rfl co27 ⟨(hF.ev rfl), trivial⟩) (c_laws_toIntS (x0 := x1) ⟨(S.rc0 h1.rc), rfl⟩ h104) ?_
  rintro e u ⟨B105, n106, d107, rfl, rfl, T⟩
  refine ⟨_, rfl, ?_⟩
  clear hF; intro a hF
  replace S := S.call1 T; clear T
  refine op_val (v := .pointer (some ⟨g103, 1, none⟩)) rfl rfl hF rfl (run_fieldAddr rfl fl28_1 (hF.ev rfl) rfl) ?_; clear hF; intro a hF
  refine op_do rfl rfl (run_store (cs' := #[.int .i64 x0, .slice B105 p104.length d107, .int .i64 0, .slice none 0 0, .int .i64 0, .int .i64 0, .int .i64 0, .int .i64 0]) rfl sz22 (hF.ev rfl) (hF.ev rfl) rfl rfl rfl (S.free 1 rfl) rfl rfl) ?_; replace S := S.put 1 rfl (#[.int .i64 x0, .slice B105 p104.length d107, .int .i64 0, .slice none 0 0, .int .i64 0, .int .i64 0, .int .i64 0, .int .i64 0])
  generalize World.setRow _ _ _ = u at S ⊢
  refine wpList_nil ?_
  refine wp_seq ?_
  refine wp_region_lit ?_
  refine op_val (v := .pointer (some ⟨g101, 2, none⟩)) rfl rfl hF rfl (run_fieldAddr rfl fl24_2 (hF.ev rfl) rfl) ?_; clear hF; intro a hF
  refine op_val (v := .int .i64 x2) rfl rfl hF rfl (run_load1 rfl one3 (hF.ev rfl) ((S.free 3 rfl).cell rfl)) ?_; clear hF; intro a hF
  refine op_val (v := .pointer (some ⟨g103, 2, none⟩)) rfl rfl hF rfl (run_fieldAddr rfl fl28_2 (hF.ev rfl) rfl) ?_; clear hF; intro a hF
  refine op_do rfl rfl (run_store (cs' := #[.int .i64 x0, .slice B105 p104.length d107, .int .i64 x2, .slice none 0 0, .int .i64 0, .int .i64 0, .int .i64 0, .int .i64 0]) rfl sz3 (hF.ev rfl) (hF.ev rfl) rfl rfl rfl (S.free 1 rfl) rfl rfl) ?_; replace S := S.put 1 rfl (#[.int .i64 x0, .slice B105 p104.length d107, .int .i64 x2, .slice none 0 0, .int .i64 0, .int .i64 0, .int .i64 0, .int .i64 0])
  generalize World.setRow _ _ _ = u at S ⊢
  refine wpList_nil ?_
  refine wp_seq ?_
  refine wp_region_lit ?_
  refine op_val (v := .pointer (some ⟨g101, 3, none⟩)) rfl rfl hF rfl (run_fieldAddr rfl fl24_3 (hF.ev rfl) rfl) ?_; clear hF; intro a hF
  refine op_val (v := .slice A3 x3.length c3) rfl rfl hF rfl (run_load1 rfl one22 (hF.ev rfl) ((S.free 3 rfl).cell rfl)) ?_; clear hF; intro a hF
  obtain ⟨p108, h108, hM⟩ := bind_ex hM
  refine op_call rfl rfl hF rfl (run_call (vs := [.slice A3 x3.length c3]) rfl rfl co27 ⟨(hF.ev rfl), trivial⟩) (c_laws_toIntS (x0 := x3) ⟨(S.rc0 h3.rc), rfl⟩ h108) ?_
  rintro e u ⟨B109, n110, d111, rfl, rfl, T⟩
  refine ⟨_, rfl, ?_⟩
  clear hF; intro a hF
  replace S := S.call1 T; clear T
  refine op_val (v := .pointer (some ⟨g103, 3, none⟩)) rfl rfl hF rfl (run_fieldAddr rfl fl28_3 (hF.ev rfl) rfl) ?_; clear hF; intro a hF
  refine op_do rfl rfl (run_store (cs' := #[.int .i64 x0, .slice B105 p104.length d107, .int .i64 x2, .slice B109 p108.length d111, .int .i64 0, .int .i64 0, .int .i64 0, .int .i64 0]) rfl sz22 (hF.ev rfl) (hF.ev rfl) rfl rfl rfl (S.free 2 rfl) rfl rfl) ?_; replace S := S.put 2 rfl (#[.int .i64 x0, .slice B105 p104.length d107, .int .i64 x2, .slice B109 p108.length d111, .int .i64 0, .int .i64 0, .int .i64 0, .int .i64 0])
  generalize World.setRow _ _ _ = u at S ⊢
  refine wpList_nil ?_
  refine wp_seq ?_
  refine wp_region_lit ?_
  refine op_val (v := .pointer (some ⟨g101, 4, none⟩)) rfl rfl hF rfl (run_fieldAddr rfl fl24_4 (hF.ev rfl) rfl) ?_; clear hF; intro a hF
  refine op_val (v := .int .i64 x4) rfl rfl hF rfl (run_load1 rfl one3 (hF.ev rfl) ((S.free 4 rfl).cell rfl)) ?_; clear hF; intro a hF
  refine op_val (v := .pointer (some ⟨g103, 4, none⟩)) rfl rfl hF rfl (run_fieldAddr rfl fl28_4 (hF.ev rfl) rfl) ?_; clear hF; intro a hF
  refine op_do rfl rfl (run_store (cs' := #[.int .i64 x0, .slice B105 p104.length d107, .int .i64 x2, .slice B109 p108.length d111, .int .i64 x4, .int .i64 0, .int .i64 0, .int .i64 0]) rfl sz3 (hF.ev rfl) (hF.ev rfl) rfl rfl rfl (S.free 2 rfl) rfl rfl) ?_; replace S := S.put 2 rfl (#[.int .i64 x0, .slice B105 p104.length d107, .int .i64 x2, .slice B109 p108.length d111, .int .i64 x4, .int .i64 0, .int .i64 0, .int .i64 0])
  generalize World.setRow _ _ _ = u at S ⊢
  refine wpList_nil ?_
  refine wp_seq ?_
  refine wp_region_lit ?_
  refine op_val (v := .pointer (some ⟨g101, 5, none⟩)) rfl rfl hF rfl (run_fieldAddr rfl fl24_5 (hF.ev rfl) rfl) ?_; clear hF; intro a hF
  refine op_val (v := .int .i64 x5) rfl rfl hF rfl (run_load1 rfl one3 (hF.ev rfl) ((S.free 4 rfl).cell rfl)) ?_; clear hF; intro a hF
  refine op_val (v := .pointer (some ⟨g103, 5, none⟩)) rfl rfl hF rfl (run_fieldAddr rfl fl28_5 (hF.ev rfl) rfl) ?_; clear hF; intro a hF
  refine op_do rfl rfl (run_store (cs' := #[.int .i64 x0, .slice B105 p104.length d107, .int .i64 x2, .slice B109 p108.length d111, .int .i64 x4, .int .i64 x5, .int .i64 0, .int .i64 0]) rfl sz3 (hF.ev rfl) (hF.ev rfl) rfl rfl rfl (S.free 2 rfl) rfl rfl) ?_; replace S := S.put 2 rfl (#[.int .i64 x0, .slice B105 p104.length d107, .int .i64 x2, .slice B109 p108.length d111, .int .i64 x4, .int .i64 x5, .int .i64 0, .int .i64 0])
  generalize World.setRow _ _ _ = u at S ⊢
  refine wpList_nil ?_
  refine wp_seq ?_
  refine wp_region_lit ?_
  refine op_val (v := .pointer (some ⟨g101, 6, none⟩)) rfl rfl hF rfl (run_fieldAddr rfl fl24_6 (hF.ev rfl) rfl) ?_; clear hF; intro a hF
  refine op_val (v := .int .i64 x6) rfl rfl hF rfl (run_load1 rfl one3 (hF.ev rfl) ((S.free 4 rfl).cell rfl)) ?_; clear hF; intro a hF
  refine op_val (v := .pointer (some ⟨g103, 6, none⟩)) rfl rfl hF rfl (run_fieldAddr rfl fl28_6 (hF.ev rfl) rfl) ?_; clear hF; intro a hF
  refine op_do rfl rfl (run_store (cs' := #[.int .i64 x0, .slice B105 p104.length d107, .int .i64 x2, .slice B109 p108.length d111, .int .i64 x4, .int .i64 x5, .int .i64 x6, .int .i64 0]) rfl sz3 (hF.ev rfl) (hF.ev rfl) rfl rfl rfl (S.free 2 rfl) rfl rfl) ?_; replace S := S.put 2 rfl (#[.int .i64 x0, .slice B105 p104.length d107, .int .i64 x2, .slice B109 p108.length d111, .int .i64 x4, .int .i64 x5, .int .i64 x6, .int .i64 0])
  generalize World.setRow _ _ _ = u at S ⊢
  refine wpList_nil ?_
  refine wp_seq ?_
  refine wp_region_lit ?_
  refine op_val (v := .pointer (some ⟨g101, 7, none⟩)) rfl rfl hF rfl (run_fieldAddr rfl fl24_7 (hF.ev rfl) rfl) ?_; clear hF; intro a hF
  refine op_val (v := .int .i64 x7) rfl rfl hF rfl (run_load1 rfl one3 (hF.ev rfl) ((S.free 4 rfl).cell rfl)) ?_; clear hF; intro a hF
  refine op_val (v := .pointer (some ⟨g103, 7, none⟩)) rfl rfl hF rfl (run_fieldAddr rfl fl28_7 (hF.ev rfl) rfl) ?_; clear hF; intro a hF
  refine op_do rfl rfl (run_store (cs' := #[.int .i64 x0, .slice B105 p104.length d107, .int .i64 x2, .slice B109 p108.length d111, .int .i64 x4, .int .i64 x5, .int .i64 x6, .int .i64 x7]) rfl sz3 (hF.ev rfl) (hF.ev rfl) rfl rfl rfl (S.free 2 rfl) rfl rfl) ?_; replace S := S.put 2 rfl (#[.int .i64 x0, .slice B105 p104.length d107, .int .i64 x2, .slice B109 p108.length d111, .int .i64 x4, .int .i64 x5, .int .i64 x6, .int .i64 x7])
  generalize World.setRow _ _ _ = u at S ⊢
  refine wpList_nil ?_
  refine wp_seq ?_
  refine wp_region_lit ?_
  refine op_val (v := .agg #[.int .i64 x0, .slice B105 p104.length d107, .int .i64 x2, .slice B109 p108.length d111, .int .i64 x4, .int .i64 x5, .int .i64 x6, .int .i64 x7]) rfl rfl hF rfl (run_loadN rfl ag28 (hF.ev rfl) rfl ((S.free 2 rfl).cells 0 #[.int .i64 x0, .slice B105 p104.length d107, .int .i64 x2, .slice B109 p108.length d111, .int .i64 x4, .int .i64 x5, .int .i64 x6, .int .i64 x7] rfl)) ?_; clear hF; intro a hF
  refine op_do rfl rfl (run_store (cs' := #[.int .i64 x0, .slice B105 p104.length d107, .int .i64 x2, .slice B109 p108.length d111, .int .i64 x4, .int .i64 x5, .int .i64 x6, .int .i64 x7]) rfl sz28 (hF.ev rfl) (hF.ev rfl) rfl rfl rfl (S.free 3 rfl) rfl rfl) ?_; replace S := S.put 3 rfl (#[.int .i64 x0, .slice B105 p104.length d107, .int .i64 x2, .slice B109 p108.length d111, .int .i64 x4, .int .i64 x5, .int .i64 x6, .int .i64 x7])
  generalize World.setRow _ _ _ = u at S ⊢
  refine wpList_nil ?_
  refine wp_ret ?_
  repeat with_reducible (first | refine then_ret ?_ | refine in_ret ?_ | refine in_nrm ?_)
  refine ret1_gw (.inl rfl) hF rfl (res_cell (hF.ev rfl) (res_loadN ag28 rfl (S.cells 3 rfl 0 #[.int .i64 x0, .slice B105 p104.length d107, .int .i64 x2, .slice B109 p108.length d111, .int .i64 x4, .int .i64 x5, .int .i64 x6, .int .i64 x7] rfl))) ?_
  obtain rfl := Option.some.inj hM
  exact ⟨B105, p104.length, d107, B109, p108.length, d111, rfl, rfl, rfl, S.sel [1, 0] rfl rfl⟩

set_option maxHeartbeats 4000000 in
theorem c_laws_toPollDeed {x0 : Int} {x1 : Int} {w : World} {r : Int × Int}  (hM : m_laws_toPollDeed x0 x1 = some r) :
    Calls Try.prog 9 #[.agg #[.int .i64 x0, .int .i64 x1]] w (fun e w' => e = .returned (.agg #[.int .i64 r.1, .int .i64 r.2]) ∧ St w w' []) := by
  unfold m_laws_toPollDeed at hM
  refine calls_gw Try.func9 Try.ntmps9 rfl [(0, .agg #[.int .i64 x0, .int .i64 x1])] ⟨rfl, trivial⟩ rfl ?_
  intro a hF
  have S := St.nil w
  refine wp_seq ?_
  refine wp_region_lit ?_
  refine op_new (cs := #[.int .i64 x0, .int .i64 x1]) rfl rfl hF rfl S (run_box rfl (hF.ev rfl) rfl) ?_; clear hF S; intro a g101 u hF S
  refine op_new (cs := #[.int .i64 0, .int .i64 0]) rfl rfl hF rfl S (run_allocZ rfl zr32) ?_; clear hF S; intro a g102 u hF S
  refine wpList_nil ?_
  refine wp_seq ?_
  refine wp_region_lit ?_
  refine op_new (cs := #[.int .i64 0, .int .i64 0]) rfl rfl hF rfl S (run_allocZ rfl zr32) ?_; clear hF S; intro a g103 u hF S
  refine wpList_nil ?_
  refine wp_seq ?_
  refine wp_region_lit ?_
  refine op_val (v := .pointer (some ⟨g101, 0, none⟩)) rfl rfl hF rfl (run_fieldAddr rfl fl26_0 (hF.ev rfl) rfl) ?_; clear hF; intro a hF
  refine op_val (v := .int .i64 x0) rfl rfl hF rfl (run_load1 rfl one3 (hF.ev rfl) ((S.free 2 rfl).cell rfl)) ?_; clear hF; intro a hF
  refine op_val (v := .pointer (some ⟨g103, 0, none⟩)) rfl rfl hF rfl (run_fieldAddr rfl fl32_0 (hF.ev rfl) rfl) ?_; clear hF; intro a hF
  refine op_do rfl rfl (run_store (cs' := #[.int .i64 x0, .int .i64 0]) rfl sz3 (hF.ev rfl) (hF.ev rfl) rfl rfl rfl (S.free 0 rfl) rfl rfl) ?_; replace S := S.put 0 rfl (#[.int .i64 x0, .int .i64 0])
  generalize World.setRow _ _ _ = u at S ⊢
  refine wpList_nil ?_
  refine wp_seq ?_
  refine wp_region_lit ?_
  refine op_val (v := .pointer (some ⟨g101, 1, none⟩)) rfl rfl hF rfl (run_fieldAddr rfl fl26_1 (hF.ev rfl) rfl) ?_; clear hF; intro a hF
  refine op_val (v := .int .i64 x1) rfl rfl hF rfl (run_load1 rfl one3 (hF.ev rfl) ((S.free 2 rfl).cell rfl)) ?_; clear hF; intro a hF
  refine op_val (v := .pointer (some ⟨g103, 1, none⟩)) rfl rfl hF rfl (run_fieldAddr rfl fl32_1 (hF.ev rfl) rfl) ?_; clear hF; intro a hF
  refine op_do rfl rfl (run_store (cs' := #[.int .i64 x0, .int .i64 x1]) rfl sz3 (hF.ev rfl) (hF.ev rfl) rfl rfl rfl (S.free 0 rfl) rfl rfl) ?_; replace S := S.put 0 rfl (#[.int .i64 x0, .int .i64 x1])
  generalize World.setRow _ _ _ = u at S ⊢
  refine wpList_nil ?_
  refine wp_seq ?_
  refine wp_region_lit ?_
  refine op_val (v := .agg #[.int .i64 x0, .int .i64 x1]) rfl rfl hF rfl (run_loadN rfl ag32 (hF.ev rfl) rfl ((S.free 0 rfl).cells 0 #[.int .i64 x0, .int .i64 x1] rfl)) ?_; clear hF; intro a hF
  refine op_do rfl rfl (run_store (cs' := #[.int .i64 x0, .int .i64 x1]) rfl sz32 (hF.ev rfl) (hF.ev rfl) rfl rfl rfl (S.free 1 rfl) rfl rfl) ?_; replace S := S.put 1 rfl (#[.int .i64 x0, .int .i64 x1])
  generalize World.setRow _ _ _ = u at S ⊢
  refine wpList_nil ?_
  refine wp_ret ?_
  repeat with_reducible (first | refine then_ret ?_ | refine in_ret ?_ | refine in_nrm ?_)
  refine ret1_gw (.inl rfl) hF rfl (res_cell (hF.ev rfl) (res_loadN ag32 rfl (S.cells 1 rfl 0 #[.int .i64 x0, .int .i64 x1] rfl))) ?_
  obtain rfl := Option.some.inj hM
  exact ⟨rfl, S.sel [] rfl rfl⟩

set_option maxHeartbeats 4000000 in
theorem c_spec_l1In {x0 : Int} {x1 : Int} {x2 : Int} {w : World} {r : Bool}  (hM : m_spec_l1In x0 x1 x2 = some r) :
    Calls Try.prog 35 #[.int .i64 x0, .int .i64 x1, .int .i64 x2] w (fun e w' => e = .returned (.bool r) ∧ St w w' []) := by
  unfold m_spec_l1In at hM
  refine calls_gw Try.func35 Try.ntmps35 rfl [(0, .int .i64 x0), (1, .int .i64 x1), (2, .int .i64 x2)] ⟨rfl, rfl, rfl, trivial⟩ rfl ?_
  intro a hF
  have S := St.nil w
  refine wp_seq ?_
  refine wp_region_lit ?_
  refine op_val (v := .bool false) rfl rfl hF rfl (run_assign rfl rfl) ?_; clear hF; intro a hF
  refine wpList_nil ?_
  refine wp_seq ?_
  refine wp_region_lit ?_
  refine op_val (v := .int .i64 x0) rfl rfl hF rfl (run_move rfl (hF.ev rfl)) ?_; clear hF; intro a hF
  refine op_val (v := .int .i64 x1) rfl rfl hF rfl (run_move rfl (hF.ev rfl)) ?_; clear hF; intro a hF
  refine op_val (v := .bool (leB x1 x0)) rfl rfl hF rfl (run_geq (hF.ev rfl) (hF.ev rfl) rfl) ?_; clear hF; intro a hF
  refine op_val (v := .bool (leB x1 x0)) rfl rfl hF rfl (run_move rfl (hF.ev rfl)) ?_; clear hF; intro a hF
  refine op_gv (v := .int .i64 x0) rfl rfl hF rfl (yt (gw_yield hF rfl rfl rfl)) (fun hg => (run_move rfl (hF.ev rfl))) ?_; clear hF; intro a hF
  refine op_gv (v := .int .i64 x2) rfl rfl hF rfl (yt (gw_yield hF rfl rfl rfl)) (fun hg => (run_move rfl (hF.ev rfl))) ?_; clear hF; intro a hF
  refine op_gv (v := .bool (leB x0 x2)) rfl rfl hF rfl (yt (gw_yield hF rfl rfl rfl)) (fun hg => (run_leq ((hF.ev rfl).trans (gv_t hg)) ((hF.ev rfl).trans (gv_t hg)) rfl)) ?_; clear hF; intro a hF
  refine op_val (v := .bool ((leB x1 x0) && (leB x0 x2))) rfl rfl hF rfl (run_pick_and rfl (hF.ev rfl) (fun hp => ((hF.ev rfl).trans (gv_t hp))) rfl) ?_; clear hF; intro a hF
  refine op_val (v := .bool ((leB x1 x0) && (leB x0 x2))) rfl rfl hF rfl (run_assign rfl (hF.ev rfl)) ?_; clear hF; intro a hF
  refine wpList_nil ?_
  refine wp_ret ?_
  repeat with_reducible (first | refine then_ret ?_ | refine in_ret ?_ | refine in_nrm ?_)
  refine ret1_gw (.inl rfl) hF rfl (res_tmp (hF.ev rfl)) ?_
  obtain rfl := Option.some.inj hM
  exact ⟨rfl, S.sel [] rfl rfl⟩

set_option maxHeartbeats 4000000 in
theorem c_spec_l27Events {x0 : List Int} {A0 : Option Addr} {n0 c0 : Nat} {w : World} {r : Bool} (h0 : Rt w 1 eI A0 n0 c0 x0) (hM : m_spec_l27Events x0 = some r) :
    Calls Try.prog 36 #[.slice A0 n0 c0] w (fun e w' => e = .returned (.bool r) ∧ St w w' []) := by
  obtain rfl := h0.len
  unfold m_spec_l27Events at hM
  refine calls_gw Try.func36 Try.ntmps36 rfl [(0, .slice A0 x0.length c0)] ⟨rfl, trivial⟩ rfl ?_
  intro a hF
  have S := St.nil w
  refine wp_seq ?_
  refine wp_region_lit ?_
  refine op_val (v := .bool false) rfl rfl hF rfl (run_assign rfl rfl) ?_; clear hF; intro a hF
  refine wpList_nil ?_
  refine wp_seq ?_
  refine wp_seq ?_
  refine wp_region_lit ?_
  refine op_val (v := .int .i64 0) rfl rfl hF rfl (run_assign rfl rfl) ?_; clear hF; intro a hF
  refine wpList_nil ?_
  obtain ⟨o102, hM103, hM⟩ := bind_ex hM
  refine wp_cut (fun a u => ∃ (p101 : Unit), (Sum.inl p101) = o102 ∧ Fr a 16 [(2, .bool false)] ∧ St w u []) ?_ ?_
  · have _ := trivial
    refine wp_block ?_
    refine loop_gw (fun m a u => ∃ (p104 : Int), m_spec_l27Events_l1 x0 m p104 = some _ ∧ Fr a 16 [(0, .slice A0 x0.length c0), (2, .bool false), (3, .int .i64 p104)] ∧ St w u []) FUEL ⟨0, hM103, hF.keep _ ⟨rfl, rfl, rfl, trivial⟩, S.sel [] rfl rfl⟩ ?_
    clear hF S hM103; rintro m a u ⟨p104, hM103, hF, S⟩
    rcases m with _ | f1
    · exact none_some hM103
    rw [m_spec_l27Events_l1.eq_2] at hM103
    refine wp_seq ?_
    refine wp_seq ?_
    refine wp_region_lit ?_
    refine op_val (v := .int .i64 p104) rfl rfl hF rfl (run_move rfl (hF.ev rfl)) ?_; clear hF; intro a hF
    refine op_val (v := .slice A0 x0.length c0) rfl rfl hF rfl (run_move rfl (hF.ev rfl)) ?_; clear hF; intro a hF
    refine op_val (v := .int .i64 (x0.length : Int)) rfl rfl hF rfl (run_lenL rfl rfl Try.underlying22 (hF.ev rfl)) ?_; clear hF; intro a hF
    refine op_val (v := .bool (ltB p104 (x0.length : Int))) rfl rfl hF rfl (run_lss (hF.ev rfl) (hF.ev rfl) rfl) ?_; clear hF; intro a hF
    refine wpList_nil ?_
    cases hc105 : (ltB p104 (x0.length : Int))
    · replace hM103 := bif_f hc105 hM103
      refine cond_f hF rfl hc105 ?_
      refine wp_exit ?_
      repeat with_reducible (first | refine then_exit ?_ | refine in_hit ?_ | refine in_miss rfl ?_)
      obtain rfl := Option.some.inj hM103
      exact ⟨(), rfl, hF.keep _ ⟨rfl, trivial⟩, S.sel [] rfl rfl⟩
    · replace hM103 := bif_t hc105 hM103
      refine cond_t hF rfl hc105 ?_
      refine wp_skip ?_
      refine wp_seq ?_
      refine wp_block ?_
      refine wp_seq ?_
      refine wp_region_lit ?_
      refine op_val (v := .slice A0 x0.length c0) rfl rfl hF rfl (run_move rfl (hF.ev rfl)) ?_; clear hF; intro a hF
      refine op_val (v := .int .i64 p104) rfl rfl hF rfl (run_move rfl (hF.ev rfl)) ?_; clear hF; intro a hF
      obtain ⟨hk106, hM103⟩ := chk_ex hM103
      replace hk106 := ixB_t hk106
      refine op_val (v := .pointer (some ⟨adB A0, adO A0 + p104.toNat * 1, none⟩)) rfl rfl hF rfl (run_indexAddr (b := adB A0) (off := adO A0) rfl Try.underlying22 sz3 ((hF.ev rfl).trans (congrArg (fun A => Value.slice A x0.length c0) ((S.rc0 h0.rc).rd.ad (ix_pos hk106)))) (hF.ev rfl) hk106.1 hk106.2 (k' := adO A0 + p104.toNat * 1) rfl) ?_; clear hF; intro a hF
      refine op_val (v := .int .i64 (x0.getD p104.toNat (0 : Int))) rfl rfl hF rfl (run_load1 rfl one3 (hF.ev rfl) (rd_el0 (l := x0) (S.rc0 h0.rc).rd rfl eI_len (0 : Int) (ix_ltn hk106 rfl) rfl)) ?_; clear hF; intro a hF
      obtain ⟨p107, h107, hM103⟩ := bind_ex hM103
      refine op_call rfl rfl hF rfl (run_call (vs := [.int .i64 (x0.getD p104.toNat (0 : Int)), .int .i64 0, .int .i64 999]) rfl rfl co35 ⟨(hF.ev rfl), rfl, rfl, trivial⟩) (c_spec_l1In (x0 := (x0.getD p104.toNat (0 : Int))) (x1 := 0) (x2 := 999)  h107) ?_
      rintro e u ⟨rfl, T⟩
      refine ⟨_, rfl, ?_⟩
      clear hF; intro a hF
      replace S := S.call0 T; clear T
      refine op_val (v := .bool (!p107)) rfl rfl hF rfl (run_not rfl (hF.ev rfl)) ?_; clear hF; intro a hF
      refine wpList_nil ?_
      cases hc108 : (p107)
      · replace hM103 := bif_f hc108 hM103
        refine cond_t hF rfl (not_t hc108) ?_
        refine wp_seq ?_
        refine wp_region_lit ?_
        refine op_val (v := .bool false) rfl rfl hF rfl (run_assign rfl rfl) ?_; clear hF; intro a hF
        refine wpList_nil ?_
        refine wp_ret ?_
        repeat with_reducible (first | refine then_ret ?_ | refine in_ret ?_ | refine in_nrm ?_)
        refine ret1_gw (.inl rfl) hF rfl (res_tmp (hF.ev rfl)) ?_
        obtain rfl := Option.some.inj hM103
        obtain rfl := Option.some.inj hM
        exact ⟨rfl, S.sel [] rfl rfl⟩
      · replace hM103 := bif_t hc108 hM103
        refine cond_f hF rfl (not_f hc108) ?_
        refine wp_skip ?_
        refine wp_region_lit ?_
        refine op_val (v := .int .i64 p104) rfl rfl hF rfl (run_move rfl (hF.ev rfl)) ?_; clear hF; intro a hF
        refine op_val (v := .int .i64 (w64 (p104 + 1))) rfl rfl hF rfl (run_add (z := w64 (p104 + 1)) (hF.ev rfl) rfl rfl rfl) ?_; clear hF; intro a hF
        refine op_val (v := .int .i64 (w64 (p104 + 1))) rfl rfl hF rfl (run_assign rfl (hF.ev rfl)) ?_; clear hF; intro a hF
        refine wpList_nil ?_
        exact ⟨f1, Nat.lt_succ_self _, w64 (p104 + 1), hM103, hF.keep _ ⟨rfl, rfl, rfl, trivial⟩, S.sel [] rfl rfl⟩
  · rintro a u ⟨p101, rfl, hF, S⟩
    replace hM := elim_l hM
    refine wp_seq ?_
    refine wp_region_lit ?_
    refine op_val (v := .bool true) rfl rfl hF rfl (run_assign rfl rfl) ?_; clear hF; intro a hF
    refine wpList_nil ?_
    refine wp_ret ?_
    repeat with_reducible (first | refine then_ret ?_ | refine in_ret ?_ | refine in_nrm ?_)
    refine ret1_gw (.inl rfl) hF rfl (res_tmp (hF.ev rfl)) ?_
    obtain rfl := Option.some.inj hM
    exact ⟨rfl, S.sel [] rfl rfl⟩

set_option maxHeartbeats 4000000 in
theorem c_spec_PollValid {x0 : Int} {x1 : List Int} {x2 : Int} {x3 : List Int} {x4 : Int} {x5 : Int} {x6 : Int} {x7 : Int} {A1 : Option Addr} {n1 c1 : Nat} {A3 : Option Addr} {n3 c3 : Nat} {w : World} {r : Bool} (h1 : Rt w 1 eI A1 n1 c1 x1) (h3 : Rt w 1 eI A3 n3 c3 x3) (hM : m_spec_PollValid x0 x1 x2 x3 x4 x5 x6 x7 = some r) :
    Calls Try.prog 23 #[.agg #[.int .i64 x0, .slice A1 n1 c1, .int .i64 x2, .slice A3 n3 c3, .int .i64 x4, .int .i64 x5, .int .i64 x6, .int .i64 x7]] w (fun e w' => e = .returned (.bool r) ∧ St w w' []) := by
  obtain rfl := h1.len
  obtain rfl := h3.len
  unfold m_spec_PollValid at hM
  refine calls_gw Try.func23 Try.ntmps23 rfl [(0, .agg #[.int .i64 x0, .slice A1 x1.length c1, .int .i64 x2, .slice A3 x3.length c3, .int .i64 x4, .int .i64 x5, .int .i64 x6, .int .i64 x7])] ⟨rfl, trivial⟩ rfl ?_
  intro a hF
  have S := St.nil w
  refine wp_seq ?_
  refine wp_region_lit ?_
  refine op_new (cs := #[.int .i64 x0, .slice A1 x1.length c1, .int .i64 x2, .slice A3 x3.length c3, .int .i64 x4, .int .i64 x5, .int .i64 x6, .int .i64 x7]) rfl rfl hF rfl S (run_box rfl (hF.ev rfl) rfl) ?_; clear hF S; intro a g101 u hF S
  refine op_val (v := .bool false) rfl rfl hF rfl (run_assign rfl rfl) ?_; clear hF; intro a hF
  refine wpList_nil ?_
  refine wp_seq ?_
  refine wp_region_lit ?_
  refine op_val (v := .pointer (some ⟨g101, 1, none⟩)) rfl rfl hF rfl (run_fieldAddr rfl fl28_1 (hF.ev rfl) rfl) ?_; clear hF; intro a hF
  refine op_val (v := .slice A1 x1.length c1) rfl rfl hF rfl (run_load1 rfl one22 (hF.ev rfl) ((S.free 0 rfl).cell rfl)) ?_; clear hF; intro a hF
  refine op_val (v := .int .i64 (x1.length : Int)) rfl rfl hF rfl (run_lenL rfl rfl Try.underlying22 (hF.ev rfl)) ?_; clear hF; intro a hF
  refine op_val (v := .pointer (some ⟨g101, 3, none⟩)) rfl rfl hF rfl (run_fieldAddr rfl fl28_3 (hF.ev rfl) rfl) ?_; clear hF; intro a hF
  refine op_val (v := .slice A3 x3.length c3) rfl rfl hF rfl (run_load1 rfl one22 (hF.ev rfl) ((S.free 0 rfl).cell rfl)) ?_; clear hF; intro a hF
  refine op_val (v := .int .i64 (x3.length : Int)) rfl rfl hF rfl (run_lenL rfl rfl Try.underlying22 (hF.ev rfl)) ?_; clear hF; intro a hF
  refine op_val (v := .int .i64 (w64 ((x1.length : Int) + (x3.length : Int)))) rfl rfl hF rfl (run_add (z := w64 ((x1.length : Int) + (x3.length : Int))) (hF.ev rfl) (hF.ev rfl) rfl rfl) ?_; clear hF; intro a hF
  refine op_val (v := .int .i64 (w64 ((x1.length : Int) + (x3.length : Int)))) rfl rfl hF rfl (run_assign rfl (hF.ev rfl)) ?_; clear hF; intro a hF
  refine wpList_nil ?_
  refine wp_seq ?_
  refine wp_seq ?_
  refine wp_region_lit ?_
  refine op_val (v := .pointer (some ⟨g101, 4, none⟩)) rfl rfl hF rfl (run_fieldAddr rfl fl28_4 (hF.ev rfl) rfl) ?_; clear hF; intro a hF
  refine op_val (v := .int .i64 x4) rfl rfl hF rfl (run_load1 rfl one3 (hF.ev rfl) ((S.free 0 rfl).cell rfl)) ?_; clear hF; intro a hF
  refine op_val (v := .bool (leB 0 x4)) rfl rfl hF rfl (run_geq (hF.ev rfl) rfl rfl) ?_; clear hF; intro a hF
  refine op_val (v := .bool (leB 0 x4)) rfl rfl hF rfl (run_move rfl (hF.ev rfl)) ?_; clear hF; intro a hF
  refine op_gv (v := .pointer (some ⟨g101, 0, none⟩)) rfl rfl hF rfl (yt (gw_yield hF rfl rfl rfl)) (fun hg => (run_fieldAddr rfl fl28_0 (hF.ev rfl) rfl)) ?_; clear hF; intro a hF
  refine op_gv (v := .int .i64 x0) rfl rfl hF rfl (yt (gw_yield hF rfl rfl rfl)) (fun hg => (run_load1 rfl one3 ((hF.ev rfl).trans (gv_t hg)) ((S.free 0 rfl).cell rfl))) ?_; clear hF; intro a hF
  refine op_gv (v := .pointer (some ⟨g101, 2, none⟩)) rfl rfl hF rfl (yt (gw_yield hF rfl rfl rfl)) (fun hg => (run_fieldAddr rfl fl28_2 (hF.ev rfl) rfl)) ?_; clear hF; intro a hF
  refine op_gv (v := .int .i64 x2) rfl rfl hF rfl (yt (gw_yield hF rfl rfl rfl)) (fun hg => (run_load1 rfl one3 ((hF.ev rfl).trans (gv_t hg)) ((S.free 0 rfl).cell rfl))) ?_; clear hF; intro a hF
  refine op_gv (v := .bool (x0 == x2)) rfl rfl hF rfl (yt (gw_yield hF rfl rfl rfl)) (fun hg => (run_eql ((hF.ev rfl).trans (gv_t hg)) ((hF.ev rfl).trans (gv_t hg)) rfl)) ?_; clear hF; intro a hF
  refine op_val (v := .bool ((leB 0 x4) && (x0 == x2))) rfl rfl hF rfl (run_pick_and rfl (hF.ev rfl) (fun hp => ((hF.ev rfl).trans (gv_t hp))) rfl) ?_; clear hF; intro a hF
  refine wpList_nil ?_
  obtain ⟨o103, hM104, hM⟩ := bind_ex hM
  refine wp_cut (fun a u => ∃ (p102 : Int), p102 = o103 ∧ Fr a 75 [(1, .pointer (some ⟨g101, 0, none⟩)), (2, .bool false), (3, .int .i64 p102)] ∧ St w u [.box g101 28 #[.int .i64 x0, .slice A1 x1.length c1, .int .i64 x2, .slice A3 x3.length c3, .int .i64 x4, .int .i64 x5, .int .i64 x6, .int .i64 x7]]) ?_ ?_
  · have _ := trivial
    cases hc105 : ((leB 0 x4) && (x0 == x2))
    · replace hM104 := bif_f hc105 hM104
      refine cond_f hF rfl hc105 ?_
      refine wp_skip ?_
      obtain rfl := Option.some.inj hM104
      exact ⟨w64 ((x1.length : Int) + (x3.length : Int)), rfl, hF.keep _ ⟨rfl, rfl, rfl, trivial⟩, S.sel [0] rfl rfl⟩
    · replace hM104 := bif_t hc105 hM104
      refine cond_t hF rfl hc105 ?_
      refine wp_region_lit ?_
      refine op_val (v := .int .i64 (w64 ((x1.length : Int) + (x3.length : Int)))) rfl rfl hF rfl (run_move rfl (hF.ev rfl)) ?_; clear hF; intro a hF
      refine op_val (v := .int .i64 (w64 ((w64 ((x1.length : Int) + (x3.length : Int))) + 1))) rfl rfl hF rfl (run_add (z := w64 ((w64 ((x1.length : Int) + (x3.length : Int))) + 1)) (hF.ev rfl) rfl rfl rfl) ?_; clear hF; intro a hF
      refine op_val (v := .int .i64 (w64 ((w64 ((x1.length : Int) + (x3.length : Int))) + 1))) rfl rfl hF rfl (run_assign rfl (hF.ev rfl)) ?_; clear hF; intro a hF
      refine wpList_nil ?_
      obtain rfl := Option.some.inj hM104
      exact ⟨w64 ((w64 ((x1.length : Int) + (x3.length : Int))) + 1), rfl, hF.keep _ ⟨rfl, rfl, rfl, trivial⟩, S.sel [0] rfl rfl⟩
  · rintro a u ⟨p102, rfl, hF, S⟩
    refine wp_seq ?_
    refine wp_region_lit ?_
    refine op_val (v := .pointer (some ⟨g101, 0, none⟩)) rfl rfl hF rfl (run_fieldAddr rfl fl28_0 (hF.ev rfl) rfl) ?_; clear hF; intro a hF
    refine op_val (v := .int .i64 x0) rfl rfl hF rfl (run_load1 rfl one3 (hF.ev rfl) ((S.free 0 rfl).cell rfl)) ?_; clear hF; intro a hF
    obtain ⟨p106, h106, hM⟩ := bind_ex hM
    refine op_call rfl rfl hF rfl (run_call (vs := [.int .i64 x0, .int .i64 0, .int .i64 1]) rfl rfl co35 ⟨(hF.ev rfl), rfl, rfl, trivial⟩) (c_spec_l1In (x0 := x0) (x1 := 0) (x2 := 1)  h106) ?_
    rintro e u ⟨rfl, T⟩
    refine ⟨_, rfl, ?_⟩
    clear hF; intro a hF
    replace S := S.call0 T; clear T
    refine op_val (v := .bool p106) rfl rfl hF rfl (run_move rfl (hF.ev rfl)) ?_; clear hF; intro a hF
    refine op_gv (v := .pointer (some ⟨g101, 2, none⟩)) rfl rfl hF rfl (yt (gw_yield hF rfl rfl rfl)) (fun hg => (run_fieldAddr rfl fl28_2 (hF.ev rfl) rfl)) ?_; clear hF; intro a hF
    refine op_gv (v := .int .i64 x2) rfl rfl hF rfl (yt (gw_yield hF rfl rfl rfl)) (fun hg => (run_load1 rfl one3 ((hF.ev rfl).trans (gv_t hg)) ((S.free 0 rfl).cell rfl))) ?_; clear hF; intro a hF
    obtain ⟨p107, h107, hM⟩ := bind_ex hM
    refine op_gcall (v := .bool p107) rfl rfl hF rfl S (yt (gw_yield hF rfl rfl rfl)) (fun hg => (run_call (vs := [.int .i64 x2, .int .i64 0, .int .i64 1]) rfl rfl co35 ⟨((hF.ev rfl).trans (gv_t hg)), rfl, rfl, trivial⟩)) (fun hg => c_spec_l1In (x0 := x2) (x1 := 0) (x2 := 1)  (gb_t h107 hg)) ?_; clear hF S; intro a u hF S
    refine op_val (v := .bool (p106 && p107)) rfl rfl hF rfl (run_pick_and rfl (hF.ev rfl) (fun hp => ((hF.ev rfl).trans (gv_t hp))) rfl) ?_; clear hF; intro a hF
    refine op_val (v := .bool (p106 && p107)) rfl rfl hF rfl (run_move rfl (hF.ev rfl)) ?_; clear hF; intro a hF
    refine op_gv (v := .pointer (some ⟨g101, 5, none⟩)) rfl rfl hF rfl (yt (gw_yield hF rfl rfl rfl)) (fun hg => (run_fieldAddr rfl fl28_5 (hF.ev rfl) rfl)) ?_; clear hF; intro a hF
    refine op_gv (v := .int .i64 x5) rfl rfl hF rfl (yt (gw_yield hF rfl rfl rfl)) (fun hg => (run_load1 rfl one3 ((hF.ev rfl).trans (gv_t hg)) ((S.free 0 rfl).cell rfl))) ?_; clear hF; intro a hF
    obtain ⟨p108, h108, hM⟩ := bind_ex hM
    refine op_gcall (v := .bool p108) rfl rfl hF rfl S (yt (gw_yield hF rfl rfl rfl)) (fun hg => (run_call (vs := [.int .i64 x5, .int .i64 (-1), .int .i64 1]) rfl rfl co35 ⟨((hF.ev rfl).trans (gv_t hg)), rfl, rfl, trivial⟩)) (fun hg => c_spec_l1In (x0 := x5) (x1 := -1) (x2 := 1)  (gb_t h108 hg)) ?_; clear hF S; intro a u hF S
    refine op_val (v := .bool ((p106 && p107) && p108)) rfl rfl hF rfl (run_pick_and rfl (hF.ev rfl) (fun hp => ((hF.ev rfl).trans (gv_t hp))) rfl) ?_; clear hF; intro a hF
    refine op_val (v := .bool ((p106 && p107) && p108)) rfl rfl hF rfl (run_move rfl (hF.ev rfl)) ?_; clear hF; intro a hF
    refine op_gv (v := .pointer (some ⟨g101, 6, none⟩)) rfl rfl hF rfl (yt (gw_yield hF rfl rfl rfl)) (fun hg => (run_fieldAddr rfl fl28_6 (hF.ev rfl) rfl)) ?_; clear hF; intro a hF
    refine op_gv (v := .int .i64 x6) rfl rfl hF rfl (yt (gw_yield hF rfl rfl rfl)) (fun hg => (run_load1 rfl one3 ((hF.ev rfl).trans (gv_t hg)) ((S.free 0 rfl).cell rfl))) ?_; clear hF; intro a hF
    obtain ⟨p109, h109, hM⟩ := bind_ex hM
    refine op_gcall (v := .bool p109) rfl rfl hF rfl S (yt (gw_yield hF rfl rfl rfl)) (fun hg => (run_call (vs := [.int .i64 x6, .int .i64 (-1), .int .i64 1]) rfl rfl co35 ⟨((hF.ev rfl).trans (gv_t hg)), rfl, rfl, trivial⟩)) (fun hg => c_spec_l1In (x0 := x6) (x1 := -1) (x2 := 1)  (gb_t h109 hg)) ?_; clear hF S; intro a u hF S
    refine op_val (v := .bool (((p106 && p107) && p108) && p109)) rfl rfl hF rfl (run_pick_and rfl (hF.ev rfl) (fun hp => ((hF.ev rfl).trans (gv_t hp))) rfl) ?_; clear hF; intro a hF
    refine op_val (v := .bool (((p106 && p107) && p108) && p109)) rfl rfl hF rfl (run_move rfl (hF.ev rfl)) ?_; clear hF; intro a hF
    refine op_gv (v := .pointer (some ⟨g101, 4, none⟩)) rfl rfl hF rfl (yt (gw_yield hF rfl rfl rfl)) (fun hg => (run_fieldAddr rfl fl28_4 (hF.ev rfl) rfl)) ?_; clear hF; intro a hF
    refine op_gv (v := .int .i64 x4) rfl rfl hF rfl (yt (gw_yield hF rfl rfl rfl)) (fun hg => (run_load1 rfl one3 ((hF.ev rfl).trans (gv_t hg)) ((S.free 0 rfl).cell rfl))) ?_; clear hF; intro a hF
    obtain ⟨p110, h110, hM⟩ := bind_ex hM
    refine op_gcall (v := .bool p110) rfl rfl hF rfl S (yt (gw_yield hF rfl rfl rfl)) (fun hg => (run_call (vs := [.int .i64 x4, .int .i64 (-1), .int .i64 999]) rfl rfl co35 ⟨((hF.ev rfl).trans (gv_t hg)), rfl, rfl, trivial⟩)) (fun hg => c_spec_l1In (x0 := x4) (x1 := -1) (x2 := 999)  (gb_t h110 hg)) ?_; clear hF S; intro a u hF S
    refine op_val (v := .bool ((((p106 && p107) && p108) && p109) && p110)) rfl rfl hF rfl (run_pick_and rfl (hF.ev rfl) (fun hp => ((hF.ev rfl).trans (gv_t hp))) rfl) ?_; clear hF; intro a hF
    refine op_val (v := .bool ((((p106 && p107) && p108) && p109) && p110)) rfl rfl hF rfl (run_move rfl (hF.ev rfl)) ?_; clear hF; intro a hF
    refine op_gv (v := .pointer (some ⟨g101, 7, none⟩)) rfl rfl hF rfl (yt (gw_yield hF rfl rfl rfl)) (fun hg => (run_fieldAddr rfl fl28_7 (hF.ev rfl) rfl)) ?_; clear hF; intro a hF
    refine op_gv (v := .int .i64 x7) rfl rfl hF rfl (yt (gw_yield hF rfl rfl rfl)) (fun hg => (run_load1 rfl one3 ((hF.ev rfl).trans (gv_t hg)) ((S.free 0 rfl).cell rfl))) ?_; clear hF; intro a hF
    obtain ⟨p111, h111, hM⟩ := bind_ex hM
    refine op_gcall (v := .bool p111) rfl rfl hF rfl S (yt (gw_yield hF rfl rfl rfl)) (fun hg => (run_call (vs := [.int .i64 x7, .int .i64 (-1), .int .i64 999]) rfl rfl co35 ⟨((hF.ev rfl).trans (gv_t hg)), rfl, rfl, trivial⟩)) (fun hg => c_spec_l1In (x0 := x7) (x1 := -1) (x2 := 999)  (gb_t h111 hg)) ?_; clear hF S; intro a u hF S
    refine op_val (v := .bool (((((p106 && p107) && p108) && p109) && p110) && p111)) rfl rfl hF rfl (run_pick_and rfl (hF.ev rfl) (fun hp => ((hF.ev rfl).trans (gv_t hp))) rfl) ?_; clear hF; intro a hF
    refine op_val (v := .bool (((((p106 && p107) && p108) && p109) && p110) && p111)) rfl rfl hF rfl (run_move rfl (hF.ev rfl)) ?_; clear hF; intro a hF
    refine op_gv (v := .pointer (some ⟨g101, 6, none⟩)) rfl rfl hF rfl (yt (gw_yield hF rfl rfl rfl)) (fun hg => (run_fieldAddr rfl fl28_6 (hF.ev rfl) rfl)) ?_; clear hF; intro a hF
    refine op_gv (v := .int .i64 x6) rfl rfl hF rfl (yt (gw_yield hF rfl rfl rfl)) (fun hg => (run_load1 rfl one3 ((hF.ev rfl).trans (gv_t hg)) ((S.free 0 rfl).cell rfl))) ?_; clear hF; intro a hF
    refine op_gv (v := .bool (leB 0 x6)) rfl rfl hF rfl (yt (gw_yield hF rfl rfl rfl)) (fun hg => (run_geq ((hF.ev rfl).trans (gv_t hg)) rfl rfl)) ?_; clear hF; intro a hF
    refine op_gv (v := .bool (leB 0 x6)) rfl rfl hF rfl (yt (gw_yield hF rfl rfl rfl)) (fun hg => (run_move rfl ((hF.ev rfl).trans (gv_t hg)))) ?_; clear hF; intro a hF
    refine op_gv (v := .pointer (some ⟨g101, 7, none⟩)) rfl rfl hF rfl (yfG (gw_yieldG hF rfl rfl rfl)) (fun hg => (run_fieldAddr rfl fl28_7 (hF.ev rfl) rfl)) ?_; clear hF; intro a hF
    refine op_gv (v := .int .i64 x7) rfl rfl hF rfl (yfG (gw_yieldG hF rfl rfl rfl)) (fun hg => (run_load1 rfl one3 ((hF.ev rfl).trans (gv_t hg)) ((S.free 0 rfl).cell rfl))) ?_; clear hF; intro a hF
    refine op_gv (v := .bool (x7 == (-1))) rfl rfl hF rfl (yfG (gw_yieldG hF rfl rfl rfl)) (fun hg => (run_eql ((hF.ev rfl).trans (gv_t hg)) rfl rfl)) ?_; clear hF; intro a hF
    refine op_gv (v := .bool ((leB 0 x6) || (x7 == (-1)))) rfl rfl hF rfl (yt (gw_yield hF rfl rfl rfl)) (fun hg => (run_pick_or rfl ((hF.ev rfl).trans (gv_t hg)) rfl (fun hp => ((hF.ev rfl).trans (gv_t (and_i hg (not_t hp))))))) ?_; clear hF; intro a hF
    refine op_val (v := .bool ((((((p106 && p107) && p108) && p109) && p110) && p111) && ((leB 0 x6) || (x7 == (-1))))) rfl rfl hF rfl (run_pick_and rfl (hF.ev rfl) (fun hp => ((hF.ev rfl).trans (gv_t hp))) rfl) ?_; clear hF; intro a hF
    refine op_val (v := .bool ((((((p106 && p107) && p108) && p109) && p110) && p111) && ((leB 0 x6) || (x7 == (-1))))) rfl rfl hF rfl (run_move rfl (hF.ev rfl)) ?_; clear hF; intro a hF
    refine op_gv (v := .pointer (some ⟨g101, 1, none⟩)) rfl rfl hF rfl (yt (gw_yield hF rfl rfl rfl)) (fun hg => (run_fieldAddr rfl fl28_1 (hF.ev rfl) rfl)) ?_; clear hF; intro a hF
    refine op_gv (v := .slice A1 x1.length c1) rfl rfl hF rfl (yt (gw_yield hF rfl rfl rfl)) (fun hg => (run_load1 rfl one22 ((hF.ev rfl).trans (gv_t hg)) ((S.free 0 rfl).cell rfl))) ?_; clear hF; intro a hF
    obtain ⟨p112, h112, hM⟩ := bind_ex hM
    refine op_gcall (v := .bool p112) rfl rfl hF rfl S (yt (gw_yield hF rfl rfl rfl)) (fun hg => (run_call (vs := [.slice A1 x1.length c1]) rfl rfl co36 ⟨((hF.ev rfl).trans (gv_t hg)), trivial⟩)) (fun hg => c_spec_l27Events (x0 := x1) ⟨(S.rc0 h1.rc), rfl⟩ (gb_t h112 hg)) ?_; clear hF S; intro a u hF S
    refine op_val (v := .bool (((((((p106 && p107) && p108) && p109) && p110) && p111) && ((leB 0 x6) || (x7 == (-1)))) && p112)) rfl rfl hF rfl (run_pick_and rfl (hF.ev rfl) (fun hp => ((hF.ev rfl).trans (gv_t hp))) rfl) ?_; clear hF; intro a hF
    refine op_val (v := .bool (((((((p106 && p107) && p108) && p109) && p110) && p111) && ((leB 0 x6) || (x7 == (-1)))) && p112)) rfl rfl hF rfl (run_move rfl (hF.ev rfl)) ?_; clear hF; intro a hF
    refine op_gv (v := .pointer (some ⟨g101, 3, none⟩)) rfl rfl hF rfl (yt (gw_yield hF rfl rfl rfl)) (fun hg => (run_fieldAddr rfl fl28_3 (hF.ev rfl) rfl)) ?_; clear hF; intro a hF
    refine op_gv (v := .slice A3 x3.length c3) rfl rfl hF rfl (yt (gw_yield hF rfl rfl rfl)) (fun hg => (run_load1 rfl one22 ((hF.ev rfl).trans (gv_t hg)) ((S.free 0 rfl).cell rfl))) ?_; clear hF; intro a hF
    obtain ⟨p113, h113, hM⟩ := bind_ex hM
    refine op_gcall (v := .bool p113) rfl rfl hF rfl S (yt (gw_yield hF rfl rfl rfl)) (fun hg => (run_call (vs := [.slice A3 x3.length c3]) rfl rfl co36 ⟨((hF.ev rfl).trans (gv_t hg)), trivial⟩)) (fun hg => c_spec_l27Events (x0 := x3) ⟨(S.rc0 h3.rc), rfl⟩ (gb_t h113 hg)) ?_; clear hF S; intro a u hF S
    refine op_val (v := .bool ((((((((p106 && p107) && p108) && p109) && p110) && p111) && ((leB 0 x6) || (x7 == (-1)))) && p112) && p113)) rfl rfl hF rfl (run_pick_and rfl (hF.ev rfl) (fun hp => ((hF.ev rfl).trans (gv_t hp))) rfl) ?_; clear hF; intro a hF
    refine op_val (v := .bool ((((((((p106 && p107) && p108) && p109) && p110) && p111) && ((leB 0 x6) || (x7 == (-1)))) && p112) && p113)) rfl rfl hF rfl (run_move rfl (hF.ev rfl)) ?_; clear hF; intro a hF
    refine op_gv (v := .int .i64 p102) rfl rfl hF rfl (yt (gw_yield hF rfl rfl rfl)) (fun hg => (run_move rfl (hF.ev rfl))) ?_; clear hF; intro a hF
    refine op_gv (v := .bool (leB p102 12)) rfl rfl hF rfl (yt (gw_yield hF rfl rfl rfl)) (fun hg => (run_leq ((hF.ev rfl).trans (gv_t hg)) rfl rfl)) ?_; clear hF; intro a hF
    refine op_val (v := .bool (((((((((p106 && p107) && p108) && p109) && p110) && p111) && ((leB 0 x6) || (x7 == (-1)))) && p112) && p113) && (leB p102 12))) rfl rfl hF rfl (run_pick_and rfl (hF.ev rfl) (fun hp => ((hF.ev rfl).trans (gv_t hp))) rfl) ?_; clear hF; intro a hF
    refine op_val (v := .bool (((((((((p106 && p107) && p108) && p109) && p110) && p111) && ((leB 0 x6) || (x7 == (-1)))) && p112) && p113) && (leB p102 12))) rfl rfl hF rfl (run_assign rfl (hF.ev rfl)) ?_; clear hF; intro a hF
    refine wpList_nil ?_
    refine wp_ret ?_
    repeat with_reducible (first | refine then_ret ?_ | refine in_ret ?_ | refine in_nrm ?_)
    refine ret1_gw (.inl rfl) hF rfl (res_tmp (hF.ev rfl)) ?_
    obtain rfl := Option.some.inj hM
    exact ⟨rfl, S.sel [] rfl rfl⟩

set_option maxHeartbeats 4000000 in
theorem c_spec_l27Copy {x0 : Int} {x1 : List Int} {x2 : Int} {x3 : List Int} {x4 : Int} {x5 : Int} {x6 : Int} {x7 : Int} {A1 : Option Addr} {n1 c1 : Nat} {A3 : Option Addr} {n3 c3 : Nat} {w : World} {r : Int × List Int × Int × List Int × Int × Int × Int × Int} (h1 : Rt w 1 eI A1 n1 c1 x1) (h3 : Rt w 1 eI A3 n3 c3 x3) (hM : m_spec_l27Copy x0 x1 x2 x3 x4 x5 x6 x7 = some r) :
    Calls Try.prog 24 #[.agg #[.int .i64 x0, .slice A1 n1 c1, .int .i64 x2, .slice A3 n3 c3, .int .i64 x4, .int .i64 x5, .int .i64 x6, .int .i64 x7]] w (fun e w' => ∃ (B0 : Option Addr) (N0 D0 : Nat) (B1 : Option Addr) (N1 D1 : Nat), e = .returned (.agg #[.int .i64 r.1, .slice B0 N0 D0, .int .i64 r.2.2.1, .slice B1 N1 D1, .int .i64 r.2.2.2.2.1, .int .i64 r.2.2.2.2.2.1, .int .i64 r.2.2.2.2.2.2.1, .int .i64 r.2.2.2.2.2.2.2]) ∧ N0 = r.2.1.length ∧ N1 = r.2.2.2.1.length ∧ St w w' [.row 3 1 (.slice B0 N0 D0) N0 (r.2.1.flatMap eI), .row 3 1 (.slice B1 N1 D1) N1 (r.2.2.2.1.flatMap eI)]) := by
  obtain rfl := h1.len
  obtain rfl := h3.len
  unfold m_spec_l27Copy at hM
  refine calls_gw Try.func24 Try.ntmps24 rfl [(0, .agg #[.int .i64 x0, .slice A1 x1.length c1, .int .i64 x2, .slice A3 x3.length c3, .int .i64 x4, .int .i64 x5, .int .i64 x6, .int .i64 x7])] ⟨rfl, trivial⟩ rfl ?_
  intro a hF
  have S := St.nil w
  refine wp_seq ?_
  refine wp_region_lit ?_
  refine op_new (cs := #[.int .i64 x0, .slice A1 x1.length c1, .int .i64 x2, .slice A3 x3.length c3, .int .i64 x4, .int .i64 x5, .int .i64 x6, .int .i64 x7]) rfl rfl hF rfl S (run_box rfl (hF.ev rfl) rfl) ?_; clear hF S; intro a g101 u hF S
  refine op_new (cs := #[.int .i64 0, .slice none 0 0, .int .i64 0, .slice none 0 0, .int .i64 0, .int .i64 0, .int .i64 0, .int .i64 0]) rfl rfl hF rfl S (run_allocZ rfl zr28) ?_; clear hF S; intro a g102 u hF S
  refine wpList_nil ?_
  refine wp_seq ?_
  refine wp_region_lit ?_
  refine op_val (v := .agg #[.int .i64 x0, .slice A1 x1.length c1, .int .i64 x2, .slice A3 x3.length c3, .int .i64 x4, .int .i64 x5, .int .i64 x6, .int .i64 x7]) rfl rfl hF rfl (run_loadN rfl ag28 (hF.ev rfl) rfl ((S.free 1 rfl).cells 0 #[.int .i64 x0, .slice A1 x1.length c1, .int .i64 x2, .slice A3 x3.length c3, .int .i64 x4, .int .i64 x5, .int .i64 x6, .int .i64 x7] rfl)) ?_; clear hF; intro a hF
  refine op_new (cs := #[.int .i64 0, .slice none 0 0, .int .i64 0, .slice none 0 0, .int .i64 0, .int .i64 0, .int .i64 0, .int .i64 0]) rfl rfl hF rfl S (run_allocZ rfl zr28) ?_; clear hF S; intro a g103 u hF S
  refine op_do rfl rfl (run_store (cs' := #[.int .i64 x0, .slice A1 x1.length c1, .int .i64 x2, .slice A3 x3.length c3, .int .i64 x4, .int .i64 x5, .int .i64 x6, .int .i64 x7]) rfl sz28 (hF.ev rfl) (hF.ev rfl) rfl rfl rfl (S.free 0 rfl) rfl rfl) ?_; replace S := S.put 0 rfl (#[.int .i64 x0, .slice A1 x1.length c1, .int .i64 x2, .slice A3 x3.length c3, .int .i64 x4, .int .i64 x5, .int .i64 x6, .int .i64 x7])
  generalize World.setRow _ _ _ = u at S ⊢
  refine wpList_nil ?_
  refine wp_seq ?_
  refine wp_region_lit ?_
  refine op_newrow (cs := #[]) (size := 1) rfl rfl hF rfl S (run_buildSlice0 rfl Try.underlying22 (congrArg Option.isSome sz3)) rfl (Nat.zero_le _) ?_; clear hF S; intro a g104 u hF S
  refine op_val (v := .pointer (some ⟨g101, 1, none⟩)) rfl rfl hF rfl (run_fieldAddr rfl fl28_1 (hF.ev rfl) rfl) ?_; clear hF; intro a hF
  refine op_val (v := .slice A1 x1.length c1) rfl rfl hF rfl (run_load1 rfl one22 (hF.ev rfl) ((S.free 3 rfl).cell rfl)) ?_; clear hF; intro a hF
  obtain ⟨hk107, hM⟩ := chk_ex hM
  replace hk107 := apB_t hk107
  refine op_appendL (lx := []) (ly := x1) rfl rfl hF rfl S rfl (hF.ev rfl) (hF.ev rfl) (i := 0) rfl rfl Try.underlying22 inf3 rfl (by decide) (S.rc0 h1.rc).rd rfl eI_one hk107 (by decide) ?_; clear hF S; intro a B105 d106 u hF S
  refine op_val (v := .pointer (some ⟨g103, 1, none⟩)) rfl rfl hF rfl (run_fieldAddr rfl fl28_1 (hF.ev rfl) rfl) ?_; clear hF; intro a hF
  refine op_do rfl rfl (run_store (cs' := #[.int .i64 x0, .slice B105 ((([] : List Int) ++ x1).length) d106, .int .i64 x2, .slice A3 x3.length c3, .int .i64 x4, .int .i64 x5, .int .i64 x6, .int .i64 x7]) rfl sz22 (hF.ev rfl) (hF.ev rfl) rfl rfl rfl (S.free 1 rfl) rfl rfl) ?_; replace S := S.put 1 rfl (#[.int .i64 x0, .slice B105 ((([] : List Int) ++ x1).length) d106, .int .i64 x2, .slice A3 x3.length c3, .int .i64 x4, .int .i64 x5, .int .i64 x6, .int .i64 x7])
  generalize World.setRow _ _ _ = u at S ⊢
  refine wpList_nil ?_
  refine wp_seq ?_
  refine wp_region_lit ?_
  refine op_newrow (cs := #[]) (size := 1) rfl rfl hF rfl S (run_buildSlice0 rfl Try.underlying22 (congrArg Option.isSome sz3)) rfl (Nat.zero_le _) ?_; clear hF S; intro a g108 u hF S
  refine op_val (v := .pointer (some ⟨g101, 3, none⟩)) rfl rfl hF rfl (run_fieldAddr rfl fl28_3 (hF.ev rfl) rfl) ?_; clear hF; intro a hF
  refine op_val (v := .slice A3 x3.length c3) rfl rfl hF rfl (run_load1 rfl one22 (hF.ev rfl) ((S.free 4 rfl).cell rfl)) ?_; clear hF; intro a hF
  obtain ⟨hk111, hM⟩ := chk_ex hM
  replace hk111 := apB_t hk111
  refine op_appendL (lx := []) (ly := x3) rfl rfl hF rfl S rfl (hF.ev rfl) (hF.ev rfl) (i := 0) rfl rfl Try.underlying22 inf3 rfl (by decide) (S.rc0 h3.rc).rd rfl eI_one hk111 (by decide) ?_; clear hF S; intro a B109 d110 u hF S
  refine op_val (v := .pointer (some ⟨g103, 3, none⟩)) rfl rfl hF rfl (run_fieldAddr rfl fl28_3 (hF.ev rfl) rfl) ?_; clear hF; intro a hF
  refine op_do rfl rfl (run_store (cs' := #[.int .i64 x0, .slice B105 ((([] : List Int) ++ x1).length) d106, .int .i64 x2, .slice B109 ((([] : List Int) ++ x3).length) d110, .int .i64 x4, .int .i64 x5, .int .i64 x6, .int .i64 x7]) rfl sz22 (hF.ev rfl) (hF.ev rfl) rfl rfl rfl (S.free 2 rfl) rfl rfl) ?_; replace S := S.put 2 rfl (#[.int .i64 x0, .slice B105 ((([] : List Int) ++ x1).length) d106, .int .i64 x2, .slice B109 ((([] : List Int) ++ x3).length) d110, .int .i64 x4, .int .i64 x5, .int .i64 x6, .int .i64 x7])
  generalize World.setRow _ _ _ = u at S ⊢
  refine wpList_nil ?_
  refine wp_seq ?_
  refine wp_region_lit ?_
  refine op_val (v := .agg #[.int .i64 x0, .slice B105 ((([] : List Int) ++ x1).length) d106, .int .i64 x2, .slice B109 ((([] : List Int) ++ x3).length) d110, .int .i64 x4, .int .i64 x5, .int .i64 x6, .int .i64 x7]) rfl rfl hF rfl (run_loadN rfl ag28 (hF.ev rfl) rfl ((S.free 2 rfl).cells 0 #[.int .i64 x0, .slice B105 ((([] : List Int) ++ x1).length) d106, .int .i64 x2, .slice B109 ((([] : List Int) ++ x3).length) d110, .int .i64 x4, .int .i64 x5, .int .i64 x6, .int .i64 x7] rfl)) ?_; clear hF; intro a hF
  refine op_do rfl rfl (run_store (cs' := #[.int .i64 x0, .slice B105 ((([] : List Int) ++ x1).length) d106, .int .i64 x2, .slice B109 ((([] : List Int) ++ x3).length) d110, .int .i64 x4, .int .i64 x5, .int .i64 x6, .int .i64 x7]) rfl sz28 (hF.ev rfl) (hF.ev rfl) rfl rfl rfl (S.free 3 rfl) rfl rfl) ?_; replace S := S.put 3 rfl (#[.int .i64 x0, .slice B105 ((([] : List Int) ++ x1).length) d106, .int .i64 x2, .slice B109 ((([] : List Int) ++ x3).length) d110, .int .i64 x4, .int .i64 x5, .int .i64 x6, .int .i64 x7])
  generalize World.setRow _ _ _ = u at S ⊢
  refine wpList_nil ?_
  refine wp_ret ?_
  repeat with_reducible (first | refine then_ret ?_ | refine in_ret ?_ | refine in_nrm ?_)
  refine ret1_gw (.inl rfl) hF rfl (res_cell (hF.ev rfl) (res_loadN ag28 rfl (S.cells 3 rfl 0 #[.int .i64 x0, .slice B105 ((([] : List Int) ++ x1).length) d106, .int .i64 x2, .slice B109 ((([] : List Int) ++ x3).length) d110, .int .i64 x4, .int .i64 x5, .int .i64 x6, .int .i64 x7] rfl))) ?_
  obtain rfl := Option.some.inj hM
  exact ⟨B105, ((([] : List Int) ++ x1).length), d106, B109, ((([] : List Int) ++ x3).length), d110, rfl, rfl, rfl, S.sel [1, 0] rfl rfl⟩

set_option maxHeartbeats 4000000 in
theorem c_spec_l27Take {x0 : Int} {x1 : List Int} {x2 : Int} {x3 : List Int} {x4 : Int} {x5 : Int} {x6 : Int} {x7 : Int} {A1 : Option Addr} {n1 c1 : Nat} {A3 : Option Addr} {n3 c3 : Nat} {w : World} {r : Int × List Int × Int × List Int × Int × Int × Int × Int} {w0 : World} {X : List Asn} (h1 : n1 = x1.length) (h3 : n3 = x3.length) (S : St w0 w (Asn.row 3 1 (.slice A1 n1 c1) n1 (x1.flatMap eI) :: Asn.row 3 1 (.slice A3 n3 c3) n3 (x3.flatMap eI) :: X)) (hM : m_spec_l27Take x0 x1 x2 x3 x4 x5 x6 x7 = some r) :
    Calls Try.prog 26 #[.agg #[.int .i64 x0, .slice A1 n1 c1, .int .i64 x2, .slice A3 n3 c3, .int .i64 x4, .int .i64 x5, .int .i64 x6, .int .i64 x7]] w (fun e w' => ∃ (B0 : Option Addr) (N0 D0 : Nat) (B1 : Option Addr) (N1 D1 : Nat), e = .returned (.agg #[.int .i64 r.1, .slice B0 N0 D0, .int .i64 r.2.2.1, .slice B1 N1 D1, .int .i64 r.2.2.2.2.1, .int .i64 r.2.2.2.2.2.1, .int .i64 r.2.2.2.2.2.2.1, .int .i64 r.2.2.2.2.2.2.2]) ∧ N0 = r.2.1.length ∧ N1 = r.2.2.2.1.length ∧ St w0 w' (Asn.row 3 1 (.slice B0 N0 D0) N0 (r.2.1.flatMap eI) :: Asn.row 3 1 (.slice B1 N1 D1) N1 (r.2.2.2.1.flatMap eI) :: X)) := by
  obtain rfl := h1
  obtain rfl := h3
  unfold m_spec_l27Take at hM
  refine calls_gw Try.func26 Try.ntmps26 rfl [(0, .agg #[.int .i64 x0, .slice A1 x1.length c1, .int .i64 x2, .slice A3 x3.length c3, .int .i64 x4, .int .i64 x5, .int .i64 x6, .int .i64 x7])] ⟨rfl, trivial⟩ rfl ?_
  intro a hF
  refine wp_seq ?_
  refine wp_region_lit ?_
  refine op_new (cs := #[.int .i64 x0, .slice A1 x1.length c1, .int .i64 x2, .slice A3 x3.length c3, .int .i64 x4, .int .i64 x5, .int .i64 x6, .int .i64 x7]) rfl rfl hF rfl S (run_box rfl (hF.ev rfl) rfl) ?_; clear hF S; intro a g101 u hF S
  refine op_new (cs := #[.int .i64 0, .slice none 0 0, .int .i64 0, .slice none 0 0, .int .i64 0, .int .i64 0, .int .i64 0, .int .i64 0]) rfl rfl hF rfl S (run_allocZ rfl zr28) ?_; clear hF S; intro a g102 u hF S
  refine wpList_nil ?_
  refine wp_seq ?_
  refine wp_seq ?_
  refine wp_region_lit ?_
  refine op_val (v := .pointer (some ⟨g101, 6, none⟩)) rfl rfl hF rfl (run_fieldAddr rfl fl28_6 (hF.ev rfl) rfl) ?_; clear hF; intro a hF
  refine op_val (v := .int .i64 x6) rfl rfl hF rfl (run_load1 rfl one3 (hF.ev rfl) ((S.free 1 rfl).cell rfl)) ?_; clear hF; intro a hF
  refine op_val (v := .pointer (some ⟨g101, 0, none⟩)) rfl rfl hF rfl (run_fieldAddr rfl fl28_0 (hF.ev rfl) rfl) ?_; clear hF; intro a hF
  refine op_val (v := .int .i64 x0) rfl rfl hF rfl (run_load1 rfl one3 (hF.ev rfl) ((S.free 1 rfl).cell rfl)) ?_; clear hF; intro a hF
  refine op_val (v := .bool (x6 == x0)) rfl rfl hF rfl (run_eql (hF.ev rfl) (hF.ev rfl) rfl) ?_; clear hF; intro a hF
  refine wpList_nil ?_
  obtain ⟨o104, hM107, hM⟩ := bind_ex hM
  refine wp_cut (fun a u => ∃ (p103 : Int × List Int) (B105 : Option Addr) (d106 : Nat), p103 = o104 ∧ Fr a 23 [(1, .pointer (some ⟨g101, 0, none⟩)), (2, .pointer (some ⟨g102, 0, none⟩))] ∧ St w0 u (Asn.box g102 28 #[.int .i64 0, .slice none 0 0, .int .i64 0, .slice none 0 0, .int .i64 0, .int .i64 0, .int .i64 0, .int .i64 0] :: Asn.box g101 28 #[.int .i64 p103.1, .slice B105 p103.2.length d106, .int .i64 x2, .slice A3 x3.length c3, .int .i64 x4, .int .i64 x5, .int .i64 x6, .int .i64 x7] :: Asn.row 3 1 (.slice B105 p103.2.length d106) p103.2.length (p103.2.flatMap eI) :: Asn.row 3 1 (.slice A3 x3.length c3) x3.length (x3.flatMap eI) :: X)) ?_ ?_
  · have _ := trivial
    cases hc108 : (x6 == x0)
    · replace hM107 := bif_f hc108 hM107
      refine cond_f hF rfl hc108 ?_
      refine wp_skip ?_
      obtain rfl := Option.some.inj hM107
      exact ⟨(x0, x1), A1, c1, rfl, hF.keep _ ⟨rfl, rfl, trivial⟩, S.selT (M := [.box g102 28 #[.int .i64 0, .slice none 0 0, .int .i64 0, .slice none 0 0, .int .i64 0, .int .i64 0, .int .i64 0, .int .i64 0], .box g101 28 #[.int .i64 x0, .slice A1 x1.length c1, .int .i64 x2, .slice A3 x3.length c3, .int .i64 x4, .int .i64 x5, .int .i64 x6, .int .i64 x7], .row 3 1 (.slice A1 x1.length c1) x1.length (x1.flatMap eI), .row 3 1 (.slice A3 x3.length c3) x3.length (x3.flatMap eI)]) 4 [0, 1, 2, 3] rfl rfl rfl⟩
    · replace hM107 := bif_t hc108 hM107
      refine cond_t hF rfl hc108 ?_
      refine wp_seq ?_
      refine wp_region_lit ?_
      refine op_val (v := .pointer (some ⟨g101, 0, none⟩)) rfl rfl hF rfl (run_fieldAddr rfl fl28_0 (hF.ev rfl) rfl) ?_; clear hF; intro a hF
      refine op_val (v := .int .i64 x0) rfl rfl hF rfl (run_load1 rfl one3 (hF.ev rfl) ((S.free 1 rfl).cell rfl)) ?_; clear hF; intro a hF
      refine op_val (v := .int .i64 (w64 (1 - x0))) rfl rfl hF rfl (run_sub (z := w64 (1 - x0)) rfl (hF.ev rfl) rfl rfl) ?_; clear hF; intro a hF
      refine op_val (v := .pointer (some ⟨g101, 0, none⟩)) rfl rfl hF rfl (run_fieldAddr rfl fl28_0 (hF.ev rfl) rfl) ?_; clear hF; intro a hF
      refine op_do rfl rfl (run_store (cs' := #[.int .i64 (w64 (1 - x0)), .slice A1 x1.length c1, .int .i64 x2, .slice A3 x3.length c3, .int .i64 x4, .int .i64 x5, .int .i64 x6, .int .i64 x7]) rfl sz3 (hF.ev rfl) (hF.ev rfl) rfl rfl rfl (S.free 1 rfl) rfl rfl) ?_; replace S := S.put 1 rfl (#[.int .i64 (w64 (1 - x0)), .slice A1 x1.length c1, .int .i64 x2, .slice A3 x3.length c3, .int .i64 x4, .int .i64 x5, .int .i64 x6, .int .i64 x7])
      generalize World.setRow _ _ _ = u at S ⊢
      refine wpList_nil ?_
      refine wp_seq ?_
      refine wp_region_lit ?_
      refine op_val (v := .pointer (some ⟨g101, 7, none⟩)) rfl rfl hF rfl (run_fieldAddr rfl fl28_7 (hF.ev rfl) rfl) ?_; clear hF; intro a hF
      refine op_val (v := .int .i64 x7) rfl rfl hF rfl (run_load1 rfl one3 (hF.ev rfl) ((S.free 1 rfl).cell rfl)) ?_; clear hF; intro a hF
      refine op_val (v := .bool (leB 0 x7)) rfl rfl hF rfl (run_geq (hF.ev rfl) rfl rfl) ?_; clear hF; intro a hF
      refine wpList_nil ?_
      obtain ⟨o110, hM113, hM107⟩ := bind_ex hM107
      refine wp_cut (fun a u => ∃ (p109 : List Int) (B111 : Option Addr) (d112 : Nat), p109 = o110 ∧ Fr a 23 [(1, .pointer (some ⟨g101, 0, none⟩)), (2, .pointer (some ⟨g102, 0, none⟩))] ∧ St w0 u (Asn.box g102 28 #[.int .i64 0, .slice none 0 0, .int .i64 0, .slice none 0 0, .int .i64 0, .int .i64 0, .int .i64 0, .int .i64 0] :: Asn.box g101 28 #[.int .i64 (w64 (1 - x0)), .slice B111 p109.length d112, .int .i64 x2, .slice A3 x3.length c3, .int .i64 x4, .int .i64 x5, .int .i64 x6, .int .i64 x7] :: Asn.row 3 1 (.slice B111 p109.length d112) p109.length (p109.flatMap eI) :: Asn.row 3 1 (.slice A3 x3.length c3) x3.length (x3.flatMap eI) :: X)) ?_ ?_
      · have _ := trivial
        cases hc114 : (leB 0 x7)
        · replace hM113 := bif_f hc114 hM113
          refine cond_f hF rfl hc114 ?_
          refine wp_skip ?_
          obtain rfl := Option.some.inj hM113
          exact ⟨x1, A1, c1, rfl, hF.keep _ ⟨rfl, rfl, trivial⟩, S.selT (M := [.box g102 28 #[.int .i64 0, .slice none 0 0, .int .i64 0, .slice none 0 0, .int .i64 0, .int .i64 0, .int .i64 0, .int .i64 0], .box g101 28 #[.int .i64 (w64 (1 - x0)), .slice A1 x1.length c1, .int .i64 x2, .slice A3 x3.length c3, .int .i64 x4, .int .i64 x5, .int .i64 x6, .int .i64 x7], .row 3 1 (.slice A1 x1.length c1) x1.length (x1.flatMap eI), .row 3 1 (.slice A3 x3.length c3) x3.length (x3.flatMap eI)]) 4 [0, 1, 2, 3] rfl rfl rfl⟩
        · replace hM113 := bif_t hc114 hM113
          refine cond_t hF rfl hc114 ?_
          refine wp_region_lit ?_
          refine op_val (v := .pointer (some ⟨g101, 1, none⟩)) rfl rfl hF rfl (run_fieldAddr rfl fl28_1 (hF.ev rfl) rfl) ?_; clear hF; intro a hF
          refine op_val (v := .slice A1 x1.length c1) rfl rfl hF rfl (run_load1 rfl one22 (hF.ev rfl) ((S.free 1 rfl).cell rfl)) ?_; clear hF; intro a hF
          refine op_val (v := .pointer (some ⟨g101, 7, none⟩)) rfl rfl hF rfl (run_fieldAddr rfl fl28_7 (hF.ev rfl) rfl) ?_; clear hF; intro a hF
          refine op_val (v := .int .i64 x7) rfl rfl hF rfl (run_load1 rfl one3 (hF.ev rfl) ((S.free 1 rfl).cell rfl)) ?_; clear hF; intro a hF
          refine op_newrowL (ls := (([x7] : List Int) : List Int)) (e := eI) rfl rfl hF rfl S (run_buildS (vs := [(0, .int .i64 x7)]) rfl ⟨⟨rfl, (hF.ev rfl)⟩, trivial⟩ (bs22_1_0 rfl)) rfl eI_len (Nat.le_of_ble_eq_true rfl) ?_; clear hF S; intro a g115 u hF S
          obtain ⟨hk118, hM113⟩ := chk_ex hM113
          replace hk118 := apB_t hk118
          refine op_appendL (lx := x1) (ly := ([x7] : List Int)) rfl rfl hF rfl S rfl (hF.ev rfl) (hF.ev rfl) (i := 3) rfl rfl Try.underlying22 inf3 rfl (by decide) (S.rc 0 rfl).rd rfl eI_one hk118 (by decide) ?_; clear hF S; intro a B116 d117 u hF S
          refine op_val (v := .pointer (some ⟨g101, 1, none⟩)) rfl rfl hF rfl (run_fieldAddr rfl fl28_1 (hF.ev rfl) rfl) ?_; clear hF; intro a hF
          refine op_do rfl rfl (run_store (cs' := #[.int .i64 (w64 (1 - x0)), .slice B116 ((x1 ++ ([x7] : List Int)).length) d117, .int .i64 x2, .slice A3 x3.length c3, .int .i64 x4, .int .i64 x5, .int .i64 x6, .int .i64 x7]) rfl sz22 (hF.ev rfl) (hF.ev rfl) rfl rfl rfl (S.free 2 rfl) rfl rfl) ?_; replace S := S.put 2 rfl (#[.int .i64 (w64 (1 - x0)), .slice B116 ((x1 ++ ([x7] : List Int)).length) d117, .int .i64 x2, .slice A3 x3.length c3, .int .i64 x4, .int .i64 x5, .int .i64 x6, .int .i64 x7])
          generalize World.setRow _ _ _ = u at S ⊢
          refine wpList_nil ?_
          obtain rfl := Option.some.inj hM113
          exact ⟨x1 ++ ([x7] : List Int), B116, d117, rfl, hF.keep _ ⟨rfl, rfl, trivial⟩, S.selT (M := [.box g102 28 #[.int .i64 0, .slice none 0 0, .int .i64 0, .slice none 0 0, .int .i64 0, .int .i64 0, .int .i64 0, .int .i64 0], .box g101 28 #[.int .i64 (w64 (1 - x0)), .slice B116 ((x1 ++ ([x7] : List Int)).length) d117, .int .i64 x2, .slice A3 x3.length c3, .int .i64 x4, .int .i64 x5, .int .i64 x6, .int .i64 x7], .row 3 1 (.slice B116 ((x1 ++ ([x7] : List Int)).length) d117) ((x1 ++ ([x7] : List Int)).length) ((x1 ++ ([x7] : List Int)).flatMap eI), .row 3 1 (.slice A3 x3.length c3) x3.length (x3.flatMap eI)]) 5 [1, 2, 3, 4] rfl rfl rfl⟩
      · rintro a u ⟨p109, B111, d112, rfl, hF, S⟩
        obtain rfl := Option.some.inj hM107
        exact ⟨(w64 (1 - x0), p109), B111, d112, rfl, hF.keep _ ⟨rfl, rfl, trivial⟩, S.selT (M := [.box g102 28 #[.int .i64 0, .slice none 0 0, .int .i64 0, .slice none 0 0, .int .i64 0, .int .i64 0, .int .i64 0, .int .i64 0], .box g101 28 #[.int .i64 (w64 (1 - x0)), .slice B111 p109.length d112, .int .i64 x2, .slice A3 x3.length c3, .int .i64 x4, .int .i64 x5, .int .i64 x6, .int .i64 x7], .row 3 1 (.slice B111 p109.length d112) p109.length (p109.flatMap eI), .row 3 1 (.slice A3 x3.length c3) x3.length (x3.flatMap eI)]) 4 [0, 1, 2, 3] rfl rfl rfl⟩
  · rintro a u ⟨p103, B105, d106, rfl, hF, S⟩
    refine wp_seq ?_
    refine wp_region_lit ?_
    refine op_val (v := .agg #[.int .i64 p103.1, .slice B105 p103.2.length d106, .int .i64 x2, .slice A3 x3.length c3, .int .i64 x4, .int .i64 x5, .int .i64 x6, .int .i64 x7]) rfl rfl hF rfl (run_loadN rfl ag28 (hF.ev rfl) rfl ((S.free 1 rfl).cells 0 #[.int .i64 p103.1, .slice B105 p103.2.length d106, .int .i64 x2, .slice A3 x3.length c3, .int .i64 x4, .int .i64 x5, .int .i64 x6, .int .i64 x7] rfl)) ?_; clear hF; intro a hF
    refine op_do rfl rfl (run_store (cs' := #[.int .i64 p103.1, .slice B105 p103.2.length d106, .int .i64 x2, .slice A3 x3.length c3, .int .i64 x4, .int .i64 x5, .int .i64 x6, .int .i64 x7]) rfl sz28 (hF.ev rfl) (hF.ev rfl) rfl rfl rfl (S.free 0 rfl) rfl rfl) ?_; replace S := S.put 0 rfl (#[.int .i64 p103.1, .slice B105 p103.2.length d106, .int .i64 x2, .slice A3 x3.length c3, .int .i64 x4, .int .i64 x5, .int .i64 x6, .int .i64 x7])
    generalize World.setRow _ _ _ = u at S ⊢
    refine wpList_nil ?_
    refine wp_ret ?_
    repeat with_reducible (first | refine then_ret ?_ | refine in_ret ?_ | refine in_nrm ?_)
    refine ret1_gw (.inl rfl) hF rfl (res_cell (hF.ev rfl) (res_loadN ag28 rfl (S.cells 0 rfl 0 #[.int .i64 p103.1, .slice B105 p103.2.length d106, .int .i64 x2, .slice A3 x3.length c3, .int .i64 x4, .int .i64 x5, .int .i64 x6, .int .i64 x7] rfl))) ?_
    obtain rfl := Option.some.inj hM
    exact ⟨B105, p103.2.length, d106, A3, x3.length, c3, rfl, rfl, rfl, S.selT (M := [.row 3 1 (.slice B105 p103.2.length d106) p103.2.length (p103.2.flatMap eI), .row 3 1 (.slice A3 x3.length c3) x3.length (x3.flatMap eI)]) 4 [2, 3] rfl rfl rfl⟩

set_option maxHeartbeats 4000000 in
theorem c_spec_l27Hear {x0 : Int} {x1 : List Int} {x2 : Int} {x3 : List Int} {x4 : Int} {x5 : Int} {x6 : Int} {x7 : Int} {A1 : Option Addr} {n1 c1 : Nat} {A3 : Option Addr} {n3 c3 : Nat} {w : World} {r : Int × List Int × Int × List Int × Int × Int × Int × Int} {w0 : World} {X : List Asn} (h1 : n1 = x1.length) (h3 : n3 = x3.length) (S : St w0 w (Asn.row 3 1 (.slice A1 n1 c1) n1 (x1.flatMap eI) :: Asn.row 3 1 (.slice A3 n3 c3) n3 (x3.flatMap eI) :: X)) (hM : m_spec_l27Hear x0 x1 x2 x3 x4 x5 x6 x7 = some r) :
    Calls Try.prog 25 #[.agg #[.int .i64 x0, .slice A1 n1 c1, .int .i64 x2, .slice A3 n3 c3, .int .i64 x4, .int .i64 x5, .int .i64 x6, .int .i64 x7]] w (fun e w' => ∃ (B0 : Option Addr) (N0 D0 : Nat) (B1 : Option Addr) (N1 D1 : Nat), e = .returned (.agg #[.int .i64 r.1, .slice B0 N0 D0, .int .i64 r.2.2.1, .slice B1 N1 D1, .int .i64 r.2.2.2.2.1, .int .i64 r.2.2.2.2.2.1, .int .i64 r.2.2.2.2.2.2.1, .int .i64 r.2.2.2.2.2.2.2]) ∧ N0 = r.2.1.length ∧ N1 = r.2.2.2.1.length ∧ St w0 w' (Asn.row 3 1 (.slice B0 N0 D0) N0 (r.2.1.flatMap eI) :: Asn.row 3 1 (.slice B1 N1 D1) N1 (r.2.2.2.1.flatMap eI) :: X)) := by
  obtain rfl := h1
  obtain rfl := h3
  unfold m_spec_l27Hear at hM
  refine calls_gw Try.func25 Try.ntmps25 rfl [(0, .agg #[.int .i64 x0, .slice A1 x1.length c1, .int .i64 x2, .slice A3 x3.length c3, .int .i64 x4, .int .i64 x5, .int .i64 x6, .int .i64 x7])] ⟨rfl, trivial⟩ rfl ?_
  intro a hF
  refine wp_seq ?_
  refine wp_region_lit ?_
  refine op_new (cs := #[.int .i64 x0, .slice A1 x1.length c1, .int .i64 x2, .slice A3 x3.length c3, .int .i64 x4, .int .i64 x5, .int .i64 x6, .int .i64 x7]) rfl rfl hF rfl S (run_box rfl (hF.ev rfl) rfl) ?_; clear hF S; intro a g101 u hF S
  refine op_new (cs := #[.int .i64 0, .slice none 0 0, .int .i64 0, .slice none 0 0, .int .i64 0, .int .i64 0, .int .i64 0, .int .i64 0]) rfl rfl hF rfl S (run_allocZ rfl zr28) ?_; clear hF S; intro a g102 u hF S
  refine wpList_nil ?_
  refine wp_seq ?_
  refine wp_seq ?_
  refine wp_region_lit ?_
  refine op_val (v := .pointer (some ⟨g101, 5, none⟩)) rfl rfl hF rfl (run_fieldAddr rfl fl28_5 (hF.ev rfl) rfl) ?_; clear hF; intro a hF
  refine op_val (v := .int .i64 x5) rfl rfl hF rfl (run_load1 rfl one3 (hF.ev rfl) ((S.free 1 rfl).cell rfl)) ?_; clear hF; intro a hF
  refine op_val (v := .pointer (some ⟨g101, 2, none⟩)) rfl rfl hF rfl (run_fieldAddr rfl fl28_2 (hF.ev rfl) rfl) ?_; clear hF; intro a hF
  refine op_val (v := .int .i64 x2) rfl rfl hF rfl (run_load1 rfl one3 (hF.ev rfl) ((S.free 1 rfl).cell rfl)) ?_; clear hF; intro a hF
  refine op_val (v := .bool (x5 != x2)) rfl rfl hF rfl (run_neq (hF.ev rfl) (hF.ev rfl) rfl) ?_; clear hF; intro a hF
  refine wpList_nil ?_
  obtain ⟨o104, hM107, hM⟩ := bind_ex hM
  refine wp_cut (fun a u => ∃ (p103 : Int × List Int × Int) (B105 : Option Addr) (d106 : Nat), p103 = o104 ∧ Fr a 32 [(1, .pointer (some ⟨g101, 0, none⟩)), (2, .pointer (some ⟨g102, 0, none⟩))] ∧ St w0 u (Asn.box g102 28 #[.int .i64 0, .slice none 0 0, .int .i64 0, .slice none 0 0, .int .i64 0, .int .i64 0, .int .i64 0, .int .i64 0] :: Asn.box g101 28 #[.int .i64 x0, .slice A1 x1.length c1, .int .i64 p103.1, .slice B105 p103.2.1.length d106, .int .i64 p103.2.2, .int .i64 x5, .int .i64 x6, .int .i64 x7] :: Asn.row 3 1 (.slice A1 x1.length c1) x1.length (x1.flatMap eI) :: Asn.row 3 1 (.slice B105 p103.2.1.length d106) p103.2.1.length (p103.2.1.flatMap eI) :: X)) ?_ ?_
  · have _ := trivial
    cases hc108 : (x5 != x2)
    · replace hM107 := bif_f hc108 hM107
      refine cond_f hF rfl hc108 ?_
      refine wp_skip ?_
      obtain rfl := Option.some.inj hM107
      exact ⟨(x2, x3, x4), A3, c3, rfl, hF.keep _ ⟨rfl, rfl, trivial⟩, S.selT (M := [.box g102 28 #[.int .i64 0, .slice none 0 0, .int .i64 0, .slice none 0 0, .int .i64 0, .int .i64 0, .int .i64 0, .int .i64 0], .box g101 28 #[.int .i64 x0, .slice A1 x1.length c1, .int .i64 x2, .slice A3 x3.length c3, .int .i64 x4, .int .i64 x5, .int .i64 x6, .int .i64 x7], .row 3 1 (.slice A1 x1.length c1) x1.length (x1.flatMap eI), .row 3 1 (.slice A3 x3.length c3) x3.length (x3.flatMap eI)]) 4 [0, 1, 2, 3] rfl rfl rfl⟩
    · replace hM107 := bif_t hc108 hM107
      refine cond_t hF rfl hc108 ?_
      refine wp_seq ?_
      refine wp_region_lit ?_
      refine op_val (v := .pointer (some ⟨g101, 5, none⟩)) rfl rfl hF rfl (run_fieldAddr rfl fl28_5 (hF.ev rfl) rfl) ?_; clear hF; intro a hF
      refine op_val (v := .int .i64 x5) rfl rfl hF rfl (run_load1 rfl one3 (hF.ev rfl) ((S.free 1 rfl).cell rfl)) ?_; clear hF; intro a hF
      refine op_val (v := .pointer (some ⟨g101, 2, none⟩)) rfl rfl hF rfl (run_fieldAddr rfl fl28_2 (hF.ev rfl) rfl) ?_; clear hF; intro a hF
      refine op_do rfl rfl (run_store (cs' := #[.int .i64 x0, .slice A1 x1.length c1, .int .i64 x5, .slice A3 x3.length c3, .int .i64 x4, .int .i64 x5, .int .i64 x6, .int .i64 x7]) rfl sz3 (hF.ev rfl) (hF.ev rfl) rfl rfl rfl (S.free 1 rfl) rfl rfl) ?_; replace S := S.put 1 rfl (#[.int .i64 x0, .slice A1 x1.length c1, .int .i64 x5, .slice A3 x3.length c3, .int .i64 x4, .int .i64 x5, .int .i64 x6, .int .i64 x7])
      generalize World.setRow _ _ _ = u at S ⊢
      refine wpList_nil ?_
      refine wp_seq ?_
      refine wp_region_lit ?_
      refine op_val (v := .pointer (some ⟨g101, 4, none⟩)) rfl rfl hF rfl (run_fieldAddr rfl fl28_4 (hF.ev rfl) rfl) ?_; clear hF; intro a hF
      refine op_do rfl rfl (run_store (cs' := #[.int .i64 x0, .slice A1 x1.length c1, .int .i64 x5, .slice A3 x3.length c3, .int .i64 (-1), .int .i64 x5, .int .i64 x6, .int .i64 x7]) rfl sz3 (hF.ev rfl) rfl rfl rfl rfl (S.free 1 rfl) rfl rfl) ?_; replace S := S.put 1 rfl (#[.int .i64 x0, .slice A1 x1.length c1, .int .i64 x5, .slice A3 x3.length c3, .int .i64 (-1), .int .i64 x5, .int .i64 x6, .int .i64 x7])
      generalize World.setRow _ _ _ = u at S ⊢
      refine wpList_nil ?_
      refine wp_seq ?_
      refine wp_region_lit ?_
      refine op_val (v := .pointer (some ⟨g101, 3, none⟩)) rfl rfl hF rfl (run_fieldAddr rfl fl28_3 (hF.ev rfl) rfl) ?_; clear hF; intro a hF
      refine op_val (v := .slice A3 x3.length c3) rfl rfl hF rfl (run_load1 rfl one22 (hF.ev rfl) ((S.free 1 rfl).cell rfl)) ?_; clear hF; intro a hF
      refine op_val (v := .int .i64 (x3.length : Int)) rfl rfl hF rfl (run_lenL rfl rfl Try.underlying22 (hF.ev rfl)) ?_; clear hF; intro a hF
      refine op_val (v := .bool (ltB 0 (x3.length : Int))) rfl rfl hF rfl (run_gtr (hF.ev rfl) rfl rfl) ?_; clear hF; intro a hF
      refine wpList_nil ?_
      obtain ⟨o110, hM113, hM107⟩ := bind_ex hM107
      refine wp_cut (fun a u => ∃ (p109 : List Int × Int) (B111 : Option Addr) (d112 : Nat), p109 = o110 ∧ Fr a 32 [(1, .pointer (some ⟨g101, 0, none⟩)), (2, .pointer (some ⟨g102, 0, none⟩))] ∧ St w0 u (Asn.box g102 28 #[.int .i64 0, .slice none 0 0, .int .i64 0, .slice none 0 0, .int .i64 0, .int .i64 0, .int .i64 0, .int .i64 0] :: Asn.box g101 28 #[.int .i64 x0, .slice A1 x1.length c1, .int .i64 x5, .slice B111 p109.1.length d112, .int .i64 p109.2, .int .i64 x5, .int .i64 x6, .int .i64 x7] :: Asn.row 3 1 (.slice A1 x1.length c1) x1.length (x1.flatMap eI) :: Asn.row 3 1 (.slice B111 p109.1.length d112) p109.1.length (p109.1.flatMap eI) :: X)) ?_ ?_
      · have _ := trivial
        cases hc114 : (ltB 0 (x3.length : Int))
        · replace hM113 := bif_f hc114 hM113
          refine cond_f hF rfl hc114 ?_
          refine wp_skip ?_
          obtain rfl := Option.some.inj hM113
          exact ⟨(x3, -1), A3, c3, rfl, hF.keep _ ⟨rfl, rfl, trivial⟩, S.selT (M := [.box g102 28 #[.int .i64 0, .slice none 0 0, .int .i64 0, .slice none 0 0, .int .i64 0, .int .i64 0, .int .i64 0, .int .i64 0], .box g101 28 #[.int .i64 x0, .slice A1 x1.length c1, .int .i64 x5, .slice A3 x3.length c3, .int .i64 (-1), .int .i64 x5, .int .i64 x6, .int .i64 x7], .row 3 1 (.slice A1 x1.length c1) x1.length (x1.flatMap eI), .row 3 1 (.slice A3 x3.length c3) x3.length (x3.flatMap eI)]) 4 [0, 1, 2, 3] rfl rfl rfl⟩
        · replace hM113 := bif_t hc114 hM113
          refine cond_t hF rfl hc114 ?_
          refine wp_seq ?_
          refine wp_region_lit ?_
          refine op_val (v := .pointer (some ⟨g101, 3, none⟩)) rfl rfl hF rfl (run_fieldAddr rfl fl28_3 (hF.ev rfl) rfl) ?_; clear hF; intro a hF
          refine op_val (v := .slice A3 x3.length c3) rfl rfl hF rfl (run_load1 rfl one22 (hF.ev rfl) ((S.free 1 rfl).cell rfl)) ?_; clear hF; intro a hF
          obtain ⟨hk115, hM113⟩ := chk_ex hM113
          replace hk115 := ixB_t hk115
          refine op_val (v := .pointer (some ⟨adB A3, adO A3 + ((0 : Int).toNat) * 1, none⟩)) rfl rfl hF rfl (run_indexAddr (b := adB A3) (off := adO A3) rfl Try.underlying22 sz3 ((hF.ev rfl).trans (congrArg (fun A => Value.slice A x3.length c3) ((S.rc 3 rfl).rd.ad (ix_pos hk115)))) rfl hk115.1 hk115.2 (k' := adO A3 + ((0 : Int).toNat) * 1) rfl) ?_; clear hF; intro a hF
          refine op_val (v := .int .i64 (x3.getD ((0 : Int).toNat) (0 : Int))) rfl rfl hF rfl (run_load1 rfl one3 (hF.ev rfl) (rd_el0 (l := x3) (S.rc 3 rfl).rd rfl eI_len (0 : Int) (ix_ltn hk115 rfl) rfl)) ?_; clear hF; intro a hF
          refine op_val (v := .pointer (some ⟨g101, 4, none⟩)) rfl rfl hF rfl (run_fieldAddr rfl fl28_4 (hF.ev rfl) rfl) ?_; clear hF; intro a hF
          refine op_do rfl rfl (run_store (cs' := #[.int .i64 x0, .slice A1 x1.length c1, .int .i64 x5, .slice A3 x3.length c3, .int .i64 (x3.getD ((0 : Int).toNat) (0 : Int)), .int .i64 x5, .int .i64 x6, .int .i64 x7]) rfl sz3 (hF.ev rfl) (hF.ev rfl) rfl rfl rfl (S.free 1 rfl) rfl rfl) ?_; replace S := S.put 1 rfl (#[.int .i64 x0, .slice A1 x1.length c1, .int .i64 x5, .slice A3 x3.length c3, .int .i64 (x3.getD ((0 : Int).toNat) (0 : Int)), .int .i64 x5, .int .i64 x6, .int .i64 x7])
          generalize World.setRow _ _ _ = u at S ⊢
          refine wpList_nil ?_
          refine wp_region_lit ?_
          refine op_val (v := .pointer (some ⟨g101, 3, none⟩)) rfl rfl hF rfl (run_fieldAddr rfl fl28_3 (hF.ev rfl) rfl) ?_; clear hF; intro a hF
          refine op_val (v := .slice A3 x3.length c3) rfl rfl hF rfl (run_load1 rfl one22 (hF.ev rfl) ((S.free 1 rfl).cell rfl)) ?_; clear hF; intro a hF
          obtain ⟨hk116, hM113⟩ := chk_ex hM113
          replace hk116 := slB_t hk116
          refine op_val (v := .slice (subA c3 ((1 : Int).toNat) 1 A3) ((subL x3 1 (x3.length : Int)).length) (c3 - (1 : Int).toNat)) rfl rfl hF rfl (run_slicefrom (l := x3) rfl Try.underlying22 sz3 (hF.ev rfl) rfl hk116 rfl (S.rc 3 rfl).cap) ?_; clear hF; intro a hF
          refine op_val (v := .pointer (some ⟨g101, 3, none⟩)) rfl rfl hF rfl (run_fieldAddr rfl fl28_3 (hF.ev rfl) rfl) ?_; clear hF; intro a hF
          replace S := S.subrow 3 rfl eI_len rfl hk116
          refine op_do rfl rfl (run_store (cs' := #[.int .i64 x0, .slice A1 x1.length c1, .int .i64 x5, .slice (subA c3 ((1 : Int).toNat) 1 A3) ((subL x3 1 (x3.length : Int)).length) (c3 - (1 : Int).toNat), .int .i64 (x3.getD ((0 : Int).toNat) (0 : Int)), .int .i64 x5, .int .i64 x6, .int .i64 x7]) rfl sz22 (hF.ev rfl) (hF.ev rfl) rfl rfl rfl (S.free 1 rfl) rfl rfl) ?_; replace S := S.put 1 rfl (#[.int .i64 x0, .slice A1 x1.length c1, .int .i64 x5, .slice (subA c3 ((1 : Int).toNat) 1 A3) ((subL x3 1 (x3.length : Int)).length) (c3 - (1 : Int).toNat), .int .i64 (x3.getD ((0 : Int).toNat) (0 : Int)), .int .i64 x5, .int .i64 x6, .int .i64 x7])
          generalize World.setRow _ _ _ = u at S ⊢
          refine wpList_nil ?_
          obtain rfl := Option.some.inj hM113
          exact ⟨(subL x3 1 (x3.length : Int), (x3.getD ((0 : Int).toNat) (0 : Int))), (subA c3 ((1 : Int).toNat) 1 A3), (c3 - (1 : Int).toNat), rfl, hF.keep _ ⟨rfl, rfl, trivial⟩, S.selT (M := [.box g102 28 #[.int .i64 0, .slice none 0 0, .int .i64 0, .slice none 0 0, .int .i64 0, .int .i64 0, .int .i64 0, .int .i64 0], .box g101 28 #[.int .i64 x0, .slice A1 x1.length c1, .int .i64 x5, .slice (subA c3 ((1 : Int).toNat) 1 A3) ((subL x3 1 (x3.length : Int)).length) (c3 - (1 : Int).toNat), .int .i64 (x3.getD ((0 : Int).toNat) (0 : Int)), .int .i64 x5, .int .i64 x6, .int .i64 x7], .row 3 1 (.slice A1 x1.length c1) x1.length (x1.flatMap eI), .row 3 1 (.slice (subA c3 ((1 : Int).toNat) 1 A3) ((subL x3 1 (x3.length : Int)).length) (c3 - (1 : Int).toNat)) ((subL x3 1 (x3.length : Int)).length) ((subL x3 1 (x3.length : Int)).flatMap eI)]) 4 [0, 1, 2, 3] rfl rfl rfl⟩
      · rintro a u ⟨p109, B111, d112, rfl, hF, S⟩
        obtain rfl := Option.some.inj hM107
        exact ⟨(x5, p109.1, p109.2), B111, d112, rfl, hF.keep _ ⟨rfl, rfl, trivial⟩, S.selT (M := [.box g102 28 #[.int .i64 0, .slice none 0 0, .int .i64 0, .slice none 0 0, .int .i64 0, .int .i64 0, .int .i64 0, .int .i64 0], .box g101 28 #[.int .i64 x0, .slice A1 x1.length c1, .int .i64 x5, .slice B111 p109.1.length d112, .int .i64 p109.2, .int .i64 x5, .int .i64 x6, .int .i64 x7], .row 3 1 (.slice A1 x1.length c1) x1.length (x1.flatMap eI), .row 3 1 (.slice B111 p109.1.length d112) p109.1.length (p109.1.flatMap eI)]) 4 [0, 1, 2, 3] rfl rfl rfl⟩
  · rintro a u ⟨p103, B105, d106, rfl, hF, S⟩
    refine wp_seq ?_
    refine wp_region_lit ?_
    refine op_val (v := .pointer (some ⟨g101, 2, none⟩)) rfl rfl hF rfl (run_fieldAddr rfl fl28_2 (hF.ev rfl) rfl) ?_; clear hF; intro a hF
    refine op_val (v := .int .i64 p103.1) rfl rfl hF rfl (run_load1 rfl one3 (hF.ev rfl) ((S.free 1 rfl).cell rfl)) ?_; clear hF; intro a hF
    refine op_val (v := .pointer (some ⟨g101, 6, none⟩)) rfl rfl hF rfl (run_fieldAddr rfl fl28_6 (hF.ev rfl) rfl) ?_; clear hF; intro a hF
    refine op_do rfl rfl (run_store (cs' := #[.int .i64 x0, .slice A1 x1.length c1, .int .i64 p103.1, .slice B105 p103.2.1.length d106, .int .i64 p103.2.2, .int .i64 x5, .int .i64 p103.1, .int .i64 x7]) rfl sz3 (hF.ev rfl) (hF.ev rfl) rfl rfl rfl (S.free 1 rfl) rfl rfl) ?_; replace S := S.put 1 rfl (#[.int .i64 x0, .slice A1 x1.length c1, .int .i64 p103.1, .slice B105 p103.2.1.length d106, .int .i64 p103.2.2, .int .i64 x5, .int .i64 p103.1, .int .i64 x7])
    generalize World.setRow _ _ _ = u at S ⊢
    refine wpList_nil ?_
    refine wp_seq ?_
    refine wp_region_lit ?_
    refine op_val (v := .pointer (some ⟨g101, 4, none⟩)) rfl rfl hF rfl (run_fieldAddr rfl fl28_4 (hF.ev rfl) rfl) ?_; clear hF; intro a hF
    refine op_val (v := .int .i64 p103.2.2) rfl rfl hF rfl (run_load1 rfl one3 (hF.ev rfl) ((S.free 1 rfl).cell rfl)) ?_; clear hF; intro a hF
    refine op_val (v := .pointer (some ⟨g101, 7, none⟩)) rfl rfl hF rfl (run_fieldAddr rfl fl28_7 (hF.ev rfl) rfl) ?_; clear hF; intro a hF
    refine op_do rfl rfl (run_store (cs' := #[.int .i64 x0, .slice A1 x1.length c1, .int .i64 p103.1, .slice B105 p103.2.1.length d106, .int .i64 p103.2.2, .int .i64 x5, .int .i64 p103.1, .int .i64 p103.2.2]) rfl sz3 (hF.ev rfl) (hF.ev rfl) rfl rfl rfl (S.free 1 rfl) rfl rfl) ?_; replace S := S.put 1 rfl (#[.int .i64 x0, .slice A1 x1.length c1, .int .i64 p103.1, .slice B105 p103.2.1.length d106, .int .i64 p103.2.2, .int .i64 x5, .int .i64 p103.1, .int .i64 p103.2.2])
    generalize World.setRow _ _ _ = u at S ⊢
    refine wpList_nil ?_
    refine wp_seq ?_
    refine wp_region_lit ?_
    refine op_val (v := .agg #[.int .i64 x0, .slice A1 x1.length c1, .int .i64 p103.1, .slice B105 p103.2.1.length d106, .int .i64 p103.2.2, .int .i64 x5, .int .i64 p103.1, .int .i64 p103.2.2]) rfl rfl hF rfl (run_loadN rfl ag28 (hF.ev rfl) rfl ((S.free 1 rfl).cells 0 #[.int .i64 x0, .slice A1 x1.length c1, .int .i64 p103.1, .slice B105 p103.2.1.length d106, .int .i64 p103.2.2, .int .i64 x5, .int .i64 p103.1, .int .i64 p103.2.2] rfl)) ?_; clear hF; intro a hF
    refine op_do rfl rfl (run_store (cs' := #[.int .i64 x0, .slice A1 x1.length c1, .int .i64 p103.1, .slice B105 p103.2.1.length d106, .int .i64 p103.2.2, .int .i64 x5, .int .i64 p103.1, .int .i64 p103.2.2]) rfl sz28 (hF.ev rfl) (hF.ev rfl) rfl rfl rfl (S.free 0 rfl) rfl rfl) ?_; replace S := S.put 0 rfl (#[.int .i64 x0, .slice A1 x1.length c1, .int .i64 p103.1, .slice B105 p103.2.1.length d106, .int .i64 p103.2.2, .int .i64 x5, .int .i64 p103.1, .int .i64 p103.2.2])
    generalize World.setRow _ _ _ = u at S ⊢
    refine wpList_nil ?_
    refine wp_ret ?_
    repeat with_reducible (first | refine then_ret ?_ | refine in_ret ?_ | refine in_nrm ?_)
    refine ret1_gw (.inl rfl) hF rfl (res_cell (hF.ev rfl) (res_loadN ag28 rfl (S.cells 0 rfl 0 #[.int .i64 x0, .slice A1 x1.length c1, .int .i64 p103.1, .slice B105 p103.2.1.length d106, .int .i64 p103.2.2, .int .i64 x5, .int .i64 p103.1, .int .i64 p103.2.2] rfl))) ?_
    obtain rfl := Option.some.inj hM
    exact ⟨A1, x1.length, c1, B105, p103.2.1.length, d106, rfl, rfl, rfl, S.selT (M := [.row 3 1 (.slice A1 x1.length c1) x1.length (x1.flatMap eI), .row 3 1 (.slice B105 p103.2.1.length d106) p103.2.1.length (p103.2.1.flatMap eI)]) 4 [2, 3] rfl rfl rfl⟩

set_option maxHeartbeats 4000000 in
theorem c_spec_PollDo {x0 : Int} {x1 : List Int} {x2 : Int} {x3 : List Int} {x4 : Int} {x5 : Int} {x6 : Int} {x7 : Int} {x8 : Int} {x9 : Int} {A1 : Option Addr} {n1 c1 : Nat} {A3 : Option Addr} {n3 c3 : Nat} {w : World} {r : Int × List Int × Int × List Int × Int × Int × Int × Int × Bool} (h1 : Rt w 1 eI A1 n1 c1 x1) (h3 : Rt w 1 eI A3 n3 c3 x3) (hM : m_spec_PollDo x0 x1 x2 x3 x4 x5 x6 x7 x8 x9 = some r) :
    Calls Try.prog 7 #[.agg #[.int .i64 x0, .slice A1 n1 c1, .int .i64 x2, .slice A3 n3 c3, .int .i64 x4, .int .i64 x5, .int .i64 x6, .int .i64 x7], .agg #[.int .i64 x8, .int .i64 x9]] w (fun e w' => ∃ (B0 : Option Addr) (N0 D0 : Nat) (B1 : Option Addr) (N1 D1 : Nat), e = .returned (.tuple #[.agg #[.int .i64 r.1, .slice B0 N0 D0, .int .i64 r.2.2.1, .slice B1 N1 D1, .int .i64 r.2.2.2.2.1, .int .i64 r.2.2.2.2.2.1, .int .i64 r.2.2.2.2.2.2.1, .int .i64 r.2.2.2.2.2.2.2.1], .bool r.2.2.2.2.2.2.2.2]) ∧ N0 = r.2.1.length ∧ N1 = r.2.2.2.1.length ∧ St w w' [.row 3 1 (.slice B0 N0 D0) N0 (r.2.1.flatMap eI), .row 3 1 (.slice B1 N1 D1) N1 (r.2.2.2.1.flatMap eI)]) := by
  obtain rfl := h1.len
  obtain rfl := h3.len
  unfold m_spec_PollDo at hM
  refine calls_gw Try.func7 Try.ntmps7 rfl [(0, .agg #[.int .i64 x0, .slice A1 x1.length c1, .int .i64 x2, .slice A3 x3.length c3, .int .i64 x4, .int .i64 x5, .int .i64 x6, .int .i64 x7]), (1, .agg #[.int .i64 x8, .int .i64 x9])] ⟨rfl, rfl, trivial⟩ rfl ?_
  intro a hF
  have S := St.nil w
  refine wp_seq ?_
  refine wp_region_lit ?_
  refine op_new (cs := #[.int .i64 x0, .slice A1 x1.length c1, .int .i64 x2, .slice A3 x3.length c3, .int .i64 x4, .int .i64 x5, .int .i64 x6, .int .i64 x7]) rfl rfl hF rfl S (run_box rfl (hF.ev rfl) rfl) ?_; clear hF S; intro a g101 u hF S
  refine op_new (cs := #[.int .i64 x8, .int .i64 x9]) rfl rfl hF rfl S (run_box rfl (hF.ev rfl) rfl) ?_; clear hF S; intro a g102 u hF S
  refine op_new (cs := #[.int .i64 0, .slice none 0 0, .int .i64 0, .slice none 0 0, .int .i64 0, .int .i64 0, .int .i64 0, .int .i64 0]) rfl rfl hF rfl S (run_allocZ rfl zr28) ?_; clear hF S; intro a g103 u hF S
  refine op_val (v := .bool false) rfl rfl hF rfl (run_assign rfl rfl) ?_; clear hF; intro a hF
  refine wpList_nil ?_
  refine wp_seq ?_
  refine wp_seq ?_
  refine wp_region_lit ?_
  refine op_val (v := .agg #[.int .i64 x0, .slice A1 x1.length c1, .int .i64 x2, .slice A3 x3.length c3, .int .i64 x4, .int .i64 x5, .int .i64 x6, .int .i64 x7]) rfl rfl hF rfl (run_loadN rfl ag28 (hF.ev rfl) rfl ((S.free 2 rfl).cells 0 #[.int .i64 x0, .slice A1 x1.length c1, .int .i64 x2, .slice A3 x3.length c3, .int .i64 x4, .int .i64 x5, .int .i64 x6, .int .i64 x7] rfl)) ?_; clear hF; intro a hF
  obtain ⟨p104, h104, hM⟩ := bind_ex hM
  refine op_call rfl rfl hF rfl (run_call (vs := [.agg #[.int .i64 x0, .slice A1 x1.length c1, .int .i64 x2, .slice A3 x3.length c3, .int .i64 x4, .int .i64 x5, .int .i64 x6, .int .i64 x7]]) rfl rfl co23 ⟨(hF.ev rfl), trivial⟩) (c_spec_PollValid (x0 := x0) (x1 := x1) (x2 := x2) (x3 := x3) (x4 := x4) (x5 := x5) (x6 := x6) (x7 := x7) ⟨(S.rc0 h1.rc), rfl⟩ ⟨(S.rc0 h3.rc), rfl⟩ h104) ?_
  rintro e u ⟨rfl, T⟩
  refine ⟨_, rfl, ?_⟩
  clear hF; intro a hF
  replace S := S.call0 T; clear T
  refine op_val (v := .bool (!p104)) rfl rfl hF rfl (run_not rfl (hF.ev rfl)) ?_; clear hF; intro a hF
  refine wpList_nil ?_
  cases hc105 : (p104)
  · replace hM := bif_f hc105 hM
    refine cond_t hF rfl (not_t hc105) ?_
    refine wp_seq ?_
    refine wp_region_lit ?_
    refine op_val (v := .agg #[.int .i64 0, .slice none 0 0, .int .i64 0, .slice none 0 0, .int .i64 0, .int .i64 0, .int .i64 0, .int .i64 0]) rfl rfl hF rfl (run_build (vs := []) rfl trivial (bd28 )) ?_; clear hF; intro a hF
    refine op_do rfl rfl (run_store (cs' := #[.int .i64 0, .slice none 0 0, .int .i64 0, .slice none 0 0, .int .i64 0, .int .i64 0, .int .i64 0, .int .i64 0]) rfl sz28 (hF.ev rfl) (hF.ev rfl) rfl rfl rfl (S.free 0 rfl) rfl rfl) ?_; replace S := S.put 0 rfl (#[.int .i64 0, .slice none 0 0, .int .i64 0, .slice none 0 0, .int .i64 0, .int .i64 0, .int .i64 0, .int .i64 0])
    generalize World.setRow _ _ _ = u at S ⊢
    refine op_val (v := .bool false) rfl rfl hF rfl (run_assign rfl rfl) ?_; clear hF; intro a hF
    refine wpList_nil ?_
    refine wp_ret ?_
    repeat with_reducible (first | refine then_ret ?_ | refine in_ret ?_ | refine in_nrm ?_)
    refine ret2_gw (.inl rfl) hF rfl (res_cell (hF.ev rfl) (res_loadN ag28 rfl (S.cells 0 rfl 0 #[.int .i64 0, .slice none 0 0, .int .i64 0, .slice none 0 0, .int .i64 0, .int .i64 0, .int .i64 0, .int .i64 0] rfl))) (res_tmp (hF.ev rfl)) ?_
    obtain rfl := Option.some.inj hM
    replace S := S.nilrow 3 1
    replace S := S.nilrow 3 1
    exact ⟨none, 0, 0, none, 0, 0, rfl, rfl, rfl, S.sel [1, 0] rfl rfl⟩
  · replace hM := bif_t hc105 hM
    refine cond_f hF rfl (not_f hc105) ?_
    refine wp_skip ?_
    refine wp_seq ?_
    refine wp_region_lit ?_
    refine op_val (v := .agg #[.int .i64 x0, .slice A1 x1.length c1, .int .i64 x2, .slice A3 x3.length c3, .int .i64 x4, .int .i64 x5, .int .i64 x6, .int .i64 x7]) rfl rfl hF rfl (run_loadN rfl ag28 (hF.ev rfl) rfl ((S.free 2 rfl).cells 0 #[.int .i64 x0, .slice A1 x1.length c1, .int .i64 x2, .slice A3 x3.length c3, .int .i64 x4, .int .i64 x5, .int .i64 x6, .int .i64 x7] rfl)) ?_; clear hF; intro a hF
    obtain ⟨p106, h106, hM⟩ := bind_ex hM
    refine op_call rfl rfl hF rfl (run_call (vs := [.agg #[.int .i64 x0, .slice A1 x1.length c1, .int .i64 x2, .slice A3 x3.length c3, .int .i64 x4, .int .i64 x5, .int .i64 x6, .int .i64 x7]]) rfl rfl co24 ⟨(hF.ev rfl), trivial⟩) (c_spec_l27Copy (x0 := x0) (x1 := x1) (x2 := x2) (x3 := x3) (x4 := x4) (x5 := x5) (x6 := x6) (x7 := x7) ⟨(S.rc0 h1.rc), rfl⟩ ⟨(S.rc0 h3.rc), rfl⟩ h106) ?_
    rintro e u ⟨B107, n108, d109, B110, n111, d112, rfl, rfl, rfl, T⟩
    refine ⟨_, rfl, ?_⟩
    clear hF; intro a hF
    replace S := S.call2 T; clear T
    refine op_new (cs := #[.int .i64 0, .slice none 0 0, .int .i64 0, .slice none 0 0, .int .i64 0, .int .i64 0, .int .i64 0, .int .i64 0]) rfl rfl hF rfl S (run_allocZ rfl zr28) ?_; clear hF S; intro a g113 u hF S
    refine op_do rfl rfl (run_store (cs' := #[.int .i64 p106.1, .slice B107 p106.2.1.length d109, .int .i64 p106.2.2.1, .slice B110 p106.2.2.2.1.length d112, .int .i64 p106.2.2.2.2.1, .int .i64 p106.2.2.2.2.2.1, .int .i64 p106.2.2.2.2.2.2.1, .int .i64 p106.2.2.2.2.2.2.2]) rfl sz28 (hF.ev rfl) (hF.ev rfl) rfl rfl rfl (S.free 0 rfl) rfl rfl) ?_; replace S := S.put 0 rfl (#[.int .i64 p106.1, .slice B107 p106.2.1.length d109, .int .i64 p106.2.2.1, .slice B110 p106.2.2.2.1.length d112, .int .i64 p106.2.2.2.2.1, .int .i64 p106.2.2.2.2.2.1, .int .i64 p106.2.2.2.2.2.2.1, .int .i64 p106.2.2.2.2.2.2.2])
    generalize World.setRow _ _ _ = u at S ⊢
    refine wpList_nil ?_
    refine wp_seq ?_
    refine wp_block ?_
    refine wp_seq ?_
    refine wp_region_lit ?_
    refine op_val (v := .pointer (some ⟨g102, 0, none⟩)) rfl rfl hF rfl (run_fieldAddr rfl fl32_0 (hF.ev rfl) rfl) ?_; clear hF; intro a hF
    refine op_val (v := .int .i64 x8) rfl rfl hF rfl (run_load1 rfl one3 (hF.ev rfl) ((S.free 4 rfl).cell rfl)) ?_; clear hF; intro a hF
    refine op_val (v := .bool (x8 == 0)) rfl rfl hF rfl (run_eql (hF.ev rfl) rfl rfl) ?_; clear hF; intro a hF
    refine op_val (v := .bool (x8 == 0)) rfl rfl hF rfl (run_assign rfl (hF.ev rfl)) ?_; clear hF; intro a hF
    refine wpList_nil ?_
    obtain ⟨o115, hM120, hM⟩ := bind_ex hM
    refine wp_cut (fun a u => ∃ (p114 : Int × List Int × Int × List Int × Int × Int × Int × Int) (B116 : Option Addr) (d117 : Nat) (B118 : Option Addr) (d119 : Nat), (Sum.inl p114) = o115 ∧ Fr a 81 [(2, .pointer (some ⟨g101, 0, none⟩)), (4, .pointer (some ⟨g103, 0, none⟩)), (5, .bool false), (6, .pointer (some ⟨g113, 0, none⟩))] ∧ St w u [.box g113 28 #[.int .i64 p114.1, .slice B116 p114.2.1.length d117, .int .i64 p114.2.2.1, .slice B118 p114.2.2.2.1.length d119, .int .i64 p114.2.2.2.2.1, .int .i64 p114.2.2.2.2.2.1, .int .i64 p114.2.2.2.2.2.2.1, .int .i64 p114.2.2.2.2.2.2.2], .box g103 28 #[.int .i64 0, .slice none 0 0, .int .i64 0, .slice none 0 0, .int .i64 0, .int .i64 0, .int .i64 0, .int .i64 0], .box g101 28 #[.int .i64 x0, .slice A1 x1.length c1, .int .i64 x2, .slice A3 x3.length c3, .int .i64 x4, .int .i64 x5, .int .i64 x6, .int .i64 x7], .row 3 1 (.slice B116 p114.2.1.length d117) p114.2.1.length (p114.2.1.flatMap eI), .row 3 1 (.slice B118 p114.2.2.2.1.length d119) p114.2.2.2.1.length (p114.2.2.2.1.flatMap eI)]) ?_ ?_
    · have _ := trivial
      cases hc121 : (x8 == 0)
      · replace hM120 := bif_f hc121 hM120
        refine cond_f hF rfl hc121 ?_
        refine wp_seq ?_
        refine wp_region_lit ?_
        refine op_val (v := .pointer (some ⟨g102, 0, none⟩)) rfl rfl hF rfl (run_fieldAddr rfl fl32_0 (hF.ev rfl) rfl) ?_; clear hF; intro a hF
        refine op_val (v := .int .i64 x8) rfl rfl hF rfl (run_load1 rfl one3 (hF.ev rfl) ((S.free 4 rfl).cell rfl)) ?_; clear hF; intro a hF
        refine op_val (v := .bool (x8 == 1)) rfl rfl hF rfl (run_eql (hF.ev rfl) rfl rfl) ?_; clear hF; intro a hF
        refine op_val (v := .bool (x8 == 1)) rfl rfl hF rfl (run_assign rfl (hF.ev rfl)) ?_; clear hF; intro a hF
        refine wpList_nil ?_
        obtain ⟨o123, hM128, hM120⟩ := bind_ex hM120
        refine wp_cut (fun a u => ∃ (p122 : Int × List Int × Int × List Int × Int × Int × Int × Int) (B124 : Option Addr) (d125 : Nat) (B126 : Option Addr) (d127 : Nat), (Sum.inl p122) = o123 ∧ Fr a 81 [(2, .pointer (some ⟨g101, 0, none⟩)), (4, .pointer (some ⟨g103, 0, none⟩)), (5, .bool false), (6, .pointer (some ⟨g113, 0, none⟩))] ∧ St w u [.box g113 28 #[.int .i64 p122.1, .slice B124 p122.2.1.length d125, .int .i64 p122.2.2.1, .slice B126 p122.2.2.2.1.length d127, .int .i64 p122.2.2.2.2.1, .int .i64 p122.2.2.2.2.2.1, .int .i64 p122.2.2.2.2.2.2.1, .int .i64 p122.2.2.2.2.2.2.2], .box g103 28 #[.int .i64 0, .slice none 0 0, .int .i64 0, .slice none 0 0, .int .i64 0, .int .i64 0, .int .i64 0, .int .i64 0], .box g101 28 #[.int .i64 x0, .slice A1 x1.length c1, .int .i64 x2, .slice A3 x3.length c3, .int .i64 x4, .int .i64 x5, .int .i64 x6, .int .i64 x7], .row 3 1 (.slice B124 p122.2.1.length d125) p122.2.1.length (p122.2.1.flatMap eI), .row 3 1 (.slice B126 p122.2.2.2.1.length d127) p122.2.2.2.1.length (p122.2.2.2.1.flatMap eI)]) ?_ ?_
        · have _ := trivial
          cases hc129 : (x8 == 1)
          · replace hM128 := bif_f hc129 hM128
            refine cond_f hF rfl hc129 ?_
            refine wp_seq ?_
            refine wp_region_lit ?_
            refine op_val (v := .pointer (some ⟨g102, 0, none⟩)) rfl rfl hF rfl (run_fieldAddr rfl fl32_0 (hF.ev rfl) rfl) ?_; clear hF; intro a hF
            refine op_val (v := .int .i64 x8) rfl rfl hF rfl (run_load1 rfl one3 (hF.ev rfl) ((S.free 4 rfl).cell rfl)) ?_; clear hF; intro a hF
            refine op_val (v := .bool (x8 == 2)) rfl rfl hF rfl (run_eql (hF.ev rfl) rfl rfl) ?_; clear hF; intro a hF
            refine op_val (v := .bool (x8 == 2)) rfl rfl hF rfl (run_move rfl (hF.ev rfl)) ?_; clear hF; intro a hF
            refine op_gv (v := .pointer (some ⟨g101, 5, none⟩)) rfl rfl hF rfl (yt (gw_yield hF rfl rfl rfl)) (fun hg => (run_fieldAddr rfl fl28_5 (hF.ev rfl) rfl)) ?_; clear hF; intro a hF
            refine op_gv (v := .int .i64 x5) rfl rfl hF rfl (yt (gw_yield hF rfl rfl rfl)) (fun hg => (run_load1 rfl one3 ((hF.ev rfl).trans (gv_t hg)) ((S.free 5 rfl).cell rfl))) ?_; clear hF; intro a hF
            refine op_gv (v := .bool (leB 0 x5)) rfl rfl hF rfl (yt (gw_yield hF rfl rfl rfl)) (fun hg => (run_geq ((hF.ev rfl).trans (gv_t hg)) rfl rfl)) ?_; clear hF; intro a hF
            refine op_val (v := .bool ((x8 == 2) && (leB 0 x5))) rfl rfl hF rfl (run_pick_and rfl (hF.ev rfl) (fun hp => ((hF.ev rfl).trans (gv_t hp))) rfl) ?_; clear hF; intro a hF
            refine op_val (v := .bool ((x8 == 2) && (leB 0 x5))) rfl rfl hF rfl (run_assign rfl (hF.ev rfl)) ?_; clear hF; intro a hF
            refine wpList_nil ?_
            obtain ⟨o131, hM136, hM128⟩ := bind_ex hM128
            refine wp_cut (fun a u => ∃ (p130 : Int × List Int × Int × List Int × Int × Int × Int × Int) (B132 : Option Addr) (d133 : Nat) (B134 : Option Addr) (d135 : Nat), (Sum.inl p130) = o131 ∧ Fr a 81 [(2, .pointer (some ⟨g101, 0, none⟩)), (4, .pointer (some ⟨g103, 0, none⟩)), (5, .bool false), (6, .pointer (some ⟨g113, 0, none⟩))] ∧ St w u [.box g113 28 #[.int .i64 p130.1, .slice B132 p130.2.1.length d133, .int .i64 p130.2.2.1, .slice B134 p130.2.2.2.1.length d135, .int .i64 p130.2.2.2.2.1, .int .i64 p130.2.2.2.2.2.1, .int .i64 p130.2.2.2.2.2.2.1, .int .i64 p130.2.2.2.2.2.2.2], .box g103 28 #[.int .i64 0, .slice none 0 0, .int .i64 0, .slice none 0 0, .int .i64 0, .int .i64 0, .int .i64 0, .int .i64 0], .box g101 28 #[.int .i64 x0, .slice A1 x1.length c1, .int .i64 x2, .slice A3 x3.length c3, .int .i64 x4, .int .i64 x5, .int .i64 x6, .int .i64 x7], .row 3 1 (.slice B132 p130.2.1.length d133) p130.2.1.length (p130.2.1.flatMap eI), .row 3 1 (.slice B134 p130.2.2.2.1.length d135) p130.2.2.2.1.length (p130.2.2.2.1.flatMap eI)]) ?_ ?_
            · have _ := trivial
              cases hc137 : ((x8 == 2) && (leB 0 x5))
              · replace hM136 := bif_f hc137 hM136
                refine cond_f hF rfl hc137 ?_
                refine wp_seq ?_
                refine wp_region_lit ?_
                refine op_val (v := .pointer (some ⟨g102, 0, none⟩)) rfl rfl hF rfl (run_fieldAddr rfl fl32_0 (hF.ev rfl) rfl) ?_; clear hF; intro a hF
                refine op_val (v := .int .i64 x8) rfl rfl hF rfl (run_load1 rfl one3 (hF.ev rfl) ((S.free 4 rfl).cell rfl)) ?_; clear hF; intro a hF
                refine op_val (v := .bool (x8 == 3)) rfl rfl hF rfl (run_eql (hF.ev rfl) rfl rfl) ?_; clear hF; intro a hF
                refine op_val (v := .bool (x8 == 3)) rfl rfl hF rfl (run_move rfl (hF.ev rfl)) ?_; clear hF; intro a hF
                refine op_gv (v := .pointer (some ⟨g101, 6, none⟩)) rfl rfl hF rfl (yt (gw_yield hF rfl rfl rfl)) (fun hg => (run_fieldAddr rfl fl28_6 (hF.ev rfl) rfl)) ?_; clear hF; intro a hF
                refine op_gv (v := .int .i64 x6) rfl rfl hF rfl (yt (gw_yield hF rfl rfl rfl)) (fun hg => (run_load1 rfl one3 ((hF.ev rfl).trans (gv_t hg)) ((S.free 5 rfl).cell rfl))) ?_; clear hF; intro a hF
                refine op_gv (v := .bool (leB 0 x6)) rfl rfl hF rfl (yt (gw_yield hF rfl rfl rfl)) (fun hg => (run_geq ((hF.ev rfl).trans (gv_t hg)) rfl rfl)) ?_; clear hF; intro a hF
                refine op_val (v := .bool ((x8 == 3) && (leB 0 x6))) rfl rfl hF rfl (run_pick_and rfl (hF.ev rfl) (fun hp => ((hF.ev rfl).trans (gv_t hp))) rfl) ?_; clear hF; intro a hF
                refine op_val (v := .bool ((x8 == 3) && (leB 0 x6))) rfl rfl hF rfl (run_assign rfl (hF.ev rfl)) ?_; clear hF; intro a hF
                refine wpList_nil ?_
                obtain ⟨o139, hM144, hM136⟩ := bind_ex hM136
                refine wp_cut (fun a u => ∃ (p138 : Int × List Int × Int × List Int × Int × Int × Int × Int) (B140 : Option Addr) (d141 : Nat) (B142 : Option Addr) (d143 : Nat), (Sum.inl p138) = o139 ∧ Fr a 81 [(2, .pointer (some ⟨g101, 0, none⟩)), (4, .pointer (some ⟨g103, 0, none⟩)), (5, .bool false), (6, .pointer (some ⟨g113, 0, none⟩))] ∧ St w u [.box g113 28 #[.int .i64 p138.1, .slice B140 p138.2.1.length d141, .int .i64 p138.2.2.1, .slice B142 p138.2.2.2.1.length d143, .int .i64 p138.2.2.2.2.1, .int .i64 p138.2.2.2.2.2.1, .int .i64 p138.2.2.2.2.2.2.1, .int .i64 p138.2.2.2.2.2.2.2], .box g103 28 #[.int .i64 0, .slice none 0 0, .int .i64 0, .slice none 0 0, .int .i64 0, .int .i64 0, .int .i64 0, .int .i64 0], .box g101 28 #[.int .i64 x0, .slice A1 x1.length c1, .int .i64 x2, .slice A3 x3.length c3, .int .i64 x4, .int .i64 x5, .int .i64 x6, .int .i64 x7], .row 3 1 (.slice B140 p138.2.1.length d141) p138.2.1.length (p138.2.1.flatMap eI), .row 3 1 (.slice B142 p138.2.2.2.1.length d143) p138.2.2.2.1.length (p138.2.2.2.1.flatMap eI)]) ?_ ?_
                · have _ := trivial
                  cases hc145 : ((x8 == 3) && (leB 0 x6))
                  · replace hM144 := bif_f hc145 hM144
                    refine cond_f hF rfl hc145 ?_
                    refine wp_seq ?_
                    refine wp_region_lit ?_
                    refine op_val (v := .pointer (some ⟨g102, 0, none⟩)) rfl rfl hF rfl (run_fieldAddr rfl fl32_0 (hF.ev rfl) rfl) ?_; clear hF; intro a hF
                    refine op_val (v := .int .i64 x8) rfl rfl hF rfl (run_load1 rfl one3 (hF.ev rfl) ((S.free 4 rfl).cell rfl)) ?_; clear hF; intro a hF
                    refine op_val (v := .bool (x8 == 4)) rfl rfl hF rfl (run_eql (hF.ev rfl) rfl rfl) ?_; clear hF; intro a hF
                    refine op_val (v := .bool (x8 == 4)) rfl rfl hF rfl (run_move rfl (hF.ev rfl)) ?_; clear hF; intro a hF
                    refine op_gv (v := .pointer (some ⟨g101, 5, none⟩)) rfl rfl hF rfl (yt (gw_yield hF rfl rfl rfl)) (fun hg => (run_fieldAddr rfl fl28_5 (hF.ev rfl) rfl)) ?_; clear hF; intro a hF
                    refine op_gv (v := .int .i64 x5) rfl rfl hF rfl (yt (gw_yield hF rfl rfl rfl)) (fun hg => (run_load1 rfl one3 ((hF.ev rfl).trans (gv_t hg)) ((S.free 5 rfl).cell rfl))) ?_; clear hF; intro a hF
                    refine op_gv (v := .bool (leB 0 x5)) rfl rfl hF rfl (yt (gw_yield hF rfl rfl rfl)) (fun hg => (run_geq ((hF.ev rfl).trans (gv_t hg)) rfl rfl)) ?_; clear hF; intro a hF
                    refine op_val (v := .bool ((x8 == 4) && (leB 0 x5))) rfl rfl hF rfl (run_pick_and rfl (hF.ev rfl) (fun hp => ((hF.ev rfl).trans (gv_t hp))) rfl) ?_; clear hF; intro a hF
                    refine op_val (v := .bool ((x8 == 4) && (leB 0 x5))) rfl rfl hF rfl (run_assign rfl (hF.ev rfl)) ?_; clear hF; intro a hF
                    refine wpList_nil ?_
                    obtain ⟨o147, hM148, hM144⟩ := bind_ex hM144
                    refine wp_cut (fun a u => ∃ (p146 : Int × Int × Int), (Sum.inl p146) = o147 ∧ Fr a 81 [(2, .pointer (some ⟨g101, 0, none⟩)), (4, .pointer (some ⟨g103, 0, none⟩)), (5, .bool false), (6, .pointer (some ⟨g113, 0, none⟩))] ∧ St w u [.box g113 28 #[.int .i64 p106.1, .slice B107 p106.2.1.length d109, .int .i64 p106.2.2.1, .slice B110 p106.2.2.2.1.length d112, .int .i64 p106.2.2.2.2.1, .int .i64 p146.1, .int .i64 p146.2.1, .int .i64 p146.2.2], .box g103 28 #[.int .i64 0, .slice none 0 0, .int .i64 0, .slice none 0 0, .int .i64 0, .int .i64 0, .int .i64 0, .int .i64 0], .box g101 28 #[.int .i64 x0, .slice A1 x1.length c1, .int .i64 x2, .slice A3 x3.length c3, .int .i64 x4, .int .i64 x5, .int .i64 x6, .int .i64 x7], .row 3 1 (.slice B107 p106.2.1.length d109) p106.2.1.length (p106.2.1.flatMap eI), .row 3 1 (.slice B110 p106.2.2.2.1.length d112) p106.2.2.2.1.length (p106.2.2.2.1.flatMap eI)]) ?_ ?_
                    · have _ := trivial
                      cases hc149 : ((x8 == 4) && (leB 0 x5))
                      · replace hM148 := bif_f hc149 hM148
                        refine cond_f hF rfl hc149 ?_
                        refine wp_seq ?_
                        refine wp_region_lit ?_
                        refine op_val (v := .pointer (some ⟨g102, 0, none⟩)) rfl rfl hF rfl (run_fieldAddr rfl fl32_0 (hF.ev rfl) rfl) ?_; clear hF; intro a hF
                        refine op_val (v := .int .i64 x8) rfl rfl hF rfl (run_load1 rfl one3 (hF.ev rfl) ((S.free 4 rfl).cell rfl)) ?_; clear hF; intro a hF
                        refine op_val (v := .bool (x8 == 5)) rfl rfl hF rfl (run_eql (hF.ev rfl) rfl rfl) ?_; clear hF; intro a hF
                        refine op_val (v := .bool (x8 == 5)) rfl rfl hF rfl (run_move rfl (hF.ev rfl)) ?_; clear hF; intro a hF
                        refine op_gv (v := .pointer (some ⟨g101, 6, none⟩)) rfl rfl hF rfl (yt (gw_yield hF rfl rfl rfl)) (fun hg => (run_fieldAddr rfl fl28_6 (hF.ev rfl) rfl)) ?_; clear hF; intro a hF
                        refine op_gv (v := .int .i64 x6) rfl rfl hF rfl (yt (gw_yield hF rfl rfl rfl)) (fun hg => (run_load1 rfl one3 ((hF.ev rfl).trans (gv_t hg)) ((S.free 5 rfl).cell rfl))) ?_; clear hF; intro a hF
                        refine op_gv (v := .bool (leB 0 x6)) rfl rfl hF rfl (yt (gw_yield hF rfl rfl rfl)) (fun hg => (run_geq ((hF.ev rfl).trans (gv_t hg)) rfl rfl)) ?_; clear hF; intro a hF
                        refine op_val (v := .bool ((x8 == 5) && (leB 0 x6))) rfl rfl hF rfl (run_pick_and rfl (hF.ev rfl) (fun hp => ((hF.ev rfl).trans (gv_t hp))) rfl) ?_; clear hF; intro a hF
                        refine op_val (v := .bool ((x8 == 5) && (leB 0 x6))) rfl rfl hF rfl (run_assign rfl (hF.ev rfl)) ?_; clear hF; intro a hF
                        refine wpList_nil ?_
                        cases hc150 : ((x8 == 5) && (leB 0 x6))
                        · replace hM148 := bif_f hc150 hM148
                          refine cond_f hF rfl hc150 ?_
                          refine wp_seq ?_
                          refine wp_region_lit ?_
                          refine op_val (v := .agg #[.int .i64 p106.1, .slice B107 p106.2.1.length d109, .int .i64 p106.2.2.1, .slice B110 p106.2.2.2.1.length d112, .int .i64 p106.2.2.2.2.1, .int .i64 p106.2.2.2.2.2.1, .int .i64 p106.2.2.2.2.2.2.1, .int .i64 p106.2.2.2.2.2.2.2]) rfl rfl hF rfl (run_loadN rfl ag28 (hF.ev rfl) rfl ((S.free 0 rfl).cells 0 #[.int .i64 p106.1, .slice B107 p106.2.1.length d109, .int .i64 p106.2.2.1, .slice B110 p106.2.2.2.1.length d112, .int .i64 p106.2.2.2.2.1, .int .i64 p106.2.2.2.2.2.1, .int .i64 p106.2.2.2.2.2.2.1, .int .i64 p106.2.2.2.2.2.2.2] rfl)) ?_; clear hF; intro a hF
                          refine op_do rfl rfl (run_store (cs' := #[.int .i64 p106.1, .slice B107 p106.2.1.length d109, .int .i64 p106.2.2.1, .slice B110 p106.2.2.2.1.length d112, .int .i64 p106.2.2.2.2.1, .int .i64 p106.2.2.2.2.2.1, .int .i64 p106.2.2.2.2.2.2.1, .int .i64 p106.2.2.2.2.2.2.2]) rfl sz28 (hF.ev rfl) (hF.ev rfl) rfl rfl rfl (S.free 3 rfl) rfl rfl) ?_; replace S := S.put 3 rfl (#[.int .i64 p106.1, .slice B107 p106.2.1.length d109, .int .i64 p106.2.2.1, .slice B110 p106.2.2.2.1.length d112, .int .i64 p106.2.2.2.2.1, .int .i64 p106.2.2.2.2.2.1, .int .i64 p106.2.2.2.2.2.2.1, .int .i64 p106.2.2.2.2.2.2.2])
                          generalize World.setRow _ _ _ = u at S ⊢
                          refine op_val (v := .bool false) rfl rfl hF rfl (run_assign rfl rfl) ?_; clear hF; intro a hF
                          refine wpList_nil ?_
                          refine wp_ret ?_
                          repeat with_reducible (first | refine then_ret ?_ | refine in_ret ?_ | refine in_nrm ?_)
                          refine ret2_gw (.inl rfl) hF rfl (res_cell (hF.ev rfl) (res_loadN ag28 rfl (S.cells 3 rfl 0 #[.int .i64 p106.1, .slice B107 p106.2.1.length d109, .int .i64 p106.2.2.1, .slice B110 p106.2.2.2.1.length d112, .int .i64 p106.2.2.2.2.1, .int .i64 p106.2.2.2.2.2.1, .int .i64 p106.2.2.2.2.2.2.1, .int .i64 p106.2.2.2.2.2.2.2] rfl))) (res_tmp (hF.ev rfl)) ?_
                          obtain rfl := Option.some.inj hM148
                          obtain rfl := Option.some.inj hM144
                          obtain rfl := Option.some.inj hM136
                          obtain rfl := Option.some.inj hM128
                          obtain rfl := Option.some.inj hM120
                          obtain rfl := Option.some.inj hM
                          exact ⟨B107, p106.2.1.length, d109, B110, p106.2.2.2.1.length, d112, rfl, rfl, rfl, S.sel [1, 2] rfl rfl⟩
                        · replace hM148 := bif_t hc150 hM148
                          refine cond_t hF rfl hc150 ?_
                          refine wp_seq ?_
                          refine wp_region_lit ?_
                          refine op_val (v := .pointer (some ⟨g113, 6, none⟩)) rfl rfl hF rfl (run_fieldAddr rfl fl28_6 (hF.ev rfl) rfl) ?_; clear hF; intro a hF
                          refine op_do rfl rfl (run_store (cs' := #[.int .i64 p106.1, .slice B107 p106.2.1.length d109, .int .i64 p106.2.2.1, .slice B110 p106.2.2.2.1.length d112, .int .i64 p106.2.2.2.2.1, .int .i64 p106.2.2.2.2.2.1, .int .i64 (-1), .int .i64 p106.2.2.2.2.2.2.2]) rfl sz3 (hF.ev rfl) rfl rfl rfl rfl (S.free 0 rfl) rfl rfl) ?_; replace S := S.put 0 rfl (#[.int .i64 p106.1, .slice B107 p106.2.1.length d109, .int .i64 p106.2.2.1, .slice B110 p106.2.2.2.1.length d112, .int .i64 p106.2.2.2.2.1, .int .i64 p106.2.2.2.2.2.1, .int .i64 (-1), .int .i64 p106.2.2.2.2.2.2.2])
                          generalize World.setRow _ _ _ = u at S ⊢
                          refine wpList_nil ?_
                          refine wp_region_lit ?_
                          refine op_val (v := .pointer (some ⟨g113, 7, none⟩)) rfl rfl hF rfl (run_fieldAddr rfl fl28_7 (hF.ev rfl) rfl) ?_; clear hF; intro a hF
                          refine op_do rfl rfl (run_store (cs' := #[.int .i64 p106.1, .slice B107 p106.2.1.length d109, .int .i64 p106.2.2.1, .slice B110 p106.2.2.2.1.length d112, .int .i64 p106.2.2.2.2.1, .int .i64 p106.2.2.2.2.2.1, .int .i64 (-1), .int .i64 (-1)]) rfl sz3 (hF.ev rfl) rfl rfl rfl rfl (S.free 0 rfl) rfl rfl) ?_; replace S := S.put 0 rfl (#[.int .i64 p106.1, .slice B107 p106.2.1.length d109, .int .i64 p106.2.2.1, .slice B110 p106.2.2.2.1.length d112, .int .i64 p106.2.2.2.2.1, .int .i64 p106.2.2.2.2.2.1, .int .i64 (-1), .int .i64 (-1)])
                          generalize World.setRow _ _ _ = u at S ⊢
                          refine wpList_nil ?_
                          obtain rfl := Option.some.inj hM148
                          exact ⟨(p106.2.2.2.2.2.1, -1, -1), rfl, hF.keep _ ⟨rfl, rfl, rfl, rfl, trivial⟩, S.sel [0, 3, 5, 1, 2] rfl rfl⟩
                      · replace hM148 := bif_t hc149 hM148
                        refine cond_t hF rfl hc149 ?_
                        refine wp_region_lit ?_
                        refine op_val (v := .pointer (some ⟨g113, 5, none⟩)) rfl rfl hF rfl (run_fieldAddr rfl fl28_5 (hF.ev rfl) rfl) ?_; clear hF; intro a hF
                        refine op_do rfl rfl (run_store (cs' := #[.int .i64 p106.1, .slice B107 p106.2.1.length d109, .int .i64 p106.2.2.1, .slice B110 p106.2.2.2.1.length d112, .int .i64 p106.2.2.2.2.1, .int .i64 (-1), .int .i64 p106.2.2.2.2.2.2.1, .int .i64 p106.2.2.2.2.2.2.2]) rfl sz3 (hF.ev rfl) rfl rfl rfl rfl (S.free 0 rfl) rfl rfl) ?_; replace S := S.put 0 rfl (#[.int .i64 p106.1, .slice B107 p106.2.1.length d109, .int .i64 p106.2.2.1, .slice B110 p106.2.2.2.1.length d112, .int .i64 p106.2.2.2.2.1, .int .i64 (-1), .int .i64 p106.2.2.2.2.2.2.1, .int .i64 p106.2.2.2.2.2.2.2])
                        generalize World.setRow _ _ _ = u at S ⊢
                        refine wpList_nil ?_
                        obtain rfl := Option.some.inj hM148
                        exact ⟨(-1, p106.2.2.2.2.2.2.1, p106.2.2.2.2.2.2.2), rfl, hF.keep _ ⟨rfl, rfl, rfl, rfl, trivial⟩, S.sel [0, 3, 5, 1, 2] rfl rfl⟩
                    · rintro a u ⟨p146, rfl, hF, S⟩
                      replace hM144 := elim_l hM144
                      obtain rfl := Option.some.inj hM144
                      exact ⟨(p106.1, p106.2.1, p106.2.2.1, p106.2.2.2.1, p106.2.2.2.2.1, p146.1, p146.2.1, p146.2.2), B107, d109, B110, d112, rfl, hF.keep _ ⟨rfl, rfl, rfl, rfl, trivial⟩, S.sel [0, 1, 2, 3, 4] rfl rfl⟩
                  · replace hM144 := bif_t hc145 hM144
                    refine cond_t hF rfl hc145 ?_
                    refine wp_region_lit ?_
                    refine op_val (v := .agg #[.int .i64 p106.1, .slice B107 p106.2.1.length d109, .int .i64 p106.2.2.1, .slice B110 p106.2.2.2.1.length d112, .int .i64 p106.2.2.2.2.1, .int .i64 p106.2.2.2.2.2.1, .int .i64 p106.2.2.2.2.2.2.1, .int .i64 p106.2.2.2.2.2.2.2]) rfl rfl hF rfl (run_loadN rfl ag28 (hF.ev rfl) rfl ((S.free 0 rfl).cells 0 #[.int .i64 p106.1, .slice B107 p106.2.1.length d109, .int .i64 p106.2.2.1, .slice B110 p106.2.2.2.1.length d112, .int .i64 p106.2.2.2.2.1, .int .i64 p106.2.2.2.2.2.1, .int .i64 p106.2.2.2.2.2.2.1, .int .i64 p106.2.2.2.2.2.2.2] rfl)) ?_; clear hF; intro a hF
                    obtain ⟨p151, h151, hM144⟩ := bind_ex hM144
                    refine op_call rfl rfl hF rfl (run_call (vs := [.agg #[.int .i64 p106.1, .slice B107 p106.2.1.length d109, .int .i64 p106.2.2.1, .slice B110 p106.2.2.2.1.length d112, .int .i64 p106.2.2.2.2.1, .int .i64 p106.2.2.2.2.2.1, .int .i64 p106.2.2.2.2.2.2.1, .int .i64 p106.2.2.2.2.2.2.2]]) rfl rfl co26 ⟨(hF.ev rfl), trivial⟩) (c_spec_l27Take (x0 := p106.1) (x1 := p106.2.1) (x2 := p106.2.2.1) (x3 := p106.2.2.2.1) (x4 := p106.2.2.2.2.1) (x5 := p106.2.2.2.2.2.1) (x6 := p106.2.2.2.2.2.2.1) (x7 := p106.2.2.2.2.2.2.2) rfl rfl (show St w _ [.row 3 1 (.slice B107 p106.2.1.length d109) p106.2.1.length (p106.2.1.flatMap eI), .row 3 1 (.slice B110 p106.2.2.2.1.length d112) p106.2.2.2.1.length (p106.2.2.2.1.flatMap eI), .box g113 28 #[.int .i64 p106.1, .slice B107 p106.2.1.length d109, .int .i64 p106.2.2.1, .slice B110 p106.2.2.2.1.length d112, .int .i64 p106.2.2.2.2.1, .int .i64 p106.2.2.2.2.2.1, .int .i64 p106.2.2.2.2.2.2.1, .int .i64 p106.2.2.2.2.2.2.2], .box g103 28 #[.int .i64 0, .slice none 0 0, .int .i64 0, .slice none 0 0, .int .i64 0, .int .i64 0, .int .i64 0, .int .i64 0], .box g102 32 #[.int .i64 x8, .int .i64 x9], .box g101 28 #[.int .i64 x0, .slice A1 x1.length c1, .int .i64 x2, .slice A3 x3.length c3, .int .i64 x4, .int .i64 x5, .int .i64 x6, .int .i64 x7]] from S.sel [1, 2, 0, 3, 4, 5] rfl rfl) h151) ?_
                    rintro e u ⟨B152, n153, d154, B155, n156, d157, rfl, rfl, rfl, T⟩
                    refine ⟨_, rfl, ?_⟩
                    clear hF; intro a hF
                    clear S; have S := T; clear T
                    refine op_do rfl rfl (run_store (cs' := #[.int .i64 p151.1, .slice B152 p151.2.1.length d154, .int .i64 p151.2.2.1, .slice B155 p151.2.2.2.1.length d157, .int .i64 p151.2.2.2.2.1, .int .i64 p151.2.2.2.2.2.1, .int .i64 p151.2.2.2.2.2.2.1, .int .i64 p151.2.2.2.2.2.2.2]) rfl sz28 (hF.ev rfl) (hF.ev rfl) rfl rfl rfl (S.free 2 rfl) rfl rfl) ?_; replace S := S.put 2 rfl (#[.int .i64 p151.1, .slice B152 p151.2.1.length d154, .int .i64 p151.2.2.1, .slice B155 p151.2.2.2.1.length d157, .int .i64 p151.2.2.2.2.1, .int .i64 p151.2.2.2.2.2.1, .int .i64 p151.2.2.2.2.2.2.1, .int .i64 p151.2.2.2.2.2.2.2])
                    generalize World.setRow _ _ _ = u at S ⊢
                    refine wpList_nil ?_
                    obtain rfl := Option.some.inj hM144
                    exact ⟨(p151.1, p151.2.1, p151.2.2.1, p151.2.2.2.1, p151.2.2.2.2.1, p151.2.2.2.2.2.1, p151.2.2.2.2.2.2.1, p151.2.2.2.2.2.2.2), B152, d154, B155, d157, rfl, hF.keep _ ⟨rfl, rfl, rfl, rfl, trivial⟩, S.sel [2, 3, 5, 0, 1] rfl rfl⟩
                · rintro a u ⟨p138, B140, d141, B142, d143, rfl, hF, S⟩
                  replace hM136 := elim_l hM136
                  obtain rfl := Option.some.inj hM136
                  exact ⟨(p138.1, p138.2.1, p138.2.2.1, p138.2.2.2.1, p138.2.2.2.2.1, p138.2.2.2.2.2.1, p138.2.2.2.2.2.2.1, p138.2.2.2.2.2.2.2), B140, d141, B142, d143, rfl, hF.keep _ ⟨rfl, rfl, rfl, rfl, trivial⟩, S.sel [0, 1, 2, 3, 4] rfl rfl⟩
              · replace hM136 := bif_t hc137 hM136
                refine cond_t hF rfl hc137 ?_
                refine wp_region_lit ?_
                refine op_val (v := .agg #[.int .i64 p106.1, .slice B107 p106.2.1.length d109, .int .i64 p106.2.2.1, .slice B110 p106.2.2.2.1.length d112, .int .i64 p106.2.2.2.2.1, .int .i64 p106.2.2.2.2.2.1, .int .i64 p106.2.2.2.2.2.2.1, .int .i64 p106.2.2.2.2.2.2.2]) rfl rfl hF rfl (run_loadN rfl ag28 (hF.ev rfl) rfl ((S.free 0 rfl).cells 0 #[.int .i64 p106.1, .slice B107 p106.2.1.length d109, .int .i64 p106.2.2.1, .slice B110 p106.2.2.2.1.length d112, .int .i64 p106.2.2.2.2.1, .int .i64 p106.2.2.2.2.2.1, .int .i64 p106.2.2.2.2.2.2.1, .int .i64 p106.2.2.2.2.2.2.2] rfl)) ?_; clear hF; intro a hF
                obtain ⟨p158, h158, hM136⟩ := bind_ex hM136
                refine op_call rfl rfl hF rfl (run_call (vs := [.agg #[.int .i64 p106.1, .slice B107 p106.2.1.length d109, .int .i64 p106.2.2.1, .slice B110 p106.2.2.2.1.length d112, .int .i64 p106.2.2.2.2.1, .int .i64 p106.2.2.2.2.2.1, .int .i64 p106.2.2.2.2.2.2.1, .int .i64 p106.2.2.2.2.2.2.2]]) rfl rfl co25 ⟨(hF.ev rfl), trivial⟩) (c_spec_l27Hear (x0 := p106.1) (x1 := p106.2.1) (x2 := p106.2.2.1) (x3 := p106.2.2.2.1) (x4 := p106.2.2.2.2.1) (x5 := p106.2.2.2.2.2.1) (x6 := p106.2.2.2.2.2.2.1) (x7 := p106.2.2.2.2.2.2.2) rfl rfl (show St w _ [.row 3 1 (.slice B107 p106.2.1.length d109) p106.2.1.length (p106.2.1.flatMap eI), .row 3 1 (.slice B110 p106.2.2.2.1.length d112) p106.2.2.2.1.length (p106.2.2.2.1.flatMap eI), .box g113 28 #[.int .i64 p106.1, .slice B107 p106.2.1.length d109, .int .i64 p106.2.2.1, .slice B110 p106.2.2.2.1.length d112, .int .i64 p106.2.2.2.2.1, .int .i64 p106.2.2.2.2.2.1, .int .i64 p106.2.2.2.2.2.2.1, .int .i64 p106.2.2.2.2.2.2.2], .box g103 28 #[.int .i64 0, .slice none 0 0, .int .i64 0, .slice none 0 0, .int .i64 0, .int .i64 0, .int .i64 0, .int .i64 0], .box g102 32 #[.int .i64 x8, .int .i64 x9], .box g101 28 #[.int .i64 x0, .slice A1 x1.length c1, .int .i64 x2, .slice A3 x3.length c3, .int .i64 x4, .int .i64 x5, .int .i64 x6, .int .i64 x7]] from S.sel [1, 2, 0, 3, 4, 5] rfl rfl) h158) ?_
                rintro e u ⟨B159, n160, d161, B162, n163, d164, rfl, rfl, rfl, T⟩
                refine ⟨_, rfl, ?_⟩
                clear hF; intro a hF
                clear S; have S := T; clear T
                refine op_do rfl rfl (run_store (cs' := #[.int .i64 p158.1, .slice B159 p158.2.1.length d161, .int .i64 p158.2.2.1, .slice B162 p158.2.2.2.1.length d164, .int .i64 p158.2.2.2.2.1, .int .i64 p158.2.2.2.2.2.1, .int .i64 p158.2.2.2.2.2.2.1, .int .i64 p158.2.2.2.2.2.2.2]) rfl sz28 (hF.ev rfl) (hF.ev rfl) rfl rfl rfl (S.free 2 rfl) rfl rfl) ?_; replace S := S.put 2 rfl (#[.int .i64 p158.1, .slice B159 p158.2.1.length d161, .int .i64 p158.2.2.1, .slice B162 p158.2.2.2.1.length d164, .int .i64 p158.2.2.2.2.1, .int .i64 p158.2.2.2.2.2.1, .int .i64 p158.2.2.2.2.2.2.1, .int .i64 p158.2.2.2.2.2.2.2])
                generalize World.setRow _ _ _ = u at S ⊢
                refine wpList_nil ?_
                obtain rfl := Option.some.inj hM136
                exact ⟨(p158.1, p158.2.1, p158.2.2.1, p158.2.2.2.1, p158.2.2.2.2.1, p158.2.2.2.2.2.1, p158.2.2.2.2.2.2.1, p158.2.2.2.2.2.2.2), B159, d161, B162, d164, rfl, hF.keep _ ⟨rfl, rfl, rfl, rfl, trivial⟩, S.sel [2, 3, 5, 0, 1] rfl rfl⟩
            · rintro a u ⟨p130, B132, d133, B134, d135, rfl, hF, S⟩
              replace hM128 := elim_l hM128
              obtain rfl := Option.some.inj hM128
              exact ⟨(p130.1, p130.2.1, p130.2.2.1, p130.2.2.2.1, p130.2.2.2.2.1, p130.2.2.2.2.2.1, p130.2.2.2.2.2.2.1, p130.2.2.2.2.2.2.2), B132, d133, B134, d135, rfl, hF.keep _ ⟨rfl, rfl, rfl, rfl, trivial⟩, S.sel [0, 1, 2, 3, 4] rfl rfl⟩
          · replace hM128 := bif_t hc129 hM128
            refine cond_t hF rfl hc129 ?_
            refine wp_region_lit ?_
            refine op_val (v := .pointer (some ⟨g101, 0, none⟩)) rfl rfl hF rfl (run_fieldAddr rfl fl28_0 (hF.ev rfl) rfl) ?_; clear hF; intro a hF
            refine op_val (v := .int .i64 x0) rfl rfl hF rfl (run_load1 rfl one3 (hF.ev rfl) ((S.free 5 rfl).cell rfl)) ?_; clear hF; intro a hF
            refine op_val (v := .pointer (some ⟨g113, 5, none⟩)) rfl rfl hF rfl (run_fieldAddr rfl fl28_5 (hF.ev rfl) rfl) ?_; clear hF; intro a hF
            refine op_do rfl rfl (run_store (cs' := #[.int .i64 p106.1, .slice B107 p106.2.1.length d109, .int .i64 p106.2.2.1, .slice B110 p106.2.2.2.1.length d112, .int .i64 p106.2.2.2.2.1, .int .i64 x0, .int .i64 p106.2.2.2.2.2.2.1, .int .i64 p106.2.2.2.2.2.2.2]) rfl sz3 (hF.ev rfl) (hF.ev rfl) rfl rfl rfl (S.free 0 rfl) rfl rfl) ?_; replace S := S.put 0 rfl (#[.int .i64 p106.1, .slice B107 p106.2.1.length d109, .int .i64 p106.2.2.1, .slice B110 p106.2.2.2.1.length d112, .int .i64 p106.2.2.2.2.1, .int .i64 x0, .int .i64 p106.2.2.2.2.2.2.1, .int .i64 p106.2.2.2.2.2.2.2])
            generalize World.setRow _ _ _ = u at S ⊢
            refine wpList_nil ?_
            obtain rfl := Option.some.inj hM128
            exact ⟨(p106.1, p106.2.1, p106.2.2.1, p106.2.2.2.1, p106.2.2.2.2.1, x0, p106.2.2.2.2.2.2.1, p106.2.2.2.2.2.2.2), B107, d109, B110, d112, rfl, hF.keep _ ⟨rfl, rfl, rfl, rfl, trivial⟩, S.sel [0, 3, 5, 1, 2] rfl rfl⟩
        · rintro a u ⟨p122, B124, d125, B126, d127, rfl, hF, S⟩
          replace hM120 := elim_l hM120
          obtain rfl := Option.some.inj hM120
          exact ⟨(p122.1, p122.2.1, p122.2.2.1, p122.2.2.2.1, p122.2.2.2.2.1, p122.2.2.2.2.2.1, p122.2.2.2.2.2.2.1, p122.2.2.2.2.2.2.2), B124, d125, B126, d127, rfl, hF.keep _ ⟨rfl, rfl, rfl, rfl, trivial⟩, S.sel [0, 1, 2, 3, 4] rfl rfl⟩
      · replace hM120 := bif_t hc121 hM120
        refine cond_t hF rfl hc121 ?_
        refine wp_region_lit ?_
        refine op_val (v := .pointer (some ⟨g113, 3, none⟩)) rfl rfl hF rfl (run_fieldAddr rfl fl28_3 (hF.ev rfl) rfl) ?_; clear hF; intro a hF
        refine op_val (v := .slice B110 p106.2.2.2.1.length d112) rfl rfl hF rfl (run_load1 rfl one22 (hF.ev rfl) ((S.free 0 rfl).cell rfl)) ?_; clear hF; intro a hF
        refine op_val (v := .pointer (some ⟨g102, 1, none⟩)) rfl rfl hF rfl (run_fieldAddr rfl fl32_1 (hF.ev rfl) rfl) ?_; clear hF; intro a hF
        refine op_val (v := .int .i64 x9) rfl rfl hF rfl (run_load1 rfl one3 (hF.ev rfl) ((S.free 4 rfl).cell rfl)) ?_; clear hF; intro a hF
        refine op_newrowL (ls := (([x9] : List Int) : List Int)) (e := eI) rfl rfl hF rfl S (run_buildS (vs := [(0, .int .i64 x9)]) rfl ⟨⟨rfl, (hF.ev rfl)⟩, trivial⟩ (bs22_1_0 rfl)) rfl eI_len (Nat.le_of_ble_eq_true rfl) ?_; clear hF S; intro a g165 u hF S
        obtain ⟨hk168, hM120⟩ := chk_ex hM120
        replace hk168 := apB_t hk168
        refine op_appendL (lx := p106.2.2.2.1) (ly := ([x9] : List Int)) rfl rfl hF rfl S rfl (hF.ev rfl) (hF.ev rfl) (i := 3) rfl rfl Try.underlying22 inf3 rfl (by decide) (S.rc 0 rfl).rd rfl eI_one hk168 (by decide) ?_; clear hF S; intro a B166 d167 u hF S
        refine op_val (v := .pointer (some ⟨g113, 3, none⟩)) rfl rfl hF rfl (run_fieldAddr rfl fl28_3 (hF.ev rfl) rfl) ?_; clear hF; intro a hF
        refine op_do rfl rfl (run_store (cs' := #[.int .i64 p106.1, .slice B107 p106.2.1.length d109, .int .i64 p106.2.2.1, .slice B166 ((p106.2.2.2.1 ++ ([x9] : List Int)).length) d167, .int .i64 p106.2.2.2.2.1, .int .i64 p106.2.2.2.2.2.1, .int .i64 p106.2.2.2.2.2.2.1, .int .i64 p106.2.2.2.2.2.2.2]) rfl sz22 (hF.ev rfl) (hF.ev rfl) rfl rfl rfl (S.free 1 rfl) rfl rfl) ?_; replace S := S.put 1 rfl (#[.int .i64 p106.1, .slice B107 p106.2.1.length d109, .int .i64 p106.2.2.1, .slice B166 ((p106.2.2.2.1 ++ ([x9] : List Int)).length) d167, .int .i64 p106.2.2.2.2.1, .int .i64 p106.2.2.2.2.2.1, .int .i64 p106.2.2.2.2.2.2.1, .int .i64 p106.2.2.2.2.2.2.2])
        generalize World.setRow _ _ _ = u at S ⊢
        refine wpList_nil ?_
        obtain rfl := Option.some.inj hM120
        exact ⟨(p106.1, p106.2.1, p106.2.2.1, p106.2.2.2.1 ++ ([x9] : List Int), p106.2.2.2.2.1, p106.2.2.2.2.2.1, p106.2.2.2.2.2.2.1, p106.2.2.2.2.2.2.2), B107, d109, B166, d167, rfl, hF.keep _ ⟨rfl, rfl, rfl, rfl, trivial⟩, S.sel [1, 4, 6, 2, 3] rfl rfl⟩
    · rintro a u ⟨p114, B116, d117, B118, d119, rfl, hF, S⟩
      replace hM := elim_l hM
      refine wp_seq ?_
      refine wp_seq ?_
      refine wp_region_lit ?_
      refine op_val (v := .agg #[.int .i64 p114.1, .slice B116 p114.2.1.length d117, .int .i64 p114.2.2.1, .slice B118 p114.2.2.2.1.length d119, .int .i64 p114.2.2.2.2.1, .int .i64 p114.2.2.2.2.2.1, .int .i64 p114.2.2.2.2.2.2.1, .int .i64 p114.2.2.2.2.2.2.2]) rfl rfl hF rfl (run_loadN rfl ag28 (hF.ev rfl) rfl ((S.free 0 rfl).cells 0 #[.int .i64 p114.1, .slice B116 p114.2.1.length d117, .int .i64 p114.2.2.1, .slice B118 p114.2.2.2.1.length d119, .int .i64 p114.2.2.2.2.1, .int .i64 p114.2.2.2.2.2.1, .int .i64 p114.2.2.2.2.2.2.1, .int .i64 p114.2.2.2.2.2.2.2] rfl)) ?_; clear hF; intro a hF
      obtain ⟨p169, h169, hM⟩ := bind_ex hM
      refine op_call rfl rfl hF rfl (run_call (vs := [.agg #[.int .i64 p114.1, .slice B116 p114.2.1.length d117, .int .i64 p114.2.2.1, .slice B118 p114.2.2.2.1.length d119, .int .i64 p114.2.2.2.2.1, .int .i64 p114.2.2.2.2.2.1, .int .i64 p114.2.2.2.2.2.2.1, .int .i64 p114.2.2.2.2.2.2.2]]) rfl rfl co23 ⟨(hF.ev rfl), trivial⟩) (c_spec_PollValid (x0 := p114.1) (x1 := p114.2.1) (x2 := p114.2.2.1) (x3 := p114.2.2.2.1) (x4 := p114.2.2.2.2.1) (x5 := p114.2.2.2.2.2.1) (x6 := p114.2.2.2.2.2.2.1) (x7 := p114.2.2.2.2.2.2.2) ⟨(S.rc 3 rfl), rfl⟩ ⟨(S.rc 4 rfl), rfl⟩ h169) ?_
      rintro e u ⟨rfl, T⟩
      refine ⟨_, rfl, ?_⟩
      clear hF; intro a hF
      replace S := S.call0 T; clear T
      refine op_val (v := .bool (!p169)) rfl rfl hF rfl (run_not rfl (hF.ev rfl)) ?_; clear hF; intro a hF
      refine wpList_nil ?_
      cases hc170 : (p169)
      · replace hM := bif_f hc170 hM
        refine cond_t hF rfl (not_t hc170) ?_
        refine wp_seq ?_
        refine wp_region_lit ?_
        refine op_val (v := .agg #[.int .i64 x0, .slice A1 x1.length c1, .int .i64 x2, .slice A3 x3.length c3, .int .i64 x4, .int .i64 x5, .int .i64 x6, .int .i64 x7]) rfl rfl hF rfl (run_loadN rfl ag28 (hF.ev rfl) rfl ((S.free 2 rfl).cells 0 #[.int .i64 x0, .slice A1 x1.length c1, .int .i64 x2, .slice A3 x3.length c3, .int .i64 x4, .int .i64 x5, .int .i64 x6, .int .i64 x7] rfl)) ?_; clear hF; intro a hF
        obtain ⟨p171, h171, hM⟩ := bind_ex hM
        refine op_call rfl rfl hF rfl (run_call (vs := [.agg #[.int .i64 x0, .slice A1 x1.length c1, .int .i64 x2, .slice A3 x3.length c3, .int .i64 x4, .int .i64 x5, .int .i64 x6, .int .i64 x7]]) rfl rfl co24 ⟨(hF.ev rfl), trivial⟩) (c_spec_l27Copy (x0 := x0) (x1 := x1) (x2 := x2) (x3 := x3) (x4 := x4) (x5 := x5) (x6 := x6) (x7 := x7) ⟨(S.rc0 h1.rc), rfl⟩ ⟨(S.rc0 h3.rc), rfl⟩ h171) ?_
        rintro e u ⟨B172, n173, d174, B175, n176, d177, rfl, rfl, rfl, T⟩
        refine ⟨_, rfl, ?_⟩
        clear hF; intro a hF
        replace S := S.call2 T; clear T
        refine op_do rfl rfl (run_store (cs' := #[.int .i64 p171.1, .slice B172 p171.2.1.length d174, .int .i64 p171.2.2.1, .slice B175 p171.2.2.2.1.length d177, .int .i64 p171.2.2.2.2.1, .int .i64 p171.2.2.2.2.2.1, .int .i64 p171.2.2.2.2.2.2.1, .int .i64 p171.2.2.2.2.2.2.2]) rfl sz28 (hF.ev rfl) (hF.ev rfl) rfl rfl rfl (S.free 3 rfl) rfl rfl) ?_; replace S := S.put 3 rfl (#[.int .i64 p171.1, .slice B172 p171.2.1.length d174, .int .i64 p171.2.2.1, .slice B175 p171.2.2.2.1.length d177, .int .i64 p171.2.2.2.2.1, .int .i64 p171.2.2.2.2.2.1, .int .i64 p171.2.2.2.2.2.2.1, .int .i64 p171.2.2.2.2.2.2.2])
        generalize World.setRow _ _ _ = u at S ⊢
        refine op_val (v := .bool false) rfl rfl hF rfl (run_assign rfl rfl) ?_; clear hF; intro a hF
        refine wpList_nil ?_
        refine wp_ret ?_
        repeat with_reducible (first | refine then_ret ?_ | refine in_ret ?_ | refine in_nrm ?_)
        refine ret2_gw (.inl rfl) hF rfl (res_cell (hF.ev rfl) (res_loadN ag28 rfl (S.cells 3 rfl 0 #[.int .i64 p171.1, .slice B172 p171.2.1.length d174, .int .i64 p171.2.2.1, .slice B175 p171.2.2.2.1.length d177, .int .i64 p171.2.2.2.2.1, .int .i64 p171.2.2.2.2.2.1, .int .i64 p171.2.2.2.2.2.2.1, .int .i64 p171.2.2.2.2.2.2.2] rfl))) (res_tmp (hF.ev rfl)) ?_
        obtain rfl := Option.some.inj hM
        exact ⟨B172, p171.2.1.length, d174, B175, p171.2.2.2.1.length, d177, rfl, rfl, rfl, S.sel [0, 1] rfl rfl⟩
      · replace hM := bif_t hc170 hM
        refine cond_f hF rfl (not_f hc170) ?_
        refine wp_skip ?_
        refine wp_seq ?_
        refine wp_region_lit ?_
        refine op_val (v := .agg #[.int .i64 p114.1, .slice B116 p114.2.1.length d117, .int .i64 p114.2.2.1, .slice B118 p114.2.2.2.1.length d119, .int .i64 p114.2.2.2.2.1, .int .i64 p114.2.2.2.2.2.1, .int .i64 p114.2.2.2.2.2.2.1, .int .i64 p114.2.2.2.2.2.2.2]) rfl rfl hF rfl (run_loadN rfl ag28 (hF.ev rfl) rfl ((S.free 0 rfl).cells 0 #[.int .i64 p114.1, .slice B116 p114.2.1.length d117, .int .i64 p114.2.2.1, .slice B118 p114.2.2.2.1.length d119, .int .i64 p114.2.2.2.2.1, .int .i64 p114.2.2.2.2.2.1, .int .i64 p114.2.2.2.2.2.2.1, .int .i64 p114.2.2.2.2.2.2.2] rfl)) ?_; clear hF; intro a hF
        refine op_do rfl rfl (run_store (cs' := #[.int .i64 p114.1, .slice B116 p114.2.1.length d117, .int .i64 p114.2.2.1, .slice B118 p114.2.2.2.1.length d119, .int .i64 p114.2.2.2.2.1, .int .i64 p114.2.2.2.2.2.1, .int .i64 p114.2.2.2.2.2.2.1, .int .i64 p114.2.2.2.2.2.2.2]) rfl sz28 (hF.ev rfl) (hF.ev rfl) rfl rfl rfl (S.free 1 rfl) rfl rfl) ?_; replace S := S.put 1 rfl (#[.int .i64 p114.1, .slice B116 p114.2.1.length d117, .int .i64 p114.2.2.1, .slice B118 p114.2.2.2.1.length d119, .int .i64 p114.2.2.2.2.1, .int .i64 p114.2.2.2.2.2.1, .int .i64 p114.2.2.2.2.2.2.1, .int .i64 p114.2.2.2.2.2.2.2])
        generalize World.setRow _ _ _ = u at S ⊢
        refine op_val (v := .bool true) rfl rfl hF rfl (run_assign rfl rfl) ?_; clear hF; intro a hF
        refine wpList_nil ?_
        refine wp_ret ?_
        repeat with_reducible (first | refine then_ret ?_ | refine in_ret ?_ | refine in_nrm ?_)
        refine ret2_gw (.inl rfl) hF rfl (res_cell (hF.ev rfl) (res_loadN ag28 rfl (S.cells 1 rfl 0 #[.int .i64 p114.1, .slice B116 p114.2.1.length d117, .int .i64 p114.2.2.1, .slice B118 p114.2.2.2.1.length d119, .int .i64 p114.2.2.2.2.1, .int .i64 p114.2.2.2.2.2.1, .int .i64 p114.2.2.2.2.2.2.1, .int .i64 p114.2.2.2.2.2.2.2] rfl))) (res_tmp (hF.ev rfl)) ?_
        obtain rfl := Option.some.inj hM
        exact ⟨B116, p114.2.1.length, d117, B118, p114.2.2.2.1.length, d119, rfl, rfl, rfl, S.sel [3, 4] rfl rfl⟩

set_option maxHeartbeats 4000000 in
theorem c_impl_bitValid {x0 : Int} {w : World} {r : Bool}  (hM : m_impl_bitValid x0 = some r) :
    Calls Try.prog 37 #[.int .i64 x0] w (fun e w' => e = .returned (.bool r) ∧ St w w' []) := by
  unfold m_impl_bitValid at hM
  refine calls_gw Try.func37 Try.ntmps37 rfl [(0, .int .i64 x0)] ⟨rfl, trivial⟩ rfl ?_
  intro a hF
  have S := St.nil w
  refine wp_seq ?_
  refine wp_region_lit ?_
  refine op_val (v := .bool false) rfl rfl hF rfl (run_assign rfl rfl) ?_; clear hF; intro a hF
  refine wpList_nil ?_
  refine wp_seq ?_
  refine wp_region_lit ?_
  refine op_val (v := .int .i64 x0) rfl rfl hF rfl (run_move rfl (hF.ev rfl)) ?_; clear hF; intro a hF
  refine op_val (v := .bool (x0 == 0)) rfl rfl hF rfl (run_eql (hF.ev rfl) rfl rfl) ?_; clear hF; intro a hF
  refine op_val (v := .bool (x0 == 0)) rfl rfl hF rfl (run_move rfl (hF.ev rfl)) ?_; clear hF; intro a hF
  refine op_gv (v := .int .i64 x0) rfl rfl hF rfl (yf (gw_yield hF rfl rfl rfl)) (fun hg => (run_move rfl (hF.ev rfl))) ?_; clear hF; intro a hF
  refine op_gv (v := .bool (x0 == 1)) rfl rfl hF rfl (yf (gw_yield hF rfl rfl rfl)) (fun hg => (run_eql ((hF.ev rfl).trans (gv_t hg)) rfl rfl)) ?_; clear hF; intro a hF
  refine op_val (v := .bool ((x0 == 0) || (x0 == 1))) rfl rfl hF rfl (run_pick_or rfl (hF.ev rfl) rfl (fun hp => ((hF.ev rfl).trans (gv_t (not_t hp))))) ?_; clear hF; intro a hF
  refine op_val (v := .bool ((x0 == 0) || (x0 == 1))) rfl rfl hF rfl (run_assign rfl (hF.ev rfl)) ?_; clear hF; intro a hF
  refine wpList_nil ?_
  refine wp_ret ?_
  repeat with_reducible (first | refine then_ret ?_ | refine in_ret ?_ | refine in_nrm ?_)
  refine ret1_gw (.inl rfl) hF rfl (res_tmp (hF.ev rfl)) ?_
  obtain rfl := Option.some.inj hM
  exact ⟨rfl, S.sel [] rfl rfl⟩

set_option maxHeartbeats 4000000 in
theorem c_impl_powerValid {x0 : Int} {w : World} {r : Bool}  (hM : m_impl_powerValid x0 = some r) :
    Calls Try.prog 38 #[.int .i64 x0] w (fun e w' => e = .returned (.bool r) ∧ St w w' []) := by
  unfold m_impl_powerValid at hM
  refine calls_gw Try.func38 Try.ntmps38 rfl [(0, .int .i64 x0)] ⟨rfl, trivial⟩ rfl ?_
  intro a hF
  have S := St.nil w
  refine wp_seq ?_
  refine wp_region_lit ?_
  refine op_val (v := .bool false) rfl rfl hF rfl (run_assign rfl rfl) ?_; clear hF; intro a hF
  refine wpList_nil ?_
  refine wp_seq ?_
  refine wp_region_lit ?_
  refine op_val (v := .int .i64 x0) rfl rfl hF rfl (run_move rfl (hF.ev rfl)) ?_; clear hF; intro a hF
  refine op_val (v := .bool (leB 0 x0)) rfl rfl hF rfl (run_geq (hF.ev rfl) rfl rfl) ?_; clear hF; intro a hF
  refine op_val (v := .bool (leB 0 x0)) rfl rfl hF rfl (run_move rfl (hF.ev rfl)) ?_; clear hF; intro a hF
  refine op_gv (v := .int .i64 x0) rfl rfl hF rfl (yt (gw_yield hF rfl rfl rfl)) (fun hg => (run_move rfl (hF.ev rfl))) ?_; clear hF; intro a hF
  refine op_gv (v := .bool (leB x0 999)) rfl rfl hF rfl (yt (gw_yield hF rfl rfl rfl)) (fun hg => (run_leq ((hF.ev rfl).trans (gv_t hg)) rfl rfl)) ?_; clear hF; intro a hF
  refine op_val (v := .bool ((leB 0 x0) && (leB x0 999))) rfl rfl hF rfl (run_pick_and rfl (hF.ev rfl) (fun hp => ((hF.ev rfl).trans (gv_t hp))) rfl) ?_; clear hF; intro a hF
  refine op_val (v := .bool ((leB 0 x0) && (leB x0 999))) rfl rfl hF rfl (run_assign rfl (hF.ev rfl)) ?_; clear hF; intro a hF
  refine wpList_nil ?_
  refine wp_ret ?_
  repeat with_reducible (first | refine then_ret ?_ | refine in_ret ?_ | refine in_nrm ?_)
  refine ret1_gw (.inl rfl) hF rfl (res_tmp (hF.ev rfl)) ?_
  obtain rfl := Option.some.inj hM
  exact ⟨rfl, S.sel [] rfl rfl⟩

set_option maxHeartbeats 4000000 in
theorem c_impl_Poll_events {x0 : Int} {x1 : List Int} {x2 : Int} {x3 : List Int} {x4 : Int} {x5 : Int} {x6 : Int} {x7 : Int} {A1 : Option Addr} {n1 c1 : Nat} {A3 : Option Addr} {n3 c3 : Nat} {w : World} {r : List Int} (h1 : Rt w 1 eI A1 n1 c1 x1) (h3 : Rt w 1 eI A3 n3 c3 x3) (hM : m_impl_Poll_events x0 x1 x2 x3 x4 x5 x6 x7 = some r) :
    Calls Try.prog 40 #[.agg #[.int .i64 x0, .slice A1 n1 c1, .int .i64 x2, .slice A3 n3 c3, .int .i64 x4, .int .i64 x5, .int .i64 x6, .int .i64 x7]] w (fun e w' => ∃ (B0 : Option Addr) (N0 D0 : Nat), e = .returned (.slice B0 N0 D0) ∧ N0 = r.length ∧ St w w' [.row 3 1 (.slice B0 N0 D0) N0 (r.flatMap eI)]) := by
  obtain rfl := h1.len
  obtain rfl := h3.len
  unfold m_impl_Poll_events at hM
  refine calls_gw Try.func40 Try.ntmps40 rfl [(0, .agg #[.int .i64 x0, .slice A1 x1.length c1, .int .i64 x2, .slice A3 x3.length c3, .int .i64 x4, .int .i64 x5, .int .i64 x6, .int .i64 x7])] ⟨rfl, trivial⟩ rfl ?_
  intro a hF
  have S := St.nil w
  refine wp_seq ?_
  refine wp_region_lit ?_
  refine op_new (cs := #[.int .i64 x0, .slice A1 x1.length c1, .int .i64 x2, .slice A3 x3.length c3, .int .i64 x4, .int .i64 x5, .int .i64 x6, .int .i64 x7]) rfl rfl hF rfl S (run_box rfl (hF.ev rfl) rfl) ?_; clear hF S; intro a g101 u hF S
  refine op_val (v := .slice none 0 0) rfl rfl hF rfl (run_assign rfl rfl) ?_; clear hF; intro a hF
  refine wpList_nil ?_
  refine wp_seq ?_
  refine wp_region_lit ?_
  refine op_val (v := .slice none 0 0) rfl rfl hF rfl (run_assign rfl rfl) ?_; clear hF; intro a hF
  refine wpList_nil ?_
  refine wp_seq ?_
  refine wp_seq ?_
  refine wp_region_lit ?_
  refine op_val (v := .pointer (some ⟨g101, 4, none⟩)) rfl rfl hF rfl (run_fieldAddr rfl fl28_4 (hF.ev rfl) rfl) ?_; clear hF; intro a hF
  refine op_val (v := .int .i64 x4) rfl rfl hF rfl (run_load1 rfl one3 (hF.ev rfl) ((S.free 0 rfl).cell rfl)) ?_; clear hF; intro a hF
  refine op_val (v := .bool (x4 != (-1))) rfl rfl hF rfl (run_neq (hF.ev rfl) rfl rfl) ?_; clear hF; intro a hF
  refine op_val (v := .bool (x4 != (-1))) rfl rfl hF rfl (run_move rfl (hF.ev rfl)) ?_; clear hF; intro a hF
  refine op_gv (v := .pointer (some ⟨g101, 0, none⟩)) rfl rfl hF rfl (yt (gw_yield hF rfl rfl rfl)) (fun hg => (run_fieldAddr rfl fl28_0 (hF.ev rfl) rfl)) ?_; clear hF; intro a hF
  refine op_gv (v := .int .i64 x0) rfl rfl hF rfl (yt (gw_yield hF rfl rfl rfl)) (fun hg => (run_load1 rfl one3 ((hF.ev rfl).trans (gv_t hg)) ((S.free 0 rfl).cell rfl))) ?_; clear hF; intro a hF
  refine op_gv (v := .pointer (some ⟨g101, 2, none⟩)) rfl rfl hF rfl (yt (gw_yield hF rfl rfl rfl)) (fun hg => (run_fieldAddr rfl fl28_2 (hF.ev rfl) rfl)) ?_; clear hF; intro a hF
  refine op_gv (v := .int .i64 x2) rfl rfl hF rfl (yt (gw_yield hF rfl rfl rfl)) (fun hg => (run_load1 rfl one3 ((hF.ev rfl).trans (gv_t hg)) ((S.free 0 rfl).cell rfl))) ?_; clear hF; intro a hF
  refine op_gv (v := .bool (x0 == x2)) rfl rfl hF rfl (yt (gw_yield hF rfl rfl rfl)) (fun hg => (run_eql ((hF.ev rfl).trans (gv_t hg)) ((hF.ev rfl).trans (gv_t hg)) rfl)) ?_; clear hF; intro a hF
  refine op_val (v := .bool ((x4 != (-1)) && (x0 == x2))) rfl rfl hF rfl (run_pick_and rfl (hF.ev rfl) (fun hp => ((hF.ev rfl).trans (gv_t hp))) rfl) ?_; clear hF; intro a hF
  refine wpList_nil ?_
  obtain ⟨o103, hM106, hM⟩ := bind_ex hM
  refine wp_cut (fun a u => ∃ (p102 : List Int) (B104 : Option Addr) (d105 : Nat), p102 = o103 ∧ Fr a 26 [(1, .pointer (some ⟨g101, 0, none⟩)), (2, .slice none 0 0), (3, .slice B104 p102.length d105)] ∧ St w u [.box g101 28 #[.int .i64 x0, .slice A1 x1.length c1, .int .i64 x2, .slice A3 x3.length c3, .int .i64 x4, .int .i64 x5, .int .i64 x6, .int .i64 x7], .row 3 1 (.slice B104 p102.length d105) p102.length (p102.flatMap eI)]) ?_ ?_
  · have _ := trivial
    cases hc107 : ((x4 != (-1)) && (x0 == x2))
    · replace hM106 := bif_f hc107 hM106
      refine cond_f hF rfl hc107 ?_
      refine wp_skip ?_
      obtain rfl := Option.some.inj hM106
      replace S := S.nilrow 3 1
      exact ⟨([] : List Int), none, 0, rfl, hF.keep _ ⟨rfl, rfl, rfl, trivial⟩, S.sel [1, 0] rfl rfl⟩
    · replace hM106 := bif_t hc107 hM106
      refine cond_t hF rfl hc107 ?_
      refine wp_region_lit ?_
      refine op_val (v := .slice none 0 0) rfl rfl hF rfl (run_move rfl (hF.ev rfl)) ?_; clear hF; intro a hF
      refine op_val (v := .pointer (some ⟨g101, 4, none⟩)) rfl rfl hF rfl (run_fieldAddr rfl fl28_4 (hF.ev rfl) rfl) ?_; clear hF; intro a hF
      refine op_val (v := .int .i64 x4) rfl rfl hF rfl (run_load1 rfl one3 (hF.ev rfl) ((S.free 0 rfl).cell rfl)) ?_; clear hF; intro a hF
      refine op_newrowL (ls := (([x4] : List Int) : List Int)) (e := eI) rfl rfl hF rfl S (run_buildS (vs := [(0, .int .i64 x4)]) rfl ⟨⟨rfl, (hF.ev rfl)⟩, trivial⟩ (bs22_1_0 rfl)) rfl eI_len (Nat.le_of_ble_eq_true rfl) ?_; clear hF S; intro a g108 u hF S
      replace S := S.nilrow 3 1
      obtain ⟨hk111, hM106⟩ := chk_ex hM106
      replace hk111 := apB_t hk111
      refine op_appendL (lx := []) (ly := ([x4] : List Int)) rfl rfl hF rfl S rfl (hF.ev rfl) (hF.ev rfl) (i := 0) rfl rfl Try.underlying22 inf3 rfl (by decide) (S.rc 1 rfl).rd rfl eI_one hk111 (by decide) ?_; clear hF S; intro a B109 d110 u hF S
      refine op_val (v := .slice B109 ((([] : List Int) ++ ([x4] : List Int)).length) d110) rfl rfl hF rfl (run_assign rfl (hF.ev rfl)) ?_; clear hF; intro a hF
      refine wpList_nil ?_
      obtain rfl := Option.some.inj hM106
      exact ⟨([] : List Int) ++ ([x4] : List Int), B109, d110, rfl, hF.keep _ ⟨rfl, rfl, rfl, trivial⟩, S.sel [2, 0] rfl rfl⟩
  · rintro a u ⟨p102, B104, d105, rfl, hF, S⟩
    refine wp_seq ?_
    refine wp_region_lit ?_
    refine op_val (v := .pointer (some ⟨g101, 1, none⟩)) rfl rfl hF rfl (run_fieldAddr rfl fl28_1 (hF.ev rfl) rfl) ?_; clear hF; intro a hF
    refine op_val (v := .slice A1 x1.length c1) rfl rfl hF rfl (run_load1 rfl one22 (hF.ev rfl) ((S.free 0 rfl).cell rfl)) ?_; clear hF; intro a hF
    refine op_val (v := .slice B104 p102.length d105) rfl rfl hF rfl (run_move rfl (hF.ev rfl)) ?_; clear hF; intro a hF
    refine op_val (v := .pointer (some ⟨g101, 3, none⟩)) rfl rfl hF rfl (run_fieldAddr rfl fl28_3 (hF.ev rfl) rfl) ?_; clear hF; intro a hF
    refine op_val (v := .slice A3 x3.length c3) rfl rfl hF rfl (run_load1 rfl one22 (hF.ev rfl) ((S.free 0 rfl).cell rfl)) ?_; clear hF; intro a hF
    refine op_newvec (cs := #[.slice A1 x1.length c1, .slice B104 p102.length d105, .slice A3 x3.length c3]) rfl rfl hF rfl S (run_buildS (vs := [(0, .slice A1 x1.length c1), (1, .slice B104 p102.length d105), (2, .slice A3 x3.length c3)]) rfl ⟨⟨rfl, (hF.ev rfl)⟩, ⟨rfl, (hF.ev rfl)⟩, ⟨rfl, (hF.ev rfl)⟩, trivial⟩ (bs61_3_0_0_0 rfl rfl rfl)) ?_; clear hF S; intro a g112 u hF S
    obtain ⟨hk113, hM⟩ := chk_ex hM
    replace hk113 := of_decide_eq_true hk113
    refine op_call rfl rfl hF rfl (run_call (vs := [.slice (some ⟨g112, 0, none⟩) 3 3]) rfl rfl co39 ⟨(hF.ev rfl), trivial⟩) (c_cat3 (x0 := x1) (x1 := p102) (x2 := x3) (S.free 0 rfl) ⟨(S.rc0 h1.rc), rfl⟩ ⟨(S.rc 2 rfl), rfl⟩ ⟨(S.rc0 h3.rc), rfl⟩ hk113) ?_
    rintro e u ⟨B114, n115, d116, rfl, rfl, T⟩
    refine ⟨_, rfl, ?_⟩
    clear hF; intro a hF
    replace S := S.call1 T; clear T
    refine op_val (v := .slice B114 ((x1 ++ p102 ++ x3).length) d116) rfl rfl hF rfl (run_assign rfl (hF.ev rfl)) ?_; clear hF; intro a hF
    refine wpList_nil ?_
    refine wp_ret ?_
    repeat with_reducible (first | refine then_ret ?_ | refine in_ret ?_ | refine in_nrm ?_)
    refine ret1_gw (.inl rfl) hF rfl (res_tmp (hF.ev rfl)) ?_
    obtain rfl := Option.some.inj hM
    exact ⟨B114, ((x1 ++ p102 ++ x3).length), d116, rfl, rfl, S.sel [0] rfl rfl⟩

set_option maxHeartbeats 4000000 in
theorem c_impl_PollValid {x0 : Int} {x1 : List Int} {x2 : Int} {x3 : List Int} {x4 : Int} {x5 : Int} {x6 : Int} {x7 : Int} {A1 : Option Addr} {n1 c1 : Nat} {A3 : Option Addr} {n3 c3 : Nat} {w : World} {r : Bool} (h1 : Rt w 1 eI A1 n1 c1 x1) (h3 : Rt w 1 eI A3 n3 c3 x3) (hM : m_impl_PollValid x0 x1 x2 x3 x4 x5 x6 x7 = some r) :
    Calls Try.prog 28 #[.agg #[.int .i64 x0, .slice A1 n1 c1, .int .i64 x2, .slice A3 n3 c3, .int .i64 x4, .int .i64 x5, .int .i64 x6, .int .i64 x7]] w (fun e w' => e = .returned (.bool r) ∧ St w w' []) := by
  obtain rfl := h1.len
  obtain rfl := h3.len
  unfold m_impl_PollValid at hM
  refine calls_gw Try.func28 Try.ntmps28 rfl [(0, .agg #[.int .i64 x0, .slice A1 x1.length c1, .int .i64 x2, .slice A3 x3.length c3, .int .i64 x4, .int .i64 x5, .int .i64 x6, .int .i64 x7])] ⟨rfl, trivial⟩ rfl ?_
  intro a hF
  have S := St.nil w
  refine wp_seq ?_
  refine wp_region_lit ?_
  refine op_new (cs := #[.int .i64 x0, .slice A1 x1.length c1, .int .i64 x2, .slice A3 x3.length c3, .int .i64 x4, .int .i64 x5, .int .i64 x6, .int .i64 x7]) rfl rfl hF rfl S (run_box rfl (hF.ev rfl) rfl) ?_; clear hF S; intro a g101 u hF S
  refine op_val (v := .bool false) rfl rfl hF rfl (run_assign rfl rfl) ?_; clear hF; intro a hF
  refine wpList_nil ?_
  refine wp_seq ?_
  refine wp_seq ?_
  refine wp_region_lit ?_
  refine op_val (v := .pointer (some ⟨g101, 0, none⟩)) rfl rfl hF rfl (run_fieldAddr rfl fl28_0 (hF.ev rfl) rfl) ?_; clear hF; intro a hF
  refine op_val (v := .int .i64 x0) rfl rfl hF rfl (run_load1 rfl one3 (hF.ev rfl) ((S.free 0 rfl).cell rfl)) ?_; clear hF; intro a hF
  obtain ⟨p102, h102, hM⟩ := bind_ex hM
  refine op_call rfl rfl hF rfl (run_call (vs := [.int .i64 x0]) rfl rfl co37 ⟨(hF.ev rfl), trivial⟩) (c_impl_bitValid (x0 := x0)  h102) ?_
  rintro e u ⟨rfl, T⟩
  refine ⟨_, rfl, ?_⟩
  clear hF; intro a hF
  replace S := S.call0 T; clear T
  refine op_val (v := .bool (!p102)) rfl rfl hF rfl (run_not rfl (hF.ev rfl)) ?_; clear hF; intro a hF
  refine op_val (v := .bool (!p102)) rfl rfl hF rfl (run_move rfl (hF.ev rfl)) ?_; clear hF; intro a hF
  refine op_gv (v := .pointer (some ⟨g101, 2, none⟩)) rfl rfl hF rfl (yf (gw_yield hF rfl rfl rfl)) (fun hg => (run_fieldAddr rfl fl28_2 (hF.ev rfl) rfl)) ?_; clear hF; intro a hF
  refine op_gv (v := .int .i64 x2) rfl rfl hF rfl (yf (gw_yield hF rfl rfl rfl)) (fun hg => (run_load1 rfl one3 ((hF.ev rfl).trans (gv_t hg)) ((S.free 0 rfl).cell rfl))) ?_; clear hF; intro a hF
  obtain ⟨p103, h103, hM⟩ := bind_ex hM
  refine op_gcall (v := .bool p103) rfl rfl hF rfl S (yf (gw_yield hF rfl rfl rfl)) (fun hg => (run_call (vs := [.int .i64 x2]) rfl rfl co37 ⟨((hF.ev rfl).trans (gv_t hg)), trivial⟩)) (fun hg => c_impl_bitValid (x0 := x2)  (gb_t h103 hg)) ?_; clear hF S; intro a u hF S
  refine op_gv (v := .bool (!p103)) rfl rfl hF rfl (yf (gw_yield hF rfl rfl rfl)) (fun hg => (run_not rfl ((hF.ev rfl).trans (gv_t hg)))) ?_; clear hF; intro a hF
  refine op_val (v := .bool ((!p102) || (!p103))) rfl rfl hF rfl (run_pick_or rfl (hF.ev rfl) rfl (fun hp => ((hF.ev rfl).trans (gv_t (not_t hp))))) ?_; clear hF; intro a hF
  refine op_val (v := .bool ((!p102) || (!p103))) rfl rfl hF rfl (run_move rfl (hF.ev rfl)) ?_; clear hF; intro a hF
  refine op_gv (v := .pointer (some ⟨g101, 5, none⟩)) rfl rfl hF rfl (yf (gw_yield hF rfl rfl rfl)) (fun hg => (run_fieldAddr rfl fl28_5 (hF.ev rfl) rfl)) ?_; clear hF; intro a hF
  refine op_gv (v := .int .i64 x5) rfl rfl hF rfl (yf (gw_yield hF rfl rfl rfl)) (fun hg => (run_load1 rfl one3 ((hF.ev rfl).trans (gv_t hg)) ((S.free 0 rfl).cell rfl))) ?_; clear hF; intro a hF
  refine op_gv (v := .bool (x5 != (-1))) rfl rfl hF rfl (yf (gw_yield hF rfl rfl rfl)) (fun hg => (run_neq ((hF.ev rfl).trans (gv_t hg)) rfl rfl)) ?_; clear hF; intro a hF
  refine op_gv (v := .bool (x5 != (-1))) rfl rfl hF rfl (yf (gw_yield hF rfl rfl rfl)) (fun hg => (run_move rfl ((hF.ev rfl).trans (gv_t hg)))) ?_; clear hF; intro a hF
  refine op_gv (v := .pointer (some ⟨g101, 5, none⟩)) rfl rfl hF rfl (ytG (gw_yieldG hF rfl rfl rfl)) (fun hg => (run_fieldAddr rfl fl28_5 (hF.ev rfl) rfl)) ?_; clear hF; intro a hF
  refine op_gv (v := .int .i64 x5) rfl rfl hF rfl (ytG (gw_yieldG hF rfl rfl rfl)) (fun hg => (run_load1 rfl one3 ((hF.ev rfl).trans (gv_t hg)) ((S.free 0 rfl).cell rfl))) ?_; clear hF; intro a hF
  obtain ⟨p104, h104, hM⟩ := bind_ex hM
  refine op_gcall (v := .bool p104) rfl rfl hF rfl S (ytG (gw_yieldG hF rfl rfl rfl)) (fun hg => (run_call (vs := [.int .i64 x5]) rfl rfl co37 ⟨((hF.ev rfl).trans (gv_t hg)), trivial⟩)) (fun hg => c_impl_bitValid (x0 := x5)  (gb_t h104 hg)) ?_; clear hF S; intro a u hF S
  refine op_gv (v := .bool (!p104)) rfl rfl hF rfl (ytG (gw_yieldG hF rfl rfl rfl)) (fun hg => (run_not rfl ((hF.ev rfl).trans (gv_t hg)))) ?_; clear hF; intro a hF
  refine op_gv (v := .bool ((x5 != (-1)) && (!p104))) rfl rfl hF rfl (yf (gw_yield hF rfl rfl rfl)) (fun hg => (run_pick_and rfl ((hF.ev rfl).trans (gv_t hg)) (fun hp => ((hF.ev rfl).trans (gv_t (and_i hg hp)))) rfl)) ?_; clear hF; intro a hF
  refine op_val (v := .bool (((!p102) || (!p103)) || ((x5 != (-1)) && (!p104)))) rfl rfl hF rfl (run_pick_or rfl (hF.ev rfl) rfl (fun hp => ((hF.ev rfl).trans (gv_t (not_t hp))))) ?_; clear hF; intro a hF
  refine op_val (v := .bool (((!p102) || (!p103)) || ((x5 != (-1)) && (!p104)))) rfl rfl hF rfl (run_move rfl (hF.ev rfl)) ?_; clear hF; intro a hF
  refine op_gv (v := .pointer (some ⟨g101, 6, none⟩)) rfl rfl hF rfl (yf (gw_yield hF rfl rfl rfl)) (fun hg => (run_fieldAddr rfl fl28_6 (hF.ev rfl) rfl)) ?_; clear hF; intro a hF
  refine op_gv (v := .int .i64 x6) rfl rfl hF rfl (yf (gw_yield hF rfl rfl rfl)) (fun hg => (run_load1 rfl one3 ((hF.ev rfl).trans (gv_t hg)) ((S.free 0 rfl).cell rfl))) ?_; clear hF; intro a hF
  refine op_gv (v := .bool (x6 != (-1))) rfl rfl hF rfl (yf (gw_yield hF rfl rfl rfl)) (fun hg => (run_neq ((hF.ev rfl).trans (gv_t hg)) rfl rfl)) ?_; clear hF; intro a hF
  refine op_gv (v := .bool (x6 != (-1))) rfl rfl hF rfl (yf (gw_yield hF rfl rfl rfl)) (fun hg => (run_move rfl ((hF.ev rfl).trans (gv_t hg)))) ?_; clear hF; intro a hF
  refine op_gv (v := .pointer (some ⟨g101, 6, none⟩)) rfl rfl hF rfl (ytG (gw_yieldG hF rfl rfl rfl)) (fun hg => (run_fieldAddr rfl fl28_6 (hF.ev rfl) rfl)) ?_; clear hF; intro a hF
  refine op_gv (v := .int .i64 x6) rfl rfl hF rfl (ytG (gw_yieldG hF rfl rfl rfl)) (fun hg => (run_load1 rfl one3 ((hF.ev rfl).trans (gv_t hg)) ((S.free 0 rfl).cell rfl))) ?_; clear hF; intro a hF
  obtain ⟨p105, h105, hM⟩ := bind_ex hM
  refine op_gcall (v := .bool p105) rfl rfl hF rfl S (ytG (gw_yieldG hF rfl rfl rfl)) (fun hg => (run_call (vs := [.int .i64 x6]) rfl rfl co37 ⟨((hF.ev rfl).trans (gv_t hg)), trivial⟩)) (fun hg => c_impl_bitValid (x0 := x6)  (gb_t h105 hg)) ?_; clear hF S; intro a u hF S
  refine op_gv (v := .bool (!p105)) rfl rfl hF rfl (ytG (gw_yieldG hF rfl rfl rfl)) (fun hg => (run_not rfl ((hF.ev rfl).trans (gv_t hg)))) ?_; clear hF; intro a hF
  refine op_gv (v := .bool ((x6 != (-1)) && (!p105))) rfl rfl hF rfl (yf (gw_yield hF rfl rfl rfl)) (fun hg => (run_pick_and rfl ((hF.ev rfl).trans (gv_t hg)) (fun hp => ((hF.ev rfl).trans (gv_t (and_i hg hp)))) rfl)) ?_; clear hF; intro a hF
  refine op_val (v := .bool ((((!p102) || (!p103)) || ((x5 != (-1)) && (!p104))) || ((x6 != (-1)) && (!p105)))) rfl rfl hF rfl (run_pick_or rfl (hF.ev rfl) rfl (fun hp => ((hF.ev rfl).trans (gv_t (not_t hp))))) ?_; clear hF; intro a hF
  refine wpList_nil ?_
  cases hc106 : ((((!p102) || (!p103)) || ((x5 != (-1)) && (!p104))) || ((x6 != (-1)) && (!p105)))
  · replace hM := bif_f hc106 hM
    refine cond_f hF rfl hc106 ?_
    refine wp_skip ?_
    refine wp_seq ?_
    refine wp_seq ?_
    refine wp_region_lit ?_
    refine op_val (v := .pointer (some ⟨g101, 4, none⟩)) rfl rfl hF rfl (run_fieldAddr rfl fl28_4 (hF.ev rfl) rfl) ?_; clear hF; intro a hF
    refine op_val (v := .int .i64 x4) rfl rfl hF rfl (run_load1 rfl one3 (hF.ev rfl) ((S.free 0 rfl).cell rfl)) ?_; clear hF; intro a hF
    refine op_val (v := .bool (x4 != (-1))) rfl rfl hF rfl (run_neq (hF.ev rfl) rfl rfl) ?_; clear hF; intro a hF
    refine op_val (v := .bool (x4 != (-1))) rfl rfl hF rfl (run_move rfl (hF.ev rfl)) ?_; clear hF; intro a hF
    refine op_gv (v := .pointer (some ⟨g101, 4, none⟩)) rfl rfl hF rfl (yt (gw_yield hF rfl rfl rfl)) (fun hg => (run_fieldAddr rfl fl28_4 (hF.ev rfl) rfl)) ?_; clear hF; intro a hF
    refine op_gv (v := .int .i64 x4) rfl rfl hF rfl (yt (gw_yield hF rfl rfl rfl)) (fun hg => (run_load1 rfl one3 ((hF.ev rfl).trans (gv_t hg)) ((S.free 0 rfl).cell rfl))) ?_; clear hF; intro a hF
    obtain ⟨p107, h107, hM⟩ := bind_ex hM
    refine op_gcall (v := .bool p107) rfl rfl hF rfl S (yt (gw_yield hF rfl rfl rfl)) (fun hg => (run_call (vs := [.int .i64 x4]) rfl rfl co38 ⟨((hF.ev rfl).trans (gv_t hg)), trivial⟩)) (fun hg => c_impl_powerValid (x0 := x4)  (gb_t h107 hg)) ?_; clear hF S; intro a u hF S
    refine op_gv (v := .bool (!p107)) rfl rfl hF rfl (yt (gw_yield hF rfl rfl rfl)) (fun hg => (run_not rfl ((hF.ev rfl).trans (gv_t hg)))) ?_; clear hF; intro a hF
    refine op_val (v := .bool ((x4 != (-1)) && (!p107))) rfl rfl hF rfl (run_pick_and rfl (hF.ev rfl) (fun hp => ((hF.ev rfl).trans (gv_t hp))) rfl) ?_; clear hF; intro a hF
    refine op_val (v := .bool ((x4 != (-1)) && (!p107))) rfl rfl hF rfl (run_move rfl (hF.ev rfl)) ?_; clear hF; intro a hF
    refine op_gv (v := .pointer (some ⟨g101, 7, none⟩)) rfl rfl hF rfl (yf (gw_yield hF rfl rfl rfl)) (fun hg => (run_fieldAddr rfl fl28_7 (hF.ev rfl) rfl)) ?_; clear hF; intro a hF
    refine op_gv (v := .int .i64 x7) rfl rfl hF rfl (yf (gw_yield hF rfl rfl rfl)) (fun hg => (run_load1 rfl one3 ((hF.ev rfl).trans (gv_t hg)) ((S.free 0 rfl).cell rfl))) ?_; clear hF; intro a hF
    refine op_gv (v := .bool (x7 != (-1))) rfl rfl hF rfl (yf (gw_yield hF rfl rfl rfl)) (fun hg => (run_neq ((hF.ev rfl).trans (gv_t hg)) rfl rfl)) ?_; clear hF; intro a hF
    refine op_gv (v := .bool (x7 != (-1))) rfl rfl hF rfl (yf (gw_yield hF rfl rfl rfl)) (fun hg => (run_move rfl ((hF.ev rfl).trans (gv_t hg)))) ?_; clear hF; intro a hF
    refine op_gv (v := .pointer (some ⟨g101, 7, none⟩)) rfl rfl hF rfl (ytG (gw_yieldG hF rfl rfl rfl)) (fun hg => (run_fieldAddr rfl fl28_7 (hF.ev rfl) rfl)) ?_; clear hF; intro a hF
    refine op_gv (v := .int .i64 x7) rfl rfl hF rfl (ytG (gw_yieldG hF rfl rfl rfl)) (fun hg => (run_load1 rfl one3 ((hF.ev rfl).trans (gv_t hg)) ((S.free 0 rfl).cell rfl))) ?_; clear hF; intro a hF
    obtain ⟨p108, h108, hM⟩ := bind_ex hM
    refine op_gcall (v := .bool p108) rfl rfl hF rfl S (ytG (gw_yieldG hF rfl rfl rfl)) (fun hg => (run_call (vs := [.int .i64 x7]) rfl rfl co38 ⟨((hF.ev rfl).trans (gv_t hg)), trivial⟩)) (fun hg => c_impl_powerValid (x0 := x7)  (gb_t h108 hg)) ?_; clear hF S; intro a u hF S
    refine op_gv (v := .bool (!p108)) rfl rfl hF rfl (ytG (gw_yieldG hF rfl rfl rfl)) (fun hg => (run_not rfl ((hF.ev rfl).trans (gv_t hg)))) ?_; clear hF; intro a hF
    refine op_gv (v := .bool (!p108)) rfl rfl hF rfl (ytG (gw_yieldG hF rfl rfl rfl)) (fun hg => (run_move rfl ((hF.ev rfl).trans (gv_t hg)))) ?_; clear hF; intro a hF
    refine op_gv (v := .pointer (some ⟨g101, 6, none⟩)) rfl rfl hF rfl (yfG (gw_yieldG hF rfl rfl rfl)) (fun hg => (run_fieldAddr rfl fl28_6 (hF.ev rfl) rfl)) ?_; clear hF; intro a hF
    refine op_gv (v := .int .i64 x6) rfl rfl hF rfl (yfG (gw_yieldG hF rfl rfl rfl)) (fun hg => (run_load1 rfl one3 ((hF.ev rfl).trans (gv_t hg)) ((S.free 0 rfl).cell rfl))) ?_; clear hF; intro a hF
    refine op_gv (v := .bool (x6 == (-1))) rfl rfl hF rfl (yfG (gw_yieldG hF rfl rfl rfl)) (fun hg => (run_eql ((hF.ev rfl).trans (gv_t hg)) rfl rfl)) ?_; clear hF; intro a hF
    refine op_gv (v := .bool ((!p108) || (x6 == (-1)))) rfl rfl hF rfl (ytG (gw_yieldG hF rfl rfl rfl)) (fun hg => (run_pick_or rfl ((hF.ev rfl).trans (gv_t hg)) rfl (fun hp => ((hF.ev rfl).trans (gv_t (and_i hg (not_t hp))))))) ?_; clear hF; intro a hF
    refine op_gv (v := .bool ((x7 != (-1)) && ((!p108) || (x6 == (-1))))) rfl rfl hF rfl (yf (gw_yield hF rfl rfl rfl)) (fun hg => (run_pick_and rfl ((hF.ev rfl).trans (gv_t hg)) (fun hp => ((hF.ev rfl).trans (gv_t (and_i hg hp)))) rfl)) ?_; clear hF; intro a hF
    refine op_val (v := .bool (((x4 != (-1)) && (!p107)) || ((x7 != (-1)) && ((!p108) || (x6 == (-1)))))) rfl rfl hF rfl (run_pick_or rfl (hF.ev rfl) rfl (fun hp => ((hF.ev rfl).trans (gv_t (not_t hp))))) ?_; clear hF; intro a hF
    refine wpList_nil ?_
    cases hc109 : (((x4 != (-1)) && (!p107)) || ((x7 != (-1)) && ((!p108) || (x6 == (-1)))))
    · replace hM := bif_f hc109 hM
      refine cond_f hF rfl hc109 ?_
      refine wp_skip ?_
      refine wp_seq ?_
      refine wp_seq ?_
      refine wp_region_lit ?_
      refine op_val (v := .pointer (some ⟨g101, 1, none⟩)) rfl rfl hF rfl (run_fieldAddr rfl fl28_1 (hF.ev rfl) rfl) ?_; clear hF; intro a hF
      refine op_val (v := .slice A1 x1.length c1) rfl rfl hF rfl (run_load1 rfl one22 (hF.ev rfl) ((S.free 0 rfl).cell rfl)) ?_; clear hF; intro a hF
      refine op_val (v := .pointer (some ⟨g101, 3, none⟩)) rfl rfl hF rfl (run_fieldAddr rfl fl28_3 (hF.ev rfl) rfl) ?_; clear hF; intro a hF
      refine op_val (v := .slice A3 x3.length c3) rfl rfl hF rfl (run_load1 rfl one22 (hF.ev rfl) ((S.free 0 rfl).cell rfl)) ?_; clear hF; intro a hF
      refine op_newvec (cs := #[.slice A1 x1.length c1, .slice A3 x3.length c3]) rfl rfl hF rfl S (run_buildS (vs := [(0, .slice A1 x1.length c1), (1, .slice A3 x3.length c3)]) rfl ⟨⟨rfl, (hF.ev rfl)⟩, ⟨rfl, (hF.ev rfl)⟩, trivial⟩ (bs61_2_0_0 rfl rfl)) ?_; clear hF S; intro a g110 u hF S
      obtain ⟨hk111, hM⟩ := chk_ex hM
      replace hk111 := of_decide_eq_true hk111
      refine op_call rfl rfl hF rfl (run_call (vs := [.slice (some ⟨g110, 0, none⟩) 2 2]) rfl rfl co39 ⟨(hF.ev rfl), trivial⟩) (c_cat2 (x0 := x1) (x1 := x3) (S.free 0 rfl) ⟨(S.rc0 h1.rc), rfl⟩ ⟨(S.rc0 h3.rc), rfl⟩ hk111) ?_
      rintro e u ⟨B112, n113, d114, rfl, rfl, T⟩
      refine ⟨_, rfl, ?_⟩
      clear hF; intro a hF
      replace S := S.call1 T; clear T
      refine op_val (v := .int .i64 (((x1 ++ x3).length) : Int)) rfl rfl hF rfl (run_lenL rfl rfl Try.underlying22 (hF.ev rfl)) ?_; clear hF; intro a hF
      refine op_val (v := .int .i64 0) rfl rfl hF rfl (run_move rfl rfl) ?_; clear hF; intro a hF
      refine wpList_nil ?_
      obtain ⟨o116, hM117, hM⟩ := bind_ex hM
      refine wp_cut (fun a u => ∃ (p115 : Unit), (Sum.inl p115) = o116 ∧ Fr a 81 [(1, .pointer (some ⟨g101, 0, none⟩)), (2, .bool false)] ∧ St w u [.box g101 28 #[.int .i64 x0, .slice A1 x1.length c1, .int .i64 x2, .slice A3 x3.length c3, .int .i64 x4, .int .i64 x5, .int .i64 x6, .int .i64 x7]]) ?_ ?_
      · have _ := trivial
        refine wp_block ?_
        refine loop_gw (fun m a u => ∃ (p118 : Int), m_impl_PollValid_l1 x1 x3 m p118 = some _ ∧ Fr a 81 [(1, .pointer (some ⟨g101, 0, none⟩)), (2, .bool false), (67, .slice B112 ((x1 ++ x3).length) d114), (68, .int .i64 (((x1 ++ x3).length) : Int)), (69, .int .i64 p118)] ∧ St w u [.box g101 28 #[.int .i64 x0, .slice A1 x1.length c1, .int .i64 x2, .slice A3 x3.length c3, .int .i64 x4, .int .i64 x5, .int .i64 x6, .int .i64 x7], .row 3 1 (.slice B112 ((x1 ++ x3).length) d114) ((x1 ++ x3).length) ((x1 ++ x3).flatMap eI)]) FUEL ⟨0, hM117, hF.keep _ ⟨rfl, rfl, rfl, rfl, rfl, trivial⟩, S.sel [2, 0] rfl rfl⟩ ?_
        clear hF S hM117; rintro m a u ⟨p118, hM117, hF, S⟩
        rcases m with _ | f1
        · exact none_some hM117
        rw [m_impl_PollValid_l1.eq_2] at hM117
        refine wp_seq ?_
        refine wp_region_lit ?_
        refine op_val (v := .bool (ltB p118 (((x1 ++ x3).length) : Int))) rfl rfl hF rfl (run_lss (hF.ev rfl) (hF.ev rfl) rfl) ?_; clear hF; intro a hF
        refine wpList_nil ?_
        refine wp_seq ?_
        cases hc119 : (ltB p118 (((x1 ++ x3).length) : Int))
        · replace hM117 := bif_f hc119 hM117
          refine cond_f hF rfl hc119 ?_
          refine wp_exit ?_
          repeat with_reducible (first | refine then_exit ?_ | refine in_hit ?_ | refine in_miss rfl ?_)
          obtain rfl := Option.some.inj hM117
          exact ⟨(), rfl, hF.keep _ ⟨rfl, rfl, trivial⟩, S.sel [0] rfl rfl⟩
        · replace hM117 := bif_t hc119 hM117
          refine cond_t hF rfl hc119 ?_
          refine wp_skip ?_
          refine wp_seq ?_
          refine wp_block ?_
          refine wp_seq ?_
          refine wp_region_lit ?_
          obtain ⟨hk120, hM117⟩ := chk_ex hM117
          replace hk120 := ixB_t hk120
          refine op_val (v := .pointer (some ⟨adB B112, adO B112 + p118.toNat * 1, none⟩)) rfl rfl hF rfl (run_indexAddr (b := adB B112) (off := adO B112) rfl Try.underlying22 sz3 ((hF.ev rfl).trans (congrArg (fun A => Value.slice A ((x1 ++ x3).length) d114) ((S.rc 1 rfl).rd.ad (ix_pos hk120)))) (hF.ev rfl) hk120.1 hk120.2 (k' := adO B112 + p118.toNat * 1) rfl) ?_; clear hF; intro a hF
          refine op_val (v := .int .i64 ((x1 ++ x3).getD p118.toNat (0 : Int))) rfl rfl hF rfl (run_load1 rfl one3 (hF.ev rfl) (rd_el0 (l := x1 ++ x3) (S.rc 1 rfl).rd rfl eI_len (0 : Int) (ix_ltn hk120 rfl) rfl)) ?_; clear hF; intro a hF
          refine op_val (v := .int .i64 ((x1 ++ x3).getD p118.toNat (0 : Int))) rfl rfl hF rfl (run_assign rfl (hF.ev rfl)) ?_; clear hF; intro a hF
          refine wpList_nil ?_
          refine wp_seq ?_
          refine wp_region_lit ?_
          refine op_val (v := .int .i64 ((x1 ++ x3).getD p118.toNat (0 : Int))) rfl rfl hF rfl (run_move rfl (hF.ev rfl)) ?_; clear hF; intro a hF
          obtain ⟨p121, h121, hM117⟩ := bind_ex hM117
          refine op_call rfl rfl hF rfl (run_call (vs := [.int .i64 ((x1 ++ x3).getD p118.toNat (0 : Int))]) rfl rfl co38 ⟨(hF.ev rfl), trivial⟩) (c_impl_powerValid (x0 := ((x1 ++ x3).getD p118.toNat (0 : Int)))  h121) ?_
          rintro e u ⟨rfl, T⟩
          refine ⟨_, rfl, ?_⟩
          clear hF; intro a hF
          replace S := S.call0 T; clear T
          refine op_val (v := .bool (!p121)) rfl rfl hF rfl (run_not rfl (hF.ev rfl)) ?_; clear hF; intro a hF
          refine wpList_nil ?_
          cases hc122 : (p121)
          · replace hM117 := bif_f hc122 hM117
            refine cond_t hF rfl (not_t hc122) ?_
            refine wp_seq ?_
            refine wp_region_lit ?_
            refine op_val (v := .bool false) rfl rfl hF rfl (run_assign rfl rfl) ?_; clear hF; intro a hF
            refine wpList_nil ?_
            refine wp_ret ?_
            repeat with_reducible (first | refine then_ret ?_ | refine in_ret ?_ | refine in_nrm ?_)
            refine ret1_gw (.inl rfl) hF rfl (res_tmp (hF.ev rfl)) ?_
            obtain rfl := Option.some.inj hM117
            obtain rfl := Option.some.inj hM
            exact ⟨rfl, S.sel [] rfl rfl⟩
          · replace hM117 := bif_t hc122 hM117
            refine cond_f hF rfl (not_f hc122) ?_
            refine wp_skip ?_
            refine wp_region_lit ?_
            refine op_val (v := .int .i64 (w64 (p118 + 1))) rfl rfl hF rfl (run_add (z := w64 (p118 + 1)) (hF.ev rfl) rfl rfl rfl) ?_; clear hF; intro a hF
            refine op_val (v := .int .i64 (w64 (p118 + 1))) rfl rfl hF rfl (run_move rfl (hF.ev rfl)) ?_; clear hF; intro a hF
            refine wpList_nil ?_
            exact ⟨f1, Nat.lt_succ_self _, w64 (p118 + 1), hM117, hF.keep _ ⟨rfl, rfl, rfl, rfl, rfl, trivial⟩, S.sel [0, 1] rfl rfl⟩
      · rintro a u ⟨p115, rfl, hF, S⟩
        replace hM := elim_l hM
        refine wp_seq ?_
        refine wp_region_lit ?_
        refine op_val (v := .agg #[.int .i64 x0, .slice A1 x1.length c1, .int .i64 x2, .slice A3 x3.length c3, .int .i64 x4, .int .i64 x5, .int .i64 x6, .int .i64 x7]) rfl rfl hF rfl (run_loadN rfl ag28 (hF.ev rfl) rfl ((S.free 0 rfl).cells 0 #[.int .i64 x0, .slice A1 x1.length c1, .int .i64 x2, .slice A3 x3.length c3, .int .i64 x4, .int .i64 x5, .int .i64 x6, .int .i64 x7] rfl)) ?_; clear hF; intro a hF
        obtain ⟨p123, h123, hM⟩ := bind_ex hM
        refine op_call rfl rfl hF rfl (run_call (vs := [.agg #[.int .i64 x0, .slice A1 x1.length c1, .int .i64 x2, .slice A3 x3.length c3, .int .i64 x4, .int .i64 x5, .int .i64 x6, .int .i64 x7]]) rfl rfl co40 ⟨(hF.ev rfl), trivial⟩) (c_impl_Poll_events (x0 := x0) (x1 := x1) (x2 := x2) (x3 := x3) (x4 := x4) (x5 := x5) (x6 := x6) (x7 := x7) ⟨(S.rc0 h1.rc), rfl⟩ ⟨(S.rc0 h3.rc), rfl⟩ h123) ?_
        rintro e u ⟨B124, n125, d126, rfl, rfl, T⟩
        refine ⟨_, rfl, ?_⟩
        clear hF; intro a hF
        replace S := S.call1 T; clear T
        refine op_val (v := .int .i64 (p123.length : Int)) rfl rfl hF rfl (run_lenL rfl rfl Try.underlying22 (hF.ev rfl)) ?_; clear hF; intro a hF
        refine op_val (v := .bool (leB (p123.length : Int) 12)) rfl rfl hF rfl (run_leq (hF.ev rfl) rfl rfl) ?_; clear hF; intro a hF
        refine op_val (v := .bool (leB (p123.length : Int) 12)) rfl rfl hF rfl (run_assign rfl (hF.ev rfl)) ?_; clear hF; intro a hF
        refine wpList_nil ?_
        refine wp_ret ?_
        repeat with_reducible (first | refine then_ret ?_ | refine in_ret ?_ | refine in_nrm ?_)
        refine ret1_gw (.inl rfl) hF rfl (res_tmp (hF.ev rfl)) ?_
        obtain rfl := Option.some.inj hM
        exact ⟨rfl, S.sel [] rfl rfl⟩
    · replace hM := bif_t hc109 hM
      refine cond_t hF rfl hc109 ?_
      refine wp_seq ?_
      refine wp_region_lit ?_
      refine op_val (v := .bool false) rfl rfl hF rfl (run_assign rfl rfl) ?_; clear hF; intro a hF
      refine wpList_nil ?_
      refine wp_ret ?_
      repeat with_reducible (first | refine then_ret ?_ | refine in_ret ?_ | refine in_nrm ?_)
      refine ret1_gw (.inl rfl) hF rfl (res_tmp (hF.ev rfl)) ?_
      obtain rfl := Option.some.inj hM
      exact ⟨rfl, S.sel [] rfl rfl⟩
  · replace hM := bif_t hc106 hM
    refine cond_t hF rfl hc106 ?_
    refine wp_seq ?_
    refine wp_region_lit ?_
    refine op_val (v := .bool false) rfl rfl hF rfl (run_assign rfl rfl) ?_; clear hF; intro a hF
    refine wpList_nil ?_
    refine wp_ret ?_
    repeat with_reducible (first | refine then_ret ?_ | refine in_ret ?_ | refine in_nrm ?_)
    refine ret1_gw (.inl rfl) hF rfl (res_tmp (hF.ev rfl)) ?_
    obtain rfl := Option.some.inj hM
    exact ⟨rfl, S.sel [] rfl rfl⟩

set_option maxHeartbeats 4000000 in
theorem c_slices_Clone_int_int {x0 : List Int} {A0 : Option Addr} {n0 c0 : Nat} {w : World} {r : List Int} (h0 : Rt w 1 eI A0 n0 c0 x0) (hM : m_slices_Clone_int_int x0 = some r) :
    Calls Try.prog 41 #[.slice A0 n0 c0] w (fun e w' => ∃ (B0 : Option Addr) (N0 D0 : Nat), e = .returned (.slice B0 N0 D0) ∧ N0 = r.length ∧ St w w' [.row 3 1 (.slice B0 N0 D0) N0 (r.flatMap eI)]) := by
  obtain rfl := h0.len
  unfold m_slices_Clone_int_int at hM
  obtain ⟨hk, hM⟩ := chk_ex hM
  replace hk := apB_t hk
  obtain rfl := Option.some.inj hM
  refine calls_gw Try.func41 Try.ntmps41 rfl [(0, .slice A0 x0.length c0)] ⟨rfl, trivial⟩ rfl ?_
  intro a hF
  have S := St.nil w
  refine wp_seq ?_
  refine wp_region_lit ?_
  refine op_val (v := .slice none 0 0) rfl rfl hF rfl (run_assign rfl rfl) ?_; clear hF; intro a hF
  refine wpList_nil ?_
  refine wp_seq ?_
  refine wp_seq ?_
  refine wp_region_lit ?_
  refine op_val (v := .slice A0 x0.length c0) rfl rfl hF rfl (run_move rfl (hF.ev rfl)) ?_; clear hF; intro a hF
  refine op_val (v := .bool (Option.isNone A0)) rfl rfl hF rfl (run_eqlNil rfl Try.underlying22 (hF.ev rfl) rfl) ?_; clear hF; intro a hF
  refine wpList_nil ?_
  cases hc101 : (Option.isNone A0)
  · have hx := trivial
    refine cond_f hF rfl hc101 ?_
    refine wp_skip ?_
    refine wp_seq ?_
    refine wp_region_lit ?_
    refine op_newrow (cs := #[]) (size := 1) rfl rfl hF rfl S (run_buildSlice0 rfl Try.underlying22 (congrArg Option.isSome sz3)) rfl (Nat.zero_le _) ?_; clear hF S; intro a g102 u hF S
    refine op_val (v := .slice A0 x0.length c0) rfl rfl hF rfl (run_move rfl (hF.ev rfl)) ?_; clear hF; intro a hF
    have hk105 := hk
    refine op_appendL (lx := []) (ly := x0) rfl rfl hF rfl S rfl (hF.ev rfl) (hF.ev rfl) (i := 0) rfl rfl Try.underlying22 inf3 rfl (by decide) (S.rc0 h0.rc).rd rfl eI_one hk105 (by decide) ?_; clear hF S; intro a B103 d104 u hF S
    refine op_val (v := .slice B103 ((([] : List Int) ++ x0).length) d104) rfl rfl hF rfl (run_assign rfl (hF.ev rfl)) ?_; clear hF; intro a hF
    refine wpList_nil ?_
    refine wp_ret ?_
    repeat with_reducible (first | refine then_ret ?_ | refine in_ret ?_ | refine in_nrm ?_)
    refine ret1_gw (.inl rfl) hF rfl (res_tmp (hF.ev rfl)) ?_
    exact ⟨B103, ((([] : List Int) ++ x0).length), d104, rfl, rfl, S.sel [0] rfl rfl⟩
  · have hx := nil_none h0.rc.rd rfl hc101
    refine cond_t hF rfl hc101 ?_
    refine wp_seq ?_
    refine wp_region_lit ?_
    refine op_val (v := .slice none 0 0) rfl rfl hF rfl (run_assign rfl rfl) ?_; clear hF; intro a hF
    refine wpList_nil ?_
    refine wp_ret ?_
    repeat with_reducible (first | refine then_ret ?_ | refine in_ret ?_ | refine in_nrm ?_)
    refine ret1_gw (.inl rfl) hF rfl (res_tmp (hF.ev rfl)) ?_
    subst hx
    replace S := S.nilrow 3 1
    exact ⟨none, 0, 0, rfl, rfl, S.sel [0] rfl rfl⟩

set_option maxHeartbeats 4000000 in
theorem c_impl_Poll_clone {x0 : Int} {x1 : List Int} {x2 : Int} {x3 : List Int} {x4 : Int} {x5 : Int} {x6 : Int} {x7 : Int} {A1 : Option Addr} {n1 c1 : Nat} {A3 : Option Addr} {n3 c3 : Nat} {w : World} {r : Int × List Int × Int × List Int × Int × Int × Int × Int} (h1 : Rt w 1 eI A1 n1 c1 x1) (h3 : Rt w 1 eI A3 n3 c3 x3) (hM : m_impl_Poll_clone x0 x1 x2 x3 x4 x5 x6 x7 = some r) :
    Calls Try.prog 29 #[.agg #[.int .i64 x0, .slice A1 n1 c1, .int .i64 x2, .slice A3 n3 c3, .int .i64 x4, .int .i64 x5, .int .i64 x6, .int .i64 x7]] w (fun e w' => ∃ (B0 : Option Addr) (N0 D0 : Nat) (B1 : Option Addr) (N1 D1 : Nat), e = .returned (.agg #[.int .i64 r.1, .slice B0 N0 D0, .int .i64 r.2.2.1, .slice B1 N1 D1, .int .i64 r.2.2.2.2.1, .int .i64 r.2.2.2.2.2.1, .int .i64 r.2.2.2.2.2.2.1, .int .i64 r.2.2.2.2.2.2.2]) ∧ N0 = r.2.1.length ∧ N1 = r.2.2.2.1.length ∧ St w w' [.row 3 1 (.slice B0 N0 D0) N0 (r.2.1.flatMap eI), .row 3 1 (.slice B1 N1 D1) N1 (r.2.2.2.1.flatMap eI)]) := by
  obtain rfl := h1.len
  obtain rfl := h3.len
  unfold m_impl_Poll_clone at hM
  refine calls_gw Try.func29 Try.ntmps29 rfl [(0, .agg #[.int .i64 x0, .slice A1 x1.length c1, .int .i64 x2, .slice A3 x3.length c3, .int .i64 x4, .int .i64 x5, .int .i64 x6, .int .i64 x7])] ⟨rfl, trivial⟩ rfl ?_
  intro a hF
  have S := St.nil w
  refine wp_seq ?_
  refine wp_region_lit ?_
  refine op_new (cs := #[.int .i64 x0, .slice A1 x1.length c1, .int .i64 x2, .slice A3 x3.length c3, .int .i64 x4, .int .i64 x5, .int .i64 x6, .int .i64 x7]) rfl rfl hF rfl S (run_box rfl (hF.ev rfl) rfl) ?_; clear hF S; intro a g101 u hF S
  refine op_new (cs := #[.int .i64 0, .slice none 0 0, .int .i64 0, .slice none 0 0, .int .i64 0, .int .i64 0, .int .i64 0, .int .i64 0]) rfl rfl hF rfl S (run_allocZ rfl zr28) ?_; clear hF S; intro a g102 u hF S
  refine wpList_nil ?_
  refine wp_seq ?_
  obtain ⟨p103, h103, hM⟩ := bind_ex hM
  obtain ⟨p107, h107, hM⟩ := bind_ex hM
  refine region_gw (D := [3, 4, 5, 6, 7, 8, 9, 10]) (Lr := [.box g102 28 #[.int .i64 0, .slice none 0 0, .int .i64 0, .slice none 0 0, .int .i64 0, .int .i64 0, .int .i64 0, .int .i64 0]]) (deps := (fun | 0 => [3] | 1 => [4] | 2 => [5] | 3 => [6] | 4 => [7] | 5 => [8] | 6 => [9] | 7 => [9, 5] | 8 => [10] | 9 => [10, 5, 8] | _ => [])) (rd := (fun _ => [])) (zr := (fun | 1 => [7] | 4 => [7] | _ => []))
    (φ := fun i vs => match i, vs with | 0, [v3] => v3 = .pointer (some ⟨g101, 1, none⟩) | 1, [v4] => v4 = .slice A1 x1.length c1 | 2, [v5] => v5 = .slice (slA v5) p103.length (slC v5) | 3, [v6] => v6 = .pointer (some ⟨g101, 3, none⟩) | 4, [v7] => v7 = .slice A3 x3.length c3 | 5, [v8] => v8 = .slice (slA v8) p107.length (slC v8) | 6, [v9] => v9 = .pointer (some ⟨g101, 1, none⟩) | 8, [v10] => v10 = .pointer (some ⟨g101, 3, none⟩) | _, _ => True)
    (C := fun i vs => match i, vs with | 2, [v5] => [.row 3 1 (.slice (slA v5) p103.length (slC v5)) p103.length (p103.flatMap eI)] | 5, [v8] => [.row 3 1 (.slice (slA v8) p107.length (slC v8)) p107.length (p107.flatMap eI)] | 7, [v9, v5] => [.box g101 28 #[.int .i64 x0, .slice (slA v5) p103.length (slC v5), .int .i64 x2, .slice A3 x3.length c3, .int .i64 x4, .int .i64 x5, .int .i64 x6, .int .i64 x7]] | 9, [v10, v5, v8] => [.box g101 28 #[.int .i64 x0, .slice (slA v5) p103.length (slC v5), .int .i64 x2, .slice (slA v8) p107.length (slC v8), .int .i64 x4, .int .i64 x5, .int .i64 x6, .int .i64 x7]] | _, _ => [])
    (κ := (fun | 7 => some 9 | _ => none)) (Z := (fun | 7 => [.box g101 28 #[.int .i64 x0, .slice A1 x1.length c1, .int .i64 x2, .slice A3 x3.length c3, .int .i64 x4, .int .i64 x5, .int .i64 x6, .int .i64 x7]] | _ => [])) mixed hF (by kernel_rfl) (show St w _ [.box g101 28 #[.int .i64 x0, .slice A1 x1.length c1, .int .i64 x2, .slice A3 x3.length c3, .int .i64 x4, .int .i64 x5, .int .i64 x6, .int .i64 x7], .box g102 28 #[.int .i64 0, .slice none 0 0, .int .i64 0, .slice none 0 0, .int .i64 0, .int .i64 0, .int .i64 0, .int .i64 0]] from S.sel [1, 0] rfl rfl) ?_ ?_
  · refine ⟨?_, ?_, ?_, ?_, ?_, ?_, ?_, ?_, ?_, ?_, trivial⟩
    · intro a u X hB hu hp hr hz hl S
      replace S : St w u ([] ++ X) := S
      exact .inl ⟨rfl, .pointer (some ⟨g101, 1, none⟩), u, (run_fieldAddr rfl fl28_1 (hF.evB hB rfl rfl) rfl), rfl, S⟩
    · intro a u X hB hu hp hr hz hl S
      replace S : St w u ([] ++ X) := S
      have e3 : sl a 3 = .pointer (some ⟨g101, 1, none⟩) := hp 0 rfl
      exact .inl ⟨rfl, .slice A1 x1.length c1, u, (run_load1 rfl one22 (ev_sl e3) ((show Bk _ _ _ _ from S.mem (List.mem_append_right _ (hz 7 (List.mem_of_getElem? (i := 0) rfl) _ (List.mem_of_getElem? (i := 0) rfl)))).cell rfl)), rfl, S⟩
    · intro a u X hB hu hp hr hz hl S
      replace S : St w u ([] ++ X) := S
      have e4 : sl a 4 = .slice A1 x1.length c1 := hp 1 rfl
      refine .inr (.inr (.inl ⟨rfl, _, _, (run_call (vs := [.slice A1 x1.length c1]) rfl rfl co41 ⟨(ev_sl e4), trivial⟩), ?_⟩))
      refine Calls.mono (c_slices_Clone_int_int (x0 := x1) ⟨(S.rc0 h1.rc), rfl⟩ h103) ?_
      rintro e w1 ⟨B111, n112, d113, rfl, rfl, T⟩
      exact ⟨_, rfl, rfl, S.call1 T⟩
    · intro a u X hB hu hp hr hz hl S
      replace S : St w u ([] ++ X) := S
      exact .inl ⟨rfl, .pointer (some ⟨g101, 3, none⟩), u, (run_fieldAddr rfl fl28_3 (hF.evB hB rfl rfl) rfl), rfl, S⟩
    · intro a u X hB hu hp hr hz hl S
      replace S : St w u ([] ++ X) := S
      have e6 : sl a 6 = .pointer (some ⟨g101, 3, none⟩) := hp 3 rfl
      exact .inl ⟨rfl, .slice A3 x3.length c3, u, (run_load1 rfl one22 (ev_sl e6) ((show Bk _ _ _ _ from S.mem (List.mem_append_right _ (hz 7 (List.mem_of_getElem? (i := 0) rfl) _ (List.mem_of_getElem? (i := 0) rfl)))).cell rfl)), rfl, S⟩
    · intro a u X hB hu hp hr hz hl S
      replace S : St w u ([] ++ X) := S
      have e7 : sl a 7 = .slice A3 x3.length c3 := hp 4 rfl
      refine .inr (.inr (.inl ⟨rfl, _, _, (run_call (vs := [.slice A3 x3.length c3]) rfl rfl co41 ⟨(ev_sl e7), trivial⟩), ?_⟩))
      refine Calls.mono (c_slices_Clone_int_int (x0 := x3) ⟨(S.rc0 h3.rc), rfl⟩ h107) ?_
      rintro e w1 ⟨B114, n115, d116, rfl, rfl, T⟩
      exact ⟨_, rfl, rfl, S.call1 T⟩
    · intro a u X hB hu hp hr hz hl S
      replace S : St w u ([] ++ X) := S
      exact .inl ⟨rfl, .pointer (some ⟨g101, 1, none⟩), u, (run_fieldAddr rfl fl28_1 (hF.evB hB rfl rfl) rfl), rfl, S⟩
    · intro a u X hB hu hp hr hz hl S
      replace S : St w u ([.box g101 28 #[.int .i64 x0, .slice A1 x1.length c1, .int .i64 x2, .slice A3 x3.length c3, .int .i64 x4, .int .i64 x5, .int .i64 x6, .int .i64 x7]] ++ X) := S
      have e5 : sl a 5 = .slice (slA (sl a 5)) p103.length (slC (sl a 5)) := hp 2 rfl
      have e9 : sl a 9 = .pointer (some ⟨g101, 1, none⟩) := hp 6 rfl
      exact .inr (.inl ⟨rfl, _, run_store (cs' := #[.int .i64 x0, .slice (slA (sl a 5)) p103.length (slC (sl a 5)), .int .i64 x2, .slice A3 x3.length c3, .int .i64 x4, .int .i64 x5, .int .i64 x6, .int .i64 x7]) rfl sz22 (ev_sl e9) (ev_sl e5) rfl rfl rfl (S.free 0 rfl) rfl rfl, trivial, S.put 0 rfl (#[.int .i64 x0, .slice (slA (sl a 5)) p103.length (slC (sl a 5)), .int .i64 x2, .slice A3 x3.length c3, .int .i64 x4, .int .i64 x5, .int .i64 x6, .int .i64 x7])⟩)
    · intro a u X hB hu hp hr hz hl S
      replace S : St w u ([] ++ X) := S
      exact .inl ⟨rfl, .pointer (some ⟨g101, 3, none⟩), u, (run_fieldAddr rfl fl28_3 (hF.evB hB rfl rfl) rfl), rfl, S⟩
    · intro a u X hB hu hp hr hz hl S
      replace S : St w u ([.box g101 28 #[.int .i64 x0, .slice (slA (sl a 5)) p103.length (slC (sl a 5)), .int .i64 x2, .slice A3 x3.length c3, .int .i64 x4, .int .i64 x5, .int .i64 x6, .int .i64 x7]] ++ X) := S
      have e8 : sl a 8 = .slice (slA (sl a 8)) p107.length (slC (sl a 8)) := hp 5 rfl
      have e10 : sl a 10 = .pointer (some ⟨g101, 3, none⟩) := hp 8 rfl
      exact .inr (.inl ⟨rfl, _, run_store (cs' := #[.int .i64 x0, .slice (slA (sl a 5)) p103.length (slC (sl a 5)), .int .i64 x2, .slice (slA (sl a 8)) p107.length (slC (sl a 8)), .int .i64 x4, .int .i64 x5, .int .i64 x6, .int .i64 x7]) rfl sz22 (ev_sl e10) (ev_sl e8) rfl rfl rfl (S.free 0 rfl) rfl rfl, trivial, S.put 0 rfl (#[.int .i64 x0, .slice (slA (sl a 5)) p103.length (slC (sl a 5)), .int .i64 x2, .slice (slA (sl a 8)) p107.length (slC (sl a 8)), .int .i64 x4, .int .i64 x5, .int .i64 x6, .int .i64 x7])⟩)
  · intro a u hB hp S
    obtain ⟨q0, q1, q2, q3, q4, q5, q6, q7, q8, q9, _⟩ := hp
    have e3 : sl a 3 = .pointer (some ⟨g101, 1, none⟩) := q0
    have e4 : sl a 4 = .slice A1 x1.length c1 := q1
    have e5 : sl a 5 = .slice (slA (sl a 5)) p103.length (slC (sl a 5)) := q2
    have e6 : sl a 6 = .pointer (some ⟨g101, 3, none⟩) := q3
    have e7 : sl a 7 = .slice A3 x3.length c3 := q4
    have e8 : sl a 8 = .slice (slA (sl a 8)) p107.length (slC (sl a 8)) := q5
    have e9 : sl a 9 = .pointer (some ⟨g101, 1, none⟩) := q6
    have e10 : sl a 10 = .pointer (some ⟨g101, 3, none⟩) := q8
    replace S : St w u [.row 3 1 (.slice (slA (sl a 5)) p103.length (slC (sl a 5))) p103.length (p103.flatMap eI), .row 3 1 (.slice (slA (sl a 8)) p107.length (slC (sl a 8))) p107.length (p107.flatMap eI), .box g101 28 #[.int .i64 x0, .slice (slA (sl a 5)) p103.length (slC (sl a 5)), .int .i64 x2, .slice (slA (sl a 8)) p107.length (slC (sl a 8)), .int .i64 x4, .int .i64 x5, .int .i64 x6, .int .i64 x7], .box g102 28 #[.int .i64 0, .slice none 0 0, .int .i64 0, .slice none 0 0, .int .i64 0, .int .i64 0, .int .i64 0, .int .i64 0]] := S
    clear q0 q1 q2 q3 q4 q5 q6 q7 q8 q9
    generalize slA (sl a 5) = B117 at *
    generalize slC (sl a 5) = d118 at *
    generalize slA (sl a 8) = B119 at *
    generalize slC (sl a 8) = d120 at *
    have hF := hF.region hB [(3, .pointer (some ⟨g101, 1, none⟩)), (4, .slice A1 x1.length c1), (5, .slice B117 p103.length d118), (6, .pointer (some ⟨g101, 3, none⟩)), (7, .slice A3 x3.length c3), (8, .slice B119 p107.length d120), (9, .pointer (some ⟨g101, 1, none⟩)), (10, .pointer (some ⟨g101, 3, none⟩))] (allSl_mem ⟨e3, e4, e5, e6, e7, e8, e9, e10, trivial⟩) rfl
    clear hB e3 e4 e5 e6 e7 e8 e9 e10
    refine wp_seq ?_
    refine wp_region_lit ?_
    refine op_val (v := .agg #[.int .i64 x0, .slice B117 p103.length d118, .int .i64 x2, .slice B119 p107.length d120, .int .i64 x4, .int .i64 x5, .int .i64 x6, .int .i64 x7]) rfl rfl hF rfl (run_loadN rfl ag28 (hF.ev rfl) rfl ((S.free 2 rfl).cells 0 #[.int .i64 x0, .slice B117 p103.length d118, .int .i64 x2, .slice B119 p107.length d120, .int .i64 x4, .int .i64 x5, .int .i64 x6, .int .i64 x7] rfl)) ?_; clear hF; intro a hF
    refine op_do rfl rfl (run_store (cs' := #[.int .i64 x0, .slice B117 p103.length d118, .int .i64 x2, .slice B119 p107.length d120, .int .i64 x4, .int .i64 x5, .int .i64 x6, .int .i64 x7]) rfl sz28 (hF.ev rfl) (hF.ev rfl) rfl rfl rfl (S.free 3 rfl) rfl rfl) ?_; replace S := S.put 3 rfl (#[.int .i64 x0, .slice B117 p103.length d118, .int .i64 x2, .slice B119 p107.length d120, .int .i64 x4, .int .i64 x5, .int .i64 x6, .int .i64 x7])
    generalize World.setRow _ _ _ = u at S ⊢
    refine wpList_nil ?_
    refine wp_ret ?_
    repeat with_reducible (first | refine then_ret ?_ | refine in_ret ?_ | refine in_nrm ?_)
    refine ret1_gw (.inl rfl) hF rfl (res_cell (hF.ev rfl) (res_loadN ag28 rfl (S.cells 3 rfl 0 #[.int .i64 x0, .slice B117 p103.length d118, .int .i64 x2, .slice B119 p107.length d120, .int .i64 x4, .int .i64 x5, .int .i64 x6, .int .i64 x7] rfl))) ?_
    obtain rfl := Option.some.inj hM
    exact ⟨B117, p103.length, d118, B119, p107.length, d120, rfl, rfl, rfl, S.sel [0, 1] rfl rfl⟩

set_option maxHeartbeats 4000000 in
theorem c_impl_Poll_take {x0 : Int} {x1 : List Int} {x2 : Int} {x3 : List Int} {x4 : Int} {x5 : Int} {x6 : Int} {x7 : Int} {A1 : Option Addr} {n1 c1 : Nat} {A3 : Option Addr} {n3 c3 : Nat} {g0 : Nat} {w : World} {r : Int × List Int × Int × List Int × Int × Int × Int × Int} {w0 : World} {X : List Asn} (h1 : n1 = x1.length) (h3 : n3 = x3.length) (S : St w0 w (Asn.box g0 28 #[.int .i64 x0, .slice A1 n1 c1, .int .i64 x2, .slice A3 n3 c3, .int .i64 x4, .int .i64 x5, .int .i64 x6, .int .i64 x7] :: Asn.row 3 1 (.slice A1 n1 c1) n1 (x1.flatMap eI) :: Asn.row 3 1 (.slice A3 n3 c3) n3 (x3.flatMap eI) :: X)) (hM : m_impl_Poll_take x0 x1 x2 x3 x4 x5 x6 x7 = some r) :
    Calls Try.prog 43 #[.pointer (some ⟨g0, 0, none⟩)] w (fun e w' => ∃ (B0 : Option Addr) (N0 D0 : Nat) (B1 : Option Addr) (N1 D1 : Nat), e = .returned (.tuple #[]) ∧ N0 = r.2.1.length ∧ N1 = r.2.2.2.1.length ∧ St w0 w' (Asn.box g0 28 #[.int .i64 r.1, .slice B0 N0 D0, .int .i64 r.2.2.1, .slice B1 N1 D1, .int .i64 r.2.2.2.2.1, .int .i64 r.2.2.2.2.2.1, .int .i64 r.2.2.2.2.2.2.1, .int .i64 r.2.2.2.2.2.2.2] :: Asn.row 3 1 (.slice B0 N0 D0) N0 (r.2.1.flatMap eI) :: Asn.row 3 1 (.slice B1 N1 D1) N1 (r.2.2.2.1.flatMap eI) :: X)) := by
  obtain rfl := h1
  obtain rfl := h3
  unfold m_impl_Poll_take at hM
  refine calls_gw Try.func43 Try.ntmps43 rfl [(0, .pointer (some ⟨g0, 0, none⟩))] ⟨rfl, trivial⟩ rfl ?_
  intro a hF
  refine wp_seq ?_
  refine wp_seq ?_
  refine region_gw (D := [2, 3, 4, 5, 6, 7, 8, 9, 10]) (Lr := (Asn.box g0 28 #[.int .i64 x0, .slice A1 x1.length c1, .int .i64 x2, .slice A3 x3.length c3, .int .i64 x4, .int .i64 x5, .int .i64 x6, .int .i64 x7] :: Asn.row 3 1 (.slice A1 x1.length c1) x1.length (x1.flatMap eI) :: Asn.row 3 1 (.slice A3 x3.length c3) x3.length (x3.flatMap eI) :: X)) (deps := (fun | 0 => [2] | 1 => [3] | 2 => [4] | 3 => [5] | 4 => [6] | 5 => [7] | 6 => [8] | 7 => [9] | 8 => [10] | _ => [])) (rd := (fun _ => [])) (zr := (fun _ => []))
    (φ := fun i vs => match i, vs with | 0, [v2] => v2 = .pointer (some ⟨g0, 0, none⟩) | 1, [v3] => v3 = .pointer (some ⟨g0, 0, none⟩) | 2, [v4] => v4 = .pointer (some ⟨g0, 6, none⟩) | 3, [v5] => v5 = .int .i64 x6 | 4, [v6] => v6 = .pointer (some ⟨g0, 0, none⟩) | 5, [v7] => v7 = .pointer (some ⟨g0, 0, none⟩) | 6, [v8] => v8 = .pointer (some ⟨g0, 0, none⟩) | 7, [v9] => v9 = .int .i64 x0 | 8, [v10] => v10 = .bool (x6 != x0) | _, _ => True)
    (C := fun _ _ => [])
    (κ := (fun _ => none)) (Z := (fun _ => [])) mixed hF (by kernel_rfl) S ?_ ?_
  · refine ⟨?_, ?_, ?_, ?_, ?_, ?_, ?_, ?_, ?_, trivial⟩
    · intro a u X' hB hu hp hr hz hl S
      replace S : St w0 u ([] ++ X') := S
      exact .inl ⟨rfl, .pointer (some ⟨g0, 0, none⟩), u, (run_move rfl (hF.evB hB rfl rfl)), rfl, S⟩
    · intro a u X' hB hu hp hr hz hl S
      replace S : St w0 u ([] ++ X') := S
      have e2 : sl a 2 = .pointer (some ⟨g0, 0, none⟩) := hp 0 rfl
      exact .inl ⟨rfl, .pointer (some ⟨g0, 0, none⟩), u, (run_nilCheck rfl (ev_sl e2)), rfl, S⟩
    · intro a u X' hB hu hp hr hz hl S
      replace S : St w0 u ([] ++ X') := S
      have e3 : sl a 3 = .pointer (some ⟨g0, 0, none⟩) := hp 1 rfl
      exact .inl ⟨rfl, .pointer (some ⟨g0, 6, none⟩), u, (run_fieldAddr rfl fl28_6 (ev_sl e3) rfl), rfl, S⟩
    · intro a u X' hB hu hp hr hz hl S
      replace S : St w0 u ([] ++ X') := S
      have e4 : sl a 4 = .pointer (some ⟨g0, 6, none⟩) := hp 2 rfl
      exact .inl ⟨rfl, .int .i64 x6, u, (run_load1 rfl one3 (ev_sl e4) ((gr_box S hl 0 rfl).cell rfl)), rfl, S⟩
    · intro a u X' hB hu hp hr hz hl S
      replace S : St w0 u ([] ++ X') := S
      exact .inl ⟨rfl, .pointer (some ⟨g0, 0, none⟩), u, (run_move rfl (hF.evB hB rfl rfl)), rfl, S⟩
    · intro a u X' hB hu hp hr hz hl S
      replace S : St w0 u ([] ++ X') := S
      have e6 : sl a 6 = .pointer (some ⟨g0, 0, none⟩) := hp 4 rfl
      exact .inl ⟨rfl, .pointer (some ⟨g0, 0, none⟩), u, (run_nilCheck rfl (ev_sl e6)), rfl, S⟩
    · intro a u X' hB hu hp hr hz hl S
      replace S : St w0 u ([] ++ X') := S
      have e7 : sl a 7 = .pointer (some ⟨g0, 0, none⟩) := hp 5 rfl
      exact .inl ⟨rfl, .pointer (some ⟨g0, 0, none⟩), u, (run_fieldAddr rfl fl28_0 (ev_sl e7) rfl), rfl, S⟩
    · intro a u X' hB hu hp hr hz hl S
      replace S : St w0 u ([] ++ X') := S
      have e8 : sl a 8 = .pointer (some ⟨g0, 0, none⟩) := hp 6 rfl
      exact .inl ⟨rfl, .int .i64 x0, u, (run_load1 rfl one3 (ev_sl e8) ((gr_box S hl 0 rfl).cell rfl)), rfl, S⟩
    · intro a u X' hB hu hp hr hz hl S
      replace S : St w0 u ([] ++ X') := S
      have e5 : sl a 5 = .int .i64 x6 := hp 3 rfl
      have e9 : sl a 9 = .int .i64 x0 := hp 7 rfl
      exact .inl ⟨rfl, .bool (x6 != x0), u, (run_neq (ev_sl e5) (ev_sl e9) rfl), rfl, S⟩
  · intro a u hB hp S
    obtain ⟨q0, q1, q2, q3, q4, q5, q6, q7, q8, _⟩ := hp
    have e2 : sl a 2 = .pointer (some ⟨g0, 0, none⟩) := q0
    have e3 : sl a 3 = .pointer (some ⟨g0, 0, none⟩) := q1
    have e4 : sl a 4 = .pointer (some ⟨g0, 6, none⟩) := q2
    have e5 : sl a 5 = .int .i64 x6 := q3
    have e6 : sl a 6 = .pointer (some ⟨g0, 0, none⟩) := q4
    have e7 : sl a 7 = .pointer (some ⟨g0, 0, none⟩) := q5
    have e8 : sl a 8 = .pointer (some ⟨g0, 0, none⟩) := q6
    have e9 : sl a 9 = .int .i64 x0 := q7
    have e10 : sl a 10 = .bool (x6 != x0) := q8
    replace S : St w0 u (Asn.box g0 28 #[.int .i64 x0, .slice A1 x1.length c1, .int .i64 x2, .slice A3 x3.length c3, .int .i64 x4, .int .i64 x5, .int .i64 x6, .int .i64 x7] :: Asn.row 3 1 (.slice A1 x1.length c1) x1.length (x1.flatMap eI) :: Asn.row 3 1 (.slice A3 x3.length c3) x3.length (x3.flatMap eI) :: X) := S
    clear q0 q1 q2 q3 q4 q5 q6 q7 q8
    have hF := hF.region hB [(2, .pointer (some ⟨g0, 0, none⟩)), (3, .pointer (some ⟨g0, 0, none⟩)), (4, .pointer (some ⟨g0, 6, none⟩)), (5, .int .i64 x6), (6, .pointer (some ⟨g0, 0, none⟩)), (7, .pointer (some ⟨g0, 0, none⟩)), (8, .pointer (some ⟨g0, 0, none⟩)), (9, .int .i64 x0), (10, .bool (x6 != x0))] (allSl_mem ⟨e2, e3, e4, e5, e6, e7, e8, e9, e10, trivial⟩) rfl
    clear hB e2 e3 e4 e5 e6 e7 e8 e9 e10
    cases hc101 : (x6 != x0)
    · replace hM := bif_f hc101 hM
      refine cond_f hF rfl hc101 ?_
      refine wp_skip ?_
      refine wp_seq ?_
      refine wp_region_lit ?_
      refine op_val (v := .pointer (some ⟨g0, 0, none⟩)) rfl rfl hF rfl (run_move rfl (hF.ev rfl)) ?_; clear hF; intro a hF
      refine op_val (v := .pointer (some ⟨g0, 0, none⟩)) rfl rfl hF rfl (run_move rfl (hF.ev rfl)) ?_; clear hF; intro a hF
      refine op_val (v := .pointer (some ⟨g0, 0, none⟩)) rfl rfl hF rfl (run_nilCheck rfl (hF.ev rfl)) ?_; clear hF; intro a hF
      refine op_val (v := .pointer (some ⟨g0, 0, none⟩)) rfl rfl hF rfl (run_fieldAddr rfl fl28_0 (hF.ev rfl) rfl) ?_; clear hF; intro a hF
      refine op_val (v := .int .i64 x0) rfl rfl hF rfl (run_load1 rfl one3 (hF.ev rfl) ((S.free 0 rfl).cell rfl)) ?_; clear hF; intro a hF
      refine op_val (v := .int .i64 (w64 (1 - x0))) rfl rfl hF rfl (run_sub (z := w64 (1 - x0)) rfl (hF.ev rfl) rfl rfl) ?_; clear hF; intro a hF
      refine op_val (v := .pointer (some ⟨g0, 0, none⟩)) rfl rfl hF rfl (run_nilCheck rfl (hF.ev rfl)) ?_; clear hF; intro a hF
      refine op_val (v := .pointer (some ⟨g0, 0, none⟩)) rfl rfl hF rfl (run_fieldAddr rfl fl28_0 (hF.ev rfl) rfl) ?_; clear hF; intro a hF
      refine op_do rfl rfl (run_store (cs' := #[.int .i64 (w64 (1 - x0)), .slice A1 x1.length c1, .int .i64 x2, .slice A3 x3.length c3, .int .i64 x4, .int .i64 x5, .int .i64 x6, .int .i64 x7]) rfl sz3 (hF.ev rfl) (hF.ev rfl) rfl rfl rfl (S.free 0 rfl) rfl rfl) ?_; replace S := S.put 0 rfl (#[.int .i64 (w64 (1 - x0)), .slice A1 x1.length c1, .int .i64 x2, .slice A3 x3.length c3, .int .i64 x4, .int .i64 x5, .int .i64 x6, .int .i64 x7])
      generalize World.setRow _ _ _ = u at S ⊢
      refine wpList_nil ?_
      refine wp_seq ?_
      refine wp_region_lit ?_
      refine op_val (v := .pointer (some ⟨g0, 0, none⟩)) rfl rfl hF rfl (run_move rfl (hF.ev rfl)) ?_; clear hF; intro a hF
      refine op_val (v := .pointer (some ⟨g0, 0, none⟩)) rfl rfl hF rfl (run_nilCheck rfl (hF.ev rfl)) ?_; clear hF; intro a hF
      refine op_val (v := .pointer (some ⟨g0, 7, none⟩)) rfl rfl hF rfl (run_fieldAddr rfl fl28_7 (hF.ev rfl) rfl) ?_; clear hF; intro a hF
      refine op_val (v := .int .i64 x7) rfl rfl hF rfl (run_load1 rfl one3 (hF.ev rfl) ((S.free 0 rfl).cell rfl)) ?_; clear hF; intro a hF
      refine op_val (v := .bool (x7 != (-1))) rfl rfl hF rfl (run_neq (hF.ev rfl) rfl rfl) ?_; clear hF; intro a hF
      refine wpList_nil ?_
      obtain ⟨o103, hM106, hM⟩ := bind_ex hM
      refine wp_cut (fun a u => ∃ (p102 : List Int) (B104 : Option Addr) (d105 : Nat), p102 = o103 ∧ Fr a 37 [] ∧ St w0 u (Asn.box g0 28 #[.int .i64 (w64 (1 - x0)), .slice B104 p102.length d105, .int .i64 x2, .slice A3 x3.length c3, .int .i64 x4, .int .i64 x5, .int .i64 x6, .int .i64 x7] :: Asn.row 3 1 (.slice B104 p102.length d105) p102.length (p102.flatMap eI) :: Asn.row 3 1 (.slice A3 x3.length c3) x3.length (x3.flatMap eI) :: X)) ?_ ?_
      · have _ := trivial
        cases hc107 : (x7 != (-1))
        · replace hM106 := bif_f hc107 hM106
          refine cond_f hF rfl hc107 ?_
          refine wp_skip ?_
          obtain rfl := Option.some.inj hM106
          exact ⟨x1, A1, c1, rfl, hF.keep _ trivial, S.selT (M := [.box g0 28 #[.int .i64 (w64 (1 - x0)), .slice A1 x1.length c1, .int .i64 x2, .slice A3 x3.length c3, .int .i64 x4, .int .i64 x5, .int .i64 x6, .int .i64 x7], .row 3 1 (.slice A1 x1.length c1) x1.length (x1.flatMap eI), .row 3 1 (.slice A3 x3.length c3) x3.length (x3.flatMap eI)]) 3 [0, 1, 2] rfl rfl rfl⟩
        · replace hM106 := bif_t hc107 hM106
          refine cond_t hF rfl hc107 ?_
          obtain ⟨hk108, hM106⟩ := chk_ex hM106
          replace hk108 := apB_t hk108
          refine region_gw (D := [24, 25, 26, 27, 28, 29, 30, 31, 32, 33, 34, 35, 36]) (Lr := (Asn.row 3 1 (.slice A3 x3.length c3) x3.length (x3.flatMap eI) :: X)) (deps := (fun | 0 => [24] | 1 => [25] | 2 => [26] | 3 => [27] | 4 => [28] | 5 => [29] | 6 => [30] | 7 => [31] | 8 => [32] | 9 => [33] | 10 => [34] | 11 => [35] | 12 => [36] | 13 => [36, 34] | _ => [])) (rd := (fun | 10 => [9] | _ => [])) (zr := (fun | 4 => [13] | 8 => [13] | _ => []))
            (φ := fun i vs => match i, vs with | 0, [v24] => v24 = .pointer (some ⟨g0, 0, none⟩) | 1, [v25] => v25 = .pointer (some ⟨g0, 0, none⟩) | 2, [v26] => v26 = .pointer (some ⟨g0, 0, none⟩) | 3, [v27] => v27 = .pointer (some ⟨g0, 1, none⟩) | 4, [v28] => v28 = .slice A1 x1.length c1 | 5, [v29] => v29 = .pointer (some ⟨g0, 0, none⟩) | 6, [v30] => v30 = .pointer (some ⟨g0, 0, none⟩) | 7, [v31] => v31 = .pointer (some ⟨g0, 7, none⟩) | 8, [v32] => v32 = .int .i64 x7 | 9, [v33] => v33 = .slice (slA v33) ((([x7] : List Int) : List Int).length) ((([x7] : List Int) : List Int).length) | 10, [v34] => v34 = .slice (slA v34) ((x1 ++ ([x7] : List Int)).length) (slC v34) | 11, [v35] => v35 = .pointer (some ⟨g0, 0, none⟩) | 12, [v36] => v36 = .pointer (some ⟨g0, 1, none⟩) | _, _ => True)
            (C := fun i vs => match i, vs with | 9, [v33] => [.row 3 1 (.slice (slA v33) ((([x7] : List Int) : List Int).length) ((([x7] : List Int) : List Int).length)) ((([x7] : List Int) : List Int).length) (([x7] : List Int).flatMap eI)] | 10, [v34] => [.row 3 1 (.slice (slA v34) ((x1 ++ ([x7] : List Int)).length) (slC v34)) ((x1 ++ ([x7] : List Int)).length) ((x1 ++ ([x7] : List Int)).flatMap eI)] | 13, [v36, v34] => [.box g0 28 #[.int .i64 (w64 (1 - x0)), .slice (slA v34) ((x1 ++ ([x7] : List Int)).length) (slC v34), .int .i64 x2, .slice A3 x3.length c3, .int .i64 x4, .int .i64 x5, .int .i64 x6, .int .i64 x7]] | _, _ => [])
            (κ := (fun _ => none)) (Z := (fun | 10 => [.row 3 1 (.slice A1 x1.length c1) x1.length (x1.flatMap eI)] | 13 => [.box g0 28 #[.int .i64 (w64 (1 - x0)), .slice A1 x1.length c1, .int .i64 x2, .slice A3 x3.length c3, .int .i64 x4, .int .i64 x5, .int .i64 x6, .int .i64 x7]] | _ => [])) mixed hF (by kernel_rfl) (show St w0 _ (Asn.row 3 1 (.slice A1 x1.length c1) x1.length (x1.flatMap eI) :: Asn.box g0 28 #[.int .i64 (w64 (1 - x0)), .slice A1 x1.length c1, .int .i64 x2, .slice A3 x3.length c3, .int .i64 x4, .int .i64 x5, .int .i64 x6, .int .i64 x7] :: Asn.row 3 1 (.slice A3 x3.length c3) x3.length (x3.flatMap eI) :: X) from S.selT (M := [.row 3 1 (.slice A1 x1.length c1) x1.length (x1.flatMap eI), .box g0 28 #[.int .i64 (w64 (1 - x0)), .slice A1 x1.length c1, .int .i64 x2, .slice A3 x3.length c3, .int .i64 x4, .int .i64 x5, .int .i64 x6, .int .i64 x7], .row 3 1 (.slice A3 x3.length c3) x3.length (x3.flatMap eI)]) 3 [1, 0, 2] rfl rfl rfl) ?_ ?_
          · refine ⟨?_, ?_, ?_, ?_, ?_, ?_, ?_, ?_, ?_, ?_, ?_, ?_, ?_, ?_, trivial⟩
            · intro a u X' hB hu hp hr hz hl S
              replace S : St w0 u ([] ++ X') := S
              exact .inl ⟨rfl, .pointer (some ⟨g0, 0, none⟩), u, (run_move rfl (hF.evB hB rfl rfl)), rfl, S⟩
            · intro a u X' hB hu hp hr hz hl S
              replace S : St w0 u ([] ++ X') := S
              exact .inl ⟨rfl, .pointer (some ⟨g0, 0, none⟩), u, (run_move rfl (hF.evB hB rfl rfl)), rfl, S⟩
            · intro a u X' hB hu hp hr hz hl S
              replace S : St w0 u ([] ++ X') := S
              have e25 : sl a 25 = .pointer (some ⟨g0, 0, none⟩) := hp 1 rfl
              exact .inl ⟨rfl, .pointer (some ⟨g0, 0, none⟩), u, (run_nilCheck rfl (ev_sl e25)), rfl, S⟩
            · intro a u X' hB hu hp hr hz hl S
              replace S : St w0 u ([] ++ X') := S
              have e26 : sl a 26 = .pointer (some ⟨g0, 0, none⟩) := hp 2 rfl
              exact .inl ⟨rfl, .pointer (some ⟨g0, 1, none⟩), u, (run_fieldAddr rfl fl28_1 (ev_sl e26) rfl), rfl, S⟩
            · intro a u X' hB hu hp hr hz hl S
              replace S : St w0 u ([] ++ X') := S
              have e27 : sl a 27 = .pointer (some ⟨g0, 1, none⟩) := hp 3 rfl
              exact .inl ⟨rfl, .slice A1 x1.length c1, u, (run_load1 rfl one22 (ev_sl e27) ((show Bk _ _ _ _ from S.mem (List.mem_append_right _ (hz 13 (List.mem_of_getElem? (i := 0) rfl) _ (List.mem_of_getElem? (i := 0) rfl)))).cell rfl)), rfl, S⟩
            · intro a u X' hB hu hp hr hz hl S
              replace S : St w0 u ([] ++ X') := S
              exact .inl ⟨rfl, .pointer (some ⟨g0, 0, none⟩), u, (run_move rfl (hF.evB hB rfl rfl)), rfl, S⟩
            · intro a u X' hB hu hp hr hz hl S
              replace S : St w0 u ([] ++ X') := S
              have e29 : sl a 29 = .pointer (some ⟨g0, 0, none⟩) := hp 5 rfl
              exact .inl ⟨rfl, .pointer (some ⟨g0, 0, none⟩), u, (run_nilCheck rfl (ev_sl e29)), rfl, S⟩
            · intro a u X' hB hu hp hr hz hl S
              replace S : St w0 u ([] ++ X') := S
              have e30 : sl a 30 = .pointer (some ⟨g0, 0, none⟩) := hp 6 rfl
              exact .inl ⟨rfl, .pointer (some ⟨g0, 7, none⟩), u, (run_fieldAddr rfl fl28_7 (ev_sl e30) rfl), rfl, S⟩
            · intro a u X' hB hu hp hr hz hl S
              replace S : St w0 u ([] ++ X') := S
              have e31 : sl a 31 = .pointer (some ⟨g0, 7, none⟩) := hp 7 rfl
              exact .inl ⟨rfl, .int .i64 x7, u, (run_load1 rfl one3 (ev_sl e31) ((show Bk _ _ _ _ from S.mem (List.mem_append_right _ (hz 13 (List.mem_of_getElem? (i := 0) rfl) _ (List.mem_of_getElem? (i := 0) rfl)))).cell rfl)), rfl, S⟩
            · intro a u X' hB hu hp hr hz hl S
              replace S : St w0 u ([] ++ X') := S
              have e32 : sl a 32 = .int .i64 x7 := hp 8 rfl
              exact .inl ⟨rfl, _, _, run_buildS (vs := [(0, .int .i64 x7)]) rfl ⟨⟨rfl, (ev_sl e32)⟩, trivial⟩ (bs22_1_0 rfl), rfl, S.newrowL (e := eI) (ls := ([x7] : List Int)) rfl eI_len (Nat.le_of_ble_eq_true rfl)⟩
            · intro a u X' hB hu hp hr hz hl S
              replace S : St w0 u ([.row 3 1 (.slice A1 x1.length c1) x1.length (x1.flatMap eI)] ++ X') := S
              have e28 : sl a 28 = .slice A1 x1.length c1 := hp 4 rfl
              have e33 : sl a 33 = .slice (slA (sl a 33)) ((([x7] : List Int) : List Int).length) ((([x7] : List Int) : List Int).length) := hp 9 rfl
              obtain ⟨B, d, w', hrun, S'⟩ := S.appendL (i := 0) (P := Try.prog) (ty := 22) (lx := x1) (ly := ([x7] : List Int)) (c' := ((([x7] : List Int) : List Int).length)) rfl rfl Try.underlying22 inf3 rfl (by decide) (own_rc (show Ow _ _ _ _ _ _ from S.mem (List.mem_append_right _ (hr 9 (List.mem_of_getElem? (i := 0) rfl) _ (List.mem_of_getElem? (i := 0) rfl))))).rd rfl eI_one hk108 (by decide)
              exact .inl ⟨rfl, _, w', run_append rfl (ev_sl e28) (ev_sl e33) hrun, rfl, S'⟩
            · intro a u X' hB hu hp hr hz hl S
              replace S : St w0 u ([] ++ X') := S
              have e24 : sl a 24 = .pointer (some ⟨g0, 0, none⟩) := hp 0 rfl
              exact .inl ⟨rfl, .pointer (some ⟨g0, 0, none⟩), u, (run_nilCheck rfl (ev_sl e24)), rfl, S⟩
            · intro a u X' hB hu hp hr hz hl S
              replace S : St w0 u ([] ++ X') := S
              have e35 : sl a 35 = .pointer (some ⟨g0, 0, none⟩) := hp 11 rfl
              exact .inl ⟨rfl, .pointer (some ⟨g0, 1, none⟩), u, (run_fieldAddr rfl fl28_1 (ev_sl e35) rfl), rfl, S⟩
            · intro a u X' hB hu hp hr hz hl S
              replace S : St w0 u ([.box g0 28 #[.int .i64 (w64 (1 - x0)), .slice A1 x1.length c1, .int .i64 x2, .slice A3 x3.length c3, .int .i64 x4, .int .i64 x5, .int .i64 x6, .int .i64 x7]] ++ X') := S
              have e34 : sl a 34 = .slice (slA (sl a 34)) ((x1 ++ ([x7] : List Int)).length) (slC (sl a 34)) := hp 10 rfl
              have e36 : sl a 36 = .pointer (some ⟨g0, 1, none⟩) := hp 12 rfl
              exact .inr (.inl ⟨rfl, _, run_store (cs' := #[.int .i64 (w64 (1 - x0)), .slice (slA (sl a 34)) ((x1 ++ ([x7] : List Int)).length) (slC (sl a 34)), .int .i64 x2, .slice A3 x3.length c3, .int .i64 x4, .int .i64 x5, .int .i64 x6, .int .i64 x7]) rfl sz22 (ev_sl e36) (ev_sl e34) rfl rfl rfl (S.free 0 rfl) rfl rfl, trivial, S.put 0 rfl (#[.int .i64 (w64 (1 - x0)), .slice (slA (sl a 34)) ((x1 ++ ([x7] : List Int)).length) (slC (sl a 34)), .int .i64 x2, .slice A3 x3.length c3, .int .i64 x4, .int .i64 x5, .int .i64 x6, .int .i64 x7])⟩)
          · intro a u hB hp S
            obtain ⟨q0, q1, q2, q3, q4, q5, q6, q7, q8, q9, q10, q11, q12, q13, _⟩ := hp
            have e24 : sl a 24 = .pointer (some ⟨g0, 0, none⟩) := q0
            have e25 : sl a 25 = .pointer (some ⟨g0, 0, none⟩) := q1
            have e26 : sl a 26 = .pointer (some ⟨g0, 0, none⟩) := q2
            have e27 : sl a 27 = .pointer (some ⟨g0, 1, none⟩) := q3
            have e28 : sl a 28 = .slice A1 x1.length c1 := q4
            have e29 : sl a 29 = .pointer (some ⟨g0, 0, none⟩) := q5
            have e30 : sl a 30 = .pointer (some ⟨g0, 0, none⟩) := q6
            have e31 : sl a 31 = .pointer (some ⟨g0, 7, none⟩) := q7
            have e32 : sl a 32 = .int .i64 x7 := q8
            have e33 : sl a 33 = .slice (slA (sl a 33)) ((([x7] : List Int) : List Int).length) ((([x7] : List Int) : List Int).length) := q9
            have e34 : sl a 34 = .slice (slA (sl a 34)) ((x1 ++ ([x7] : List Int)).length) (slC (sl a 34)) := q10
            have e35 : sl a 35 = .pointer (some ⟨g0, 0, none⟩) := q11
            have e36 : sl a 36 = .pointer (some ⟨g0, 1, none⟩) := q12
            replace S : St w0 u (Asn.row 3 1 (.slice (slA (sl a 33)) ((([x7] : List Int) : List Int).length) ((([x7] : List Int) : List Int).length)) ((([x7] : List Int) : List Int).length) (([x7] : List Int).flatMap eI) :: Asn.row 3 1 (.slice (slA (sl a 34)) ((x1 ++ ([x7] : List Int)).length) (slC (sl a 34))) ((x1 ++ ([x7] : List Int)).length) ((x1 ++ ([x7] : List Int)).flatMap eI) :: Asn.box g0 28 #[.int .i64 (w64 (1 - x0)), .slice (slA (sl a 34)) ((x1 ++ ([x7] : List Int)).length) (slC (sl a 34)), .int .i64 x2, .slice A3 x3.length c3, .int .i64 x4, .int .i64 x5, .int .i64 x6, .int .i64 x7] :: Asn.row 3 1 (.slice A3 x3.length c3) x3.length (x3.flatMap eI) :: X) := S
            clear q0 q1 q2 q3 q4 q5 q6 q7 q8 q9 q10 q11 q12 q13
            generalize slA (sl a 33) = B109 at *
            generalize slA (sl a 34) = B110 at *
            generalize slC (sl a 34) = d111 at *
            have hF := hF.region hB [(24, .pointer (some ⟨g0, 0, none⟩)), (25, .pointer (some ⟨g0, 0, none⟩)), (26, .pointer (some ⟨g0, 0, none⟩)), (27, .pointer (some ⟨g0, 1, none⟩)), (28, .slice A1 x1.length c1), (29, .pointer (some ⟨g0, 0, none⟩)), (30, .pointer (some ⟨g0, 0, none⟩)), (31, .pointer (some ⟨g0, 7, none⟩)), (32, .int .i64 x7), (33, .slice B109 ((([x7] : List Int) : List Int).length) ((([x7] : List Int) : List Int).length)), (34, .slice B110 ((x1 ++ ([x7] : List Int)).length) d111), (35, .pointer (some ⟨g0, 0, none⟩)), (36, .pointer (some ⟨g0, 1, none⟩))] (allSl_mem ⟨e24, e25, e26, e27, e28, e29, e30, e31, e32, e33, e34, e35, e36, trivial⟩) rfl
            clear hB e24 e25 e26 e27 e28 e29 e30 e31 e32 e33 e34 e35 e36
            obtain rfl := Option.some.inj hM106
            exact ⟨x1 ++ ([x7] : List Int), B110, d111, rfl, hF.keep _ trivial, S.selT (M := [.box g0 28 #[.int .i64 (w64 (1 - x0)), .slice B110 ((x1 ++ ([x7] : List Int)).length) d111, .int .i64 x2, .slice A3 x3.length c3, .int .i64 x4, .int .i64 x5, .int .i64 x6, .int .i64 x7], .row 3 1 (.slice B110 ((x1 ++ ([x7] : List Int)).length) d111) ((x1 ++ ([x7] : List Int)).length) ((x1 ++ ([x7] : List Int)).flatMap eI), .row 3 1 (.slice A3 x3.length c3) x3.length (x3.flatMap eI)]) 4 [2, 1, 3] rfl rfl rfl⟩
      · rintro a u ⟨p102, B104, d105, rfl, hF, S⟩
        repeat with_reducible (first | refine then_ret ?_ | refine in_ret ?_ | refine in_nrm ?_)
        refine ret0_gw (.inr rfl) hF rfl  ?_
        obtain rfl := Option.some.inj hM
        exact ⟨B104, p102.length, d105, A3, x3.length, c3, rfl, rfl, rfl, S.selT (M := [.box g0 28 #[.int .i64 (w64 (1 - x0)), .slice B104 p102.length d105, .int .i64 x2, .slice A3 x3.length c3, .int .i64 x4, .int .i64 x5, .int .i64 x6, .int .i64 x7], .row 3 1 (.slice B104 p102.length d105) p102.length (p102.flatMap eI), .row 3 1 (.slice A3 x3.length c3) x3.length (x3.flatMap eI)]) 3 [0, 1, 2] rfl rfl rfl⟩
    · replace hM := bif_t hc101 hM
      refine cond_t hF rfl hc101 ?_
      refine wp_ret ?_
      repeat with_reducible (first | refine then_ret ?_ | refine in_ret ?_ | refine in_nrm ?_)
      refine ret0_gw (.inl rfl) hF rfl  ?_
      obtain rfl := Option.some.inj hM
      exact ⟨A1, x1.length, c1, A3, x3.length, c3, rfl, rfl, rfl, S.selT (M := [.box g0 28 #[.int .i64 x0, .slice A1 x1.length c1, .int .i64 x2, .slice A3 x3.length c3, .int .i64 x4, .int .i64 x5, .int .i64 x6, .int .i64 x7], .row 3 1 (.slice A1 x1.length c1) x1.length (x1.flatMap eI), .row 3 1 (.slice A3 x3.length c3) x3.length (x3.flatMap eI)]) 3 [0, 1, 2] rfl rfl rfl⟩

end Go.Proofs.Ytceghkdjpkegaaa
