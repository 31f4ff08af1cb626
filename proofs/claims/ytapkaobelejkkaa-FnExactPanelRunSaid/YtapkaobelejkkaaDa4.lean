/- Calls return what the models say. -/
import Derived.Test.YtapkaobelejkkaaDa3
namespace Go.Proofs.Ytapkaobelejkkaa
open Go.ChangeShapes Go.WideShapes Go.ChangeAt Go.RowKit
set_option linter.unusedVariables false
set_option linter.unusedSimpArgs false

set_option maxHeartbeats 4000000 in
theorem c_laws_heldStepS {x0 : List (Int × Bool)} {x1 : Int} {A0 : Option Addr} {n0 c0 : Nat} {w : World} {r : Int} (h0 : Rt w 2 eStep A0 n0 c0 x0) (hM : m_laws_heldStepS x0 x1 = some r) :
    Calls Try.prog 27 #[.slice A0 n0 c0, .int .i64 x1] w (fun e w' => e = .returned (.int .i64 r) ∧ St w w' []) := by
  obtain rfl := h0.len
  unfold m_laws_heldStepS at hM
  refine calls_gw Try.func27 Try.ntmps27 rfl [(0, .slice A0 x0.length c0), (1, .int .i64 x1)] ⟨rfl, rfl, trivial⟩ rfl ?_
  intro a hF
  have S := St.nil w
  refine wp_seq ?_
  refine wp_region_lit ?_
  refine op_val (v := .int .i64 0) rfl rfl hF rfl (run_assign rfl rfl) ?_; clear hF; intro a hF
  refine wpList_nil ?_
  refine wp_seq ?_
  refine wp_seq ?_
  refine wp_region_lit ?_
  refine op_val (v := .int .i64 0) rfl rfl hF rfl (run_assign rfl rfl) ?_; clear hF; intro a hF
  refine wpList_nil ?_
  obtain ⟨o102, hM103, hM⟩ := bind_ex hM
  refine wp_cut (fun a u => ∃ (p101 : Int), (Sum.inl p101) = o102 ∧ Fr a 33 [(1, .int .i64 p101), (4, .int .i64 0)] ∧ St w u []) ?_ ?_
  · have _ := trivial
    refine wp_block ?_
    refine loop_gw (fun m a u => ∃ (p104 : Int × Int), m_laws_heldStepS_l1 x0 m p104 = some _ ∧ Fr a 33 [(0, .slice A0 x0.length c0), (1, .int .i64 p104.1), (4, .int .i64 0), (5, .int .i64 p104.2)] ∧ St w u []) FUEL ⟨(x1, 0), hM103, hF.keep _ ⟨rfl, rfl, rfl, rfl, trivial⟩, S.sel [] rfl rfl⟩ ?_
    clear hF S hM103; rintro m a u ⟨p104, hM103, hF, S⟩
    rcases m with _ | f1
    · exact none_some hM103
    rw [m_laws_heldStepS_l1.eq_2] at hM103
    refine wp_seq ?_
    refine wp_seq ?_
    refine wp_region_lit ?_
    refine op_val (v := .int .i64 p104.2) rfl rfl hF rfl (run_move rfl (hF.ev rfl)) ?_; clear hF; intro a hF
    refine op_val (v := .slice A0 x0.length c0) rfl rfl hF rfl (run_move rfl (hF.ev rfl)) ?_; clear hF; intro a hF
    refine op_val (v := .int .i64 (x0.length : Int)) rfl rfl hF rfl (run_lenL rfl rfl Try.underlying48 (hF.ev rfl)) ?_; clear hF; intro a hF
    refine op_val (v := .bool (ltB p104.2 (x0.length : Int))) rfl rfl hF rfl (run_lss (hF.ev rfl) (hF.ev rfl) rfl) ?_; clear hF; intro a hF
    refine wpList_nil ?_
    cases hc105 : (ltB p104.2 (x0.length : Int))
    · replace hM103 := bif_f hc105 hM103
      refine cond_f hF rfl hc105 ?_
      refine wp_exit ?_
      repeat with_reducible (first | refine then_exit ?_ | refine in_hit ?_ | refine in_miss rfl ?_)
      obtain rfl := Option.some.inj hM103
      exact ⟨p104.1, rfl, hF.keep _ ⟨rfl, rfl, trivial⟩, S.sel [] rfl rfl⟩
    · replace hM103 := bif_t hc105 hM103
      refine cond_t hF rfl hc105 ?_
      refine wp_skip ?_
      refine wp_seq ?_
      refine wp_block ?_
      refine wp_seq ?_
      refine wp_seq ?_
      refine wp_region_lit ?_
      refine op_val (v := .slice A0 x0.length c0) rfl rfl hF rfl (run_move rfl (hF.ev rfl)) ?_; clear hF; intro a hF
      refine op_val (v := .int .i64 p104.2) rfl rfl hF rfl (run_move rfl (hF.ev rfl)) ?_; clear hF; intro a hF
      obtain ⟨hk106, hM103⟩ := chk_ex hM103
      replace hk106 := ixB_t hk106
      refine op_val (v := .pointer (some ⟨adB A0, adO A0 + p104.2.toNat * 2, none⟩)) rfl rfl hF rfl (run_indexAddr (b := adB A0) (off := adO A0) rfl Try.underlying48 sz59 ((hF.ev rfl).trans (congrArg (fun A => Value.slice A x0.length c0) ((S.rc0 h0.rc).rd.ad (ix_pos hk106)))) (hF.ev rfl) hk106.1 hk106.2 (k' := adO A0 + p104.2.toNat * 2) rfl) ?_; clear hF; intro a hF
      refine op_val (v := .pointer (some ⟨adB A0, adO A0 + p104.2.toNat * 2, none⟩)) rfl rfl hF rfl (run_fieldAddr rfl fl59_0 (hF.ev rfl) rfl) ?_; clear hF; intro a hF
      refine op_val (v := .int .i64 ((x0.getD p104.2.toNat ((0, false) : Int × Bool)).1)) rfl rfl hF rfl (run_load1 rfl one3 (hF.ev rfl) (rd_el0 (l := x0) (S.rc0 h0.rc).rd rfl eStep_len ((0, false) : Int × Bool) (ix_ltn hk106 rfl) rfl)) ?_; clear hF; intro a hF
      refine op_val (v := .int .i64 p104.1) rfl rfl hF rfl (run_move rfl (hF.ev rfl)) ?_; clear hF; intro a hF
      refine op_val (v := .bool (((x0.getD p104.2.toNat ((0, false) : Int × Bool)).1) != p104.1)) rfl rfl hF rfl (run_neq (hF.ev rfl) (hF.ev rfl) rfl) ?_; clear hF; intro a hF
      refine wpList_nil ?_
      cases hc107 : (((x0.getD p104.2.toNat ((0, false) : Int × Bool)).1) != p104.1)
      · replace hM103 := bif_f hc107 hM103
        refine cond_f hF rfl hc107 ?_
        refine wp_skip ?_
        refine wp_seq ?_
        refine wp_region_lit ?_
        refine op_val (v := .int .i64 p104.1) rfl rfl hF rfl (run_move rfl (hF.ev rfl)) ?_; clear hF; intro a hF
        refine op_val (v := .int .i64 (w64 (p104.1 + 1))) rfl rfl hF rfl (run_add (z := w64 (p104.1 + 1)) (hF.ev rfl) rfl rfl rfl) ?_; clear hF; intro a hF
        refine op_val (v := .int .i64 (w64 (p104.1 + 1))) rfl rfl hF rfl (run_assign rfl (hF.ev rfl)) ?_; clear hF; intro a hF
        refine wpList_nil ?_
        refine wp_seq ?_
        refine wp_seq ?_
        refine wp_region_lit ?_
        refine op_val (v := .slice A0 x0.length c0) rfl rfl hF rfl (run_move rfl (hF.ev rfl)) ?_; clear hF; intro a hF
        refine op_val (v := .int .i64 p104.2) rfl rfl hF rfl (run_move rfl (hF.ev rfl)) ?_; clear hF; intro a hF
        obtain ⟨hk108, hM103⟩ := chk_ex hM103
        replace hk108 := ixB_t hk108
        refine op_val (v := .pointer (some ⟨adB A0, adO A0 + p104.2.toNat * 2, none⟩)) rfl rfl hF rfl (run_indexAddr (b := adB A0) (off := adO A0) rfl Try.underlying48 sz59 ((hF.ev rfl).trans (congrArg (fun A => Value.slice A x0.length c0) ((S.rc0 h0.rc).rd.ad (ix_pos hk108)))) (hF.ev rfl) hk108.1 hk108.2 (k' := adO A0 + p104.2.toNat * 2) rfl) ?_; clear hF; intro a hF
        refine op_val (v := .pointer (some ⟨adB A0, adO A0 + p104.2.toNat * 2 + 1, none⟩)) rfl rfl hF rfl (run_fieldAddr rfl fl59_1 (hF.ev rfl) rfl) ?_; clear hF; intro a hF
        refine op_val (v := .bool ((x0.getD p104.2.toNat ((0, false) : Int × Bool)).2)) rfl rfl hF rfl (run_load1 rfl one4 (hF.ev rfl) (rd_el (l := x0) (S.rc0 h0.rc).rd rfl eStep_len ((0, false) : Int × Bool) (ix_ltn hk108 rfl) rfl)) ?_; clear hF; intro a hF
        refine op_val (v := .int .i64 (w64 (p104.1 + 1))) rfl rfl hF rfl (run_move rfl (hF.ev rfl)) ?_; clear hF; intro a hF
        refine op_val (v := .int .i64 (Int.tmod (w64 (p104.1 + 1)) 3)) rfl rfl hF rfl (run_rem (z := Int.tmod (w64 (p104.1 + 1)) 3) (hF.ev rfl) rfl rfl (by decide) rfl) ?_; clear hF; intro a hF
        refine op_val (v := .bool ((Int.tmod (w64 (p104.1 + 1)) 3) == 0)) rfl rfl hF rfl (run_eql (hF.ev rfl) rfl rfl) ?_; clear hF; intro a hF
        refine op_val (v := .bool (((x0.getD p104.2.toNat ((0, false) : Int × Bool)).2) != ((Int.tmod (w64 (p104.1 + 1)) 3) == 0))) rfl rfl hF rfl (run_neqB (hF.ev rfl) (hF.ev rfl) Try.underlying4 rfl) ?_; clear hF; intro a hF
        refine wpList_nil ?_
        cases hc109 : (((x0.getD p104.2.toNat ((0, false) : Int × Bool)).2) != ((Int.tmod (w64 (p104.1 + 1)) 3) == 0))
        · replace hM103 := bif_f hc109 hM103
          refine cond_f hF rfl hc109 ?_
          refine wp_skip ?_
          refine wp_region_lit ?_
          refine op_val (v := .int .i64 (w64 (p104.1 + 1))) rfl rfl hF rfl (run_move rfl (hF.ev rfl)) ?_; clear hF; intro a hF
          refine op_val (v := .int .i64 (w64 ((w64 (p104.1 + 1)) + 1))) rfl rfl hF rfl (run_add (z := w64 ((w64 (p104.1 + 1)) + 1)) (hF.ev rfl) rfl rfl rfl) ?_; clear hF; intro a hF
          refine op_val (v := .int .i64 (w64 ((w64 (p104.1 + 1)) + 1))) rfl rfl hF rfl (run_assign rfl (hF.ev rfl)) ?_; clear hF; intro a hF
          refine wpList_nil ?_
          refine wp_region_lit ?_
          refine op_val (v := .int .i64 p104.2) rfl rfl hF rfl (run_move rfl (hF.ev rfl)) ?_; clear hF; intro a hF
          refine op_val (v := .int .i64 (w64 (p104.2 + 1))) rfl rfl hF rfl (run_add (z := w64 (p104.2 + 1)) (hF.ev rfl) rfl rfl rfl) ?_; clear hF; intro a hF
          refine op_val (v := .int .i64 (w64 (p104.2 + 1))) rfl rfl hF rfl (run_assign rfl (hF.ev rfl)) ?_; clear hF; intro a hF
          refine wpList_nil ?_
          exact ⟨f1, Nat.lt_succ_self _, (w64 ((w64 (p104.1 + 1)) + 1), w64 (p104.2 + 1)), hM103, hF.keep _ ⟨rfl, rfl, rfl, rfl, trivial⟩, S.sel [] rfl rfl⟩
        · replace hM103 := bif_t hc109 hM103
          refine cond_t hF rfl hc109 ?_
          refine wp_seq ?_
          refine wp_region_lit ?_
          refine op_val (v := .int .i64 (-1)) rfl rfl hF rfl (run_assign rfl rfl) ?_; clear hF; intro a hF
          refine wpList_nil ?_
          refine wp_ret ?_
          repeat with_reducible (first | refine then_ret ?_ | refine in_ret ?_ | refine in_nrm ?_)
          refine ret1_gw (.inl rfl) hF rfl (res_tmp (hF.ev rfl)) ?_
          obtain rfl := Option.some.inj hM103
          obtain rfl := Option.some.inj hM
          exact ⟨rfl, S.sel [] rfl rfl⟩
      · replace hM103 := bif_t hc107 hM103
        refine cond_t hF rfl hc107 ?_
        refine wp_seq ?_
        refine wp_region_lit ?_
        refine op_val (v := .int .i64 (-1)) rfl rfl hF rfl (run_assign rfl rfl) ?_; clear hF; intro a hF
        refine wpList_nil ?_
        refine wp_ret ?_
        repeat with_reducible (first | refine then_ret ?_ | refine in_ret ?_ | refine in_nrm ?_)
        refine ret1_gw (.inl rfl) hF rfl (res_tmp (hF.ev rfl)) ?_
        obtain rfl := Option.some.inj hM103
        obtain rfl := Option.some.inj hM
        exact ⟨rfl, S.sel [] rfl rfl⟩
  · rintro a u ⟨p101, rfl, hF, S⟩
    replace hM := elim_l hM
    refine wp_seq ?_
    refine wp_region_lit ?_
    refine op_val (v := .int .i64 p101) rfl rfl hF rfl (run_move rfl (hF.ev rfl)) ?_; clear hF; intro a hF
    refine op_val (v := .int .i64 p101) rfl rfl hF rfl (run_assign rfl (hF.ev rfl)) ?_; clear hF; intro a hF
    refine wpList_nil ?_
    refine wp_ret ?_
    repeat with_reducible (first | refine then_ret ?_ | refine in_ret ?_ | refine in_nrm ?_)
    refine ret1_gw (.inl rfl) hF rfl (res_tmp (hF.ev rfl)) ?_
    obtain rfl := Option.some.inj hM
    exact ⟨rfl, S.sel [] rfl rfl⟩

set_option maxHeartbeats 4000000 in
theorem c_laws_FnExactOperations {x0 : List Bool} {x1 : Int} {x2 : Int} {x3 : Bool} {x4 : Int} {x5 : List (Int × Int × Int × Bool)} {A0 : Option Addr} {n0 c0 : Nat} {A5 : Option Addr} {n5 c5 : Nat} {w : World} {r : Bool} (h0 : Rt w 1 eB A0 n0 c0 x0) (h5 : Rt w 4 eLCommand A5 n5 c5 x5) (hM : m_laws_FnExactOperations x0 x1 x2 x3 x4 x5 = some r) :
    Calls Try.prog 5 #[.agg #[.slice A0 n0 c0, .int .i64 x1, .int .i64 x2, .bool x3, .int .i64 x4], .slice A5 n5 c5] w (fun e w' => e = .returned (.bool r) ∧ St w w' []) := by
  obtain rfl := h0.len
  obtain rfl := h5.len
  unfold m_laws_FnExactOperations at hM
  refine calls_gw Try.func5 Try.ntmps5 rfl [(0, .agg #[.slice A0 x0.length c0, .int .i64 x1, .int .i64 x2, .bool x3, .int .i64 x4]), (1, .slice A5 x5.length c5)] ⟨rfl, rfl, trivial⟩ rfl ?_
  intro a hF
  have S := St.nil w
  refine wp_seq ?_
  refine wp_region_lit ?_
  refine op_new (cs := #[.slice A0 x0.length c0, .int .i64 x1, .int .i64 x2, .bool x3, .int .i64 x4]) rfl rfl hF rfl S (run_box rfl (hF.ev rfl) rfl) ?_; clear hF S; intro a g101 u hF S
  refine op_val (v := .bool false) rfl rfl hF rfl (run_assign rfl rfl) ?_; clear hF; intro a hF
  refine wpList_nil ?_
  refine wp_seq ?_
  refine wp_region_lit ?_
  refine op_val (v := .int .i64 1048576) rfl rfl hF rfl (run_assign rfl rfl) ?_; clear hF; intro a hF
  refine wpList_nil ?_
  refine wp_seq ?_
  refine wp_region_lit ?_
  refine op_val (v := .agg #[.slice A0 x0.length c0, .int .i64 x1, .int .i64 x2, .bool x3, .int .i64 x4]) rfl rfl hF rfl (run_loadN rfl ag24 (hF.ev rfl) rfl ((S.free 0 rfl).cells 0 #[.slice A0 x0.length c0, .int .i64 x1, .int .i64 x2, .bool x3, .int .i64 x4] rfl)) ?_; clear hF; intro a hF
  refine op_val (v := .int .i64 1048576) rfl rfl hF rfl (run_move rfl (hF.ev rfl)) ?_; clear hF; intro a hF
  obtain ⟨p102, h102, hM⟩ := bind_ex hM
  refine op_call rfl rfl hF rfl (run_call (vs := [.agg #[.slice A0 x0.length c0, .int .i64 x1, .int .i64 x2, .bool x3, .int .i64 x4], .int .i64 1048576]) rfl rfl co6 ⟨(hF.ev rfl), (hF.ev rfl), trivial⟩) (c_laws_szPanel (x0 := x0) (x1 := x1) (x2 := x2) (x3 := x3) (x4 := x4) (x5 := 1048576) ⟨(S.rc0 h0.rc), rfl⟩ h102) ?_
  rintro e u ⟨rfl, T⟩
  refine ⟨_, rfl, ?_⟩
  clear hF; intro a hF
  replace S := S.call0 T; clear T
  refine op_val (v := .int .i64 p102) rfl rfl hF rfl (run_assign rfl (hF.ev rfl)) ?_; clear hF; intro a hF
  refine wpList_nil ?_
  refine wp_seq ?_
  refine wp_seq ?_
  refine wp_region_lit ?_
  refine op_val (v := .int .i64 p102) rfl rfl hF rfl (run_move rfl (hF.ev rfl)) ?_; clear hF; intro a hF
  refine op_val (v := .bool (ltB p102 0)) rfl rfl hF rfl (run_lss (hF.ev rfl) rfl rfl) ?_; clear hF; intro a hF
  refine wpList_nil ?_
  cases hc103 : (ltB p102 0)
  · replace hM := bif_f hc103 hM
    refine cond_f hF rfl hc103 ?_
    refine wp_skip ?_
    refine wp_seq ?_
    refine wp_region_lit ?_
    refine op_val (v := .slice A5 x5.length c5) rfl rfl hF rfl (run_move rfl (hF.ev rfl)) ?_; clear hF; intro a hF
    refine op_val (v := .int .i64 p102) rfl rfl hF rfl (run_move rfl (hF.ev rfl)) ?_; clear hF; intro a hF
    obtain ⟨p104, h104, hM⟩ := bind_ex hM
    refine op_call rfl rfl hF rfl (run_call (vs := [.slice A5 x5.length c5, .int .i64 p102]) rfl rfl co14 ⟨(hF.ev rfl), (hF.ev rfl), trivial⟩) (c_laws_szCommandS (x0 := x5) (x1 := p102) ⟨(S.rc0 h5.rc), rfl⟩ h104) ?_
    rintro e u ⟨rfl, T⟩
    refine ⟨_, rfl, ?_⟩
    clear hF; intro a hF
    replace S := S.call0 T; clear T
    refine op_val (v := .int .i64 p104) rfl rfl hF rfl (run_assign rfl (hF.ev rfl)) ?_; clear hF; intro a hF
    refine wpList_nil ?_
    refine wp_seq ?_
    refine wp_seq ?_
    refine wp_region_lit ?_
    refine op_val (v := .int .i64 p104) rfl rfl hF rfl (run_move rfl (hF.ev rfl)) ?_; clear hF; intro a hF
    refine op_val (v := .bool (ltB p104 0)) rfl rfl hF rfl (run_lss (hF.ev rfl) rfl rfl) ?_; clear hF; intro a hF
    refine wpList_nil ?_
    cases hc105 : (ltB p104 0)
    · replace hM := bif_f hc105 hM
      refine cond_f hF rfl hc105 ?_
      refine wp_skip ?_
      refine wp_seq ?_
      refine wp_region_lit ?_
      refine op_val (v := .agg #[.slice A0 x0.length c0, .int .i64 x1, .int .i64 x2, .bool x3, .int .i64 x4]) rfl rfl hF rfl (run_loadN rfl ag24 (hF.ev rfl) rfl ((S.free 0 rfl).cells 0 #[.slice A0 x0.length c0, .int .i64 x1, .int .i64 x2, .bool x3, .int .i64 x4] rfl)) ?_; clear hF; intro a hF
      obtain ⟨p106, h106, hM⟩ := bind_ex hM
      refine op_call rfl rfl hF rfl (run_call (vs := [.agg #[.slice A0 x0.length c0, .int .i64 x1, .int .i64 x2, .bool x3, .int .i64 x4]]) rfl rfl co8 ⟨(hF.ev rfl), trivial⟩) (c_laws_toPanel (x0 := x0) (x1 := x1) (x2 := x2) (x3 := x3) (x4 := x4) ⟨(S.rc0 h0.rc), rfl⟩ h106) ?_
      rintro e u ⟨B107, n108, d109, rfl, rfl, T⟩
      refine ⟨_, rfl, ?_⟩
      clear hF; intro a hF
      replace S := S.call1 T; clear T
      refine op_val (v := .slice A5 x5.length c5) rfl rfl hF rfl (run_move rfl (hF.ev rfl)) ?_; clear hF; intro a hF
      obtain ⟨p110, h110, hM⟩ := bind_ex hM
      refine op_call rfl rfl hF rfl (run_call (vs := [.slice A5 x5.length c5]) rfl rfl co16 ⟨(hF.ev rfl), trivial⟩) (c_laws_toCommandS (x0 := x5) ⟨(S.rc0 h5.rc), rfl⟩ h110) ?_
      rintro e u ⟨B111, n112, d113, rfl, rfl, T⟩
      refine ⟨_, rfl, ?_⟩
      clear hF; intro a hF
      replace S := S.call1 T; clear T
      obtain ⟨p114, h114, hM⟩ := bind_ex hM
      refine op_call rfl rfl hF rfl (run_call (vs := [.agg #[.slice B107 p106.1.length d109, .int .i64 p106.2.1, .int .i64 p106.2.2.1, .bool p106.2.2.2.1, .int .i64 p106.2.2.2.2], .slice B111 p110.length d113]) rfl rfl co23 ⟨(hF.ev rfl), (hF.ev rfl), trivial⟩) (c_spec_Operations (x0 := p106.1) (x1 := p106.2.1) (x2 := p106.2.2.1) (x3 := p106.2.2.2.1) (x4 := p106.2.2.2.2) (x5 := p110) ⟨(S.rc 1 rfl), rfl⟩ ⟨(S.rc 0 rfl), rfl⟩ h114) ?_
      rintro e u ⟨B115, n116, d117, rfl, rfl, T⟩
      refine ⟨_, rfl, ?_⟩
      clear hF; intro a hF
      replace S := S.call1 T; clear T
      refine op_val (v := .slice B115 p114.length d117) rfl rfl hF rfl (run_assign rfl (hF.ev rfl)) ?_; clear hF; intro a hF
      refine wpList_nil ?_
      refine wp_seq ?_
      refine wp_region_lit ?_
      refine op_val (v := .agg #[.slice A0 x0.length c0, .int .i64 x1, .int .i64 x2, .bool x3, .int .i64 x4]) rfl rfl hF rfl (run_loadN rfl ag24 (hF.ev rfl) rfl ((S.free 3 rfl).cells 0 #[.slice A0 x0.length c0, .int .i64 x1, .int .i64 x2, .bool x3, .int .i64 x4] rfl)) ?_; clear hF; intro a hF
      obtain ⟨p118, h118, hM⟩ := bind_ex hM
      refine op_call rfl rfl hF rfl (run_call (vs := [.agg #[.slice A0 x0.length c0, .int .i64 x1, .int .i64 x2, .bool x3, .int .i64 x4]]) rfl rfl co8 ⟨(hF.ev rfl), trivial⟩) (c_laws_toPanel (x0 := x0) (x1 := x1) (x2 := x2) (x3 := x3) (x4 := x4) ⟨(S.rc0 h0.rc), rfl⟩ h118) ?_
      rintro e u ⟨B119, n120, d121, rfl, rfl, T⟩
      refine ⟨_, rfl, ?_⟩
      clear hF; intro a hF
      replace S := S.call1 T; clear T
      refine op_new (cs := #[.slice none 0 0, .int .i64 0, .int .i64 0, .bool false, .int .i64 0]) rfl rfl hF rfl S (run_allocZ rfl zr28) ?_; clear hF S; intro a g122 u hF S
      refine op_do rfl rfl (run_store (cs' := #[.slice B119 p118.1.length d121, .int .i64 p118.2.1, .int .i64 p118.2.2.1, .bool p118.2.2.2.1, .int .i64 p118.2.2.2.2]) rfl sz28 (hF.ev rfl) (hF.ev rfl) rfl rfl rfl (S.free 0 rfl) rfl rfl) ?_; replace S := S.put 0 rfl (#[.slice B119 p118.1.length d121, .int .i64 p118.2.1, .int .i64 p118.2.2.1, .bool p118.2.2.2.1, .int .i64 p118.2.2.2.2])
      generalize World.setRow _ _ _ = u at S ⊢
      refine wpList_nil ?_
      refine wp_seq ?_
      refine wp_region_lit ?_
      refine op_val (v := .slice A5 x5.length c5) rfl rfl hF rfl (run_move rfl (hF.ev rfl)) ?_; clear hF; intro a hF
      obtain ⟨p123, h123, hM⟩ := bind_ex hM
      refine op_call rfl rfl hF rfl (run_call (vs := [.slice A5 x5.length c5]) rfl rfl co16 ⟨(hF.ev rfl), trivial⟩) (c_laws_toCommandS (x0 := x5) ⟨(S.rc0 h5.rc), rfl⟩ h123) ?_
      rintro e u ⟨B124, n125, d126, rfl, rfl, T⟩
      refine ⟨_, rfl, ?_⟩
      clear hF; intro a hF
      replace S := S.call1 T; clear T
      refine op_val (v := .slice B124 p123.length d126) rfl rfl hF rfl (run_assign rfl (hF.ev rfl)) ?_; clear hF; intro a hF
      refine wpList_nil ?_
      refine wp_seq ?_
      refine wp_region_lit ?_
      refine op_val (v := .agg #[.slice B119 p118.1.length d121, .int .i64 p118.2.1, .int .i64 p118.2.2.1, .bool p118.2.2.2.1, .int .i64 p118.2.2.2.2]) rfl rfl hF rfl (run_loadN rfl ag28 (hF.ev rfl) rfl ((S.free 1 rfl).cells 0 #[.slice B119 p118.1.length d121, .int .i64 p118.2.1, .int .i64 p118.2.2.1, .bool p118.2.2.2.1, .int .i64 p118.2.2.2.2] rfl)) ?_; clear hF; intro a hF
      refine op_val (v := .slice B124 p123.length d126) rfl rfl hF rfl (run_move rfl (hF.ev rfl)) ?_; clear hF; intro a hF
      obtain ⟨p127, h127, hM⟩ := bind_ex hM
      refine op_call rfl rfl hF rfl (run_call (vs := [.agg #[.slice B119 p118.1.length d121, .int .i64 p118.2.1, .int .i64 p118.2.2.1, .bool p118.2.2.2.1, .int .i64 p118.2.2.2.2], .slice B124 p123.length d126]) rfl rfl co24 ⟨(hF.ev rfl), (hF.ev rfl), trivial⟩) (c_impl_Operations (x0 := p118.1) (x1 := p118.2.1) (x2 := p118.2.2.1) (x3 := p118.2.2.2.1) (x4 := p118.2.2.2.2) (x5 := p123) ⟨(S.rc 2 rfl), rfl⟩ ⟨(S.rc 0 rfl), rfl⟩ h127) ?_
      rintro e u ⟨B128, n129, d130, rfl, rfl, T⟩
      refine ⟨_, rfl, ?_⟩
      clear hF; intro a hF
      replace S := S.call1 T; clear T
      refine op_val (v := .slice B128 p127.length d130) rfl rfl hF rfl (run_assign rfl (hF.ev rfl)) ?_; clear hF; intro a hF
      refine wpList_nil ?_
      refine wp_seq ?_
      refine wp_seq ?_
      refine wp_region_lit ?_
      refine op_val (v := .slice B128 p127.length d130) rfl rfl hF rfl (run_move rfl (hF.ev rfl)) ?_; clear hF; intro a hF
      refine op_val (v := .slice B115 p114.length d117) rfl rfl hF rfl (run_move rfl (hF.ev rfl)) ?_; clear hF; intro a hF
      obtain ⟨p131, h131, hM⟩ := bind_ex hM
      refine op_call rfl rfl hF rfl (run_call (vs := [.slice B128 p127.length d130, .slice B115 p114.length d117]) rfl rfl co25 ⟨(hF.ev rfl), (hF.ev rfl), trivial⟩) (c_laws_eqStepS (x0 := p127) (x1 := p114) ⟨(S.rc 0 rfl), rfl⟩ ⟨(S.rc 4 rfl), rfl⟩ h131) ?_
      rintro e u ⟨rfl, T⟩
      refine ⟨_, rfl, ?_⟩
      clear hF; intro a hF
      replace S := S.call0 T; clear T
      refine op_val (v := .bool (!p131)) rfl rfl hF rfl (run_not rfl (hF.ev rfl)) ?_; clear hF; intro a hF
      refine wpList_nil ?_
      cases hc132 : (p131)
      · replace hM := bif_f hc132 hM
        refine cond_t hF rfl (not_t hc132) ?_
        refine wp_seq ?_
        refine wp_region_lit ?_
        refine op_val (v := .bool false) rfl rfl hF rfl (run_assign rfl rfl) ?_; clear hF; intro a hF
        refine wpList_nil ?_
        refine wp_ret ?_
        repeat with_reducible (first | refine then_ret ?_ | refine in_ret ?_ | refine in_nrm ?_)
        refine ret1_gw (.inl rfl) hF rfl (res_tmp (hF.ev rfl)) ?_
        obtain rfl := Option.some.inj hM
        exact ⟨rfl, S.sel [] rfl rfl⟩
      · replace hM := bif_t hc132 hM
        refine cond_f hF rfl (not_f hc132) ?_
        refine wp_skip ?_
        refine wp_seq ?_
        refine wp_seq ?_
        obtain ⟨p133, h133, hM⟩ := bind_ex hM
        obtain ⟨p137, h137, hM⟩ := bind_ex hM
        refine region_gw (D := [40, 41, 42, 43, 44]) (Lr := [.row 59 2 (.slice B128 p127.length d130) p127.length (p127.flatMap eStep), .row 32 4 (.slice B124 p123.length d126) p123.length (p123.flatMap eCommand), .box g122 28 #[.slice B119 p118.1.length d121, .int .i64 p118.2.1, .int .i64 p118.2.2.1, .bool p118.2.2.2.1, .int .i64 p118.2.2.2.2], .row 4 1 (.slice B119 p118.1.length d121) p118.1.length (p118.1.flatMap eB), .row 59 2 (.slice B115 p114.length d117) p114.length (p114.flatMap eStep), .row 32 4 (.slice B111 p110.length d113) p110.length (p110.flatMap eCommand), .row 4 1 (.slice B107 p106.1.length d109) p106.1.length (p106.1.flatMap eB), .box g101 24 #[.slice A0 x0.length c0, .int .i64 x1, .int .i64 x2, .bool x3, .int .i64 x4]]) (deps := (fun | 0 => [40] | 1 => [41] | 2 => [42] | 3 => [43] | 4 => [44] | _ => [])) (rd := (fun | 3 => [2] | _ => [])) (zr := (fun _ => []))
          (φ := fun i vs => match i, vs with | 0, [v40] => v40 = .agg #[.slice B119 p118.1.length d121, .int .i64 p118.2.1, .int .i64 p118.2.2.1, .bool p118.2.2.2.1, .int .i64 p118.2.2.2.2] | 1, [v41] => v41 = .agg #[.slice A0 x0.length c0, .int .i64 x1, .int .i64 x2, .bool x3, .int .i64 x4] | 2, [v42] => v42 = .agg #[.slice (slA (vtup v42 0)) p133.1.length (slC (vtup v42 0)), .int .i64 p133.2.1, .int .i64 p133.2.2.1, .bool p133.2.2.2.1, .int .i64 p133.2.2.2.2] | 3, [v43] => v43 = .bool p137 | 4, [v44] => v44 = .bool (!p137) | _, _ => True)
          (C := fun i vs => match i, vs with | 2, [v42] => [.row 4 1 (.slice (slA (vtup v42 0)) p133.1.length (slC (vtup v42 0))) p133.1.length (p133.1.flatMap eB)] | _, _ => [])
          (κ := (fun _ => none)) (Z := (fun _ => [])) mixed hF (by kernel_rfl) S ?_ ?_
        · refine ⟨?_, ?_, ?_, ?_, ?_, trivial⟩
          · intro a u X hB hu hp hr hz hl S
            replace S : St w u ([] ++ X) := S
            exact .inl ⟨rfl, .agg #[.slice B119 p118.1.length d121, .int .i64 p118.2.1, .int .i64 p118.2.2.1, .bool p118.2.2.2.1, .int .i64 p118.2.2.2.2], u, (run_loadN rfl ag28 (hF.evB hB rfl rfl) rfl ((gr_box S hl 2 rfl).cells 0 #[.slice B119 p118.1.length d121, .int .i64 p118.2.1, .int .i64 p118.2.2.1, .bool p118.2.2.2.1, .int .i64 p118.2.2.2.2] rfl)), rfl, S⟩
          · intro a u X hB hu hp hr hz hl S
            replace S : St w u ([] ++ X) := S
            exact .inl ⟨rfl, .agg #[.slice A0 x0.length c0, .int .i64 x1, .int .i64 x2, .bool x3, .int .i64 x4], u, (run_loadN rfl ag24 (hF.evB hB rfl rfl) rfl ((gr_box S hl 7 rfl).cells 0 #[.slice A0 x0.length c0, .int .i64 x1, .int .i64 x2, .bool x3, .int .i64 x4] rfl)), rfl, S⟩
          · intro a u X hB hu hp hr hz hl S
            replace S : St w u ([] ++ X) := S
            have e41 : sl a 41 = .agg #[.slice A0 x0.length c0, .int .i64 x1, .int .i64 x2, .bool x3, .int .i64 x4] := hp 1 rfl
            refine .inr (.inr (.inl ⟨rfl, _, _, (run_call (vs := [.agg #[.slice A0 x0.length c0, .int .i64 x1, .int .i64 x2, .bool x3, .int .i64 x4]]) rfl rfl co8 ⟨(ev_sl e41), trivial⟩), ?_⟩))
            refine Calls.mono (c_laws_toPanel (x0 := x0) (x1 := x1) (x2 := x2) (x3 := x3) (x4 := x4) ⟨(S.rc0 h0.rc), rfl⟩ h133) ?_
            rintro e w1 ⟨B134, n135, d136, rfl, rfl, T⟩
            exact ⟨_, rfl, rfl, S.call1 T⟩
          · intro a u X hB hu hp hr hz hl S
            replace S : St w u ([] ++ X) := S
            have e40 : sl a 40 = .agg #[.slice B119 p118.1.length d121, .int .i64 p118.2.1, .int .i64 p118.2.2.1, .bool p118.2.2.2.1, .int .i64 p118.2.2.2.2] := hp 0 rfl
            have e42 : sl a 42 = .agg #[.slice (slA (vtup (sl a 42) 0)) p133.1.length (slC (vtup (sl a 42) 0)), .int .i64 p133.2.1, .int .i64 p133.2.2.1, .bool p133.2.2.2.1, .int .i64 p133.2.2.2.2] := hp 2 rfl
            refine .inr (.inr (.inl ⟨rfl, _, _, (run_call (vs := [.agg #[.slice B119 p118.1.length d121, .int .i64 p118.2.1, .int .i64 p118.2.2.1, .bool p118.2.2.2.1, .int .i64 p118.2.2.2.2], .agg #[.slice (slA (vtup (sl a 42) 0)) p133.1.length (slC (vtup (sl a 42) 0)), .int .i64 p133.2.1, .int .i64 p133.2.2.1, .bool p133.2.2.2.1, .int .i64 p133.2.2.2.2]]) rfl rfl co11 ⟨(ev_sl e40), (ev_sl e42), trivial⟩), ?_⟩))
            refine Calls.mono (c_laws_eqPanel (x0 := p118.1) (x1 := p118.2.1) (x2 := p118.2.2.1) (x3 := p118.2.2.2.1) (x4 := p118.2.2.2.2) (x5 := p133.1) (x6 := p133.2.1) (x7 := p133.2.2.1) (x8 := p133.2.2.2.1) (x9 := p133.2.2.2.2) ⟨(gr_rc S hl 3 rfl), rfl⟩ ⟨(own_rc (show World.ownsRow _ 0 _ _ _ _ _ from S.mem (List.mem_append_right _ (hr 2 (List.mem_of_getElem? (i := 0) rfl) _ (List.mem_of_getElem? (i := 0) rfl))))), rfl⟩ h137) ?_
            rintro e w1 ⟨rfl, T⟩
            exact ⟨_, rfl, rfl, S.call0 T⟩
          · intro a u X hB hu hp hr hz hl S
            replace S : St w u ([] ++ X) := S
            have e43 : sl a 43 = .bool p137 := hp 3 rfl
            exact .inl ⟨rfl, .bool (!p137), u, (run_not rfl (ev_sl e43)), rfl, S⟩
        · intro a u hB hp S
          obtain ⟨q0, q1, q2, q3, q4, _⟩ := hp
          have e40 : sl a 40 = .agg #[.slice B119 p118.1.length d121, .int .i64 p118.2.1, .int .i64 p118.2.2.1, .bool p118.2.2.2.1, .int .i64 p118.2.2.2.2] := q0
          have e41 : sl a 41 = .agg #[.slice A0 x0.length c0, .int .i64 x1, .int .i64 x2, .bool x3, .int .i64 x4] := q1
          have e42 : sl a 42 = .agg #[.slice (slA (vtup (sl a 42) 0)) p133.1.length (slC (vtup (sl a 42) 0)), .int .i64 p133.2.1, .int .i64 p133.2.2.1, .bool p133.2.2.2.1, .int .i64 p133.2.2.2.2] := q2
          have e43 : sl a 43 = .bool p137 := q3
          have e44 : sl a 44 = .bool (!p137) := q4
          replace S : St w u [.row 4 1 (.slice (slA (vtup (sl a 42) 0)) p133.1.length (slC (vtup (sl a 42) 0))) p133.1.length (p133.1.flatMap eB), .row 59 2 (.slice B128 p127.length d130) p127.length (p127.flatMap eStep), .row 32 4 (.slice B124 p123.length d126) p123.length (p123.flatMap eCommand), .box g122 28 #[.slice B119 p118.1.length d121, .int .i64 p118.2.1, .int .i64 p118.2.2.1, .bool p118.2.2.2.1, .int .i64 p118.2.2.2.2], .row 4 1 (.slice B119 p118.1.length d121) p118.1.length (p118.1.flatMap eB), .row 59 2 (.slice B115 p114.length d117) p114.length (p114.flatMap eStep), .row 32 4 (.slice B111 p110.length d113) p110.length (p110.flatMap eCommand), .row 4 1 (.slice B107 p106.1.length d109) p106.1.length (p106.1.flatMap eB), .box g101 24 #[.slice A0 x0.length c0, .int .i64 x1, .int .i64 x2, .bool x3, .int .i64 x4]] := S
          clear q0 q1 q2 q3 q4
          generalize slA (vtup (sl a 42) 0) = B138 at *
          generalize slC (vtup (sl a 42) 0) = d139 at *
          have hF := hF.region hB [(40, .agg #[.slice B119 p118.1.length d121, .int .i64 p118.2.1, .int .i64 p118.2.2.1, .bool p118.2.2.2.1, .int .i64 p118.2.2.2.2]), (41, .agg #[.slice A0 x0.length c0, .int .i64 x1, .int .i64 x2, .bool x3, .int .i64 x4]), (42, .agg #[.slice B138 p133.1.length d139, .int .i64 p133.2.1, .int .i64 p133.2.2.1, .bool p133.2.2.2.1, .int .i64 p133.2.2.2.2]), (43, .bool p137), (44, .bool (!p137))] (allSl_mem ⟨e40, e41, e42, e43, e44, trivial⟩) rfl
          clear hB e40 e41 e42 e43 e44
          cases hc140 : (p137)
          · replace hM := bif_f hc140 hM
            refine cond_t hF rfl (not_t hc140) ?_
            refine wp_seq ?_
            refine wp_region_lit ?_
            refine op_val (v := .bool false) rfl rfl hF rfl (run_assign rfl rfl) ?_; clear hF; intro a hF
            refine wpList_nil ?_
            refine wp_ret ?_
            repeat with_reducible (first | refine then_ret ?_ | refine in_ret ?_ | refine in_nrm ?_)
            refine ret1_gw (.inl rfl) hF rfl (res_tmp (hF.ev rfl)) ?_
            obtain rfl := Option.some.inj hM
            exact ⟨rfl, S.sel [] rfl rfl⟩
          · replace hM := bif_t hc140 hM
            refine cond_f hF rfl (not_f hc140) ?_
            refine wp_skip ?_
            refine wp_seq ?_
            refine wp_seq ?_
            refine wp_region_lit ?_
            refine op_val (v := .slice B124 p123.length d126) rfl rfl hF rfl (run_move rfl (hF.ev rfl)) ?_; clear hF; intro a hF
            refine op_val (v := .slice A5 x5.length c5) rfl rfl hF rfl (run_move rfl (hF.ev rfl)) ?_; clear hF; intro a hF
            obtain ⟨p141, h141, hM⟩ := bind_ex hM
            refine op_call rfl rfl hF rfl (run_call (vs := [.slice A5 x5.length c5]) rfl rfl co16 ⟨(hF.ev rfl), trivial⟩) (c_laws_toCommandS (x0 := x5) ⟨(S.rc0 h5.rc), rfl⟩ h141) ?_
            rintro e u ⟨B142, n143, d144, rfl, rfl, T⟩
            refine ⟨_, rfl, ?_⟩
            clear hF; intro a hF
            replace S := S.call1 T; clear T
            obtain ⟨p145, h145, hM⟩ := bind_ex hM
            refine op_call rfl rfl hF rfl (run_call (vs := [.slice B124 p123.length d126, .slice B142 p141.length d144]) rfl rfl co19 ⟨(hF.ev rfl), (hF.ev rfl), trivial⟩) (c_laws_eqCommandS (x0 := p123) (x1 := p141) ⟨(S.rc 3 rfl), rfl⟩ ⟨(S.rc 0 rfl), rfl⟩ h145) ?_
            rintro e u ⟨rfl, T⟩
            refine ⟨_, rfl, ?_⟩
            clear hF; intro a hF
            replace S := S.call0 T; clear T
            refine op_val (v := .bool (!p145)) rfl rfl hF rfl (run_not rfl (hF.ev rfl)) ?_; clear hF; intro a hF
            refine wpList_nil ?_
            cases hc146 : (p145)
            · replace hM := bif_f hc146 hM
              refine cond_t hF rfl (not_t hc146) ?_
              refine wp_seq ?_
              refine wp_region_lit ?_
              refine op_val (v := .bool false) rfl rfl hF rfl (run_assign rfl rfl) ?_; clear hF; intro a hF
              refine wpList_nil ?_
              refine wp_ret ?_
              repeat with_reducible (first | refine then_ret ?_ | refine in_ret ?_ | refine in_nrm ?_)
              refine ret1_gw (.inl rfl) hF rfl (res_tmp (hF.ev rfl)) ?_
              obtain rfl := Option.some.inj hM
              exact ⟨rfl, S.sel [] rfl rfl⟩
            · replace hM := bif_t hc146 hM
              refine cond_f hF rfl (not_f hc146) ?_
              refine wp_skip ?_
              refine wp_seq ?_
              refine wp_region_lit ?_
              refine op_val (v := .int .i64 1) rfl rfl hF rfl (run_assign rfl rfl) ?_; clear hF; intro a hF
              refine wpList_nil ?_
              refine wp_seq ?_
              refine wp_region_lit ?_
              refine op_val (v := .agg #[.slice B119 p118.1.length d121, .int .i64 p118.2.1, .int .i64 p118.2.2.1, .bool p118.2.2.2.1, .int .i64 p118.2.2.2.2]) rfl rfl hF rfl (run_loadN rfl ag28 (hF.ev rfl) rfl ((S.free 4 rfl).cells 0 #[.slice B119 p118.1.length d121, .int .i64 p118.2.1, .int .i64 p118.2.2.1, .bool p118.2.2.2.1, .int .i64 p118.2.2.2.2] rfl)) ?_; clear hF; intro a hF
              refine op_val (v := .int .i64 1) rfl rfl hF rfl (run_move rfl (hF.ev rfl)) ?_; clear hF; intro a hF
              obtain ⟨p147, h147, hM⟩ := bind_ex hM
              refine op_call rfl rfl hF rfl (run_call (vs := [.agg #[.slice B119 p118.1.length d121, .int .i64 p118.2.1, .int .i64 p118.2.2.1, .bool p118.2.2.2.1, .int .i64 p118.2.2.2.2], .int .i64 1]) rfl rfl co12 ⟨(hF.ev rfl), (hF.ev rfl), trivial⟩) (c_laws_markPanel (x0 := p118.1) (x1 := p118.2.1) (x2 := p118.2.2.1) (x3 := p118.2.2.2.1) (x4 := p118.2.2.2.2) (x5 := 1) rfl (show St w _ [.row 4 1 (.slice B119 p118.1.length d121) p118.1.length (p118.1.flatMap eB), .row 32 4 (.slice B142 p141.length d144) p141.length (p141.flatMap eCommand), .row 4 1 (.slice B138 p133.1.length d139) p133.1.length (p133.1.flatMap eB), .row 59 2 (.slice B128 p127.length d130) p127.length (p127.flatMap eStep), .row 32 4 (.slice B124 p123.length d126) p123.length (p123.flatMap eCommand), .box g122 28 #[.slice B119 p118.1.length d121, .int .i64 p118.2.1, .int .i64 p118.2.2.1, .bool p118.2.2.2.1, .int .i64 p118.2.2.2.2], .row 59 2 (.slice B115 p114.length d117) p114.length (p114.flatMap eStep), .row 32 4 (.slice B111 p110.length d113) p110.length (p110.flatMap eCommand), .row 4 1 (.slice B107 p106.1.length d109) p106.1.length (p106.1.flatMap eB), .box g101 24 #[.slice A0 x0.length c0, .int .i64 x1, .int .i64 x2, .bool x3, .int .i64 x4]] from S.sel [5, 0, 1, 2, 3, 4, 6, 7, 8, 9] rfl rfl) h147) ?_
              rintro e u ⟨rfl, hn148, T⟩
              refine ⟨_, rfl, ?_⟩
              clear hF; intro a hF
              clear S; have S := T; clear T
              refine op_val (v := .int .i64 p147.1) rfl rfl hF rfl (run_assign rfl (hF.ev rfl)) ?_; clear hF; intro a hF
              refine wpList_nil ?_
              refine wp_seq ?_
              refine wp_region_lit ?_
              refine op_val (v := .slice B124 p123.length d126) rfl rfl hF rfl (run_move rfl (hF.ev rfl)) ?_; clear hF; intro a hF
              refine op_val (v := .int .i64 p147.1) rfl rfl hF rfl (run_move rfl (hF.ev rfl)) ?_; clear hF; intro a hF
              obtain ⟨p149, h149, hM⟩ := bind_ex hM
              refine op_call rfl rfl hF rfl (run_call (vs := [.slice B124 p123.length d126, .int .i64 p147.1]) rfl rfl co20 ⟨(hF.ev rfl), (hF.ev rfl), trivial⟩) (c_laws_markCommandS (x0 := p123) (x1 := p147.1) rfl (show St w _ [.row 32 4 (.slice B124 p123.length d126) p123.length (p123.flatMap eCommand), .row 4 1 (.slice B119 p118.1.length d121) p118.1.length (p147.2.flatMap eB), .row 32 4 (.slice B142 p141.length d144) p141.length (p141.flatMap eCommand), .row 4 1 (.slice B138 p133.1.length d139) p133.1.length (p133.1.flatMap eB), .row 59 2 (.slice B128 p127.length d130) p127.length (p127.flatMap eStep), .box g122 28 #[.slice B119 p118.1.length d121, .int .i64 p118.2.1, .int .i64 p118.2.2.1, .bool p118.2.2.2.1, .int .i64 p118.2.2.2.2], .row 59 2 (.slice B115 p114.length d117) p114.length (p114.flatMap eStep), .row 32 4 (.slice B111 p110.length d113) p110.length (p110.flatMap eCommand), .row 4 1 (.slice B107 p106.1.length d109) p106.1.length (p106.1.flatMap eB), .box g101 24 #[.slice A0 x0.length c0, .int .i64 x1, .int .i64 x2, .bool x3, .int .i64 x4]] from S.sel [4, 0, 1, 2, 3, 5, 6, 7, 8, 9] rfl rfl) h149) ?_
              rintro e u ⟨rfl, hn150, T⟩
              refine ⟨_, rfl, ?_⟩
              clear hF; intro a hF
              clear S; have S := T; clear T
              refine op_val (v := .int .i64 p149.1) rfl rfl hF rfl (run_assign rfl (hF.ev rfl)) ?_; clear hF; intro a hF
              refine wpList_nil ?_
              refine wp_seq ?_
              refine wp_seq ?_
              refine wp_region_lit ?_
              refine op_val (v := .int .i64 p149.1) rfl rfl hF rfl (run_move rfl (hF.ev rfl)) ?_; clear hF; intro a hF
              refine op_val (v := .bool (ltB p149.1 0)) rfl rfl hF rfl (run_lss (hF.ev rfl) rfl rfl) ?_; clear hF; intro a hF
              refine op_val (v := .bool (ltB p149.1 0)) rfl rfl hF rfl (run_move rfl (hF.ev rfl)) ?_; clear hF; intro a hF
              refine op_gv (v := .slice B128 p127.length d130) rfl rfl hF rfl (yf (gw_yield hF rfl rfl rfl)) (fun hg => (run_move rfl (hF.ev rfl))) ?_; clear hF; intro a hF
              refine op_gv (v := .slice B115 p114.length d117) rfl rfl hF rfl (yf (gw_yield hF rfl rfl rfl)) (fun hg => (run_move rfl (hF.ev rfl))) ?_; clear hF; intro a hF
              obtain ⟨p151, h151, hM⟩ := bind_ex hM
              refine op_gcall (v := .bool p151) rfl rfl hF rfl S (yf (gw_yield hF rfl rfl rfl)) (fun hg => (run_call (vs := [.slice B128 p127.length d130, .slice B115 p114.length d117]) rfl rfl co25 ⟨((hF.ev rfl).trans (gv_t hg)), ((hF.ev rfl).trans (gv_t hg)), trivial⟩)) (fun hg => c_laws_eqStepS (x0 := p127) (x1 := p114) ⟨(S.rc 4 rfl), rfl⟩ ⟨(S.rc 6 rfl), rfl⟩ (gb_t h151 hg)) ?_; clear hF S; intro a u hF S
              refine op_gv (v := .bool (!p151)) rfl rfl hF rfl (yf (gw_yield hF rfl rfl rfl)) (fun hg => (run_not rfl ((hF.ev rfl).trans (gv_t hg)))) ?_; clear hF; intro a hF
              refine op_val (v := .bool ((ltB p149.1 0) || (!p151))) rfl rfl hF rfl (run_pick_or rfl (hF.ev rfl) rfl (fun hp => ((hF.ev rfl).trans (gv_t (not_t hp))))) ?_; clear hF; intro a hF
              refine wpList_nil ?_
              cases hc152 : ((ltB p149.1 0) || (!p151))
              · replace hM := bif_f hc152 hM
                refine cond_f hF rfl hc152 ?_
                refine wp_skip ?_
                refine wp_seq ?_
                refine wp_region_lit ?_
                refine op_val (v := .int .i64 1) rfl rfl hF rfl (run_assign rfl rfl) ?_; clear hF; intro a hF
                refine wpList_nil ?_
                refine wp_seq ?_
                refine wp_region_lit ?_
                refine op_val (v := .slice B128 p127.length d130) rfl rfl hF rfl (run_move rfl (hF.ev rfl)) ?_; clear hF; intro a hF
                refine op_val (v := .int .i64 1) rfl rfl hF rfl (run_move rfl (hF.ev rfl)) ?_; clear hF; intro a hF
                obtain ⟨p153, h153, hM⟩ := bind_ex hM
                refine op_call rfl rfl hF rfl (run_call (vs := [.slice B128 p127.length d130, .int .i64 1]) rfl rfl co26 ⟨(hF.ev rfl), (hF.ev rfl), trivial⟩) (c_laws_markStepS (x0 := p127) (x1 := 1) rfl (show St w _ [.row 59 2 (.slice B128 p127.length d130) p127.length (p127.flatMap eStep), .row 32 4 (.slice B124 p123.length d126) p123.length (p149.2.flatMap eCommand), .row 4 1 (.slice B119 p118.1.length d121) p118.1.length (p147.2.flatMap eB), .row 32 4 (.slice B142 p141.length d144) p141.length (p141.flatMap eCommand), .row 4 1 (.slice B138 p133.1.length d139) p133.1.length (p133.1.flatMap eB), .box g122 28 #[.slice B119 p118.1.length d121, .int .i64 p118.2.1, .int .i64 p118.2.2.1, .bool p118.2.2.2.1, .int .i64 p118.2.2.2.2], .row 59 2 (.slice B115 p114.length d117) p114.length (p114.flatMap eStep), .row 32 4 (.slice B111 p110.length d113) p110.length (p110.flatMap eCommand), .row 4 1 (.slice B107 p106.1.length d109) p106.1.length (p106.1.flatMap eB), .box g101 24 #[.slice A0 x0.length c0, .int .i64 x1, .int .i64 x2, .bool x3, .int .i64 x4]] from S.sel [4, 0, 1, 2, 3, 5, 6, 7, 8, 9] rfl rfl) h153) ?_
                rintro e u ⟨rfl, hn154, T⟩
                refine ⟨_, rfl, ?_⟩
                clear hF; intro a hF
                clear S; have S := T; clear T
                refine op_val (v := .int .i64 p153.1) rfl rfl hF rfl (run_assign rfl (hF.ev rfl)) ?_; clear hF; intro a hF
                refine wpList_nil ?_
                refine wp_seq ?_
                refine wp_region_lit ?_
                refine op_val (v := .int .i64 1) rfl rfl hF rfl (run_assign rfl rfl) ?_; clear hF; intro a hF
                refine wpList_nil ?_
                refine wp_seq ?_
                refine wp_region_lit ?_
                refine op_val (v := .slice B128 p127.length d130) rfl rfl hF rfl (run_move rfl (hF.ev rfl)) ?_; clear hF; intro a hF
                refine op_val (v := .int .i64 1) rfl rfl hF rfl (run_move rfl (hF.ev rfl)) ?_; clear hF; intro a hF
                obtain ⟨p155, h155, hM⟩ := bind_ex hM
                refine op_call rfl rfl hF rfl (run_call (vs := [.slice B128 p127.length d130, .int .i64 1]) rfl rfl co27 ⟨(hF.ev rfl), (hF.ev rfl), trivial⟩) (c_laws_heldStepS (x0 := p153.2) (x1 := 1) ⟨(S.rc 0 rfl), hn154⟩ h155) ?_
                rintro e u ⟨rfl, T⟩
                refine ⟨_, rfl, ?_⟩
                clear hF; intro a hF
                replace S := S.call0 T; clear T
                refine op_val (v := .int .i64 p155) rfl rfl hF rfl (run_assign rfl (hF.ev rfl)) ?_; clear hF; intro a hF
                refine wpList_nil ?_
                refine wp_seq ?_
                refine wp_seq ?_
                refine wp_region_lit ?_
                refine op_val (v := .int .i64 p155) rfl rfl hF rfl (run_move rfl (hF.ev rfl)) ?_; clear hF; intro a hF
                refine op_val (v := .bool (ltB p155 0)) rfl rfl hF rfl (run_lss (hF.ev rfl) rfl rfl) ?_; clear hF; intro a hF
                refine wpList_nil ?_
                cases hc156 : (ltB p155 0)
                · replace hM := bif_f hc156 hM
                  refine cond_f hF rfl hc156 ?_
                  refine wp_skip ?_
                  refine wp_seq ?_
                  refine wp_seq ?_
                  refine wp_region_lit ?_
                  refine op_val (v := .int .i64 p155) rfl rfl hF rfl (run_move rfl (hF.ev rfl)) ?_; clear hF; intro a hF
                  refine op_val (v := .int .i64 p153.1) rfl rfl hF rfl (run_move rfl (hF.ev rfl)) ?_; clear hF; intro a hF
                  refine op_val (v := .bool (p155 != p153.1)) rfl rfl hF rfl (run_neq (hF.ev rfl) (hF.ev rfl) rfl) ?_; clear hF; intro a hF
                  refine wpList_nil ?_
                  cases hc157 : (p155 != p153.1)
                  · replace hM := bif_f hc157 hM
                    refine cond_f hF rfl hc157 ?_
                    refine wp_skip ?_
                    refine wp_seq ?_
                    refine wp_region_lit ?_
                    refine op_val (v := .agg #[.slice A0 x0.length c0, .int .i64 x1, .int .i64 x2, .bool x3, .int .i64 x4]) rfl rfl hF rfl (run_loadN rfl ag24 (hF.ev rfl) rfl ((S.free 9 rfl).cells 0 #[.slice A0 x0.length c0, .int .i64 x1, .int .i64 x2, .bool x3, .int .i64 x4] rfl)) ?_; clear hF; intro a hF
                    obtain ⟨p158, h158, hM⟩ := bind_ex hM
                    refine op_call rfl rfl hF rfl (run_call (vs := [.agg #[.slice A0 x0.length c0, .int .i64 x1, .int .i64 x2, .bool x3, .int .i64 x4]]) rfl rfl co8 ⟨(hF.ev rfl), trivial⟩) (c_laws_toPanel (x0 := x0) (x1 := x1) (x2 := x2) (x3 := x3) (x4 := x4) ⟨(S.rc0 h0.rc), rfl⟩ h158) ?_
                    rintro e u ⟨B159, n160, d161, rfl, rfl, T⟩
                    refine ⟨_, rfl, ?_⟩
                    clear hF; intro a hF
                    replace S := S.call1 T; clear T
                    refine op_val (v := .slice A5 x5.length c5) rfl rfl hF rfl (run_move rfl (hF.ev rfl)) ?_; clear hF; intro a hF
                    obtain ⟨p162, h162, hM⟩ := bind_ex hM
                    refine op_call rfl rfl hF rfl (run_call (vs := [.slice A5 x5.length c5]) rfl rfl co16 ⟨(hF.ev rfl), trivial⟩) (c_laws_toCommandS (x0 := x5) ⟨(S.rc0 h5.rc), rfl⟩ h162) ?_
                    rintro e u ⟨B163, n164, d165, rfl, rfl, T⟩
                    refine ⟨_, rfl, ?_⟩
                    clear hF; intro a hF
                    replace S := S.call1 T; clear T
                    obtain ⟨p166, h166, hM⟩ := bind_ex hM
                    refine op_call rfl rfl hF rfl (run_call (vs := [.agg #[.slice B159 p158.1.length d161, .int .i64 p158.2.1, .int .i64 p158.2.2.1, .bool p158.2.2.2.1, .int .i64 p158.2.2.2.2], .slice B163 p162.length d165]) rfl rfl co24 ⟨(hF.ev rfl), (hF.ev rfl), trivial⟩) (c_impl_Operations (x0 := p158.1) (x1 := p158.2.1) (x2 := p158.2.2.1) (x3 := p158.2.2.2.1) (x4 := p158.2.2.2.2) (x5 := p162) ⟨(S.rc 1 rfl), rfl⟩ ⟨(S.rc 0 rfl), rfl⟩ h166) ?_
                    rintro e u ⟨B167, n168, d169, rfl, rfl, T⟩
                    refine ⟨_, rfl, ?_⟩
                    clear hF; intro a hF
                    replace S := S.call1 T; clear T
                    refine op_val (v := .slice B167 p166.length d169) rfl rfl hF rfl (run_assign rfl (hF.ev rfl)) ?_; clear hF; intro a hF
                    refine wpList_nil ?_
                    refine wp_seq ?_
                    refine wp_seq ?_
                    refine wp_region_lit ?_
                    refine op_val (v := .slice B167 p166.length d169) rfl rfl hF rfl (run_move rfl (hF.ev rfl)) ?_; clear hF; intro a hF
                    refine op_val (v := .slice B115 p114.length d117) rfl rfl hF rfl (run_move rfl (hF.ev rfl)) ?_; clear hF; intro a hF
                    obtain ⟨p170, h170, hM⟩ := bind_ex hM
                    refine op_call rfl rfl hF rfl (run_call (vs := [.slice B167 p166.length d169, .slice B115 p114.length d117]) rfl rfl co25 ⟨(hF.ev rfl), (hF.ev rfl), trivial⟩) (c_laws_eqStepS (x0 := p166) (x1 := p114) ⟨(S.rc 0 rfl), rfl⟩ ⟨(S.rc 9 rfl), rfl⟩ h170) ?_
                    rintro e u ⟨rfl, T⟩
                    refine ⟨_, rfl, ?_⟩
                    clear hF; intro a hF
                    replace S := S.call0 T; clear T
                    refine op_val (v := .bool (!p170)) rfl rfl hF rfl (run_not rfl (hF.ev rfl)) ?_; clear hF; intro a hF
                    refine wpList_nil ?_
                    cases hc171 : (p170)
                    · replace hM := bif_f hc171 hM
                      refine cond_t hF rfl (not_t hc171) ?_
                      refine wp_seq ?_
                      refine wp_region_lit ?_
                      refine op_val (v := .bool false) rfl rfl hF rfl (run_assign rfl rfl) ?_; clear hF; intro a hF
                      refine wpList_nil ?_
                      refine wp_ret ?_
                      repeat with_reducible (first | refine then_ret ?_ | refine in_ret ?_ | refine in_nrm ?_)
                      refine ret1_gw (.inl rfl) hF rfl (res_tmp (hF.ev rfl)) ?_
                      obtain rfl := Option.some.inj hM
                      exact ⟨rfl, S.sel [] rfl rfl⟩
                    · replace hM := bif_t hc171 hM
                      refine cond_f hF rfl (not_f hc171) ?_
                      refine wp_skip ?_
                      refine wp_seq ?_
                      refine wp_region_lit ?_
                      refine op_val (v := .int .i64 1) rfl rfl hF rfl (run_assign rfl rfl) ?_; clear hF; intro a hF
                      refine wpList_nil ?_
                      refine wp_seq ?_
                      refine wp_region_lit ?_
                      refine op_val (v := .slice B128 p127.length d130) rfl rfl hF rfl (run_move rfl (hF.ev rfl)) ?_; clear hF; intro a hF
                      refine op_val (v := .int .i64 1) rfl rfl hF rfl (run_move rfl (hF.ev rfl)) ?_; clear hF; intro a hF
                      obtain ⟨p172, h172, hM⟩ := bind_ex hM
                      refine op_call rfl rfl hF rfl (run_call (vs := [.slice B128 p127.length d130, .int .i64 1]) rfl rfl co27 ⟨(hF.ev rfl), (hF.ev rfl), trivial⟩) (c_laws_heldStepS (x0 := p153.2) (x1 := 1) ⟨(S.rc 3 rfl), hn154⟩ h172) ?_
                      rintro e u ⟨rfl, T⟩
                      refine ⟨_, rfl, ?_⟩
                      clear hF; intro a hF
                      replace S := S.call0 T; clear T
                      refine op_val (v := .int .i64 p172) rfl rfl hF rfl (run_assign rfl (hF.ev rfl)) ?_; clear hF; intro a hF
                      refine wpList_nil ?_
                      refine wp_seq ?_
                      refine wp_seq ?_
                      refine wp_region_lit ?_
                      refine op_val (v := .int .i64 p172) rfl rfl hF rfl (run_move rfl (hF.ev rfl)) ?_; clear hF; intro a hF
                      refine op_val (v := .bool (ltB p172 0)) rfl rfl hF rfl (run_lss (hF.ev rfl) rfl rfl) ?_; clear hF; intro a hF
                      refine wpList_nil ?_
                      cases hc173 : (ltB p172 0)
                      · replace hM := bif_f hc173 hM
                        refine cond_f hF rfl hc173 ?_
                        refine wp_skip ?_
                        refine wp_seq ?_
                        refine wp_seq ?_
                        refine wp_region_lit ?_
                        refine op_val (v := .int .i64 p172) rfl rfl hF rfl (run_move rfl (hF.ev rfl)) ?_; clear hF; intro a hF
                        refine op_val (v := .int .i64 p153.1) rfl rfl hF rfl (run_move rfl (hF.ev rfl)) ?_; clear hF; intro a hF
                        refine op_val (v := .bool (p172 != p153.1)) rfl rfl hF rfl (run_neq (hF.ev rfl) (hF.ev rfl) rfl) ?_; clear hF; intro a hF
                        refine wpList_nil ?_
                        cases hc174 : (p172 != p153.1)
                        · replace hM := bif_f hc174 hM
                          refine cond_f hF rfl hc174 ?_
                          refine wp_skip ?_
                          refine wp_seq ?_
                          refine wp_region_lit ?_
                          refine op_val (v := .bool true) rfl rfl hF rfl (run_assign rfl rfl) ?_; clear hF; intro a hF
                          refine wpList_nil ?_
                          refine wp_ret ?_
                          repeat with_reducible (first | refine then_ret ?_ | refine in_ret ?_ | refine in_nrm ?_)
                          refine ret1_gw (.inl rfl) hF rfl (res_tmp (hF.ev rfl)) ?_
                          obtain rfl := Option.some.inj hM
                          exact ⟨rfl, S.sel [] rfl rfl⟩
                        · replace hM := bif_t hc174 hM
                          refine cond_t hF rfl hc174 ?_
                          refine wp_seq ?_
                          refine wp_region_lit ?_
                          refine op_val (v := .bool false) rfl rfl hF rfl (run_assign rfl rfl) ?_; clear hF; intro a hF
                          refine wpList_nil ?_
                          refine wp_ret ?_
                          repeat with_reducible (first | refine then_ret ?_ | refine in_ret ?_ | refine in_nrm ?_)
                          refine ret1_gw (.inl rfl) hF rfl (res_tmp (hF.ev rfl)) ?_
                          obtain rfl := Option.some.inj hM
                          exact ⟨rfl, S.sel [] rfl rfl⟩
                      · replace hM := bif_t hc173 hM
                        refine cond_t hF rfl hc173 ?_
                        refine wp_seq ?_
                        refine wp_region_lit ?_
                        refine op_val (v := .bool false) rfl rfl hF rfl (run_assign rfl rfl) ?_; clear hF; intro a hF
                        refine wpList_nil ?_
                        refine wp_ret ?_
                        repeat with_reducible (first | refine then_ret ?_ | refine in_ret ?_ | refine in_nrm ?_)
                        refine ret1_gw (.inl rfl) hF rfl (res_tmp (hF.ev rfl)) ?_
                        obtain rfl := Option.some.inj hM
                        exact ⟨rfl, S.sel [] rfl rfl⟩
                  · replace hM := bif_t hc157 hM
                    refine cond_t hF rfl hc157 ?_
                    refine wp_seq ?_
                    refine wp_region_lit ?_
                    refine op_val (v := .bool false) rfl rfl hF rfl (run_assign rfl rfl) ?_; clear hF; intro a hF
                    refine wpList_nil ?_
                    refine wp_ret ?_
                    repeat with_reducible (first | refine then_ret ?_ | refine in_ret ?_ | refine in_nrm ?_)
                    refine ret1_gw (.inl rfl) hF rfl (res_tmp (hF.ev rfl)) ?_
                    obtain rfl := Option.some.inj hM
                    exact ⟨rfl, S.sel [] rfl rfl⟩
                · replace hM := bif_t hc156 hM
                  refine cond_t hF rfl hc156 ?_
                  refine wp_seq ?_
                  refine wp_region_lit ?_
                  refine op_val (v := .bool false) rfl rfl hF rfl (run_assign rfl rfl) ?_; clear hF; intro a hF
                  refine wpList_nil ?_
                  refine wp_ret ?_
                  repeat with_reducible (first | refine then_ret ?_ | refine in_ret ?_ | refine in_nrm ?_)
                  refine ret1_gw (.inl rfl) hF rfl (res_tmp (hF.ev rfl)) ?_
                  obtain rfl := Option.some.inj hM
                  exact ⟨rfl, S.sel [] rfl rfl⟩
              · replace hM := bif_t hc152 hM
                refine cond_t hF rfl hc152 ?_
                refine wp_seq ?_
                refine wp_region_lit ?_
                refine op_val (v := .bool false) rfl rfl hF rfl (run_assign rfl rfl) ?_; clear hF; intro a hF
                refine wpList_nil ?_
                refine wp_ret ?_
                repeat with_reducible (first | refine then_ret ?_ | refine in_ret ?_ | refine in_nrm ?_)
                refine ret1_gw (.inl rfl) hF rfl (res_tmp (hF.ev rfl)) ?_
                obtain rfl := Option.some.inj hM
                exact ⟨rfl, S.sel [] rfl rfl⟩
    · replace hM := bif_t hc105 hM
      refine cond_t hF rfl hc105 ?_
      refine wp_seq ?_
      refine wp_region_lit ?_
      refine op_val (v := .bool true) rfl rfl hF rfl (run_assign rfl rfl) ?_; clear hF; intro a hF
      refine wpList_nil ?_
      refine wp_ret ?_
      repeat with_reducible (first | refine then_ret ?_ | refine in_ret ?_ | refine in_nrm ?_)
      refine ret1_gw (.inl rfl) hF rfl (res_tmp (hF.ev rfl)) ?_
      obtain rfl := Option.some.inj hM
      exact ⟨rfl, S.sel [] rfl rfl⟩
  · replace hM := bif_t hc103 hM
    refine cond_t hF rfl hc103 ?_
    refine wp_seq ?_
    refine wp_region_lit ?_
    refine op_val (v := .bool true) rfl rfl hF rfl (run_assign rfl rfl) ?_; clear hF; intro a hF
    refine wpList_nil ?_
    refine wp_ret ?_
    repeat with_reducible (first | refine then_ret ?_ | refine in_ret ?_ | refine in_nrm ?_)
    refine ret1_gw (.inl rfl) hF rfl (res_tmp (hF.ev rfl)) ?_
    obtain rfl := Option.some.inj hM
    exact ⟨rfl, S.sel [] rfl rfl⟩

end Go.Proofs.Ytapkaobelejkkaa
