/- Calls return what the models say. -/
import Derived.Test.YtandfbpanaldcaaDoorDa1
namespace Go.Proofs.YtandfbpanaldcaaDoor
open Go.ChangeShapes Go.WideShapes Go.ChangeAt Go.RowKit
set_option linter.unusedVariables false
set_option linter.unusedSimpArgs false

set_option maxHeartbeats 4000000 in
theorem c_spec_BarsDo {x0 : List Int} {x1 : Bool} {x2 : Int} {A0 : Option Addr} {n0 c0 : Nat} {w : World} {r : List Int × Bool × Bool} (h0 : Rt w 1 eI A0 n0 c0 x0) (hM : m_spec_BarsDo x0 x1 x2 = some r) :
    Calls Tryd.prog 9 #[.agg #[.slice A0 n0 c0, .bool x1], .int .i64 x2] w (fun e w' => ∃ (B0 : Option Addr) (N0 D0 : Nat), e = .returned (.tuple #[.agg #[.slice B0 N0 D0, .bool r.2.1], .bool r.2.2]) ∧ N0 = r.1.length ∧ St w w' [.row 3 1 (.slice B0 N0 D0) N0 (r.1.flatMap eI)]) := by
  obtain rfl := h0.len
  unfold m_spec_BarsDo at hM
  refine calls_gw Tryd.func9 Tryd.ntmps9 rfl [(0, .agg #[.slice A0 x0.length c0, .bool x1]), (1, .int .i64 x2)] ⟨rfl, rfl, trivial⟩ rfl ?_
  intro a hF
  have S := St.nil w
  refine wp_seq ?_
  refine wp_region_lit ?_
  refine op_new (cs := #[.slice A0 x0.length c0, .bool x1]) rfl rfl hF rfl S (run_box rfl (hF.ev rfl) rfl) ?_; clear hF S; intro a g101 u hF S
  refine op_new (cs := #[.slice none 0 0, .bool false]) rfl rfl hF rfl S (run_allocZ rfl zr25) ?_; clear hF S; intro a g102 u hF S
  refine op_val (v := .bool false) rfl rfl hF rfl (run_assign rfl rfl) ?_; clear hF; intro a hF
  refine wpList_nil ?_
  refine wp_seq ?_
  refine wp_seq ?_
  refine wp_region_lit ?_
  refine op_val (v := .agg #[.slice A0 x0.length c0, .bool x1]) rfl rfl hF rfl (run_loadN rfl ag25 (hF.ev rfl) rfl ((S.free 1 rfl).cells 0 #[.slice A0 x0.length c0, .bool x1] rfl)) ?_; clear hF; intro a hF
  obtain ⟨p103, h103, hM⟩ := bind_ex hM
  refine op_call rfl rfl hF rfl (run_call (vs := [.agg #[.slice A0 x0.length c0, .bool x1]]) rfl rfl co20 ⟨(hF.ev rfl), trivial⟩) (c_spec_BarsValid (x0 := x0) (x1 := x1) ⟨(S.rc0 h0.rc), rfl⟩ h103) ?_
  rintro e u ⟨rfl, T⟩
  refine ⟨_, rfl, ?_⟩
  clear hF; intro a hF
  replace S := S.call0 T; clear T
  refine op_val (v := .bool (!p103)) rfl rfl hF rfl (run_not rfl (hF.ev rfl)) ?_; clear hF; intro a hF
  refine wpList_nil ?_
  cases hc104 : (p103)
  · replace hM := bif_f hc104 hM
    refine cond_t hF rfl (not_t hc104) ?_
    refine wp_seq ?_
    refine wp_region_lit ?_
    refine op_val (v := .agg #[.slice none 0 0, .bool false]) rfl rfl hF rfl (run_build (vs := []) rfl trivial (bd25 )) ?_; clear hF; intro a hF
    refine op_do rfl rfl (run_store (cs' := #[.slice none 0 0, .bool false]) rfl sz25 (hF.ev rfl) (hF.ev rfl) rfl rfl rfl (S.free 0 rfl) rfl rfl) ?_; replace S := S.put 0 rfl (#[.slice none 0 0, .bool false])
    generalize World.setRow _ _ _ = u at S ⊢
    refine op_val (v := .bool false) rfl rfl hF rfl (run_assign rfl rfl) ?_; clear hF; intro a hF
    refine wpList_nil ?_
    refine wp_ret ?_
    repeat with_reducible (first | refine then_ret ?_ | refine in_ret ?_ | refine in_nrm ?_)
    refine ret2_gw (.inl rfl) hF rfl (res_cell (hF.ev rfl) (res_loadN ag25 rfl (S.cells 0 rfl 0 #[.slice none 0 0, .bool false] rfl))) (res_tmp (hF.ev rfl)) ?_
    obtain rfl := Option.some.inj hM
    replace S := S.nilrow 3 1
    exact ⟨none, 0, 0, rfl, rfl, S.sel [0] rfl rfl⟩
  · replace hM := bif_t hc104 hM
    refine cond_f hF rfl (not_f hc104) ?_
    refine wp_skip ?_
    refine wp_seq ?_
    refine wp_region_lit ?_
    refine op_val (v := .agg #[.slice A0 x0.length c0, .bool x1]) rfl rfl hF rfl (run_loadN rfl ag25 (hF.ev rfl) rfl ((S.free 1 rfl).cells 0 #[.slice A0 x0.length c0, .bool x1] rfl)) ?_; clear hF; intro a hF
    obtain ⟨p105, h105, hM⟩ := bind_ex hM
    refine op_call rfl rfl hF rfl (run_call (vs := [.agg #[.slice A0 x0.length c0, .bool x1]]) rfl rfl co28 ⟨(hF.ev rfl), trivial⟩) (c_spec_l10Copy (x0 := x0) (x1 := x1) ⟨(S.rc0 h0.rc), rfl⟩ h105) ?_
    rintro e u ⟨B106, n107, d108, rfl, rfl, T⟩
    refine ⟨_, rfl, ?_⟩
    clear hF; intro a hF
    replace S := S.call1 T; clear T
    refine op_new (cs := #[.slice none 0 0, .bool false]) rfl rfl hF rfl S (run_allocZ rfl zr25) ?_; clear hF S; intro a g109 u hF S
    refine op_do rfl rfl (run_store (cs' := #[.slice B106 p105.1.length d108, .bool p105.2]) rfl sz25 (hF.ev rfl) (hF.ev rfl) rfl rfl rfl (S.free 0 rfl) rfl rfl) ?_; replace S := S.put 0 rfl (#[.slice B106 p105.1.length d108, .bool p105.2])
    generalize World.setRow _ _ _ = u at S ⊢
    refine wpList_nil ?_
    refine wp_seq ?_
    refine wp_seq ?_
    refine wp_region_lit ?_
    refine op_val (v := .int .i64 x2) rfl rfl hF rfl (run_move rfl (hF.ev rfl)) ?_; clear hF; intro a hF
    refine op_val (v := .bool (x2 == 0)) rfl rfl hF rfl (run_eql (hF.ev rfl) rfl rfl) ?_; clear hF; intro a hF
    refine op_val (v := .bool (x2 == 0)) rfl rfl hF rfl (run_move rfl (hF.ev rfl)) ?_; clear hF; intro a hF
    refine op_gv (v := .int .i64 x2) rfl rfl hF rfl (yf (gw_yield hF rfl rfl rfl)) (fun hg => (run_move rfl (hF.ev rfl))) ?_; clear hF; intro a hF
    refine op_gv (v := .bool (x2 == 1)) rfl rfl hF rfl (yf (gw_yield hF rfl rfl rfl)) (fun hg => (run_eql ((hF.ev rfl).trans (gv_t hg)) rfl rfl)) ?_; clear hF; intro a hF
    refine op_val (v := .bool ((x2 == 0) || (x2 == 1))) rfl rfl hF rfl (run_pick_or rfl (hF.ev rfl) rfl (fun hp => ((hF.ev rfl).trans (gv_t (not_t hp))))) ?_; clear hF; intro a hF
    refine wpList_nil ?_
    obtain ⟨o111, hM113, hM⟩ := bind_ex hM
    refine wp_cut (fun a u => ∃ (p110 : List Int × Bool), (Sum.inl p110) = o111 ∧ p105.1.length = p110.1.length ∧ Fr a 100 [(1, .int .i64 x2), (2, .pointer (some ⟨g101, 0, none⟩)), (4, .pointer (some ⟨g102, 0, none⟩)), (5, .bool false), (6, .pointer (some ⟨g109, 0, none⟩))] ∧ St w u [.box g109 25 #[.slice B106 p105.1.length d108, .bool p110.2], .box g102 25 #[.slice none 0 0, .bool false], .box g101 25 #[.slice A0 x0.length c0, .bool x1], .row 3 1 (.slice B106 p105.1.length d108) p105.1.length (p110.1.flatMap eI)]) ?_ ?_
    · have _ := trivial
      cases hc114 : ((x2 == 0) || (x2 == 1))
      · replace hM113 := bif_f hc114 hM113
        refine cond_f hF rfl hc114 ?_
        refine wp_seq ?_
        refine wp_region_lit ?_
        refine op_val (v := .int .i64 x2) rfl rfl hF rfl (run_move rfl (hF.ev rfl)) ?_; clear hF; intro a hF
        refine op_val (v := .int .i64 (w64 (x2 - 2))) rfl rfl hF rfl (run_sub (z := w64 (x2 - 2)) (hF.ev rfl) rfl rfl rfl) ?_; clear hF; intro a hF
        refine op_val (v := .int .i64 (w64 (Int.tdiv (w64 (x2 - 2)) 4))) rfl rfl hF rfl (run_quo (z := w64 (Int.tdiv (w64 (x2 - 2)) 4)) (hF.ev rfl) rfl rfl (by decide) rfl) ?_; clear hF; intro a hF
        refine op_val (v := .int .i64 (w64 (Int.tdiv (w64 (x2 - 2)) 4))) rfl rfl hF rfl (run_assign rfl (hF.ev rfl)) ?_; clear hF; intro a hF
        refine wpList_nil ?_
        refine wp_seq ?_
        refine wp_seq ?_
        refine wp_region_lit ?_
        refine op_val (v := .int .i64 x2) rfl rfl hF rfl (run_move rfl (hF.ev rfl)) ?_; clear hF; intro a hF
        refine op_val (v := .bool (ltB x2 0)) rfl rfl hF rfl (run_lss (hF.ev rfl) rfl rfl) ?_; clear hF; intro a hF
        refine op_val (v := .bool (ltB x2 0)) rfl rfl hF rfl (run_move rfl (hF.ev rfl)) ?_; clear hF; intro a hF
        refine op_gv (v := .int .i64 (w64 (Int.tdiv (w64 (x2 - 2)) 4))) rfl rfl hF rfl (yf (gw_yield hF rfl rfl rfl)) (fun hg => (run_move rfl (hF.ev rfl))) ?_; clear hF; intro a hF
        refine op_gv (v := .pointer (some ⟨g101, 0, none⟩)) rfl rfl hF rfl (yf (gw_yield hF rfl rfl rfl)) (fun hg => (run_fieldAddr rfl fl25_0 (hF.ev rfl) rfl)) ?_; clear hF; intro a hF
        refine op_gv (v := .slice A0 x0.length c0) rfl rfl hF rfl (yf (gw_yield hF rfl rfl rfl)) (fun hg => (run_load1 rfl one23 ((hF.ev rfl).trans (gv_t hg)) ((S.free 3 rfl).cell rfl))) ?_; clear hF; intro a hF
        refine op_gv (v := .int .i64 (x0.length : Int)) rfl rfl hF rfl (yf (gw_yield hF rfl rfl rfl)) (fun hg => (run_lenL rfl rfl Tryd.underlying23 ((hF.ev rfl).trans (gv_t hg)))) ?_; clear hF; intro a hF
        refine op_gv (v := .bool (leB (x0.length : Int) (w64 (Int.tdiv (w64 (x2 - 2)) 4)))) rfl rfl hF rfl (yf (gw_yield hF rfl rfl rfl)) (fun hg => (run_geq ((hF.ev rfl).trans (gv_t hg)) ((hF.ev rfl).trans (gv_t hg)) rfl)) ?_; clear hF; intro a hF
        refine op_val (v := .bool ((ltB x2 0) || (leB (x0.length : Int) (w64 (Int.tdiv (w64 (x2 - 2)) 4))))) rfl rfl hF rfl (run_pick_or rfl (hF.ev rfl) rfl (fun hp => ((hF.ev rfl).trans (gv_t (not_t hp))))) ?_; clear hF; intro a hF
        refine wpList_nil ?_
        cases hc115 : ((ltB x2 0) || (leB (x0.length : Int) (w64 (Int.tdiv (w64 (x2 - 2)) 4))))
        · replace hM113 := bif_f hc115 hM113
          refine cond_f hF rfl hc115 ?_
          refine wp_skip ?_
          refine wp_seq ?_
          refine wp_region_lit ?_
          refine op_val (v := .int .i64 x2) rfl rfl hF rfl (run_move rfl (hF.ev rfl)) ?_; clear hF; intro a hF
          refine op_val (v := .int .i64 (w64 (x2 - 2))) rfl rfl hF rfl (run_sub (z := w64 (x2 - 2)) (hF.ev rfl) rfl rfl rfl) ?_; clear hF; intro a hF
          refine op_val (v := .int .i64 (w64 (Int.tdiv (w64 (x2 - 2)) 2))) rfl rfl hF rfl (run_quo (z := w64 (Int.tdiv (w64 (x2 - 2)) 2)) (hF.ev rfl) rfl rfl (by decide) rfl) ?_; clear hF; intro a hF
          refine op_val (v := .int .i64 (Int.tmod (w64 (Int.tdiv (w64 (x2 - 2)) 2)) 2)) rfl rfl hF rfl (run_rem (z := Int.tmod (w64 (Int.tdiv (w64 (x2 - 2)) 2)) 2) (hF.ev rfl) rfl rfl (by decide) rfl) ?_; clear hF; intro a hF
          refine op_val (v := .int .i64 (w64 (1 + (Int.tmod (w64 (Int.tdiv (w64 (x2 - 2)) 2)) 2)))) rfl rfl hF rfl (run_add (z := w64 (1 + (Int.tmod (w64 (Int.tdiv (w64 (x2 - 2)) 2)) 2))) rfl (hF.ev rfl) rfl rfl) ?_; clear hF; intro a hF
          refine op_val (v := .int .i64 (w64 (1 + (Int.tmod (w64 (Int.tdiv (w64 (x2 - 2)) 2)) 2)))) rfl rfl hF rfl (run_assign rfl (hF.ev rfl)) ?_; clear hF; intro a hF
          refine wpList_nil ?_
          refine wp_seq ?_
          refine wp_seq ?_
          refine wp_region_lit ?_
          refine op_val (v := .pointer (some ⟨g101, 0, none⟩)) rfl rfl hF rfl (run_fieldAddr rfl fl25_0 (hF.ev rfl) rfl) ?_; clear hF; intro a hF
          refine op_val (v := .slice A0 x0.length c0) rfl rfl hF rfl (run_load1 rfl one23 (hF.ev rfl) ((S.free 3 rfl).cell rfl)) ?_; clear hF; intro a hF
          refine op_val (v := .int .i64 (w64 (Int.tdiv (w64 (x2 - 2)) 4))) rfl rfl hF rfl (run_move rfl (hF.ev rfl)) ?_; clear hF; intro a hF
          obtain ⟨hk116, hM113⟩ := chk_ex hM113
          replace hk116 := ixB_t hk116
          refine op_val (v := .pointer (some ⟨adB A0, adO A0 + ((w64 (Int.tdiv (w64 (x2 - 2)) 4)).toNat) * 1, none⟩)) rfl rfl hF rfl (run_indexAddr (b := adB A0) (off := adO A0) rfl Tryd.underlying23 sz3 ((hF.ev rfl).trans (congrArg (fun A => Value.slice A x0.length c0) ((S.rc0 h0.rc).rd.ad (ix_pos hk116)))) (hF.ev rfl) hk116.1 hk116.2 (k' := adO A0 + ((w64 (Int.tdiv (w64 (x2 - 2)) 4)).toNat) * 1) rfl) ?_; clear hF; intro a hF
          refine op_val (v := .int .i64 (x0.getD ((w64 (Int.tdiv (w64 (x2 - 2)) 4)).toNat) (0 : Int))) rfl rfl hF rfl (run_load1 rfl one3 (hF.ev rfl) (rd_el0 (l := x0) (S.rc0 h0.rc).rd rfl eI_len (0 : Int) (ix_ltn hk116 rfl) rfl)) ?_; clear hF; intro a hF
          refine op_val (v := .int .i64 (w64 (1 + (Int.tmod (w64 (Int.tdiv (w64 (x2 - 2)) 2)) 2)))) rfl rfl hF rfl (run_move rfl (hF.ev rfl)) ?_; clear hF; intro a hF
          obtain ⟨hk117, hM113⟩ := chk_ex hM113
          replace hk117 := nzB_t hk117
          refine op_val (v := .int .i64 (w64 (Int.tdiv (x0.getD ((w64 (Int.tdiv (w64 (x2 - 2)) 4)).toNat) (0 : Int)) (w64 (1 + (Int.tmod (w64 (Int.tdiv (w64 (x2 - 2)) 2)) 2)))))) rfl rfl hF rfl (run_quo (z := w64 (Int.tdiv (x0.getD ((w64 (Int.tdiv (w64 (x2 - 2)) 4)).toNat) (0 : Int)) (w64 (1 + (Int.tmod (w64 (Int.tdiv (w64 (x2 - 2)) 2)) 2))))) (hF.ev rfl) (hF.ev rfl) rfl hk117 rfl) ?_; clear hF; intro a hF
          refine op_val (v := .int .i64 (Int.tmod (w64 (Int.tdiv (x0.getD ((w64 (Int.tdiv (w64 (x2 - 2)) 4)).toNat) (0 : Int)) (w64 (1 + (Int.tmod (w64 (Int.tdiv (w64 (x2 - 2)) 2)) 2))))) 2)) rfl rfl hF rfl (run_rem (z := Int.tmod (w64 (Int.tdiv (x0.getD ((w64 (Int.tdiv (w64 (x2 - 2)) 4)).toNat) (0 : Int)) (w64 (1 + (Int.tmod (w64 (Int.tdiv (w64 (x2 - 2)) 2)) 2))))) 2) (hF.ev rfl) rfl rfl (by decide) rfl) ?_; clear hF; intro a hF
          refine op_val (v := .int .i64 x2) rfl rfl hF rfl (run_move rfl (hF.ev rfl)) ?_; clear hF; intro a hF
          refine op_val (v := .int .i64 (Int.tmod x2 2)) rfl rfl hF rfl (run_rem (z := Int.tmod x2 2) (hF.ev rfl) rfl rfl (by decide) rfl) ?_; clear hF; intro a hF
          refine op_val (v := .bool ((Int.tmod (w64 (Int.tdiv (x0.getD ((w64 (Int.tdiv (w64 (x2 - 2)) 4)).toNat) (0 : Int)) (w64 (1 + (Int.tmod (w64 (Int.tdiv (w64 (x2 - 2)) 2)) 2))))) 2) == (Int.tmod x2 2))) rfl rfl hF rfl (run_eql (hF.ev rfl) (hF.ev rfl) rfl) ?_; clear hF; intro a hF
          refine wpList_nil ?_
          cases hc118 : ((Int.tmod (w64 (Int.tdiv (x0.getD ((w64 (Int.tdiv (w64 (x2 - 2)) 4)).toNat) (0 : Int)) (w64 (1 + (Int.tmod (w64 (Int.tdiv (w64 (x2 - 2)) 2)) 2))))) 2) == (Int.tmod x2 2))
          · replace hM113 := bif_f hc118 hM113
            refine cond_f hF rfl hc118 ?_
            refine wp_skip ?_
            refine wp_seq ?_
            refine wp_region_lit ?_
            refine op_val (v := .int .i64 x2) rfl rfl hF rfl (run_move rfl (hF.ev rfl)) ?_; clear hF; intro a hF
            refine op_val (v := .int .i64 (Int.tmod x2 2)) rfl rfl hF rfl (run_rem (z := Int.tmod x2 2) (hF.ev rfl) rfl rfl (by decide) rfl) ?_; clear hF; intro a hF
            refine op_val (v := .bool ((Int.tmod x2 2) == 1)) rfl rfl hF rfl (run_eql (hF.ev rfl) rfl rfl) ?_; clear hF; intro a hF
            refine wpList_nil ?_
            obtain ⟨o120, hM122, hM113⟩ := bind_ex hM113
            refine wp_cut (fun a u => ∃ (p119 : List Int), p119 = o120 ∧ p105.1.length = p119.length ∧ Fr a 100 [(1, .int .i64 x2), (2, .pointer (some ⟨g101, 0, none⟩)), (4, .pointer (some ⟨g102, 0, none⟩)), (5, .bool false), (6, .pointer (some ⟨g109, 0, none⟩))] ∧ St w u [.box g109 25 #[.slice B106 p105.1.length d108, .bool p105.2], .box g102 25 #[.slice none 0 0, .bool false], .box g101 25 #[.slice A0 x0.length c0, .bool x1], .row 3 1 (.slice B106 p105.1.length d108) p105.1.length (p119.flatMap eI)]) ?_ ?_
            · have _ := trivial
              cases hc123 : ((Int.tmod x2 2) == 1)
              · replace hM122 := bif_f hc123 hM122
                refine cond_f hF rfl hc123 ?_
                obtain ⟨hk124, hM122⟩ := chk_ex hM122
                replace hk124 := ixB_t hk124
                obtain ⟨hk125, hM122⟩ := chk_ex hM122
                replace hk125 := ixB_t hk125
                refine region_gw (D := [68, 69, 70, 71, 72, 73, 74, 75, 76, 77, 78]) (Lr := [.box g109 25 #[.slice B106 p105.1.length d108, .bool p105.2], .box g102 25 #[.slice none 0 0, .bool false], .box g101 25 #[.slice A0 x0.length c0, .bool x1]]) (deps := (fun | 0 => [68] | 1 => [69] | 2 => [70] | 3 => [71] | 4 => [72] | 5 => [73] | 6 => [74] | 7 => [75] | 8 => [76] | 9 => [77] | 10 => [78] | 11 => [78] | _ => [])) (rd := (fun _ => [])) (zr := (fun | 10 => [11] | _ => []))
                  (φ := fun i vs => match i, vs with | 0, [v68] => v68 = .pointer (some ⟨g109, 0, none⟩) | 1, [v69] => v69 = .slice B106 p105.1.length d108 | 2, [v70] => v70 = .int .i64 (w64 (Int.tdiv (w64 (x2 - 2)) 4)) | 3, [v71] => v71 = .pointer (some ⟨g101, 0, none⟩) | 4, [v72] => v72 = .slice A0 x0.length c0 | 5, [v73] => v73 = .int .i64 (w64 (Int.tdiv (w64 (x2 - 2)) 4)) | 6, [v74] => v74 = .pointer (some ⟨adB A0, adO A0 + ((w64 (Int.tdiv (w64 (x2 - 2)) 4)).toNat) * 1, none⟩) | 7, [v75] => v75 = .int .i64 (x0.getD ((w64 (Int.tdiv (w64 (x2 - 2)) 4)).toNat) (0 : Int)) | 8, [v76] => v76 = .int .i64 (w64 (1 + (Int.tmod (w64 (Int.tdiv (w64 (x2 - 2)) 2)) 2))) | 9, [v77] => v77 = .int .i64 (w64 ((x0.getD ((w64 (Int.tdiv (w64 (x2 - 2)) 4)).toNat) (0 : Int)) - (w64 (1 + (Int.tmod (w64 (Int.tdiv (w64 (x2 - 2)) 2)) 2))))) | 10, [v78] => v78 = .pointer (some ⟨adB B106, adO B106 + ((w64 (Int.tdiv (w64 (x2 - 2)) 4)).toNat) * 1, none⟩) | _, _ => True)
                  (C := fun i vs => match i, vs with | 11, [v78] => [.row 3 1 (.slice B106 p105.1.length d108) p105.1.length ((p105.1.set ((w64 (Int.tdiv (w64 (x2 - 2)) 4)).toNat) (w64 ((x0.getD ((w64 (Int.tdiv (w64 (x2 - 2)) 4)).toNat) (0 : Int)) - (w64 (1 + (Int.tmod (w64 (Int.tdiv (w64 (x2 - 2)) 2)) 2)))))).flatMap eI)] | _, _ => [])
                  (κ := (fun _ => none)) (Z := (fun | 11 => [.row 3 1 (.slice B106 p105.1.length d108) p105.1.length (p105.1.flatMap eI)] | _ => [])) mixed hF (by kernel_rfl) (show St w _ [.row 3 1 (.slice B106 p105.1.length d108) p105.1.length (p105.1.flatMap eI), .box g109 25 #[.slice B106 p105.1.length d108, .bool p105.2], .box g102 25 #[.slice none 0 0, .bool false], .box g101 25 #[.slice A0 x0.length c0, .bool x1]] from S.sel [1, 0, 2, 3] rfl rfl) ?_ ?_
                · refine ⟨?_, ?_, ?_, ?_, ?_, ?_, ?_, ?_, ?_, ?_, ?_, ?_, trivial⟩
                  · intro a u X hB hu hp hr hz hl S
                    replace S : St w u ([] ++ X) := S
                    exact .inl ⟨rfl, .pointer (some ⟨g109, 0, none⟩), u, (run_fieldAddr rfl fl25_0 (hF.evB hB rfl rfl) rfl), rfl, S⟩
                  · intro a u X hB hu hp hr hz hl S
                    replace S : St w u ([] ++ X) := S
                    have e68 : sl a 68 = .pointer (some ⟨g109, 0, none⟩) := hp 0 rfl
                    exact .inl ⟨rfl, .slice B106 p105.1.length d108, u, (run_load1 rfl one23 (ev_sl e68) ((gr_box S hl 0 rfl).cell rfl)), rfl, S⟩
                  · intro a u X hB hu hp hr hz hl S
                    replace S : St w u ([] ++ X) := S
                    exact .inl ⟨rfl, .int .i64 (w64 (Int.tdiv (w64 (x2 - 2)) 4)), u, (run_move rfl (hF.evB hB rfl rfl)), rfl, S⟩
                  · intro a u X hB hu hp hr hz hl S
                    replace S : St w u ([] ++ X) := S
                    exact .inl ⟨rfl, .pointer (some ⟨g101, 0, none⟩), u, (run_fieldAddr rfl fl25_0 (hF.evB hB rfl rfl) rfl), rfl, S⟩
                  · intro a u X hB hu hp hr hz hl S
                    replace S : St w u ([] ++ X) := S
                    have e71 : sl a 71 = .pointer (some ⟨g101, 0, none⟩) := hp 3 rfl
                    exact .inl ⟨rfl, .slice A0 x0.length c0, u, (run_load1 rfl one23 (ev_sl e71) ((gr_box S hl 2 rfl).cell rfl)), rfl, S⟩
                  · intro a u X hB hu hp hr hz hl S
                    replace S : St w u ([] ++ X) := S
                    exact .inl ⟨rfl, .int .i64 (w64 (Int.tdiv (w64 (x2 - 2)) 4)), u, (run_move rfl (hF.evB hB rfl rfl)), rfl, S⟩
                  · intro a u X hB hu hp hr hz hl S
                    replace S : St w u ([] ++ X) := S
                    have e72 : sl a 72 = .slice A0 x0.length c0 := hp 4 rfl
                    have e73 : sl a 73 = .int .i64 (w64 (Int.tdiv (w64 (x2 - 2)) 4)) := hp 5 rfl
                    exact .inl ⟨rfl, .pointer (some ⟨adB A0, adO A0 + ((w64 (Int.tdiv (w64 (x2 - 2)) 4)).toNat) * 1, none⟩), u, (run_indexAddr (b := adB A0) (off := adO A0) rfl Tryd.underlying23 sz3 ((ev_sl e72).trans (congrArg (fun A => Value.slice A x0.length c0) ((S.rc0 h0.rc).rd.ad (ix_pos hk124)))) (ev_sl e73) hk124.1 hk124.2 (k' := adO A0 + ((w64 (Int.tdiv (w64 (x2 - 2)) 4)).toNat) * 1) rfl), rfl, S⟩
                  · intro a u X hB hu hp hr hz hl S
                    replace S : St w u ([] ++ X) := S
                    have e74 : sl a 74 = .pointer (some ⟨adB A0, adO A0 + ((w64 (Int.tdiv (w64 (x2 - 2)) 4)).toNat) * 1, none⟩) := hp 6 rfl
                    exact .inl ⟨rfl, .int .i64 (x0.getD ((w64 (Int.tdiv (w64 (x2 - 2)) 4)).toNat) (0 : Int)), u, (run_load1 rfl one3 (ev_sl e74) (rd_el0 (l := x0) (S.rc0 h0.rc).rd rfl eI_len (0 : Int) (ix_ltn hk124 rfl) rfl)), rfl, S⟩
                  · intro a u X hB hu hp hr hz hl S
                    replace S : St w u ([] ++ X) := S
                    exact .inl ⟨rfl, .int .i64 (w64 (1 + (Int.tmod (w64 (Int.tdiv (w64 (x2 - 2)) 2)) 2))), u, (run_move rfl (hF.evB hB rfl rfl)), rfl, S⟩
                  · intro a u X hB hu hp hr hz hl S
                    replace S : St w u ([] ++ X) := S
                    have e75 : sl a 75 = .int .i64 (x0.getD ((w64 (Int.tdiv (w64 (x2 - 2)) 4)).toNat) (0 : Int)) := hp 7 rfl
                    have e76 : sl a 76 = .int .i64 (w64 (1 + (Int.tmod (w64 (Int.tdiv (w64 (x2 - 2)) 2)) 2))) := hp 8 rfl
                    exact .inl ⟨rfl, .int .i64 (w64 ((x0.getD ((w64 (Int.tdiv (w64 (x2 - 2)) 4)).toNat) (0 : Int)) - (w64 (1 + (Int.tmod (w64 (Int.tdiv (w64 (x2 - 2)) 2)) 2))))), u, (run_sub (z := w64 ((x0.getD ((w64 (Int.tdiv (w64 (x2 - 2)) 4)).toNat) (0 : Int)) - (w64 (1 + (Int.tmod (w64 (Int.tdiv (w64 (x2 - 2)) 2)) 2))))) (ev_sl e75) (ev_sl e76) rfl rfl), rfl, S⟩
                  · intro a u X hB hu hp hr hz hl S
                    replace S : St w u ([] ++ X) := S
                    have e69 : sl a 69 = .slice B106 p105.1.length d108 := hp 1 rfl
                    have e70 : sl a 70 = .int .i64 (w64 (Int.tdiv (w64 (x2 - 2)) 4)) := hp 2 rfl
                    exact .inl ⟨rfl, .pointer (some ⟨adB B106, adO B106 + ((w64 (Int.tdiv (w64 (x2 - 2)) 4)).toNat) * 1, none⟩), u, (run_indexAddr (b := adB B106) (off := adO B106) rfl Tryd.underlying23 sz3 ((ev_sl e69).trans (congrArg (fun A => Value.slice A p105.1.length d108) ((own_rc (show World.ownsRow _ 0 _ _ _ _ _ from S.mem (List.mem_append_right _ (hz 11 (List.mem_of_getElem? (i := 0) rfl) _ (List.mem_of_getElem? (i := 0) rfl))))).rd.ad (ix_pos hk125)))) (ev_sl e70) hk125.1 hk125.2 (k' := adO B106 + ((w64 (Int.tdiv (w64 (x2 - 2)) 4)).toNat) * 1) rfl), rfl, S⟩
                  · intro a u X hB hu hp hr hz hl S
                    replace S : St w u ([.row 3 1 (.slice B106 p105.1.length d108) p105.1.length (p105.1.flatMap eI)] ++ X) := S
                    have e77 : sl a 77 = .int .i64 (w64 ((x0.getD ((w64 (Int.tdiv (w64 (x2 - 2)) 4)).toNat) (0 : Int)) - (w64 (1 + (Int.tmod (w64 (Int.tdiv (w64 (x2 - 2)) 2)) 2))))) := hp 9 rfl
                    have e78 : sl a 78 = .pointer (some ⟨adB B106, adO B106 + ((w64 (Int.tdiv (w64 (x2 - 2)) 4)).toNat) * 1, none⟩) := hp 10 rfl
                    obtain ⟨w', hrun, S'⟩ := run_storeElN (P := Tryd.prog) (ρ := a.eval) (y0 := w64 ((x0.getD ((w64 (Int.tdiv (w64 (x2 - 2)) 4)).toNat) (0 : Int)) - (w64 (1 + (Int.tmod (w64 (Int.tdiv (w64 (x2 - 2)) 2)) 2))))) (off := 0) S 3 (.tmp 78) (.tmp 77) (i := 0) sz3 (ev_sl e78) (ev_sl e77) rfl rfl rfl rfl rfl eI_len (0 : Int) (ix_ltn hk125 rfl) rfl rfl
                    exact .inr (.inl ⟨rfl, w', hrun _ rfl, trivial, S'⟩)
                · intro a u hB hp S
                  obtain ⟨q0, q1, q2, q3, q4, q5, q6, q7, q8, q9, q10, q11, _⟩ := hp
                  have e68 : sl a 68 = .pointer (some ⟨g109, 0, none⟩) := q0
                  have e69 : sl a 69 = .slice B106 p105.1.length d108 := q1
                  have e70 : sl a 70 = .int .i64 (w64 (Int.tdiv (w64 (x2 - 2)) 4)) := q2
                  have e71 : sl a 71 = .pointer (some ⟨g101, 0, none⟩) := q3
                  have e72 : sl a 72 = .slice A0 x0.length c0 := q4
                  have e73 : sl a 73 = .int .i64 (w64 (Int.tdiv (w64 (x2 - 2)) 4)) := q5
                  have e74 : sl a 74 = .pointer (some ⟨adB A0, adO A0 + ((w64 (Int.tdiv (w64 (x2 - 2)) 4)).toNat) * 1, none⟩) := q6
                  have e75 : sl a 75 = .int .i64 (x0.getD ((w64 (Int.tdiv (w64 (x2 - 2)) 4)).toNat) (0 : Int)) := q7
                  have e76 : sl a 76 = .int .i64 (w64 (1 + (Int.tmod (w64 (Int.tdiv (w64 (x2 - 2)) 2)) 2))) := q8
                  have e77 : sl a 77 = .int .i64 (w64 ((x0.getD ((w64 (Int.tdiv (w64 (x2 - 2)) 4)).toNat) (0 : Int)) - (w64 (1 + (Int.tmod (w64 (Int.tdiv (w64 (x2 - 2)) 2)) 2))))) := q9
                  have e78 : sl a 78 = .pointer (some ⟨adB B106, adO B106 + ((w64 (Int.tdiv (w64 (x2 - 2)) 4)).toNat) * 1, none⟩) := q10
                  replace S : St w u [.row 3 1 (.slice B106 p105.1.length d108) p105.1.length ((p105.1.set ((w64 (Int.tdiv (w64 (x2 - 2)) 4)).toNat) (w64 ((x0.getD ((w64 (Int.tdiv (w64 (x2 - 2)) 4)).toNat) (0 : Int)) - (w64 (1 + (Int.tmod (w64 (Int.tdiv (w64 (x2 - 2)) 2)) 2)))))).flatMap eI), .box g109 25 #[.slice B106 p105.1.length d108, .bool p105.2], .box g102 25 #[.slice none 0 0, .bool false], .box g101 25 #[.slice A0 x0.length c0, .bool x1]] := S
                  clear q0 q1 q2 q3 q4 q5 q6 q7 q8 q9 q10 q11
                  have hF := hF.region hB [(68, .pointer (some ⟨g109, 0, none⟩)), (69, .slice B106 p105.1.length d108), (70, .int .i64 (w64 (Int.tdiv (w64 (x2 - 2)) 4))), (71, .pointer (some ⟨g101, 0, none⟩)), (72, .slice A0 x0.length c0), (73, .int .i64 (w64 (Int.tdiv (w64 (x2 - 2)) 4))), (74, .pointer (some ⟨adB A0, adO A0 + ((w64 (Int.tdiv (w64 (x2 - 2)) 4)).toNat) * 1, none⟩)), (75, .int .i64 (x0.getD ((w64 (Int.tdiv (w64 (x2 - 2)) 4)).toNat) (0 : Int))), (76, .int .i64 (w64 (1 + (Int.tmod (w64 (Int.tdiv (w64 (x2 - 2)) 2)) 2)))), (77, .int .i64 (w64 ((x0.getD ((w64 (Int.tdiv (w64 (x2 - 2)) 4)).toNat) (0 : Int)) - (w64 (1 + (Int.tmod (w64 (Int.tdiv (w64 (x2 - 2)) 2)) 2)))))), (78, .pointer (some ⟨adB B106, adO B106 + ((w64 (Int.tdiv (w64 (x2 - 2)) 4)).toNat) * 1, none⟩))] (allSl_mem ⟨e68, e69, e70, e71, e72, e73, e74, e75, e76, e77, e78, trivial⟩) rfl
                  clear hB e68 e69 e70 e71 e72 e73 e74 e75 e76 e77 e78
                  obtain rfl := Option.some.inj hM122
                  exact ⟨p105.1.set ((w64 (Int.tdiv (w64 (x2 - 2)) 4)).toNat) (w64 ((x0.getD ((w64 (Int.tdiv (w64 (x2 - 2)) 4)).toNat) (0 : Int)) - (w64 (1 + (Int.tmod (w64 (Int.tdiv (w64 (x2 - 2)) 2)) 2))))), rfl, (len_set rfl), hF.keep _ ⟨rfl, rfl, rfl, rfl, rfl, trivial⟩, S.sel [1, 2, 3, 0] rfl rfl⟩
              · replace hM122 := bif_t hc123 hM122
                refine cond_t hF rfl hc123 ?_
                obtain ⟨hk126, hM122⟩ := chk_ex hM122
                replace hk126 := ixB_t hk126
                obtain ⟨hk127, hM122⟩ := chk_ex hM122
                replace hk127 := ixB_t hk127
                refine region_gw (D := [57, 58, 59, 60, 61, 62, 63, 64, 65, 66, 67]) (Lr := [.box g109 25 #[.slice B106 p105.1.length d108, .bool p105.2], .box g102 25 #[.slice none 0 0, .bool false], .box g101 25 #[.slice A0 x0.length c0, .bool x1]]) (deps := (fun | 0 => [57] | 1 => [58] | 2 => [59] | 3 => [60] | 4 => [61] | 5 => [62] | 6 => [63] | 7 => [64] | 8 => [65] | 9 => [66] | 10 => [67] | 11 => [67] | _ => [])) (rd := (fun _ => [])) (zr := (fun | 10 => [11] | _ => []))
                  (φ := fun i vs => match i, vs with | 0, [v57] => v57 = .pointer (some ⟨g109, 0, none⟩) | 1, [v58] => v58 = .slice B106 p105.1.length d108 | 2, [v59] => v59 = .int .i64 (w64 (Int.tdiv (w64 (x2 - 2)) 4)) | 3, [v60] => v60 = .pointer (some ⟨g101, 0, none⟩) | 4, [v61] => v61 = .slice A0 x0.length c0 | 5, [v62] => v62 = .int .i64 (w64 (Int.tdiv (w64 (x2 - 2)) 4)) | 6, [v63] => v63 = .pointer (some ⟨adB A0, adO A0 + ((w64 (Int.tdiv (w64 (x2 - 2)) 4)).toNat) * 1, none⟩) | 7, [v64] => v64 = .int .i64 (x0.getD ((w64 (Int.tdiv (w64 (x2 - 2)) 4)).toNat) (0 : Int)) | 8, [v65] => v65 = .int .i64 (w64 (1 + (Int.tmod (w64 (Int.tdiv (w64 (x2 - 2)) 2)) 2))) | 9, [v66] => v66 = .int .i64 (w64 ((x0.getD ((w64 (Int.tdiv (w64 (x2 - 2)) 4)).toNat) (0 : Int)) + (w64 (1 + (Int.tmod (w64 (Int.tdiv (w64 (x2 - 2)) 2)) 2))))) | 10, [v67] => v67 = .pointer (some ⟨adB B106, adO B106 + ((w64 (Int.tdiv (w64 (x2 - 2)) 4)).toNat) * 1, none⟩) | _, _ => True)
                  (C := fun i vs => match i, vs with | 11, [v67] => [.row 3 1 (.slice B106 p105.1.length d108) p105.1.length ((p105.1.set ((w64 (Int.tdiv (w64 (x2 - 2)) 4)).toNat) (w64 ((x0.getD ((w64 (Int.tdiv (w64 (x2 - 2)) 4)).toNat) (0 : Int)) + (w64 (1 + (Int.tmod (w64 (Int.tdiv (w64 (x2 - 2)) 2)) 2)))))).flatMap eI)] | _, _ => [])
                  (κ := (fun _ => none)) (Z := (fun | 11 => [.row 3 1 (.slice B106 p105.1.length d108) p105.1.length (p105.1.flatMap eI)] | _ => [])) mixed hF (by kernel_rfl) (show St w _ [.row 3 1 (.slice B106 p105.1.length d108) p105.1.length (p105.1.flatMap eI), .box g109 25 #[.slice B106 p105.1.length d108, .bool p105.2], .box g102 25 #[.slice none 0 0, .bool false], .box g101 25 #[.slice A0 x0.length c0, .bool x1]] from S.sel [1, 0, 2, 3] rfl rfl) ?_ ?_
                · refine ⟨?_, ?_, ?_, ?_, ?_, ?_, ?_, ?_, ?_, ?_, ?_, ?_, trivial⟩
                  · intro a u X hB hu hp hr hz hl S
                    replace S : St w u ([] ++ X) := S
                    exact .inl ⟨rfl, .pointer (some ⟨g109, 0, none⟩), u, (run_fieldAddr rfl fl25_0 (hF.evB hB rfl rfl) rfl), rfl, S⟩
                  · intro a u X hB hu hp hr hz hl S
                    replace S : St w u ([] ++ X) := S
                    have e57 : sl a 57 = .pointer (some ⟨g109, 0, none⟩) := hp 0 rfl
                    exact .inl ⟨rfl, .slice B106 p105.1.length d108, u, (run_load1 rfl one23 (ev_sl e57) ((gr_box S hl 0 rfl).cell rfl)), rfl, S⟩
                  · intro a u X hB hu hp hr hz hl S
                    replace S : St w u ([] ++ X) := S
                    exact .inl ⟨rfl, .int .i64 (w64 (Int.tdiv (w64 (x2 - 2)) 4)), u, (run_move rfl (hF.evB hB rfl rfl)), rfl, S⟩
                  · intro a u X hB hu hp hr hz hl S
                    replace S : St w u ([] ++ X) := S
                    exact .inl ⟨rfl, .pointer (some ⟨g101, 0, none⟩), u, (run_fieldAddr rfl fl25_0 (hF.evB hB rfl rfl) rfl), rfl, S⟩
                  · intro a u X hB hu hp hr hz hl S
                    replace S : St w u ([] ++ X) := S
                    have e60 : sl a 60 = .pointer (some ⟨g101, 0, none⟩) := hp 3 rfl
                    exact .inl ⟨rfl, .slice A0 x0.length c0, u, (run_load1 rfl one23 (ev_sl e60) ((gr_box S hl 2 rfl).cell rfl)), rfl, S⟩
                  · intro a u X hB hu hp hr hz hl S
                    replace S : St w u ([] ++ X) := S
                    exact .inl ⟨rfl, .int .i64 (w64 (Int.tdiv (w64 (x2 - 2)) 4)), u, (run_move rfl (hF.evB hB rfl rfl)), rfl, S⟩
                  · intro a u X hB hu hp hr hz hl S
                    replace S : St w u ([] ++ X) := S
                    have e61 : sl a 61 = .slice A0 x0.length c0 := hp 4 rfl
                    have e62 : sl a 62 = .int .i64 (w64 (Int.tdiv (w64 (x2 - 2)) 4)) := hp 5 rfl
                    exact .inl ⟨rfl, .pointer (some ⟨adB A0, adO A0 + ((w64 (Int.tdiv (w64 (x2 - 2)) 4)).toNat) * 1, none⟩), u, (run_indexAddr (b := adB A0) (off := adO A0) rfl Tryd.underlying23 sz3 ((ev_sl e61).trans (congrArg (fun A => Value.slice A x0.length c0) ((S.rc0 h0.rc).rd.ad (ix_pos hk126)))) (ev_sl e62) hk126.1 hk126.2 (k' := adO A0 + ((w64 (Int.tdiv (w64 (x2 - 2)) 4)).toNat) * 1) rfl), rfl, S⟩
                  · intro a u X hB hu hp hr hz hl S
                    replace S : St w u ([] ++ X) := S
                    have e63 : sl a 63 = .pointer (some ⟨adB A0, adO A0 + ((w64 (Int.tdiv (w64 (x2 - 2)) 4)).toNat) * 1, none⟩) := hp 6 rfl
                    exact .inl ⟨rfl, .int .i64 (x0.getD ((w64 (Int.tdiv (w64 (x2 - 2)) 4)).toNat) (0 : Int)), u, (run_load1 rfl one3 (ev_sl e63) (rd_el0 (l := x0) (S.rc0 h0.rc).rd rfl eI_len (0 : Int) (ix_ltn hk126 rfl) rfl)), rfl, S⟩
                  · intro a u X hB hu hp hr hz hl S
                    replace S : St w u ([] ++ X) := S
                    exact .inl ⟨rfl, .int .i64 (w64 (1 + (Int.tmod (w64 (Int.tdiv (w64 (x2 - 2)) 2)) 2))), u, (run_move rfl (hF.evB hB rfl rfl)), rfl, S⟩
                  · intro a u X hB hu hp hr hz hl S
                    replace S : St w u ([] ++ X) := S
                    have e64 : sl a 64 = .int .i64 (x0.getD ((w64 (Int.tdiv (w64 (x2 - 2)) 4)).toNat) (0 : Int)) := hp 7 rfl
                    have e65 : sl a 65 = .int .i64 (w64 (1 + (Int.tmod (w64 (Int.tdiv (w64 (x2 - 2)) 2)) 2))) := hp 8 rfl
                    exact .inl ⟨rfl, .int .i64 (w64 ((x0.getD ((w64 (Int.tdiv (w64 (x2 - 2)) 4)).toNat) (0 : Int)) + (w64 (1 + (Int.tmod (w64 (Int.tdiv (w64 (x2 - 2)) 2)) 2))))), u, (run_add (z := w64 ((x0.getD ((w64 (Int.tdiv (w64 (x2 - 2)) 4)).toNat) (0 : Int)) + (w64 (1 + (Int.tmod (w64 (Int.tdiv (w64 (x2 - 2)) 2)) 2))))) (ev_sl e64) (ev_sl e65) rfl rfl), rfl, S⟩
                  · intro a u X hB hu hp hr hz hl S
                    replace S : St w u ([] ++ X) := S
                    have e58 : sl a 58 = .slice B106 p105.1.length d108 := hp 1 rfl
                    have e59 : sl a 59 = .int .i64 (w64 (Int.tdiv (w64 (x2 - 2)) 4)) := hp 2 rfl
                    exact .inl ⟨rfl, .pointer (some ⟨adB B106, adO B106 + ((w64 (Int.tdiv (w64 (x2 - 2)) 4)).toNat) * 1, none⟩), u, (run_indexAddr (b := adB B106) (off := adO B106) rfl Tryd.underlying23 sz3 ((ev_sl e58).trans (congrArg (fun A => Value.slice A p105.1.length d108) ((own_rc (show World.ownsRow _ 0 _ _ _ _ _ from S.mem (List.mem_append_right _ (hz 11 (List.mem_of_getElem? (i := 0) rfl) _ (List.mem_of_getElem? (i := 0) rfl))))).rd.ad (ix_pos hk127)))) (ev_sl e59) hk127.1 hk127.2 (k' := adO B106 + ((w64 (Int.tdiv (w64 (x2 - 2)) 4)).toNat) * 1) rfl), rfl, S⟩
                  · intro a u X hB hu hp hr hz hl S
                    replace S : St w u ([.row 3 1 (.slice B106 p105.1.length d108) p105.1.length (p105.1.flatMap eI)] ++ X) := S
                    have e66 : sl a 66 = .int .i64 (w64 ((x0.getD ((w64 (Int.tdiv (w64 (x2 - 2)) 4)).toNat) (0 : Int)) + (w64 (1 + (Int.tmod (w64 (Int.tdiv (w64 (x2 - 2)) 2)) 2))))) := hp 9 rfl
                    have e67 : sl a 67 = .pointer (some ⟨adB B106, adO B106 + ((w64 (Int.tdiv (w64 (x2 - 2)) 4)).toNat) * 1, none⟩) := hp 10 rfl
                    obtain ⟨w', hrun, S'⟩ := run_storeElN (P := Tryd.prog) (ρ := a.eval) (y0 := w64 ((x0.getD ((w64 (Int.tdiv (w64 (x2 - 2)) 4)).toNat) (0 : Int)) + (w64 (1 + (Int.tmod (w64 (Int.tdiv (w64 (x2 - 2)) 2)) 2))))) (off := 0) S 3 (.tmp 67) (.tmp 66) (i := 0) sz3 (ev_sl e67) (ev_sl e66) rfl rfl rfl rfl rfl eI_len (0 : Int) (ix_ltn hk127 rfl) rfl rfl
                    exact .inr (.inl ⟨rfl, w', hrun _ rfl, trivial, S'⟩)
                · intro a u hB hp S
                  obtain ⟨q0, q1, q2, q3, q4, q5, q6, q7, q8, q9, q10, q11, _⟩ := hp
                  have e57 : sl a 57 = .pointer (some ⟨g109, 0, none⟩) := q0
                  have e58 : sl a 58 = .slice B106 p105.1.length d108 := q1
                  have e59 : sl a 59 = .int .i64 (w64 (Int.tdiv (w64 (x2 - 2)) 4)) := q2
                  have e60 : sl a 60 = .pointer (some ⟨g101, 0, none⟩) := q3
                  have e61 : sl a 61 = .slice A0 x0.length c0 := q4
                  have e62 : sl a 62 = .int .i64 (w64 (Int.tdiv (w64 (x2 - 2)) 4)) := q5
                  have e63 : sl a 63 = .pointer (some ⟨adB A0, adO A0 + ((w64 (Int.tdiv (w64 (x2 - 2)) 4)).toNat) * 1, none⟩) := q6
                  have e64 : sl a 64 = .int .i64 (x0.getD ((w64 (Int.tdiv (w64 (x2 - 2)) 4)).toNat) (0 : Int)) := q7
                  have e65 : sl a 65 = .int .i64 (w64 (1 + (Int.tmod (w64 (Int.tdiv (w64 (x2 - 2)) 2)) 2))) := q8
                  have e66 : sl a 66 = .int .i64 (w64 ((x0.getD ((w64 (Int.tdiv (w64 (x2 - 2)) 4)).toNat) (0 : Int)) + (w64 (1 + (Int.tmod (w64 (Int.tdiv (w64 (x2 - 2)) 2)) 2))))) := q9
                  have e67 : sl a 67 = .pointer (some ⟨adB B106, adO B106 + ((w64 (Int.tdiv (w64 (x2 - 2)) 4)).toNat) * 1, none⟩) := q10
                  replace S : St w u [.row 3 1 (.slice B106 p105.1.length d108) p105.1.length ((p105.1.set ((w64 (Int.tdiv (w64 (x2 - 2)) 4)).toNat) (w64 ((x0.getD ((w64 (Int.tdiv (w64 (x2 - 2)) 4)).toNat) (0 : Int)) + (w64 (1 + (Int.tmod (w64 (Int.tdiv (w64 (x2 - 2)) 2)) 2)))))).flatMap eI), .box g109 25 #[.slice B106 p105.1.length d108, .bool p105.2], .box g102 25 #[.slice none 0 0, .bool false], .box g101 25 #[.slice A0 x0.length c0, .bool x1]] := S
                  clear q0 q1 q2 q3 q4 q5 q6 q7 q8 q9 q10 q11
                  have hF := hF.region hB [(57, .pointer (some ⟨g109, 0, none⟩)), (58, .slice B106 p105.1.length d108), (59, .int .i64 (w64 (Int.tdiv (w64 (x2 - 2)) 4))), (60, .pointer (some ⟨g101, 0, none⟩)), (61, .slice A0 x0.length c0), (62, .int .i64 (w64 (Int.tdiv (w64 (x2 - 2)) 4))), (63, .pointer (some ⟨adB A0, adO A0 + ((w64 (Int.tdiv (w64 (x2 - 2)) 4)).toNat) * 1, none⟩)), (64, .int .i64 (x0.getD ((w64 (Int.tdiv (w64 (x2 - 2)) 4)).toNat) (0 : Int))), (65, .int .i64 (w64 (1 + (Int.tmod (w64 (Int.tdiv (w64 (x2 - 2)) 2)) 2)))), (66, .int .i64 (w64 ((x0.getD ((w64 (Int.tdiv (w64 (x2 - 2)) 4)).toNat) (0 : Int)) + (w64 (1 + (Int.tmod (w64 (Int.tdiv (w64 (x2 - 2)) 2)) 2)))))), (67, .pointer (some ⟨adB B106, adO B106 + ((w64 (Int.tdiv (w64 (x2 - 2)) 4)).toNat) * 1, none⟩))] (allSl_mem ⟨e57, e58, e59, e60, e61, e62, e63, e64, e65, e66, e67, trivial⟩) rfl
                  clear hB e57 e58 e59 e60 e61 e62 e63 e64 e65 e66 e67
                  obtain rfl := Option.some.inj hM122
                  exact ⟨p105.1.set ((w64 (Int.tdiv (w64 (x2 - 2)) 4)).toNat) (w64 ((x0.getD ((w64 (Int.tdiv (w64 (x2 - 2)) 4)).toNat) (0 : Int)) + (w64 (1 + (Int.tmod (w64 (Int.tdiv (w64 (x2 - 2)) 2)) 2))))), rfl, (len_set rfl), hF.keep _ ⟨rfl, rfl, rfl, rfl, rfl, trivial⟩, S.sel [1, 2, 3, 0] rfl rfl⟩
            · rintro a u ⟨p119, rfl, hn121, hF, S⟩
              obtain rfl := Option.some.inj hM113
              exact ⟨(p119, p105.2), rfl, hn121, hF.keep _ ⟨rfl, rfl, rfl, rfl, rfl, trivial⟩, S.sel [0, 1, 2, 3] rfl rfl⟩
          · replace hM113 := bif_t hc118 hM113
            refine cond_t hF rfl hc118 ?_
            refine wp_seq ?_
            refine wp_region_lit ?_
            refine op_val (v := .agg #[.slice B106 p105.1.length d108, .bool p105.2]) rfl rfl hF rfl (run_loadN rfl ag25 (hF.ev rfl) rfl ((S.free 0 rfl).cells 0 #[.slice B106 p105.1.length d108, .bool p105.2] rfl)) ?_; clear hF; intro a hF
            refine op_do rfl rfl (run_store (cs' := #[.slice B106 p105.1.length d108, .bool p105.2]) rfl sz25 (hF.ev rfl) (hF.ev rfl) rfl rfl rfl (S.free 2 rfl) rfl rfl) ?_; replace S := S.put 2 rfl (#[.slice B106 p105.1.length d108, .bool p105.2])
            generalize World.setRow _ _ _ = u at S ⊢
            refine op_val (v := .bool false) rfl rfl hF rfl (run_assign rfl rfl) ?_; clear hF; intro a hF
            refine wpList_nil ?_
            refine wp_ret ?_
            repeat with_reducible (first | refine then_ret ?_ | refine in_ret ?_ | refine in_nrm ?_)
            refine ret2_gw (.inl rfl) hF rfl (res_cell (hF.ev rfl) (res_loadN ag25 rfl (S.cells 2 rfl 0 #[.slice B106 p105.1.length d108, .bool p105.2] rfl))) (res_tmp (hF.ev rfl)) ?_
            obtain rfl := Option.some.inj hM113
            obtain rfl := Option.some.inj hM
            exact ⟨B106, p105.1.length, d108, rfl, rfl, S.sel [1] rfl rfl⟩
        · replace hM113 := bif_t hc115 hM113
          refine cond_t hF rfl hc115 ?_
          refine wp_seq ?_
          refine wp_region_lit ?_
          refine op_val (v := .agg #[.slice B106 p105.1.length d108, .bool p105.2]) rfl rfl hF rfl (run_loadN rfl ag25 (hF.ev rfl) rfl ((S.free 0 rfl).cells 0 #[.slice B106 p105.1.length d108, .bool p105.2] rfl)) ?_; clear hF; intro a hF
          refine op_do rfl rfl (run_store (cs' := #[.slice B106 p105.1.length d108, .bool p105.2]) rfl sz25 (hF.ev rfl) (hF.ev rfl) rfl rfl rfl (S.free 2 rfl) rfl rfl) ?_; replace S := S.put 2 rfl (#[.slice B106 p105.1.length d108, .bool p105.2])
          generalize World.setRow _ _ _ = u at S ⊢
          refine op_val (v := .bool false) rfl rfl hF rfl (run_assign rfl rfl) ?_; clear hF; intro a hF
          refine wpList_nil ?_
          refine wp_ret ?_
          repeat with_reducible (first | refine then_ret ?_ | refine in_ret ?_ | refine in_nrm ?_)
          refine ret2_gw (.inl rfl) hF rfl (res_cell (hF.ev rfl) (res_loadN ag25 rfl (S.cells 2 rfl 0 #[.slice B106 p105.1.length d108, .bool p105.2] rfl))) (res_tmp (hF.ev rfl)) ?_
          obtain rfl := Option.some.inj hM113
          obtain rfl := Option.some.inj hM
          exact ⟨B106, p105.1.length, d108, rfl, rfl, S.sel [1] rfl rfl⟩
      · replace hM113 := bif_t hc114 hM113
        refine cond_t hF rfl hc114 ?_
        refine wp_region_lit ?_
        refine op_val (v := .int .i64 x2) rfl rfl hF rfl (run_move rfl (hF.ev rfl)) ?_; clear hF; intro a hF
        refine op_val (v := .bool (x2 == 1)) rfl rfl hF rfl (run_eql (hF.ev rfl) rfl rfl) ?_; clear hF; intro a hF
        refine op_val (v := .pointer (some ⟨g109, 1, none⟩)) rfl rfl hF rfl (run_fieldAddr rfl fl25_1 (hF.ev rfl) rfl) ?_; clear hF; intro a hF
        refine op_do rfl rfl (run_store (cs' := #[.slice B106 p105.1.length d108, .bool (x2 == 1)]) rfl sz4 (hF.ev rfl) (hF.ev rfl) rfl rfl rfl (S.free 0 rfl) rfl rfl) ?_; replace S := S.put 0 rfl (#[.slice B106 p105.1.length d108, .bool (x2 == 1)])
        generalize World.setRow _ _ _ = u at S ⊢
        refine wpList_nil ?_
        obtain rfl := Option.some.inj hM113
        exact ⟨(p105.1, x2 == 1), rfl, rfl, hF.keep _ ⟨rfl, rfl, rfl, rfl, rfl, trivial⟩, S.sel [0, 2, 3, 1] rfl rfl⟩
    · rintro a u ⟨p110, rfl, hn112, hF, S⟩
      replace hM := elim_l hM
      refine wp_seq ?_
      refine wp_seq ?_
      refine wp_region_lit ?_
      refine op_val (v := .agg #[.slice B106 p105.1.length d108, .bool p110.2]) rfl rfl hF rfl (run_loadN rfl ag25 (hF.ev rfl) rfl ((S.free 0 rfl).cells 0 #[.slice B106 p105.1.length d108, .bool p110.2] rfl)) ?_; clear hF; intro a hF
      obtain ⟨p128, h128, hM⟩ := bind_ex hM
      refine op_call rfl rfl hF rfl (run_call (vs := [.agg #[.slice B106 p105.1.length d108, .bool p110.2]]) rfl rfl co20 ⟨(hF.ev rfl), trivial⟩) (c_spec_BarsValid (x0 := p110.1) (x1 := p110.2) ⟨(S.rc 3 rfl), hn112⟩ h128) ?_
      rintro e u ⟨rfl, T⟩
      refine ⟨_, rfl, ?_⟩
      clear hF; intro a hF
      replace S := S.call0 T; clear T
      refine op_val (v := .bool (!p128)) rfl rfl hF rfl (run_not rfl (hF.ev rfl)) ?_; clear hF; intro a hF
      refine op_val (v := .bool (!p128)) rfl rfl hF rfl (run_move rfl (hF.ev rfl)) ?_; clear hF; intro a hF
      refine op_gv (v := .int .i64 x2) rfl rfl hF rfl (yf (gw_yield hF rfl rfl rfl)) (fun hg => (run_move rfl (hF.ev rfl))) ?_; clear hF; intro a hF
      refine op_gv (v := .bool (x2 == 0)) rfl rfl hF rfl (yf (gw_yield hF rfl rfl rfl)) (fun hg => (run_eql ((hF.ev rfl).trans (gv_t hg)) rfl rfl)) ?_; clear hF; intro a hF
      refine op_gv (v := .bool (x2 == 0)) rfl rfl hF rfl (yf (gw_yield hF rfl rfl rfl)) (fun hg => (run_move rfl ((hF.ev rfl).trans (gv_t hg)))) ?_; clear hF; intro a hF
      refine op_gv (v := .int .i64 x2) rfl rfl hF rfl (yfG (gw_yieldG hF rfl rfl rfl)) (fun hg => (run_move rfl (hF.ev rfl))) ?_; clear hF; intro a hF
      refine op_gv (v := .bool (x2 == 1)) rfl rfl hF rfl (yfG (gw_yieldG hF rfl rfl rfl)) (fun hg => (run_eql ((hF.ev rfl).trans (gv_t hg)) rfl rfl)) ?_; clear hF; intro a hF
      refine op_gv (v := .bool ((x2 == 0) || (x2 == 1))) rfl rfl hF rfl (yf (gw_yield hF rfl rfl rfl)) (fun hg => (run_pick_or rfl ((hF.ev rfl).trans (gv_t hg)) rfl (fun hp => ((hF.ev rfl).trans (gv_t (and_i hg (not_t hp))))))) ?_; clear hF; intro a hF
      refine op_gv (v := .bool ((x2 == 0) || (x2 == 1))) rfl rfl hF rfl (yf (gw_yield hF rfl rfl rfl)) (fun hg => (run_move rfl ((hF.ev rfl).trans (gv_t hg)))) ?_; clear hF; intro a hF
      refine op_gv (v := .pointer (some ⟨g109, 1, none⟩)) rfl rfl hF rfl (ytG (gw_yieldG hF rfl rfl rfl)) (fun hg => (run_fieldAddr rfl fl25_1 (hF.ev rfl) rfl)) ?_; clear hF; intro a hF
      refine op_gv (v := .bool p110.2) rfl rfl hF rfl (ytG (gw_yieldG hF rfl rfl rfl)) (fun hg => (run_load1 rfl one4 ((hF.ev rfl).trans (gv_t hg)) ((S.free 0 rfl).cell rfl))) ?_; clear hF; intro a hF
      refine op_gv (v := .pointer (some ⟨g101, 1, none⟩)) rfl rfl hF rfl (ytG (gw_yieldG hF rfl rfl rfl)) (fun hg => (run_fieldAddr rfl fl25_1 (hF.ev rfl) rfl)) ?_; clear hF; intro a hF
      refine op_gv (v := .bool x1) rfl rfl hF rfl (ytG (gw_yieldG hF rfl rfl rfl)) (fun hg => (run_load1 rfl one4 ((hF.ev rfl).trans (gv_t hg)) ((S.free 2 rfl).cell rfl))) ?_; clear hF; intro a hF
      refine op_gv (v := .bool (p110.2 == x1)) rfl rfl hF rfl (ytG (gw_yieldG hF rfl rfl rfl)) (fun hg => (run_eqlB ((hF.ev rfl).trans (gv_t hg)) ((hF.ev rfl).trans (gv_t hg)) Tryd.underlying4 rfl)) ?_; clear hF; intro a hF
      refine op_gv (v := .bool (((x2 == 0) || (x2 == 1)) && (p110.2 == x1))) rfl rfl hF rfl (yf (gw_yield hF rfl rfl rfl)) (fun hg => (run_pick_and rfl ((hF.ev rfl).trans (gv_t hg)) (fun hp => ((hF.ev rfl).trans (gv_t (and_i hg hp)))) rfl)) ?_; clear hF; intro a hF
      refine op_val (v := .bool ((!p128) || (((x2 == 0) || (x2 == 1)) && (p110.2 == x1)))) rfl rfl hF rfl (run_pick_or rfl (hF.ev rfl) rfl (fun hp => ((hF.ev rfl).trans (gv_t (not_t hp))))) ?_; clear hF; intro a hF
      refine wpList_nil ?_
      cases hc129 : ((!p128) || (((x2 == 0) || (x2 == 1)) && (p110.2 == x1)))
      · replace hM := bif_f hc129 hM
        refine cond_f hF rfl hc129 ?_
        refine wp_skip ?_
        refine wp_seq ?_
        refine wp_region_lit ?_
        refine op_val (v := .agg #[.slice B106 p105.1.length d108, .bool p110.2]) rfl rfl hF rfl (run_loadN rfl ag25 (hF.ev rfl) rfl ((S.free 0 rfl).cells 0 #[.slice B106 p105.1.length d108, .bool p110.2] rfl)) ?_; clear hF; intro a hF
        refine op_do rfl rfl (run_store (cs' := #[.slice B106 p105.1.length d108, .bool p110.2]) rfl sz25 (hF.ev rfl) (hF.ev rfl) rfl rfl rfl (S.free 1 rfl) rfl rfl) ?_; replace S := S.put 1 rfl (#[.slice B106 p105.1.length d108, .bool p110.2])
        generalize World.setRow _ _ _ = u at S ⊢
        refine op_val (v := .bool true) rfl rfl hF rfl (run_assign rfl rfl) ?_; clear hF; intro a hF
        refine wpList_nil ?_
        refine wp_ret ?_
        repeat with_reducible (first | refine then_ret ?_ | refine in_ret ?_ | refine in_nrm ?_)
        refine ret2_gw (.inl rfl) hF rfl (res_cell (hF.ev rfl) (res_loadN ag25 rfl (S.cells 1 rfl 0 #[.slice B106 p105.1.length d108, .bool p110.2] rfl))) (res_tmp (hF.ev rfl)) ?_
        obtain rfl := Option.some.inj hM
        exact ⟨B106, p105.1.length, d108, rfl, hn112, S.sel [3] rfl rfl⟩
      · replace hM := bif_t hc129 hM
        refine cond_t hF rfl hc129 ?_
        refine wp_seq ?_
        refine wp_region_lit ?_
        refine op_val (v := .agg #[.slice A0 x0.length c0, .bool x1]) rfl rfl hF rfl (run_loadN rfl ag25 (hF.ev rfl) rfl ((S.free 2 rfl).cells 0 #[.slice A0 x0.length c0, .bool x1] rfl)) ?_; clear hF; intro a hF
        obtain ⟨p130, h130, hM⟩ := bind_ex hM
        refine op_call rfl rfl hF rfl (run_call (vs := [.agg #[.slice A0 x0.length c0, .bool x1]]) rfl rfl co28 ⟨(hF.ev rfl), trivial⟩) (c_spec_l10Copy (x0 := x0) (x1 := x1) ⟨(S.rc0 h0.rc), rfl⟩ h130) ?_
        rintro e u ⟨B131, n132, d133, rfl, rfl, T⟩
        refine ⟨_, rfl, ?_⟩
        clear hF; intro a hF
        replace S := S.call1 T; clear T
        refine op_do rfl rfl (run_store (cs' := #[.slice B131 p130.1.length d133, .bool p130.2]) rfl sz25 (hF.ev rfl) (hF.ev rfl) rfl rfl rfl (S.free 2 rfl) rfl rfl) ?_; replace S := S.put 2 rfl (#[.slice B131 p130.1.length d133, .bool p130.2])
        generalize World.setRow _ _ _ = u at S ⊢
        refine op_val (v := .bool false) rfl rfl hF rfl (run_assign rfl rfl) ?_; clear hF; intro a hF
        refine wpList_nil ?_
        refine wp_ret ?_
        repeat with_reducible (first | refine then_ret ?_ | refine in_ret ?_ | refine in_nrm ?_)
        refine ret2_gw (.inl rfl) hF rfl (res_cell (hF.ev rfl) (res_loadN ag25 rfl (S.cells 2 rfl 0 #[.slice B131 p130.1.length d133, .bool p130.2] rfl))) (res_tmp (hF.ev rfl)) ?_
        obtain rfl := Option.some.inj hM
        exact ⟨B131, p130.1.length, d133, rfl, rfl, S.sel [0] rfl rfl⟩

set_option maxHeartbeats 4000000 in
theorem c_laws_sameInts {x0 : List Int} {x1 : List Int} {A0 : Option Addr} {n0 c0 : Nat} {A1 : Option Addr} {n1 c1 : Nat} {w : World} {r : Bool} (h0 : Rt w 1 eI A0 n0 c0 x0) (h1 : Rt w 1 eI A1 n1 c1 x1) (hM : m_laws_sameInts x0 x1 = some r) :
    Calls Tryd.prog 15 #[.slice A0 n0 c0, .slice A1 n1 c1] w (fun e w' => e = .returned (.bool r) ∧ St w w' []) := by
  obtain rfl := h0.len
  obtain rfl := h1.len
  unfold m_laws_sameInts at hM
  refine calls_gw Tryd.func15 Tryd.ntmps15 rfl [(0, .slice A0 x0.length c0), (1, .slice A1 x1.length c1)] ⟨rfl, rfl, trivial⟩ rfl ?_
  intro a hF
  have S := St.nil w
  refine wp_seq ?_
  refine wp_region_lit ?_
  refine op_val (v := .bool false) rfl rfl hF rfl (run_assign rfl rfl) ?_; clear hF; intro a hF
  refine wpList_nil ?_
  refine wp_seq ?_
  refine wp_seq ?_
  refine wp_region_lit ?_
  refine op_val (v := .slice A0 x0.length c0) rfl rfl hF rfl (run_move rfl (hF.ev rfl)) ?_; clear hF; intro a hF
  refine op_val (v := .int .i64 (x0.length : Int)) rfl rfl hF rfl (run_lenL rfl rfl Tryd.underlying23 (hF.ev rfl)) ?_; clear hF; intro a hF
  refine op_val (v := .slice A1 x1.length c1) rfl rfl hF rfl (run_move rfl (hF.ev rfl)) ?_; clear hF; intro a hF
  refine op_val (v := .int .i64 (x1.length : Int)) rfl rfl hF rfl (run_lenL rfl rfl Tryd.underlying23 (hF.ev rfl)) ?_; clear hF; intro a hF
  refine op_val (v := .bool ((x0.length : Int) != (x1.length : Int))) rfl rfl hF rfl (run_neq (hF.ev rfl) (hF.ev rfl) rfl) ?_; clear hF; intro a hF
  refine wpList_nil ?_
  cases hc101 : ((x0.length : Int) != (x1.length : Int))
  · replace hM := bif_f hc101 hM
    refine cond_f hF rfl hc101 ?_
    refine wp_skip ?_
    refine wp_seq ?_
    refine wp_seq ?_
    refine wp_region_lit ?_
    refine op_val (v := .int .i64 0) rfl rfl hF rfl (run_assign rfl rfl) ?_; clear hF; intro a hF
    refine wpList_nil ?_
    obtain ⟨o103, hM104, hM⟩ := bind_ex hM
    refine wp_cut (fun a u => ∃ (p102 : Unit), (Sum.inl p102) = o103 ∧ Fr a 26 [(4, .bool false)] ∧ St w u []) ?_ ?_
    · have _ := trivial
      refine wp_block ?_
      refine loop_gw (fun m a u => ∃ (p105 : Int), m_laws_sameInts_l1 x0 x1 m p105 = some _ ∧ Fr a 26 [(0, .slice A0 x0.length c0), (1, .slice A1 x1.length c1), (4, .bool false), (5, .int .i64 p105)] ∧ St w u []) FUEL ⟨0, hM104, hF.keep _ ⟨rfl, rfl, rfl, rfl, trivial⟩, S.sel [] rfl rfl⟩ ?_
      clear hF S hM104; rintro m a u ⟨p105, hM104, hF, S⟩
      rcases m with _ | f1
      · exact none_some hM104
      rw [m_laws_sameInts_l1.eq_2] at hM104
      refine wp_seq ?_
      refine wp_seq ?_
      refine wp_region_lit ?_
      refine op_val (v := .int .i64 p105) rfl rfl hF rfl (run_move rfl (hF.ev rfl)) ?_; clear hF; intro a hF
      refine op_val (v := .slice A0 x0.length c0) rfl rfl hF rfl (run_move rfl (hF.ev rfl)) ?_; clear hF; intro a hF
      refine op_val (v := .int .i64 (x0.length : Int)) rfl rfl hF rfl (run_lenL rfl rfl Tryd.underlying23 (hF.ev rfl)) ?_; clear hF; intro a hF
      refine op_val (v := .bool (ltB p105 (x0.length : Int))) rfl rfl hF rfl (run_lss (hF.ev rfl) (hF.ev rfl) rfl) ?_; clear hF; intro a hF
      refine wpList_nil ?_
      cases hc106 : (ltB p105 (x0.length : Int))
      · replace hM104 := bif_f hc106 hM104
        refine cond_f hF rfl hc106 ?_
        refine wp_exit ?_
        repeat with_reducible (first | refine then_exit ?_ | refine in_hit ?_ | refine in_miss rfl ?_)
        obtain rfl := Option.some.inj hM104
        exact ⟨(), rfl, hF.keep _ ⟨rfl, trivial⟩, S.sel [] rfl rfl⟩
      · replace hM104 := bif_t hc106 hM104
        refine cond_t hF rfl hc106 ?_
        refine wp_skip ?_
        refine wp_seq ?_
        refine wp_block ?_
        refine wp_seq ?_
        obtain ⟨hk107, hM104⟩ := chk_ex hM104
        replace hk107 := ixB_t hk107
        obtain ⟨hk108, hM104⟩ := chk_ex hM104
        replace hk108 := ixB_t hk108
        refine region_gw (D := [17, 18, 19, 20, 21, 22, 23, 24, 25]) (Lr := []) (deps := (fun | 0 => [17] | 1 => [18] | 2 => [19] | 3 => [20] | 4 => [21] | 5 => [22] | 6 => [23] | 7 => [24] | 8 => [25] | _ => [])) (rd := (fun _ => [])) (zr := (fun _ => []))
          (φ := fun i vs => match i, vs with | 0, [v17] => v17 = .slice A0 x0.length c0 | 1, [v18] => v18 = .int .i64 p105 | 2, [v19] => v19 = .pointer (some ⟨adB A0, adO A0 + p105.toNat * 1, none⟩) | 3, [v20] => v20 = .int .i64 (x0.getD p105.toNat (0 : Int)) | 4, [v21] => v21 = .slice A1 x1.length c1 | 5, [v22] => v22 = .int .i64 p105 | 6, [v23] => v23 = .pointer (some ⟨adB A1, adO A1 + p105.toNat * 1, none⟩) | 7, [v24] => v24 = .int .i64 (x1.getD p105.toNat (0 : Int)) | 8, [v25] => v25 = .bool ((x0.getD p105.toNat (0 : Int)) != (x1.getD p105.toNat (0 : Int))) | _, _ => True)
          (C := fun _ _ => [])
          (κ := (fun _ => none)) (Z := (fun _ => [])) mixed hF (by kernel_rfl) S ?_ ?_
        · refine ⟨?_, ?_, ?_, ?_, ?_, ?_, ?_, ?_, ?_, trivial⟩
          · intro a u X hB hu hp hr hz hl S
            replace S : St w u ([] ++ X) := S
            exact .inl ⟨rfl, .slice A0 x0.length c0, u, (run_move rfl (hF.evB hB rfl rfl)), rfl, S⟩
          · intro a u X hB hu hp hr hz hl S
            replace S : St w u ([] ++ X) := S
            exact .inl ⟨rfl, .int .i64 p105, u, (run_move rfl (hF.evB hB rfl rfl)), rfl, S⟩
          · intro a u X hB hu hp hr hz hl S
            replace S : St w u ([] ++ X) := S
            have e17 : sl a 17 = .slice A0 x0.length c0 := hp 0 rfl
            have e18 : sl a 18 = .int .i64 p105 := hp 1 rfl
            exact .inl ⟨rfl, .pointer (some ⟨adB A0, adO A0 + p105.toNat * 1, none⟩), u, (run_indexAddr (b := adB A0) (off := adO A0) rfl Tryd.underlying23 sz3 ((ev_sl e17).trans (congrArg (fun A => Value.slice A x0.length c0) ((S.rc0 h0.rc).rd.ad (ix_pos hk107)))) (ev_sl e18) hk107.1 hk107.2 (k' := adO A0 + p105.toNat * 1) rfl), rfl, S⟩
          · intro a u X hB hu hp hr hz hl S
            replace S : St w u ([] ++ X) := S
            have e19 : sl a 19 = .pointer (some ⟨adB A0, adO A0 + p105.toNat * 1, none⟩) := hp 2 rfl
            exact .inl ⟨rfl, .int .i64 (x0.getD p105.toNat (0 : Int)), u, (run_load1 rfl one3 (ev_sl e19) (rd_el0 (l := x0) (S.rc0 h0.rc).rd rfl eI_len (0 : Int) (ix_ltn hk107 rfl) rfl)), rfl, S⟩
          · intro a u X hB hu hp hr hz hl S
            replace S : St w u ([] ++ X) := S
            exact .inl ⟨rfl, .slice A1 x1.length c1, u, (run_move rfl (hF.evB hB rfl rfl)), rfl, S⟩
          · intro a u X hB hu hp hr hz hl S
            replace S : St w u ([] ++ X) := S
            exact .inl ⟨rfl, .int .i64 p105, u, (run_move rfl (hF.evB hB rfl rfl)), rfl, S⟩
          · intro a u X hB hu hp hr hz hl S
            replace S : St w u ([] ++ X) := S
            have e21 : sl a 21 = .slice A1 x1.length c1 := hp 4 rfl
            have e22 : sl a 22 = .int .i64 p105 := hp 5 rfl
            exact .inl ⟨rfl, .pointer (some ⟨adB A1, adO A1 + p105.toNat * 1, none⟩), u, (run_indexAddr (b := adB A1) (off := adO A1) rfl Tryd.underlying23 sz3 ((ev_sl e21).trans (congrArg (fun A => Value.slice A x1.length c1) ((S.rc0 h1.rc).rd.ad (ix_pos hk108)))) (ev_sl e22) hk108.1 hk108.2 (k' := adO A1 + p105.toNat * 1) rfl), rfl, S⟩
          · intro a u X hB hu hp hr hz hl S
            replace S : St w u ([] ++ X) := S
            have e23 : sl a 23 = .pointer (some ⟨adB A1, adO A1 + p105.toNat * 1, none⟩) := hp 6 rfl
            exact .inl ⟨rfl, .int .i64 (x1.getD p105.toNat (0 : Int)), u, (run_load1 rfl one3 (ev_sl e23) (rd_el0 (l := x1) (S.rc0 h1.rc).rd rfl eI_len (0 : Int) (ix_ltn hk108 rfl) rfl)), rfl, S⟩
          · intro a u X hB hu hp hr hz hl S
            replace S : St w u ([] ++ X) := S
            have e20 : sl a 20 = .int .i64 (x0.getD p105.toNat (0 : Int)) := hp 3 rfl
            have e24 : sl a 24 = .int .i64 (x1.getD p105.toNat (0 : Int)) := hp 7 rfl
            exact .inl ⟨rfl, .bool ((x0.getD p105.toNat (0 : Int)) != (x1.getD p105.toNat (0 : Int))), u, (run_neq (ev_sl e20) (ev_sl e24) rfl), rfl, S⟩
        · intro a u hB hp S
          obtain ⟨q0, q1, q2, q3, q4, q5, q6, q7, q8, _⟩ := hp
          have e17 : sl a 17 = .slice A0 x0.length c0 := q0
          have e18 : sl a 18 = .int .i64 p105 := q1
          have e19 : sl a 19 = .pointer (some ⟨adB A0, adO A0 + p105.toNat * 1, none⟩) := q2
          have e20 : sl a 20 = .int .i64 (x0.getD p105.toNat (0 : Int)) := q3
          have e21 : sl a 21 = .slice A1 x1.length c1 := q4
          have e22 : sl a 22 = .int .i64 p105 := q5
          have e23 : sl a 23 = .pointer (some ⟨adB A1, adO A1 + p105.toNat * 1, none⟩) := q6
          have e24 : sl a 24 = .int .i64 (x1.getD p105.toNat (0 : Int)) := q7
          have e25 : sl a 25 = .bool ((x0.getD p105.toNat (0 : Int)) != (x1.getD p105.toNat (0 : Int))) := q8
          replace S : St w u [] := S
          clear q0 q1 q2 q3 q4 q5 q6 q7 q8
          have hF := hF.region hB [(17, .slice A0 x0.length c0), (18, .int .i64 p105), (19, .pointer (some ⟨adB A0, adO A0 + p105.toNat * 1, none⟩)), (20, .int .i64 (x0.getD p105.toNat (0 : Int))), (21, .slice A1 x1.length c1), (22, .int .i64 p105), (23, .pointer (some ⟨adB A1, adO A1 + p105.toNat * 1, none⟩)), (24, .int .i64 (x1.getD p105.toNat (0 : Int))), (25, .bool ((x0.getD p105.toNat (0 : Int)) != (x1.getD p105.toNat (0 : Int))))] (allSl_mem ⟨e17, e18, e19, e20, e21, e22, e23, e24, e25, trivial⟩) rfl
          clear hB e17 e18 e19 e20 e21 e22 e23 e24 e25
          cases hc109 : ((x0.getD p105.toNat (0 : Int)) != (x1.getD p105.toNat (0 : Int)))
          · replace hM104 := bif_f hc109 hM104
            refine cond_f hF rfl hc109 ?_
            refine wp_skip ?_
            refine wp_region_lit ?_
            refine op_val (v := .int .i64 p105) rfl rfl hF rfl (run_move rfl (hF.ev rfl)) ?_; clear hF; intro a hF
            refine op_val (v := .int .i64 (w64 (p105 + 1))) rfl rfl hF rfl (run_add (z := w64 (p105 + 1)) (hF.ev rfl) rfl rfl rfl) ?_; clear hF; intro a hF
            refine op_val (v := .int .i64 (w64 (p105 + 1))) rfl rfl hF rfl (run_assign rfl (hF.ev rfl)) ?_; clear hF; intro a hF
            refine wpList_nil ?_
            exact ⟨f1, Nat.lt_succ_self _, w64 (p105 + 1), hM104, hF.keep _ ⟨rfl, rfl, rfl, rfl, trivial⟩, S.sel [] rfl rfl⟩
          · replace hM104 := bif_t hc109 hM104
            refine cond_t hF rfl hc109 ?_
            refine wp_seq ?_
            refine wp_region_lit ?_
            refine op_val (v := .bool false) rfl rfl hF rfl (run_assign rfl rfl) ?_; clear hF; intro a hF
            refine wpList_nil ?_
            refine wp_ret ?_
            repeat with_reducible (first | refine then_ret ?_ | refine in_ret ?_ | refine in_nrm ?_)
            refine ret1_gw (.inl rfl) hF rfl (res_tmp (hF.ev rfl)) ?_
            obtain rfl := Option.some.inj hM104
            obtain rfl := Option.some.inj hM
            exact ⟨rfl, S.sel [] rfl rfl⟩
    · rintro a u ⟨p102, rfl, hF, S⟩
      replace hM := elim_l hM
      refine wp_seq ?_
      refine wp_region_lit ?_
      refine op_val (v := .bool true) rfl rfl hF rfl (run_assign rfl rfl) ?_; clear hF; intro a hF
      refine wpList_nil ?_
      refine wp_ret ?_
      repeat with_reducible (first | refine then_ret ?_ | refine in_ret ?_ | refine in_nrm ?_)
      refine ret1_gw (.inl rfl) hF rfl (res_tmp (hF.ev rfl)) ?_
      obtain rfl := Option.some.inj hM
      exact ⟨rfl, S.sel [] rfl rfl⟩
  · replace hM := bif_t hc101 hM
    refine cond_t hF rfl hc101 ?_
    refine wp_seq ?_
    refine wp_region_lit ?_
    refine op_val (v := .bool false) rfl rfl hF rfl (run_assign rfl rfl) ?_; clear hF; intro a hF
    refine wpList_nil ?_
    refine wp_ret ?_
    repeat with_reducible (first | refine then_ret ?_ | refine in_ret ?_ | refine in_nrm ?_)
    refine ret1_gw (.inl rfl) hF rfl (res_tmp (hF.ev rfl)) ?_
    obtain rfl := Option.some.inj hM
    exact ⟨rfl, S.sel [] rfl rfl⟩

set_option maxHeartbeats 4000000 in
theorem c_laws_sameBars {x0 : List Int} {x1 : Bool} {x2 : List Int} {x3 : Bool} {A0 : Option Addr} {n0 c0 : Nat} {A2 : Option Addr} {n2 c2 : Nat} {w : World} {r : Bool} (h0 : Rt w 1 eI A0 n0 c0 x0) (h2 : Rt w 1 eI A2 n2 c2 x2) (hM : m_laws_sameBars x0 x1 x2 x3 = some r) :
    Calls Tryd.prog 10 #[.agg #[.slice A0 n0 c0, .bool x1], .agg #[.slice A2 n2 c2, .bool x3]] w (fun e w' => e = .returned (.bool r) ∧ St w w' []) := by
  obtain rfl := h0.len
  obtain rfl := h2.len
  unfold m_laws_sameBars at hM
  refine calls_gw Tryd.func10 Tryd.ntmps10 rfl [(0, .agg #[.slice A0 x0.length c0, .bool x1]), (1, .agg #[.slice A2 x2.length c2, .bool x3])] ⟨rfl, rfl, trivial⟩ rfl ?_
  intro a hF
  have S := St.nil w
  refine wp_seq ?_
  refine wp_region_lit ?_
  refine op_new (cs := #[.slice A0 x0.length c0, .bool x1]) rfl rfl hF rfl S (run_box rfl (hF.ev rfl) rfl) ?_; clear hF S; intro a g101 u hF S
  refine op_new (cs := #[.slice A2 x2.length c2, .bool x3]) rfl rfl hF rfl S (run_box rfl (hF.ev rfl) rfl) ?_; clear hF S; intro a g102 u hF S
  refine op_val (v := .bool false) rfl rfl hF rfl (run_assign rfl rfl) ?_; clear hF; intro a hF
  refine wpList_nil ?_
  refine wp_seq ?_
  refine wp_region_lit ?_
  refine op_val (v := .pointer (some ⟨g101, 1, none⟩)) rfl rfl hF rfl (run_fieldAddr rfl fl25_1 (hF.ev rfl) rfl) ?_; clear hF; intro a hF
  refine op_val (v := .bool x1) rfl rfl hF rfl (run_load1 rfl one4 (hF.ev rfl) ((S.free 1 rfl).cell rfl)) ?_; clear hF; intro a hF
  refine op_val (v := .pointer (some ⟨g102, 1, none⟩)) rfl rfl hF rfl (run_fieldAddr rfl fl25_1 (hF.ev rfl) rfl) ?_; clear hF; intro a hF
  refine op_val (v := .bool x3) rfl rfl hF rfl (run_load1 rfl one4 (hF.ev rfl) ((S.free 0 rfl).cell rfl)) ?_; clear hF; intro a hF
  refine op_val (v := .bool (x1 == x3)) rfl rfl hF rfl (run_eqlB (hF.ev rfl) (hF.ev rfl) Tryd.underlying4 rfl) ?_; clear hF; intro a hF
  refine op_val (v := .bool (x1 == x3)) rfl rfl hF rfl (run_move rfl (hF.ev rfl)) ?_; clear hF; intro a hF
  refine op_gv (v := .pointer (some ⟨g101, 0, none⟩)) rfl rfl hF rfl (yt (gw_yield hF rfl rfl rfl)) (fun hg => (run_fieldAddr rfl fl25_0 (hF.ev rfl) rfl)) ?_; clear hF; intro a hF
  refine op_gv (v := .slice A0 x0.length c0) rfl rfl hF rfl (yt (gw_yield hF rfl rfl rfl)) (fun hg => (run_load1 rfl one23 ((hF.ev rfl).trans (gv_t hg)) ((S.free 1 rfl).cell rfl))) ?_; clear hF; intro a hF
  refine op_gv (v := .pointer (some ⟨g102, 0, none⟩)) rfl rfl hF rfl (yt (gw_yield hF rfl rfl rfl)) (fun hg => (run_fieldAddr rfl fl25_0 (hF.ev rfl) rfl)) ?_; clear hF; intro a hF
  refine op_gv (v := .slice A2 x2.length c2) rfl rfl hF rfl (yt (gw_yield hF rfl rfl rfl)) (fun hg => (run_load1 rfl one23 ((hF.ev rfl).trans (gv_t hg)) ((S.free 0 rfl).cell rfl))) ?_; clear hF; intro a hF
  obtain ⟨p103, h103, hM⟩ := bind_ex hM
  refine op_gcall (v := .bool p103) rfl rfl hF rfl S (yt (gw_yield hF rfl rfl rfl)) (fun hg => (run_call (vs := [.slice A0 x0.length c0, .slice A2 x2.length c2]) rfl rfl co15 ⟨((hF.ev rfl).trans (gv_t hg)), ((hF.ev rfl).trans (gv_t hg)), trivial⟩)) (fun hg => c_laws_sameInts (x0 := x0) (x1 := x2) ⟨(S.rc0 h0.rc), rfl⟩ ⟨(S.rc0 h2.rc), rfl⟩ (gb_t h103 hg)) ?_; clear hF S; intro a u hF S
  refine op_val (v := .bool ((x1 == x3) && p103)) rfl rfl hF rfl (run_pick_and rfl (hF.ev rfl) (fun hp => ((hF.ev rfl).trans (gv_t hp))) rfl) ?_; clear hF; intro a hF
  refine op_val (v := .bool ((x1 == x3) && p103)) rfl rfl hF rfl (run_assign rfl (hF.ev rfl)) ?_; clear hF; intro a hF
  refine wpList_nil ?_
  refine wp_ret ?_
  repeat with_reducible (first | refine then_ret ?_ | refine in_ret ?_ | refine in_nrm ?_)
  refine ret1_gw (.inl rfl) hF rfl (res_tmp (hF.ev rfl)) ?_
  obtain rfl := Option.some.inj hM
  exact ⟨rfl, S.sel [] rfl rfl⟩

set_option maxHeartbeats 4000000 in
theorem c_impl_Net_hasLine {x0 : Int} {x1 : List (Int × Int × Int)} {x2 : Int} {A1 : Option Addr} {n1 c1 : Nat} {w : World} {r : Bool} (h1 : Rt w 3 eLine A1 n1 c1 x1) (hM : m_impl_Net_hasLine x0 x1 x2 = some r) :
    Calls Tryd.prog 36 #[.agg #[.int .i64 x0, .slice A1 n1 c1], .int .i64 x2] w (fun e w' => e = .returned (.bool r) ∧ St w w' []) := by
  obtain rfl := h1.len
  unfold m_impl_Net_hasLine at hM
  refine calls_gw Tryd.func36 Tryd.ntmps36 rfl [(0, .agg #[.int .i64 x0, .slice A1 x1.length c1]), (1, .int .i64 x2)] ⟨rfl, rfl, trivial⟩ rfl ?_
  intro a hF
  have S := St.nil w
  refine wp_seq ?_
  refine wp_region_lit ?_
  refine op_new (cs := #[.int .i64 x0, .slice A1 x1.length c1]) rfl rfl hF rfl S (run_box rfl (hF.ev rfl) rfl) ?_; clear hF S; intro a g101 u hF S
  refine op_val (v := .bool false) rfl rfl hF rfl (run_assign rfl rfl) ?_; clear hF; intro a hF
  refine wpList_nil ?_
  refine wp_seq ?_
  refine wp_region_lit ?_
  refine op_val (v := .int .i64 x2) rfl rfl hF rfl (run_move rfl (hF.ev rfl)) ?_; clear hF; intro a hF
  refine op_val (v := .bool (leB 0 x2)) rfl rfl hF rfl (run_geq (hF.ev rfl) rfl rfl) ?_; clear hF; intro a hF
  refine op_val (v := .bool (leB 0 x2)) rfl rfl hF rfl (run_move rfl (hF.ev rfl)) ?_; clear hF; intro a hF
  refine op_gv (v := .int .i64 x2) rfl rfl hF rfl (yt (gw_yield hF rfl rfl rfl)) (fun hg => (run_move rfl (hF.ev rfl))) ?_; clear hF; intro a hF
  refine op_gv (v := .pointer (some ⟨g101, 1, none⟩)) rfl rfl hF rfl (yt (gw_yield hF rfl rfl rfl)) (fun hg => (run_fieldAddr rfl fl53_1 (hF.ev rfl) rfl)) ?_; clear hF; intro a hF
  refine op_gv (v := .slice A1 x1.length c1) rfl rfl hF rfl (yt (gw_yield hF rfl rfl rfl)) (fun hg => (run_load1 rfl one51 ((hF.ev rfl).trans (gv_t hg)) ((S.free 0 rfl).cell rfl))) ?_; clear hF; intro a hF
  refine op_gv (v := .int .i64 (x1.length : Int)) rfl rfl hF rfl (yt (gw_yield hF rfl rfl rfl)) (fun hg => (run_lenL rfl rfl Tryd.underlying51 ((hF.ev rfl).trans (gv_t hg)))) ?_; clear hF; intro a hF
  refine op_gv (v := .bool (ltB x2 (x1.length : Int))) rfl rfl hF rfl (yt (gw_yield hF rfl rfl rfl)) (fun hg => (run_lss ((hF.ev rfl).trans (gv_t hg)) ((hF.ev rfl).trans (gv_t hg)) rfl)) ?_; clear hF; intro a hF
  refine op_val (v := .bool ((leB 0 x2) && (ltB x2 (x1.length : Int)))) rfl rfl hF rfl (run_pick_and rfl (hF.ev rfl) (fun hp => ((hF.ev rfl).trans (gv_t hp))) rfl) ?_; clear hF; intro a hF
  refine op_val (v := .bool ((leB 0 x2) && (ltB x2 (x1.length : Int)))) rfl rfl hF rfl (run_assign rfl (hF.ev rfl)) ?_; clear hF; intro a hF
  refine wpList_nil ?_
  refine wp_ret ?_
  repeat with_reducible (first | refine then_ret ?_ | refine in_ret ?_ | refine in_nrm ?_)
  refine ret1_gw (.inl rfl) hF rfl (res_tmp (hF.ev rfl)) ?_
  obtain rfl := Option.some.inj hM
  exact ⟨rfl, S.sel [] rfl rfl⟩

set_option maxHeartbeats 4000000 in
theorem c_impl_Line_other {x0 : Int} {x1 : Int} {x2 : Int} {x3 : Int} {w : World} {r : Int}  (hM : m_impl_Line_other x0 x1 x2 x3 = some r) :
    Calls Tryd.prog 37 #[.agg #[.int .i64 x0, .int .i64 x1, .int .i64 x2], .int .i64 x3] w (fun e w' => e = .returned (.int .i64 r) ∧ St w w' []) := by
  unfold m_impl_Line_other at hM
  refine calls_gw Tryd.func37 Tryd.ntmps37 rfl [(0, .agg #[.int .i64 x0, .int .i64 x1, .int .i64 x2]), (1, .int .i64 x3)] ⟨rfl, rfl, trivial⟩ rfl ?_
  intro a hF
  have S := St.nil w
  refine wp_seq ?_
  refine wp_region_lit ?_
  refine op_new (cs := #[.int .i64 x0, .int .i64 x1, .int .i64 x2]) rfl rfl hF rfl S (run_box rfl (hF.ev rfl) rfl) ?_; clear hF S; intro a g101 u hF S
  refine op_val (v := .int .i64 0) rfl rfl hF rfl (run_assign rfl rfl) ?_; clear hF; intro a hF
  refine wpList_nil ?_
  refine wp_seq ?_
  refine wp_seq ?_
  refine wp_region_lit ?_
  refine op_val (v := .int .i64 x3) rfl rfl hF rfl (run_move rfl (hF.ev rfl)) ?_; clear hF; intro a hF
  refine wpList_nil ?_
  refine wp_block ?_
  refine wp_seq ?_
  refine wp_region_lit ?_
  refine op_val (v := .pointer (some ⟨g101, 0, none⟩)) rfl rfl hF rfl (run_fieldAddr rfl fl50_0 (hF.ev rfl) rfl) ?_; clear hF; intro a hF
  refine op_val (v := .int .i64 x0) rfl rfl hF rfl (run_load1 rfl one3 (hF.ev rfl) ((S.free 0 rfl).cell rfl)) ?_; clear hF; intro a hF
  refine op_val (v := .bool (x3 == x0)) rfl rfl hF rfl (run_eql (hF.ev rfl) (hF.ev rfl) rfl) ?_; clear hF; intro a hF
  refine op_val (v := .bool (x3 == x0)) rfl rfl hF rfl (run_assign rfl (hF.ev rfl)) ?_; clear hF; intro a hF
  refine wpList_nil ?_
  cases hc102 : (x3 == x0)
  · replace hM := bif_f hc102 hM
    refine cond_f hF rfl hc102 ?_
    refine wp_seq ?_
    refine wp_region_lit ?_
    refine op_val (v := .pointer (some ⟨g101, 1, none⟩)) rfl rfl hF rfl (run_fieldAddr rfl fl50_1 (hF.ev rfl) rfl) ?_; clear hF; intro a hF
    refine op_val (v := .int .i64 x1) rfl rfl hF rfl (run_load1 rfl one3 (hF.ev rfl) ((S.free 0 rfl).cell rfl)) ?_; clear hF; intro a hF
    refine op_val (v := .bool (x3 == x1)) rfl rfl hF rfl (run_eql (hF.ev rfl) (hF.ev rfl) rfl) ?_; clear hF; intro a hF
    refine op_val (v := .bool (x3 == x1)) rfl rfl hF rfl (run_assign rfl (hF.ev rfl)) ?_; clear hF; intro a hF
    refine wpList_nil ?_
    cases hc103 : (x3 == x1)
    · replace hM := bif_f hc103 hM
      refine cond_f hF rfl hc103 ?_
      refine wp_skip ?_
      refine wp_seq ?_
      refine wp_region_lit ?_
      refine op_val (v := .int .i64 (-1)) rfl rfl hF rfl (run_assign rfl rfl) ?_; clear hF; intro a hF
      refine wpList_nil ?_
      refine wp_ret ?_
      repeat with_reducible (first | refine then_ret ?_ | refine in_ret ?_ | refine in_nrm ?_)
      refine ret1_gw (.inl rfl) hF rfl (res_tmp (hF.ev rfl)) ?_
      obtain rfl := Option.some.inj hM
      exact ⟨rfl, S.sel [] rfl rfl⟩
    · replace hM := bif_t hc103 hM
      refine cond_t hF rfl hc103 ?_
      refine wp_seq ?_
      refine wp_region_lit ?_
      refine op_val (v := .pointer (some ⟨g101, 0, none⟩)) rfl rfl hF rfl (run_fieldAddr rfl fl50_0 (hF.ev rfl) rfl) ?_; clear hF; intro a hF
      refine op_val (v := .int .i64 x0) rfl rfl hF rfl (run_load1 rfl one3 (hF.ev rfl) ((S.free 0 rfl).cell rfl)) ?_; clear hF; intro a hF
      refine op_val (v := .int .i64 x0) rfl rfl hF rfl (run_assign rfl (hF.ev rfl)) ?_; clear hF; intro a hF
      refine wpList_nil ?_
      refine wp_ret ?_
      repeat with_reducible (first | refine then_ret ?_ | refine in_ret ?_ | refine in_nrm ?_)
      refine ret1_gw (.inl rfl) hF rfl (res_tmp (hF.ev rfl)) ?_
      obtain rfl := Option.some.inj hM
      exact ⟨rfl, S.sel [] rfl rfl⟩
  · replace hM := bif_t hc102 hM
    refine cond_t hF rfl hc102 ?_
    refine wp_seq ?_
    refine wp_region_lit ?_
    refine op_val (v := .pointer (some ⟨g101, 1, none⟩)) rfl rfl hF rfl (run_fieldAddr rfl fl50_1 (hF.ev rfl) rfl) ?_; clear hF; intro a hF
    refine op_val (v := .int .i64 x1) rfl rfl hF rfl (run_load1 rfl one3 (hF.ev rfl) ((S.free 0 rfl).cell rfl)) ?_; clear hF; intro a hF
    refine op_val (v := .int .i64 x1) rfl rfl hF rfl (run_assign rfl (hF.ev rfl)) ?_; clear hF; intro a hF
    refine wpList_nil ?_
    refine wp_ret ?_
    repeat with_reducible (first | refine then_ret ?_ | refine in_ret ?_ | refine in_nrm ?_)
    refine ret1_gw (.inl rfl) hF rfl (res_tmp (hF.ev rfl)) ?_
    obtain rfl := Option.some.inj hM
    exact ⟨rfl, S.sel [] rfl rfl⟩

set_option maxHeartbeats 4000000 in
theorem c_impl_OtherEnd {x0 : Int} {x1 : List (Int × Int × Int)} {x2 : Int} {x3 : Int} {A1 : Option Addr} {n1 c1 : Nat} {w : World} {r : Int} (h1 : Rt w 3 eLine A1 n1 c1 x1) (hM : m_impl_OtherEnd x0 x1 x2 x3 = some r) :
    Calls Tryd.prog 29 #[.agg #[.int .i64 x0, .slice A1 n1 c1], .int .i64 x2, .int .i64 x3] w (fun e w' => e = .returned (.int .i64 r) ∧ St w w' []) := by
  obtain rfl := h1.len
  unfold m_impl_OtherEnd at hM
  refine calls_gw Tryd.func29 Tryd.ntmps29 rfl [(0, .agg #[.int .i64 x0, .slice A1 x1.length c1]), (1, .int .i64 x2), (2, .int .i64 x3)] ⟨rfl, rfl, rfl, trivial⟩ rfl ?_
  intro a hF
  have S := St.nil w
  refine wp_seq ?_
  refine wp_region_lit ?_
  refine op_new (cs := #[.int .i64 x0, .slice A1 x1.length c1]) rfl rfl hF rfl S (run_box rfl (hF.ev rfl) rfl) ?_; clear hF S; intro a g101 u hF S
  refine op_val (v := .int .i64 0) rfl rfl hF rfl (run_assign rfl rfl) ?_; clear hF; intro a hF
  refine wpList_nil ?_
  refine wp_seq ?_
  refine wp_seq ?_
  refine wp_region_lit ?_
  refine op_val (v := .agg #[.int .i64 x0, .slice A1 x1.length c1]) rfl rfl hF rfl (run_loadN rfl ag53 (hF.ev rfl) rfl ((S.free 0 rfl).cells 0 #[.int .i64 x0, .slice A1 x1.length c1] rfl)) ?_; clear hF; intro a hF
  obtain ⟨p102, h102, hM⟩ := bind_ex hM
  refine op_call rfl rfl hF rfl (run_call (vs := [.agg #[.int .i64 x0, .slice A1 x1.length c1]]) rfl rfl co35 ⟨(hF.ev rfl), trivial⟩) (c_impl_NetValid (x0 := x0) (x1 := x1) ⟨(S.rc0 h1.rc), rfl⟩ h102) ?_
  rintro e u ⟨rfl, T⟩
  refine ⟨_, rfl, ?_⟩
  clear hF; intro a hF
  replace S := S.call0 T; clear T
  refine op_val (v := .bool (!p102)) rfl rfl hF rfl (run_not rfl (hF.ev rfl)) ?_; clear hF; intro a hF
  refine op_val (v := .bool (!p102)) rfl rfl hF rfl (run_move rfl (hF.ev rfl)) ?_; clear hF; intro a hF
  refine op_gv (v := .agg #[.int .i64 x0, .slice A1 x1.length c1]) rfl rfl hF rfl (yf (gw_yield hF rfl rfl rfl)) (fun hg => (run_loadN rfl ag53 (hF.ev rfl) rfl ((S.free 0 rfl).cells 0 #[.int .i64 x0, .slice A1 x1.length c1] rfl))) ?_; clear hF; intro a hF
  refine op_gv (v := .int .i64 x2) rfl rfl hF rfl (yf (gw_yield hF rfl rfl rfl)) (fun hg => (run_move rfl (hF.ev rfl))) ?_; clear hF; intro a hF
  obtain ⟨p103, h103, hM⟩ := bind_ex hM
  refine op_gcall (v := .bool p103) rfl rfl hF rfl S (yf (gw_yield hF rfl rfl rfl)) (fun hg => (run_call (vs := [.agg #[.int .i64 x0, .slice A1 x1.length c1], .int .i64 x2]) rfl rfl co36 ⟨((hF.ev rfl).trans (gv_t hg)), ((hF.ev rfl).trans (gv_t hg)), trivial⟩)) (fun hg => c_impl_Net_hasLine (x0 := x0) (x1 := x1) (x2 := x2) ⟨(S.rc0 h1.rc), rfl⟩ (gb_t h103 hg)) ?_; clear hF S; intro a u hF S
  refine op_gv (v := .bool (!p103)) rfl rfl hF rfl (yf (gw_yield hF rfl rfl rfl)) (fun hg => (run_not rfl ((hF.ev rfl).trans (gv_t hg)))) ?_; clear hF; intro a hF
  refine op_val (v := .bool ((!p102) || (!p103))) rfl rfl hF rfl (run_pick_or rfl (hF.ev rfl) rfl (fun hp => ((hF.ev rfl).trans (gv_t (not_t hp))))) ?_; clear hF; intro a hF
  refine wpList_nil ?_
  cases hc104 : ((!p102) || (!p103))
  · replace hM := bif_f hc104 hM
    refine cond_f hF rfl hc104 ?_
    refine wp_skip ?_
    refine wp_seq ?_
    refine wp_region_lit ?_
    refine op_val (v := .pointer (some ⟨g101, 1, none⟩)) rfl rfl hF rfl (run_fieldAddr rfl fl53_1 (hF.ev rfl) rfl) ?_; clear hF; intro a hF
    refine op_val (v := .slice A1 x1.length c1) rfl rfl hF rfl (run_load1 rfl one51 (hF.ev rfl) ((S.free 0 rfl).cell rfl)) ?_; clear hF; intro a hF
    refine op_val (v := .int .i64 x2) rfl rfl hF rfl (run_move rfl (hF.ev rfl)) ?_; clear hF; intro a hF
    obtain ⟨hk105, hM⟩ := chk_ex hM
    replace hk105 := ixB_t hk105
    refine op_val (v := .pointer (some ⟨adB A1, adO A1 + x2.toNat * 3, none⟩)) rfl rfl hF rfl (run_indexAddr (b := adB A1) (off := adO A1) rfl Tryd.underlying51 sz50 ((hF.ev rfl).trans (congrArg (fun A => Value.slice A x1.length c1) ((S.rc0 h1.rc).rd.ad (ix_pos hk105)))) (hF.ev rfl) hk105.1 hk105.2 (k' := adO A1 + x2.toNat * 3) rfl) ?_; clear hF; intro a hF
    refine op_val (v := .agg #[.int .i64 ((x1.getD x2.toNat ((0, 0, 0) : Int × Int × Int)).1), .int .i64 ((x1.getD x2.toNat ((0, 0, 0) : Int × Int × Int)).2.1), .int .i64 ((x1.getD x2.toNat ((0, 0, 0) : Int × Int × Int)).2.2)]) rfl rfl hF rfl (run_loadN (cs := #[.int .i64 ((x1.getD x2.toNat ((0, 0, 0) : Int × Int × Int)).1), .int .i64 ((x1.getD x2.toNat ((0, 0, 0) : Int × Int × Int)).2.1), .int .i64 ((x1.getD x2.toNat ((0, 0, 0) : Int × Int × Int)).2.2)]) rfl ag50 (hF.ev rfl) rfl (rd_elN (l := x1) (S.rc0 h1.rc).rd rfl eLine_len ((0, 0, 0) : Int × Int × Int) (ix_ltn hk105 rfl) rfl)) ?_; clear hF; intro a hF
    refine op_val (v := .int .i64 x3) rfl rfl hF rfl (run_move rfl (hF.ev rfl)) ?_; clear hF; intro a hF
    obtain ⟨p106, h106, hM⟩ := bind_ex hM
    refine op_call rfl rfl hF rfl (run_call (vs := [.agg #[.int .i64 ((x1.getD x2.toNat ((0, 0, 0) : Int × Int × Int)).1), .int .i64 ((x1.getD x2.toNat ((0, 0, 0) : Int × Int × Int)).2.1), .int .i64 ((x1.getD x2.toNat ((0, 0, 0) : Int × Int × Int)).2.2)], .int .i64 x3]) rfl rfl co37 ⟨(hF.ev rfl), (hF.ev rfl), trivial⟩) (c_impl_Line_other (x0 := (x1.getD x2.toNat ((0, 0, 0) : Int × Int × Int)).1) (x1 := (x1.getD x2.toNat ((0, 0, 0) : Int × Int × Int)).2.1) (x2 := (x1.getD x2.toNat ((0, 0, 0) : Int × Int × Int)).2.2) (x3 := x3)  h106) ?_
    rintro e u ⟨rfl, T⟩
    refine ⟨_, rfl, ?_⟩
    clear hF; intro a hF
    replace S := S.call0 T; clear T
    refine op_val (v := .int .i64 p106) rfl rfl hF rfl (run_assign rfl (hF.ev rfl)) ?_; clear hF; intro a hF
    refine wpList_nil ?_
    refine wp_ret ?_
    repeat with_reducible (first | refine then_ret ?_ | refine in_ret ?_ | refine in_nrm ?_)
    refine ret1_gw (.inl rfl) hF rfl (res_tmp (hF.ev rfl)) ?_
    obtain rfl := Option.some.inj hM
    exact ⟨rfl, S.sel [] rfl rfl⟩
  · replace hM := bif_t hc104 hM
    refine cond_t hF rfl hc104 ?_
    refine wp_seq ?_
    refine wp_region_lit ?_
    refine op_val (v := .int .i64 (-1)) rfl rfl hF rfl (run_assign rfl rfl) ?_; clear hF; intro a hF
    refine wpList_nil ?_
    refine wp_ret ?_
    repeat with_reducible (first | refine then_ret ?_ | refine in_ret ?_ | refine in_nrm ?_)
    refine ret1_gw (.inl rfl) hF rfl (res_tmp (hF.ev rfl)) ?_
    obtain rfl := Option.some.inj hM
    exact ⟨rfl, S.sel [] rfl rfl⟩

set_option maxHeartbeats 4000000 in
theorem c_laws_alive {w : World} {r : Bool}  (hM : m_laws_alive = some r) :
    Calls Tryd.prog 11 #[] w (fun e w' => e = .returned (.bool r) ∧ St w w' []) := by
  unfold m_laws_alive at hM
  refine calls_gw Tryd.func11 Tryd.ntmps11 rfl [] trivial rfl ?_
  intro a hF
  have S := St.nil w
  refine wp_seq ?_
  refine wp_region_lit ?_
  refine op_val (v := .bool false) rfl rfl hF rfl (run_assign rfl rfl) ?_; clear hF; intro a hF
  refine wpList_nil ?_
  refine wp_seq ?_
  obtain ⟨o102, hM103, hM⟩ := bind_ex hM
  refine wp_cut (fun a u => ∃ (p101 : Bool), p101 = o102 ∧ Fr a 11 [(0, .bool p101)] ∧ St w u []) ?_ ?_
  · have _ := trivial
    refine wp_region_lit ?_
    refine op_val (v := .agg #[.int .i64 0, .int .i64 1, .int .i64 1]) rfl rfl hF rfl (run_build (vs := [(0, .int .i64 0), (1, .int .i64 1), (2, .int .i64 1)]) rfl ⟨⟨rfl, rfl⟩, ⟨rfl, rfl⟩, ⟨rfl, rfl⟩, trivial⟩ (bd50_0_1_2 rfl rfl rfl)) ?_; clear hF; intro a hF
    refine op_newrowL (ls := (([(0, 1, 1)] : List (Int × Int × Int)) : List (Int × Int × Int))) (e := eLine) rfl rfl hF rfl S (run_buildS (vs := [(0, .agg #[.int .i64 0, .int .i64 1, .int .i64 1])]) rfl ⟨⟨rfl, (hF.ev rfl)⟩, trivial⟩ (bs51_1_3 )) rfl eLine_len (Nat.le_of_ble_eq_true rfl) ?_; clear hF S; intro a g104 u hF S
    refine op_val (v := .agg #[.int .i64 2, .slice (some ⟨g104, 0, none⟩) (([(0, 1, 1)] : List (Int × Int × Int)).length) (([(0, 1, 1)] : List (Int × Int × Int)).length)]) rfl rfl hF rfl (run_build (vs := [(0, .int .i64 2), (1, .slice (some ⟨g104, 0, none⟩) (([(0, 1, 1)] : List (Int × Int × Int)).length) (([(0, 1, 1)] : List (Int × Int × Int)).length))]) rfl ⟨⟨rfl, rfl⟩, ⟨rfl, (hF.ev rfl)⟩, trivial⟩ (bd53_0_1 rfl rfl)) ?_; clear hF; intro a hF
    obtain ⟨p105, h105, hM103⟩ := bind_ex hM103
    refine op_call rfl rfl hF rfl (run_call (vs := [.agg #[.int .i64 2, .slice (some ⟨g104, 0, none⟩) (([(0, 1, 1)] : List (Int × Int × Int)).length) (([(0, 1, 1)] : List (Int × Int × Int)).length)], .int .i64 0, .int .i64 0]) rfl rfl co29 ⟨(hF.ev rfl), rfl, rfl, trivial⟩) (c_impl_OtherEnd (x0 := 2) (x1 := ([(0, 1, 1)] : List (Int × Int × Int))) (x2 := 0) (x3 := 0) ⟨(S.rc 0 rfl), rfl⟩ h105) ?_
    rintro e u ⟨rfl, T⟩
    refine ⟨_, rfl, ?_⟩
    clear hF; intro a hF
    replace S := S.call0 T; clear T
    refine op_val (v := .bool (p105 == 1)) rfl rfl hF rfl (run_eql (hF.ev rfl) rfl rfl) ?_; clear hF; intro a hF
    refine op_val (v := .bool (p105 == 1)) rfl rfl hF rfl (run_move rfl (hF.ev rfl)) ?_; clear hF; intro a hF
    refine op_gv (v := .agg #[.int .i64 0, .slice none 0 0]) rfl rfl hF rfl (yt (gw_yield hF rfl rfl rfl)) (fun hg => (run_build (vs := []) rfl trivial (bd53 ))) ?_; clear hF; intro a hF
    cases hc106 : (p105 == 1)
    · replace hM103 := bif_f hc106 hM103
      refine op_skipped rfl ((gw_yield hF rfl rfl rfl).trans (congrArg some hc106)) rfl rfl hF rfl ?_; clear hF; intro a hF
      refine op_skipped rfl ((gw_yield hF rfl rfl rfl).trans (congrArg some hc106)) rfl rfl hF rfl ?_; clear hF; intro a hF
      refine op_val (v := .bool false) rfl rfl hF rfl (run_pick_f rfl (hF.ev rfl) hc106 rfl) ?_; clear hF; intro a hF
      refine op_val (v := .bool false) rfl rfl hF rfl (run_assign rfl (hF.ev rfl)) ?_; clear hF; intro a hF
      refine wpList_nil ?_
      obtain rfl := Option.some.inj hM103
      exact ⟨false, rfl, hF.keep _ ⟨rfl, trivial⟩, S.sel [] rfl rfl⟩
    · replace hM103 := bif_t hc106 hM103
      refine op_guarded rfl ((gw_yield hF rfl rfl rfl).trans (congrArg some hc106)) ?_
      obtain ⟨p107, h107, hM103⟩ := bind_ex hM103
      obtain ⟨hk108, hM103⟩ := chk_ex hM103
      refine op_call rfl rfl hF rfl (run_call (vs := [.agg #[.int .i64 0, .slice none 0 0]]) rfl rfl co30 ⟨((hF.ev rfl).trans (gv_t hc106)), trivial⟩) (c_impl_NetText_bad (x0 := 0) (x1 := ([] : List (Int × Int × Int))) Rt.nil (h107.trans (congrArg some (of_not hk108)))) ?_
      rintro e u ⟨rfl, T⟩
      refine ⟨_, rfl, ?_⟩
      clear hF; intro a hF
      replace S := S.call0 T; clear T
      refine op_guarded rfl ((gw_yield hF rfl rfl rfl).trans (congrArg some hc106)) ?_
      refine op_val (v := .bool (({ data := #[] } : ByteArray).toList == ({ data := #[] } : ByteArray).toList)) rfl rfl hF rfl (run_eqlS (hF.ev rfl) rfl rfl) ?_; clear hF; intro a hF
      refine op_val (v := .bool (({ data := #[] } : ByteArray).toList == ({ data := #[] } : ByteArray).toList)) rfl rfl hF rfl (run_pick_t rfl (hF.ev rfl) hc106 (hF.ev rfl)) ?_; clear hF; intro a hF
      refine op_val (v := .bool (({ data := #[] } : ByteArray).toList == ({ data := #[] } : ByteArray).toList)) rfl rfl hF rfl (run_assign rfl (hF.ev rfl)) ?_; clear hF; intro a hF
      refine wpList_nil ?_
      obtain rfl := Option.some.inj hM103
      exact ⟨({ data := #[] } : ByteArray).toList == ({ data := #[] } : ByteArray).toList, rfl, hF.keep _ ⟨rfl, trivial⟩, S.sel [] rfl rfl⟩
  · rintro a u ⟨p101, rfl, hF, S⟩
    refine wp_ret ?_
    repeat with_reducible (first | refine then_ret ?_ | refine in_ret ?_ | refine in_nrm ?_)
    refine ret1_gw (.inl rfl) hF rfl (res_tmp (hF.ev rfl)) ?_
    obtain rfl := Option.some.inj hM
    exact ⟨rfl, S.sel [] rfl rfl⟩

set_option maxHeartbeats 4000000 in
theorem c_laws_FnBarsDo {x0 : List Int} {A0 : Option Addr} {n0 c0 : Nat} {w : World} {r : Bool} (h0 : Rt w 1 eU A0 n0 c0 x0) (hM : m_laws_FnBarsDo x0 = some r) :
    Calls Tryd.prog 3 #[.slice A0 n0 c0] w (fun e w' => e = .returned (.bool r) ∧ St w w' []) := by
  obtain rfl := h0.len
  unfold m_laws_FnBarsDo at hM
  refine calls_gw Tryd.func3 Tryd.ntmps3 rfl [(0, .slice A0 x0.length c0)] ⟨rfl, trivial⟩ rfl ?_
  intro a hF
  have S := St.nil w
  refine wp_seq ?_
  refine wp_region_lit ?_
  refine op_val (v := .bool false) rfl rfl hF rfl (run_assign rfl rfl) ?_; clear hF; intro a hF
  refine wpList_nil ?_
  refine wp_seq ?_
  refine wp_seq ?_
  refine wp_region_lit ?_
  refine op_val (v := .slice A0 x0.length c0) rfl rfl hF rfl (run_move rfl (hF.ev rfl)) ?_; clear hF; intro a hF
  refine op_val (v := .int .i64 (x0.length : Int)) rfl rfl hF rfl (run_lenL rfl rfl Tryd.underlying22 (hF.ev rfl)) ?_; clear hF; intro a hF
  refine op_val (v := .bool (ltB 1048576 (x0.length : Int))) rfl rfl hF rfl (run_gtr (hF.ev rfl) rfl rfl) ?_; clear hF; intro a hF
  refine wpList_nil ?_
  cases hc101 : (ltB 1048576 (x0.length : Int))
  · replace hM := bif_f hc101 hM
    refine cond_f hF rfl hc101 ?_
    refine wp_skip ?_
    refine wp_seq ?_
    refine wp_region_lit ?_
    refine op_val (v := .slice A0 x0.length c0) rfl rfl hF rfl (run_move rfl (hF.ev rfl)) ?_; clear hF; intro a hF
    obtain ⟨p102, h102, hM⟩ := bind_ex hM
    refine op_call rfl rfl hF rfl (run_call (vs := [.slice A0 x0.length c0]) rfl rfl co7 ⟨(hF.ev rfl), trivial⟩) (c_spec_DrawBarsDo (x0 := x0) ⟨(S.rc0 h0.rc), rfl⟩ h102) ?_
    rintro e u ⟨B103, n104, d105, rfl, rfl, T⟩
    refine ⟨_, rfl, ?_⟩
    clear hF; intro a hF
    replace S := S.call1 T; clear T
    refine op_val (v := .tuple #[.agg #[.slice B103 p102.1.length d105, .bool p102.2.1], .int .i64 p102.2.2]) rfl rfl hF rfl (run_move rfl (hF.ev rfl)) ?_; clear hF; intro a hF
    refine op_val (v := .agg #[.slice B103 p102.1.length d105, .bool p102.2.1]) rfl rfl hF rfl (run_extract rfl (hF.ev rfl) rfl) ?_; clear hF; intro a hF
    refine op_val (v := .int .i64 p102.2.2) rfl rfl hF rfl (run_extract rfl (hF.ev rfl) rfl) ?_; clear hF; intro a hF
    refine op_new (cs := #[.slice none 0 0, .bool false]) rfl rfl hF rfl S (run_allocZ rfl zr25) ?_; clear hF S; intro a g106 u hF S
    refine op_do rfl rfl (run_store (cs' := #[.slice B103 p102.1.length d105, .bool p102.2.1]) rfl sz25 (hF.ev rfl) (hF.ev rfl) rfl rfl rfl (S.free 0 rfl) rfl rfl) ?_; replace S := S.put 0 rfl (#[.slice B103 p102.1.length d105, .bool p102.2.1])
    generalize World.setRow _ _ _ = u at S ⊢
    refine op_val (v := .int .i64 p102.2.2) rfl rfl hF rfl (run_assign rfl (hF.ev rfl)) ?_; clear hF; intro a hF
    refine wpList_nil ?_
    refine wp_seq ?_
    refine wp_region_lit ?_
    refine op_val (v := .agg #[.slice B103 p102.1.length d105, .bool p102.2.1]) rfl rfl hF rfl (run_loadN rfl ag25 (hF.ev rfl) rfl ((S.free 0 rfl).cells 0 #[.slice B103 p102.1.length d105, .bool p102.2.1] rfl)) ?_; clear hF; intro a hF
    refine op_val (v := .int .i64 p102.2.2) rfl rfl hF rfl (run_move rfl (hF.ev rfl)) ?_; clear hF; intro a hF
    obtain ⟨p107, h107, hM⟩ := bind_ex hM
    refine op_call rfl rfl hF rfl (run_call (vs := [.agg #[.slice B103 p102.1.length d105, .bool p102.2.1], .int .i64 p102.2.2]) rfl rfl co8 ⟨(hF.ev rfl), (hF.ev rfl), trivial⟩) (c_impl_BarsDo (x0 := p102.1) (x1 := p102.2.1) (x2 := p102.2.2) ⟨(S.rc 1 rfl), rfl⟩ h107) ?_
    rintro e u ⟨B108, n109, d110, rfl, rfl, T⟩
    refine ⟨_, rfl, ?_⟩
    clear hF; intro a hF
    replace S := S.call1 T; clear T
    refine op_val (v := .tuple #[.agg #[.slice B108 p107.1.length d110, .bool p107.2.1], .bool p107.2.2]) rfl rfl hF rfl (run_move rfl (hF.ev rfl)) ?_; clear hF; intro a hF
    refine op_val (v := .agg #[.slice B108 p107.1.length d110, .bool p107.2.1]) rfl rfl hF rfl (run_extract rfl (hF.ev rfl) rfl) ?_; clear hF; intro a hF
    refine op_val (v := .bool p107.2.2) rfl rfl hF rfl (run_extract rfl (hF.ev rfl) rfl) ?_; clear hF; intro a hF
    refine op_new (cs := #[.slice none 0 0, .bool false]) rfl rfl hF rfl S (run_allocZ rfl zr25) ?_; clear hF S; intro a g111 u hF S
    refine op_do rfl rfl (run_store (cs' := #[.slice B108 p107.1.length d110, .bool p107.2.1]) rfl sz25 (hF.ev rfl) (hF.ev rfl) rfl rfl rfl (S.free 0 rfl) rfl rfl) ?_; replace S := S.put 0 rfl (#[.slice B108 p107.1.length d110, .bool p107.2.1])
    generalize World.setRow _ _ _ = u at S ⊢
    refine op_val (v := .bool p107.2.2) rfl rfl hF rfl (run_assign rfl (hF.ev rfl)) ?_; clear hF; intro a hF
    refine wpList_nil ?_
    refine wp_seq ?_
    refine wp_region_lit ?_
    refine op_val (v := .agg #[.slice B103 p102.1.length d105, .bool p102.2.1]) rfl rfl hF rfl (run_loadN rfl ag25 (hF.ev rfl) rfl ((S.free 2 rfl).cells 0 #[.slice B103 p102.1.length d105, .bool p102.2.1] rfl)) ?_; clear hF; intro a hF
    refine op_val (v := .int .i64 p102.2.2) rfl rfl hF rfl (run_move rfl (hF.ev rfl)) ?_; clear hF; intro a hF
    obtain ⟨p112, h112, hM⟩ := bind_ex hM
    refine op_call rfl rfl hF rfl (run_call (vs := [.agg #[.slice B103 p102.1.length d105, .bool p102.2.1], .int .i64 p102.2.2]) rfl rfl co9 ⟨(hF.ev rfl), (hF.ev rfl), trivial⟩) (c_spec_BarsDo (x0 := p102.1) (x1 := p102.2.1) (x2 := p102.2.2) ⟨(S.rc 3 rfl), rfl⟩ h112) ?_
    rintro e u ⟨B113, n114, d115, rfl, rfl, T⟩
    refine ⟨_, rfl, ?_⟩
    clear hF; intro a hF
    replace S := S.call1 T; clear T
    refine op_val (v := .tuple #[.agg #[.slice B113 p112.1.length d115, .bool p112.2.1], .bool p112.2.2]) rfl rfl hF rfl (run_move rfl (hF.ev rfl)) ?_; clear hF; intro a hF
    refine op_val (v := .agg #[.slice B113 p112.1.length d115, .bool p112.2.1]) rfl rfl hF rfl (run_extract rfl (hF.ev rfl) rfl) ?_; clear hF; intro a hF
    refine op_val (v := .bool p112.2.2) rfl rfl hF rfl (run_extract rfl (hF.ev rfl) rfl) ?_; clear hF; intro a hF
    refine op_new (cs := #[.slice none 0 0, .bool false]) rfl rfl hF rfl S (run_allocZ rfl zr25) ?_; clear hF S; intro a g116 u hF S
    refine op_do rfl rfl (run_store (cs' := #[.slice B113 p112.1.length d115, .bool p112.2.1]) rfl sz25 (hF.ev rfl) (hF.ev rfl) rfl rfl rfl (S.free 0 rfl) rfl rfl) ?_; replace S := S.put 0 rfl (#[.slice B113 p112.1.length d115, .bool p112.2.1])
    generalize World.setRow _ _ _ = u at S ⊢
    refine op_val (v := .bool p112.2.2) rfl rfl hF rfl (run_assign rfl (hF.ev rfl)) ?_; clear hF; intro a hF
    refine wpList_nil ?_
    refine wp_seq ?_
    refine wp_seq ?_
    refine wp_region_lit ?_
    refine op_val (v := .agg #[.slice B108 p107.1.length d110, .bool p107.2.1]) rfl rfl hF rfl (run_loadN rfl ag25 (hF.ev rfl) rfl ((S.free 2 rfl).cells 0 #[.slice B108 p107.1.length d110, .bool p107.2.1] rfl)) ?_; clear hF; intro a hF
    refine op_val (v := .agg #[.slice B113 p112.1.length d115, .bool p112.2.1]) rfl rfl hF rfl (run_loadN rfl ag25 (hF.ev rfl) rfl ((S.free 0 rfl).cells 0 #[.slice B113 p112.1.length d115, .bool p112.2.1] rfl)) ?_; clear hF; intro a hF
    obtain ⟨p117, h117, hM⟩ := bind_ex hM
    refine op_call rfl rfl hF rfl (run_call (vs := [.agg #[.slice B108 p107.1.length d110, .bool p107.2.1], .agg #[.slice B113 p112.1.length d115, .bool p112.2.1]]) rfl rfl co10 ⟨(hF.ev rfl), (hF.ev rfl), trivial⟩) (c_laws_sameBars (x0 := p107.1) (x1 := p107.2.1) (x2 := p112.1) (x3 := p112.2.1) ⟨(S.rc 3 rfl), rfl⟩ ⟨(S.rc 1 rfl), rfl⟩ h117) ?_
    rintro e u ⟨rfl, T⟩
    refine ⟨_, rfl, ?_⟩
    clear hF; intro a hF
    replace S := S.call0 T; clear T
    refine op_val (v := .bool (!p117)) rfl rfl hF rfl (run_not rfl (hF.ev rfl)) ?_; clear hF; intro a hF
    refine op_val (v := .bool (!p117)) rfl rfl hF rfl (run_move rfl (hF.ev rfl)) ?_; clear hF; intro a hF
    refine op_gv (v := .bool p107.2.2) rfl rfl hF rfl (yf (gw_yield hF rfl rfl rfl)) (fun hg => (run_move rfl (hF.ev rfl))) ?_; clear hF; intro a hF
    refine op_gv (v := .bool p112.2.2) rfl rfl hF rfl (yf (gw_yield hF rfl rfl rfl)) (fun hg => (run_move rfl (hF.ev rfl))) ?_; clear hF; intro a hF
    refine op_gv (v := .bool (p107.2.2 != p112.2.2)) rfl rfl hF rfl (yf (gw_yield hF rfl rfl rfl)) (fun hg => (run_neqB ((hF.ev rfl).trans (gv_t hg)) ((hF.ev rfl).trans (gv_t hg)) Tryd.underlying4 rfl)) ?_; clear hF; intro a hF
    refine op_val (v := .bool ((!p117) || (p107.2.2 != p112.2.2))) rfl rfl hF rfl (run_pick_or rfl (hF.ev rfl) rfl (fun hp => ((hF.ev rfl).trans (gv_t (not_t hp))))) ?_; clear hF; intro a hF
    refine wpList_nil ?_
    cases hc118 : ((!p117) || (p107.2.2 != p112.2.2))
    · replace hM := bif_f hc118 hM
      refine cond_f hF rfl hc118 ?_
      refine wp_skip ?_
      refine wp_seq ?_
      refine wp_seq ?_
      refine wp_region_lit ?_
      refine op_val (v := .bool p107.2.2) rfl rfl hF rfl (run_move rfl (hF.ev rfl)) ?_; clear hF; intro a hF
      refine op_val (v := .bool (!p107.2.2)) rfl rfl hF rfl (run_not rfl (hF.ev rfl)) ?_; clear hF; intro a hF
      refine wpList_nil ?_
      cases hc119 : (p107.2.2)
      · replace hM := bif_f hc119 hM
        refine cond_t hF rfl (not_t hc119) ?_
        refine wp_seq ?_
        refine wp_region_lit ?_
        refine op_val (v := .agg #[.slice B108 p107.1.length d110, .bool p107.2.1]) rfl rfl hF rfl (run_loadN rfl ag25 (hF.ev rfl) rfl ((S.free 2 rfl).cells 0 #[.slice B108 p107.1.length d110, .bool p107.2.1] rfl)) ?_; clear hF; intro a hF
        refine op_val (v := .agg #[.slice B103 p102.1.length d105, .bool p102.2.1]) rfl rfl hF rfl (run_loadN rfl ag25 (hF.ev rfl) rfl ((S.free 4 rfl).cells 0 #[.slice B103 p102.1.length d105, .bool p102.2.1] rfl)) ?_; clear hF; intro a hF
        obtain ⟨p120, h120, hM⟩ := bind_ex hM
        refine op_call rfl rfl hF rfl (run_call (vs := [.agg #[.slice B108 p107.1.length d110, .bool p107.2.1], .agg #[.slice B103 p102.1.length d105, .bool p102.2.1]]) rfl rfl co10 ⟨(hF.ev rfl), (hF.ev rfl), trivial⟩) (c_laws_sameBars (x0 := p107.1) (x1 := p107.2.1) (x2 := p102.1) (x3 := p102.2.1) ⟨(S.rc 3 rfl), rfl⟩ ⟨(S.rc 5 rfl), rfl⟩ h120) ?_
        rintro e u ⟨rfl, T⟩
        refine ⟨_, rfl, ?_⟩
        clear hF; intro a hF
        replace S := S.call0 T; clear T
        refine op_val (v := .bool p120) rfl rfl hF rfl (run_move rfl (hF.ev rfl)) ?_; clear hF; intro a hF
        refine op_gv (v := .pointer (some ⟨g111, 0, none⟩)) rfl rfl hF rfl (yf (gw_yield hF rfl rfl rfl)) (fun hg => (run_fieldAddr rfl fl25_0 (hF.ev rfl) rfl)) ?_; clear hF; intro a hF
        refine op_gv (v := .slice B108 p107.1.length d110) rfl rfl hF rfl (yf (gw_yield hF rfl rfl rfl)) (fun hg => (run_load1 rfl one23 ((hF.ev rfl).trans (gv_t hg)) ((S.free 2 rfl).cell rfl))) ?_; clear hF; intro a hF
        refine op_gv (v := .int .i64 (p107.1.length : Int)) rfl rfl hF rfl (yf (gw_yield hF rfl rfl rfl)) (fun hg => (run_lenL rfl rfl Tryd.underlying23 ((hF.ev rfl).trans (gv_t hg)))) ?_; clear hF; intro a hF
        refine op_gv (v := .bool ((p107.1.length : Int) == 0)) rfl rfl hF rfl (yf (gw_yield hF rfl rfl rfl)) (fun hg => (run_eql ((hF.ev rfl).trans (gv_t hg)) rfl rfl)) ?_; clear hF; intro a hF
        refine op_val (v := .bool (p120 || ((p107.1.length : Int) == 0))) rfl rfl hF rfl (run_pick_or rfl (hF.ev rfl) rfl (fun hp => ((hF.ev rfl).trans (gv_t (not_t hp))))) ?_; clear hF; intro a hF
        refine op_val (v := .bool (p120 || ((p107.1.length : Int) == 0))) rfl rfl hF rfl (run_move rfl (hF.ev rfl)) ?_; clear hF; intro a hF
        obtain ⟨p121, h121, hM⟩ := bind_ex hM
        refine op_gcall (v := .bool p121) rfl rfl hF rfl S (yt (gw_yield hF rfl rfl rfl)) (fun hg => (run_call (vs := []) rfl rfl co11 trivial)) (fun hg => c_laws_alive   (gb_t h121 hg)) ?_; clear hF S; intro a u hF S
        refine op_val (v := .bool ((p120 || ((p107.1.length : Int) == 0)) && p121)) rfl rfl hF rfl (run_pick_and rfl (hF.ev rfl) (fun hp => ((hF.ev rfl).trans (gv_t hp))) rfl) ?_; clear hF; intro a hF
        refine op_val (v := .bool ((p120 || ((p107.1.length : Int) == 0)) && p121)) rfl rfl hF rfl (run_assign rfl (hF.ev rfl)) ?_; clear hF; intro a hF
        refine wpList_nil ?_
        refine wp_ret ?_
        repeat with_reducible (first | refine then_ret ?_ | refine in_ret ?_ | refine in_nrm ?_)
        refine ret1_gw (.inl rfl) hF rfl (res_tmp (hF.ev rfl)) ?_
        obtain rfl := Option.some.inj hM
        exact ⟨rfl, S.sel [] rfl rfl⟩
      · replace hM := bif_t hc119 hM
        refine cond_f hF rfl (not_f hc119) ?_
        refine wp_skip ?_
        refine wp_seq ?_
        refine wp_region_lit ?_
        refine op_val (v := .agg #[.slice B108 p107.1.length d110, .bool p107.2.1]) rfl rfl hF rfl (run_loadN rfl ag25 (hF.ev rfl) rfl ((S.free 2 rfl).cells 0 #[.slice B108 p107.1.length d110, .bool p107.2.1] rfl)) ?_; clear hF; intro a hF
        refine op_val (v := .int .i64 p102.2.2) rfl rfl hF rfl (run_move rfl (hF.ev rfl)) ?_; clear hF; intro a hF
        refine op_val (v := .int .i64 (w64 (p102.2.2 + 1))) rfl rfl hF rfl (run_add (z := w64 (p102.2.2 + 1)) (hF.ev rfl) rfl rfl rfl) ?_; clear hF; intro a hF
        refine op_val (v := .int .i64 p102.2.2) rfl rfl hF rfl (run_move rfl (hF.ev rfl)) ?_; clear hF; intro a hF
        refine op_val (v := .int .i64 (Int.tmod p102.2.2 2)) rfl rfl hF rfl (run_rem (z := Int.tmod p102.2.2 2) (hF.ev rfl) rfl rfl (by decide) rfl) ?_; clear hF; intro a hF
        refine op_val (v := .int .i64 (w64 (2 * (Int.tmod p102.2.2 2)))) rfl rfl hF rfl (run_mul (z := w64 (2 * (Int.tmod p102.2.2 2))) rfl (hF.ev rfl) rfl rfl) ?_; clear hF; intro a hF
        refine op_val (v := .int .i64 (w64 ((w64 (p102.2.2 + 1)) - (w64 (2 * (Int.tmod p102.2.2 2)))))) rfl rfl hF rfl (run_sub (z := w64 ((w64 (p102.2.2 + 1)) - (w64 (2 * (Int.tmod p102.2.2 2))))) (hF.ev rfl) (hF.ev rfl) rfl rfl) ?_; clear hF; intro a hF
        obtain ⟨p122, h122, hM⟩ := bind_ex hM
        refine op_call rfl rfl hF rfl (run_call (vs := [.agg #[.slice B108 p107.1.length d110, .bool p107.2.1], .int .i64 (w64 ((w64 (p102.2.2 + 1)) - (w64 (2 * (Int.tmod p102.2.2 2)))))]) rfl rfl co8 ⟨(hF.ev rfl), (hF.ev rfl), trivial⟩) (c_impl_BarsDo (x0 := p107.1) (x1 := p107.2.1) (x2 := w64 ((w64 (p102.2.2 + 1)) - (w64 (2 * (Int.tmod p102.2.2 2))))) ⟨(S.rc 3 rfl), rfl⟩ h122) ?_
        rintro e u ⟨B123, n124, d125, rfl, rfl, T⟩
        refine ⟨_, rfl, ?_⟩
        clear hF; intro a hF
        replace S := S.call1 T; clear T
        refine op_val (v := .tuple #[.agg #[.slice B123 p122.1.length d125, .bool p122.2.1], .bool p122.2.2]) rfl rfl hF rfl (run_move rfl (hF.ev rfl)) ?_; clear hF; intro a hF
        refine op_val (v := .agg #[.slice B123 p122.1.length d125, .bool p122.2.1]) rfl rfl hF rfl (run_extract rfl (hF.ev rfl) rfl) ?_; clear hF; intro a hF
        refine op_val (v := .bool p122.2.2) rfl rfl hF rfl (run_extract rfl (hF.ev rfl) rfl) ?_; clear hF; intro a hF
        refine op_new (cs := #[.slice none 0 0, .bool false]) rfl rfl hF rfl S (run_allocZ rfl zr25) ?_; clear hF S; intro a g126 u hF S
        refine op_do rfl rfl (run_store (cs' := #[.slice B123 p122.1.length d125, .bool p122.2.1]) rfl sz25 (hF.ev rfl) (hF.ev rfl) rfl rfl rfl (S.free 0 rfl) rfl rfl) ?_; replace S := S.put 0 rfl (#[.slice B123 p122.1.length d125, .bool p122.2.1])
        generalize World.setRow _ _ _ = u at S ⊢
        refine op_val (v := .bool p122.2.2) rfl rfl hF rfl (run_assign rfl (hF.ev rfl)) ?_; clear hF; intro a hF
        refine wpList_nil ?_
        refine wp_seq ?_
        refine wp_region_lit ?_
        refine op_val (v := .agg #[.slice B108 p107.1.length d110, .bool p107.2.1]) rfl rfl hF rfl (run_loadN rfl ag25 (hF.ev rfl) rfl ((S.free 4 rfl).cells 0 #[.slice B108 p107.1.length d110, .bool p107.2.1] rfl)) ?_; clear hF; intro a hF
        obtain ⟨p127, h127, hM⟩ := bind_ex hM
        refine op_call rfl rfl hF rfl (run_call (vs := [.agg #[.slice B108 p107.1.length d110, .bool p107.2.1]]) rfl rfl co12 ⟨(hF.ev rfl), trivial⟩) (c_impl_BarsValid (x0 := p107.1) (x1 := p107.2.1) ⟨(S.rc 5 rfl), rfl⟩ h127) ?_
        rintro e u ⟨rfl, T⟩
        refine ⟨_, rfl, ?_⟩
        clear hF; intro a hF
        replace S := S.call0 T; clear T
        refine op_val (v := .bool p127) rfl rfl hF rfl (run_move rfl (hF.ev rfl)) ?_; clear hF; intro a hF
        refine op_gv (v := .agg #[.slice B108 p107.1.length d110, .bool p107.2.1]) rfl rfl hF rfl (yt (gw_yield hF rfl rfl rfl)) (fun hg => (run_loadN rfl ag25 (hF.ev rfl) rfl ((S.free 4 rfl).cells 0 #[.slice B108 p107.1.length d110, .bool p107.2.1] rfl))) ?_; clear hF; intro a hF
        refine op_gv (v := .agg #[.slice B103 p102.1.length d105, .bool p102.2.1]) rfl rfl hF rfl (yt (gw_yield hF rfl rfl rfl)) (fun hg => (run_loadN rfl ag25 (hF.ev rfl) rfl ((S.free 6 rfl).cells 0 #[.slice B103 p102.1.length d105, .bool p102.2.1] rfl))) ?_; clear hF; intro a hF
        obtain ⟨p128, h128, hM⟩ := bind_ex hM
        refine op_gcall (v := .bool p128) rfl rfl hF rfl S (yt (gw_yield hF rfl rfl rfl)) (fun hg => (run_call (vs := [.agg #[.slice B108 p107.1.length d110, .bool p107.2.1], .agg #[.slice B103 p102.1.length d105, .bool p102.2.1]]) rfl rfl co10 ⟨((hF.ev rfl).trans (gv_t hg)), ((hF.ev rfl).trans (gv_t hg)), trivial⟩)) (fun hg => c_laws_sameBars (x0 := p107.1) (x1 := p107.2.1) (x2 := p102.1) (x3 := p102.2.1) ⟨(S.rc 5 rfl), rfl⟩ ⟨(S.rc 7 rfl), rfl⟩ (gb_t h128 hg)) ?_; clear hF S; intro a u hF S
        refine op_gv (v := .bool (!p128)) rfl rfl hF rfl (yt (gw_yield hF rfl rfl rfl)) (fun hg => (run_not rfl ((hF.ev rfl).trans (gv_t hg)))) ?_; clear hF; intro a hF
        refine op_val (v := .bool (p127 && (!p128))) rfl rfl hF rfl (run_pick_and rfl (hF.ev rfl) (fun hp => ((hF.ev rfl).trans (gv_t hp))) rfl) ?_; clear hF; intro a hF
        refine op_val (v := .bool (p127 && (!p128))) rfl rfl hF rfl (run_move rfl (hF.ev rfl)) ?_; clear hF; intro a hF
        refine op_gv (v := .bool p122.2.2) rfl rfl hF rfl (yt (gw_yield hF rfl rfl rfl)) (fun hg => (run_move rfl (hF.ev rfl))) ?_; clear hF; intro a hF
        refine op_val (v := .bool ((p127 && (!p128)) && p122.2.2)) rfl rfl hF rfl (run_pick_and rfl (hF.ev rfl) (fun hp => ((hF.ev rfl).trans (gv_t hp))) rfl) ?_; clear hF; intro a hF
        refine op_val (v := .bool ((p127 && (!p128)) && p122.2.2)) rfl rfl hF rfl (run_move rfl (hF.ev rfl)) ?_; clear hF; intro a hF
        refine op_gv (v := .agg #[.slice B123 p122.1.length d125, .bool p122.2.1]) rfl rfl hF rfl (yt (gw_yield hF rfl rfl rfl)) (fun hg => (run_loadN rfl ag25 (hF.ev rfl) rfl ((S.free 0 rfl).cells 0 #[.slice B123 p122.1.length d125, .bool p122.2.1] rfl))) ?_; clear hF; intro a hF
        refine op_gv (v := .agg #[.slice B103 p102.1.length d105, .bool p102.2.1]) rfl rfl hF rfl (yt (gw_yield hF rfl rfl rfl)) (fun hg => (run_loadN rfl ag25 (hF.ev rfl) rfl ((S.free 6 rfl).cells 0 #[.slice B103 p102.1.length d105, .bool p102.2.1] rfl))) ?_; clear hF; intro a hF
        obtain ⟨p129, h129, hM⟩ := bind_ex hM
        refine op_gcall (v := .bool p129) rfl rfl hF rfl S (yt (gw_yield hF rfl rfl rfl)) (fun hg => (run_call (vs := [.agg #[.slice B123 p122.1.length d125, .bool p122.2.1], .agg #[.slice B103 p102.1.length d105, .bool p102.2.1]]) rfl rfl co10 ⟨((hF.ev rfl).trans (gv_t hg)), ((hF.ev rfl).trans (gv_t hg)), trivial⟩)) (fun hg => c_laws_sameBars (x0 := p122.1) (x1 := p122.2.1) (x2 := p102.1) (x3 := p102.2.1) ⟨(S.rc 1 rfl), rfl⟩ ⟨(S.rc 7 rfl), rfl⟩ (gb_t h129 hg)) ?_; clear hF S; intro a u hF S
        refine op_val (v := .bool (((p127 && (!p128)) && p122.2.2) && p129)) rfl rfl hF rfl (run_pick_and rfl (hF.ev rfl) (fun hp => ((hF.ev rfl).trans (gv_t hp))) rfl) ?_; clear hF; intro a hF
        refine op_val (v := .bool (((p127 && (!p128)) && p122.2.2) && p129)) rfl rfl hF rfl (run_assign rfl (hF.ev rfl)) ?_; clear hF; intro a hF
        refine wpList_nil ?_
        refine wp_ret ?_
        repeat with_reducible (first | refine then_ret ?_ | refine in_ret ?_ | refine in_nrm ?_)
        refine ret1_gw (.inl rfl) hF rfl (res_tmp (hF.ev rfl)) ?_
        obtain rfl := Option.some.inj hM
        exact ⟨rfl, S.sel [] rfl rfl⟩
    · replace hM := bif_t hc118 hM
      refine cond_t hF rfl hc118 ?_
      refine wp_seq ?_
      refine wp_region_lit ?_
      refine op_val (v := .bool false) rfl rfl hF rfl (run_assign rfl rfl) ?_; clear hF; intro a hF
      refine wpList_nil ?_
      refine wp_ret ?_
      repeat with_reducible (first | refine then_ret ?_ | refine in_ret ?_ | refine in_nrm ?_)
      refine ret1_gw (.inl rfl) hF rfl (res_tmp (hF.ev rfl)) ?_
      obtain rfl := Option.some.inj hM
      exact ⟨rfl, S.sel [] rfl rfl⟩
  · replace hM := bif_t hc101 hM
    refine cond_t hF rfl hc101 ?_
    refine wp_seq ?_
    refine wp_region_lit ?_
    refine op_val (v := .bool true) rfl rfl hF rfl (run_assign rfl rfl) ?_; clear hF; intro a hF
    refine wpList_nil ?_
    refine wp_ret ?_
    repeat with_reducible (first | refine then_ret ?_ | refine in_ret ?_ | refine in_nrm ?_)
    refine ret1_gw (.inl rfl) hF rfl (res_tmp (hF.ev rfl)) ?_
    obtain rfl := Option.some.inj hM
    exact ⟨rfl, S.sel [] rfl rfl⟩

set_option maxHeartbeats 4000000 in
theorem c_spec_DrawMoveDeeds {x0 : List Int} {A0 : Option Addr} {n0 c0 : Nat} {w : World} {r : List Int × Bool × Int × Int} (h0 : Rt w 1 eU A0 n0 c0 x0) (hM : m_spec_DrawMoveDeeds x0 = some r) :
    Calls Tryd.prog 13 #[.slice A0 n0 c0] w (fun e w' => ∃ (B0 : Option Addr) (N0 D0 : Nat), e = .returned (.tuple #[.agg #[.slice B0 N0 D0, .bool r.2.1], .int .i64 r.2.2.1, .int .i64 r.2.2.2]) ∧ N0 = r.1.length ∧ St w w' [.row 3 1 (.slice B0 N0 D0) N0 (r.1.flatMap eI)]) := by
  obtain rfl := h0.len
  unfold m_spec_DrawMoveDeeds at hM
  refine calls_gw Tryd.func13 Tryd.ntmps13 rfl [(0, .slice A0 x0.length c0)] ⟨rfl, trivial⟩ rfl ?_
  intro a hF
  have S := St.nil w
  refine wp_seq ?_
  refine wp_region_lit ?_
  refine op_new (cs := #[.slice none 0 0, .bool false]) rfl rfl hF rfl S (run_allocZ rfl zr25) ?_; clear hF S; intro a g101 u hF S
  refine op_val (v := .int .i64 0) rfl rfl hF rfl (run_assign rfl rfl) ?_; clear hF; intro a hF
  refine op_val (v := .int .i64 0) rfl rfl hF rfl (run_assign rfl rfl) ?_; clear hF; intro a hF
  refine wpList_nil ?_
  refine wp_seq ?_
  refine wp_region_lit ?_
  refine op_val (v := .slice A0 x0.length c0) rfl rfl hF rfl (run_move rfl (hF.ev rfl)) ?_; clear hF; intro a hF
  refine op_call rfl rfl hF rfl (run_call (vs := [.slice A0 x0.length c0]) rfl rfl co24 ⟨(hF.ev rfl), trivial⟩) (c_spec_l20Open ⟨(S.rc0 h0.rc), rfl⟩) ?_
  rintro e u ⟨g102, rfl, T⟩
  refine ⟨_, rfl, ?_⟩
  clear hF; intro a hF
  replace S := S.call1 T; clear T
  refine op_val (v := .pointer (some ⟨g102, 0, none⟩)) rfl rfl hF rfl (run_assign rfl (hF.ev rfl)) ?_; clear hF; intro a hF
  refine wpList_nil ?_
  refine wp_seq ?_
  refine wp_region_lit ?_
  refine op_val (v := .pointer (some ⟨g102, 0, none⟩)) rfl rfl hF rfl (run_move rfl (hF.ev rfl)) ?_; clear hF; intro a hF
  obtain ⟨p103, h103, hM⟩ := bind_ex hM
  refine op_call rfl rfl hF rfl (run_call (vs := [.pointer (some ⟨g102, 0, none⟩), .int .i64 9]) rfl rfl co25 ⟨(hF.ev rfl), rfl, trivial⟩) (c_spec_l20Bars (x0 := x0.take 2000) (x1 := 0) (x2 := 9) ⟨(op_rc h0.rc rfl), rfl⟩ (show St w _ [.box g102 58 #[.slice (opA c0 x0.length A0) ((x0.take 2000).length) c0, .int .i64 0], .box g101 25 #[.slice none 0 0, .bool false]] from S.sel [0, 1] rfl rfl) h103) ?_
  rintro e u ⟨B104, n105, d106, rfl, rfl, T⟩
  refine ⟨_, rfl, ?_⟩
  clear hF; intro a hF
  clear S; have S := T; clear T
  refine op_new (cs := #[.slice none 0 0, .bool false]) rfl rfl hF rfl S (run_allocZ rfl zr25) ?_; clear hF S; intro a g107 u hF S
  refine op_do rfl rfl (run_store (cs' := #[.slice B104 p103.1.length d106, .bool p103.2.1]) rfl sz25 (hF.ev rfl) (hF.ev rfl) rfl rfl rfl (S.free 0 rfl) rfl rfl) ?_; replace S := S.put 0 rfl (#[.slice B104 p103.1.length d106, .bool p103.2.1])
  generalize World.setRow _ _ _ = u at S ⊢
  refine wpList_nil ?_
  refine wp_seq ?_
  obtain ⟨p108, h108, hM⟩ := bind_ex hM
  obtain ⟨p109, h109, hM⟩ := bind_ex hM
  obtain ⟨p110, h110, hM⟩ := bind_ex hM
  obtain ⟨p111, h111, hM⟩ := bind_ex hM
  refine region_gw (D := [11, 12, 13, 14, 15, 16, 17, 18, 19, 20, 21, 22, 23, 24, 25, 26, 27, 28, 3, 4]) (Lr := [.box g107 25 #[.slice B104 p103.1.length d106, .bool p103.2.1], .row 3 1 (.slice B104 p103.1.length d106) p103.1.length (p103.1.flatMap eI)]) (deps := (fun | 0 => [11] | 1 => [12] | 2 => [13] | 3 => [14] | 4 => [15] | 5 => [16] | 6 => [17] | 7 => [18] | 8 => [19] | 9 => [20] | 10 => [21] | 11 => [22] | 12 => [23] | 13 => [24] | 14 => [25] | 15 => [26] | 16 => [27] | 17 => [28] | 18 => [2] | 19 => [3] | 20 => [4] | _ => [])) (rd := (fun _ => [])) (zr := (fun _ => []))
    (φ := fun i vs => match i, vs with | 0, [v11] => v11 = .agg #[.slice B104 p103.1.length d106, .bool p103.2.1] | 1, [v12] => v12 = .pointer (some ⟨g102, 0, none⟩) | 2, [v13] => v13 = .pointer (some ⟨g107, 0, none⟩) | 3, [v14] => v14 = .slice B104 p103.1.length d106 | 4, [v15] => v15 = .int .i64 (p103.1.length : Int) | 5, [v16] => v16 = .int .i64 (w64 ((p103.1.length : Int) + 1)) | 6, [v17] => v17 = .int .i64 p108.1 | 7, [v18] => v18 = .pointer (some ⟨g102, 0, none⟩) | 8, [v19] => v19 = .int .i64 p109.1 | 9, [v20] => v20 = .int .i64 (w64 (Int.tdiv p109.1 11)) | 10, [v21] => v21 = .int .i64 (w64 (p108.1 - (w64 (Int.tdiv p109.1 11)))) | 11, [v22] => v22 = .pointer (some ⟨g102, 0, none⟩) | 12, [v23] => v23 = .int .i64 p110.1 | 13, [v24] => v24 = .int .i64 (w64 (1 + p110.1)) | 14, [v25] => v25 = .pointer (some ⟨g102, 0, none⟩) | 15, [v26] => v26 = .int .i64 p111.1 | 16, [v27] => v27 = .int .i64 (w64 (Int.tdiv p111.1 8)) | 17, [v28] => v28 = .int .i64 (w64 ((w64 (1 + p110.1)) + (w64 (Int.tdiv p111.1 8)))) | 19, [v3] => v3 = .int .i64 (w64 (p108.1 - (w64 (Int.tdiv p109.1 11)))) | 20, [v4] => v4 = .int .i64 (w64 ((w64 (1 + p110.1)) + (w64 (Int.tdiv p111.1 8)))) | _, _ => True)
    (C := fun i vs => match i, vs with | 6, [v17] => [.box g102 58 #[.slice (opA c0 x0.length A0) ((x0.take 2000).length) c0, .int .i64 p108.2]] | 8, [v19] => [.box g102 58 #[.slice (opA c0 x0.length A0) ((x0.take 2000).length) c0, .int .i64 p109.2]] | 12, [v23] => [.box g102 58 #[.slice (opA c0 x0.length A0) ((x0.take 2000).length) c0, .int .i64 p110.2]] | 15, [v26] => [.box g102 58 #[.slice (opA c0 x0.length A0) ((x0.take 2000).length) c0, .int .i64 p111.2]] | 18, [v2] => [.box g101 25 #[.slice B104 p103.1.length d106, .bool p103.2.1]] | _, _ => [])
    (κ := (fun | 6 => some 8 | 8 => some 12 | 12 => some 15 | _ => none)) (Z := (fun | 6 => [.box g102 58 #[.slice (opA c0 x0.length A0) ((x0.take 2000).length) c0, .int .i64 p103.2.2]] | 18 => [.box g101 25 #[.slice none 0 0, .bool false]] | _ => [])) mixed hF (by kernel_rfl) (show St w _ [.box g102 58 #[.slice (opA c0 x0.length A0) ((x0.take 2000).length) c0, .int .i64 p103.2.2], .box g101 25 #[.slice none 0 0, .bool false], .box g107 25 #[.slice B104 p103.1.length d106, .bool p103.2.1], .row 3 1 (.slice B104 p103.1.length d106) p103.1.length (p103.1.flatMap eI)] from S.sel [2, 3, 0, 1] rfl rfl) ?_ ?_
  · refine ⟨?_, ?_, ?_, ?_, ?_, ?_, ?_, ?_, ?_, ?_, ?_, ?_, ?_, ?_, ?_, ?_, ?_, ?_, ?_, ?_, ?_, trivial⟩
    · intro a u X hB hu hp hr hz hl S
      replace S : St w u ([] ++ X) := S
      exact .inl ⟨rfl, .agg #[.slice B104 p103.1.length d106, .bool p103.2.1], u, (run_loadN rfl ag25 (hF.evB hB rfl rfl) rfl ((gr_box S hl 0 rfl).cells 0 #[.slice B104 p103.1.length d106, .bool p103.2.1] rfl)), rfl, S⟩
    · intro a u X hB hu hp hr hz hl S
      replace S : St w u ([] ++ X) := S
      exact .inl ⟨rfl, .pointer (some ⟨g102, 0, none⟩), u, (run_move rfl (hF.evB hB rfl rfl)), rfl, S⟩
    · intro a u X hB hu hp hr hz hl S
      replace S : St w u ([] ++ X) := S
      exact .inl ⟨rfl, .pointer (some ⟨g107, 0, none⟩), u, (run_fieldAddr rfl fl25_0 (hF.evB hB rfl rfl) rfl), rfl, S⟩
    · intro a u X hB hu hp hr hz hl S
      replace S : St w u ([] ++ X) := S
      have e13 : sl a 13 = .pointer (some ⟨g107, 0, none⟩) := hp 2 rfl
      exact .inl ⟨rfl, .slice B104 p103.1.length d106, u, (run_load1 rfl one23 (ev_sl e13) ((gr_box S hl 0 rfl).cell rfl)), rfl, S⟩
    · intro a u X hB hu hp hr hz hl S
      replace S : St w u ([] ++ X) := S
      have e14 : sl a 14 = .slice B104 p103.1.length d106 := hp 3 rfl
      exact .inl ⟨rfl, .int .i64 (p103.1.length : Int), u, (run_lenL rfl rfl Tryd.underlying23 (ev_sl e14)), rfl, S⟩
    · intro a u X hB hu hp hr hz hl S
      replace S : St w u ([] ++ X) := S
      have e15 : sl a 15 = .int .i64 (p103.1.length : Int) := hp 4 rfl
      exact .inl ⟨rfl, .int .i64 (w64 ((p103.1.length : Int) + 1)), u, (run_add (z := w64 ((p103.1.length : Int) + 1)) (ev_sl e15) (ev_const _ _) rfl rfl), rfl, S⟩
    · intro a u X hB hu hp hr hz hl S
      replace S : St w u ([.box g102 58 #[.slice (opA c0 x0.length A0) ((x0.take 2000).length) c0, .int .i64 p103.2.2]] ++ X) := S
      have e12 : sl a 12 = .pointer (some ⟨g102, 0, none⟩) := hp 1 rfl
      have e16 : sl a 16 = .int .i64 (w64 ((p103.1.length : Int) + 1)) := hp 5 rfl
      refine .inr (.inr (.inl ⟨rfl, _, _, (run_call (vs := [.pointer (some ⟨g102, 0, none⟩), .int .i64 (w64 ((p103.1.length : Int) + 1))]) rfl rfl co26 ⟨(ev_sl e12), (ev_sl e16), trivial⟩), ?_⟩))
      refine Calls.mono (c_spec_l20Rd_pick (x0 := x0.take 2000) (x1 := p103.2.2) (x2 := w64 ((p103.1.length : Int) + 1)) ⟨(op_rc h0.rc rfl), rfl⟩ S h108) ?_
      rintro e w1 ⟨rfl, T⟩
      exact ⟨_, rfl, rfl, T⟩
    · intro a u X hB hu hp hr hz hl S
      replace S : St w u ([] ++ X) := S
      exact .inl ⟨rfl, .pointer (some ⟨g102, 0, none⟩), u, (run_move rfl (hF.evB hB rfl rfl)), rfl, S⟩
    · intro a u X hB hu hp hr hz hl S
      replace S : St w u ([.box g102 58 #[.slice (opA c0 x0.length A0) ((x0.take 2000).length) c0, .int .i64 p108.2]] ++ X) := S
      have e18 : sl a 18 = .pointer (some ⟨g102, 0, none⟩) := hp 7 rfl
      refine .inr (.inr (.inl ⟨rfl, _, _, (run_call (vs := [.pointer (some ⟨g102, 0, none⟩), .int .i64 12]) rfl rfl co26 ⟨(ev_sl e18), (ev_const _ _), trivial⟩), ?_⟩))
      refine Calls.mono (c_spec_l20Rd_pick (x0 := x0.take 2000) (x1 := p108.2) (x2 := 12) ⟨(op_rc h0.rc rfl), rfl⟩ S h109) ?_
      rintro e w1 ⟨rfl, T⟩
      exact ⟨_, rfl, rfl, T⟩
    · intro a u X hB hu hp hr hz hl S
      replace S : St w u ([] ++ X) := S
      have e19 : sl a 19 = .int .i64 p109.1 := hp 8 rfl
      exact .inl ⟨rfl, .int .i64 (w64 (Int.tdiv p109.1 11)), u, (run_quo (z := w64 (Int.tdiv p109.1 11)) (ev_sl e19) (ev_const _ _) rfl (by decide) rfl), rfl, S⟩
    · intro a u X hB hu hp hr hz hl S
      replace S : St w u ([] ++ X) := S
      have e17 : sl a 17 = .int .i64 p108.1 := hp 6 rfl
      have e20 : sl a 20 = .int .i64 (w64 (Int.tdiv p109.1 11)) := hp 9 rfl
      exact .inl ⟨rfl, .int .i64 (w64 (p108.1 - (w64 (Int.tdiv p109.1 11)))), u, (run_sub (z := w64 (p108.1 - (w64 (Int.tdiv p109.1 11)))) (ev_sl e17) (ev_sl e20) rfl rfl), rfl, S⟩
    · intro a u X hB hu hp hr hz hl S
      replace S : St w u ([] ++ X) := S
      exact .inl ⟨rfl, .pointer (some ⟨g102, 0, none⟩), u, (run_move rfl (hF.evB hB rfl rfl)), rfl, S⟩
    · intro a u X hB hu hp hr hz hl S
      replace S : St w u ([.box g102 58 #[.slice (opA c0 x0.length A0) ((x0.take 2000).length) c0, .int .i64 p109.2]] ++ X) := S
      have e22 : sl a 22 = .pointer (some ⟨g102, 0, none⟩) := hp 11 rfl
      refine .inr (.inr (.inl ⟨rfl, _, _, (run_call (vs := [.pointer (some ⟨g102, 0, none⟩), .int .i64 2]) rfl rfl co26 ⟨(ev_sl e22), (ev_const _ _), trivial⟩), ?_⟩))
      refine Calls.mono (c_spec_l20Rd_pick (x0 := x0.take 2000) (x1 := p109.2) (x2 := 2) ⟨(op_rc h0.rc rfl), rfl⟩ S h110) ?_
      rintro e w1 ⟨rfl, T⟩
      exact ⟨_, rfl, rfl, T⟩
    · intro a u X hB hu hp hr hz hl S
      replace S : St w u ([] ++ X) := S
      have e23 : sl a 23 = .int .i64 p110.1 := hp 12 rfl
      exact .inl ⟨rfl, .int .i64 (w64 (1 + p110.1)), u, (run_add (z := w64 (1 + p110.1)) (ev_const _ _) (ev_sl e23) rfl rfl), rfl, S⟩
    · intro a u X hB hu hp hr hz hl S
      replace S : St w u ([] ++ X) := S
      exact .inl ⟨rfl, .pointer (some ⟨g102, 0, none⟩), u, (run_move rfl (hF.evB hB rfl rfl)), rfl, S⟩
    · intro a u X hB hu hp hr hz hl S
      replace S : St w u ([.box g102 58 #[.slice (opA c0 x0.length A0) ((x0.take 2000).length) c0, .int .i64 p110.2]] ++ X) := S
      have e25 : sl a 25 = .pointer (some ⟨g102, 0, none⟩) := hp 14 rfl
      refine .inr (.inr (.inl ⟨rfl, _, _, (run_call (vs := [.pointer (some ⟨g102, 0, none⟩), .int .i64 9]) rfl rfl co26 ⟨(ev_sl e25), (ev_const _ _), trivial⟩), ?_⟩))
      refine Calls.mono (c_spec_l20Rd_pick (x0 := x0.take 2000) (x1 := p110.2) (x2 := 9) ⟨(op_rc h0.rc rfl), rfl⟩ S h111) ?_
      rintro e w1 ⟨rfl, T⟩
      exact ⟨_, rfl, rfl, T⟩
    · intro a u X hB hu hp hr hz hl S
      replace S : St w u ([] ++ X) := S
      have e26 : sl a 26 = .int .i64 p111.1 := hp 15 rfl
      exact .inl ⟨rfl, .int .i64 (w64 (Int.tdiv p111.1 8)), u, (run_quo (z := w64 (Int.tdiv p111.1 8)) (ev_sl e26) (ev_const _ _) rfl (by decide) rfl), rfl, S⟩
    · intro a u X hB hu hp hr hz hl S
      replace S : St w u ([] ++ X) := S
      have e24 : sl a 24 = .int .i64 (w64 (1 + p110.1)) := hp 13 rfl
      have e27 : sl a 27 = .int .i64 (w64 (Int.tdiv p111.1 8)) := hp 16 rfl
      exact .inl ⟨rfl, .int .i64 (w64 ((w64 (1 + p110.1)) + (w64 (Int.tdiv p111.1 8)))), u, (run_add (z := w64 ((w64 (1 + p110.1)) + (w64 (Int.tdiv p111.1 8)))) (ev_sl e24) (ev_sl e27) rfl rfl), rfl, S⟩
    · intro a u X hB hu hp hr hz hl S
      replace S : St w u ([.box g101 25 #[.slice none 0 0, .bool false]] ++ X) := S
      have e11 : sl a 11 = .agg #[.slice B104 p103.1.length d106, .bool p103.2.1] := hp 0 rfl
      exact .inr (.inl ⟨rfl, _, run_store (cs' := #[.slice B104 p103.1.length d106, .bool p103.2.1]) rfl sz25 (hF.evB hB rfl rfl) (ev_sl e11) rfl rfl rfl (S.free 0 rfl) rfl rfl, trivial, S.put 0 rfl (#[.slice B104 p103.1.length d106, .bool p103.2.1])⟩)
    · intro a u X hB hu hp hr hz hl S
      replace S : St w u ([] ++ X) := S
      have e21 : sl a 21 = .int .i64 (w64 (p108.1 - (w64 (Int.tdiv p109.1 11)))) := hp 10 rfl
      exact .inl ⟨rfl, .int .i64 (w64 (p108.1 - (w64 (Int.tdiv p109.1 11)))), u, (run_assign rfl (ev_sl e21)), rfl, S⟩
    · intro a u X hB hu hp hr hz hl S
      replace S : St w u ([] ++ X) := S
      have e28 : sl a 28 = .int .i64 (w64 ((w64 (1 + p110.1)) + (w64 (Int.tdiv p111.1 8)))) := hp 17 rfl
      exact .inl ⟨rfl, .int .i64 (w64 ((w64 (1 + p110.1)) + (w64 (Int.tdiv p111.1 8)))), u, (run_assign rfl (ev_sl e28)), rfl, S⟩
  · intro a u hB hp S
    obtain ⟨q0, q1, q2, q3, q4, q5, q6, q7, q8, q9, q10, q11, q12, q13, q14, q15, q16, q17, q18, q19, q20, _⟩ := hp
    have e11 : sl a 11 = .agg #[.slice B104 p103.1.length d106, .bool p103.2.1] := q0
    have e12 : sl a 12 = .pointer (some ⟨g102, 0, none⟩) := q1
    have e13 : sl a 13 = .pointer (some ⟨g107, 0, none⟩) := q2
    have e14 : sl a 14 = .slice B104 p103.1.length d106 := q3
    have e15 : sl a 15 = .int .i64 (p103.1.length : Int) := q4
    have e16 : sl a 16 = .int .i64 (w64 ((p103.1.length : Int) + 1)) := q5
    have e17 : sl a 17 = .int .i64 p108.1 := q6
    have e18 : sl a 18 = .pointer (some ⟨g102, 0, none⟩) := q7
    have e19 : sl a 19 = .int .i64 p109.1 := q8
    have e20 : sl a 20 = .int .i64 (w64 (Int.tdiv p109.1 11)) := q9
    have e21 : sl a 21 = .int .i64 (w64 (p108.1 - (w64 (Int.tdiv p109.1 11)))) := q10
    have e22 : sl a 22 = .pointer (some ⟨g102, 0, none⟩) := q11
    have e23 : sl a 23 = .int .i64 p110.1 := q12
    have e24 : sl a 24 = .int .i64 (w64 (1 + p110.1)) := q13
    have e25 : sl a 25 = .pointer (some ⟨g102, 0, none⟩) := q14
    have e26 : sl a 26 = .int .i64 p111.1 := q15
    have e27 : sl a 27 = .int .i64 (w64 (Int.tdiv p111.1 8)) := q16
    have e28 : sl a 28 = .int .i64 (w64 ((w64 (1 + p110.1)) + (w64 (Int.tdiv p111.1 8)))) := q17
    have e3 : sl a 3 = .int .i64 (w64 (p108.1 - (w64 (Int.tdiv p109.1 11)))) := q19
    have e4 : sl a 4 = .int .i64 (w64 ((w64 (1 + p110.1)) + (w64 (Int.tdiv p111.1 8)))) := q20
    replace S : St w u [.box g102 58 #[.slice (opA c0 x0.length A0) ((x0.take 2000).length) c0, .int .i64 p111.2], .box g101 25 #[.slice B104 p103.1.length d106, .bool p103.2.1], .box g107 25 #[.slice B104 p103.1.length d106, .bool p103.2.1], .row 3 1 (.slice B104 p103.1.length d106) p103.1.length (p103.1.flatMap eI)] := S
    clear q0 q1 q2 q3 q4 q5 q6 q7 q8 q9 q10 q11 q12 q13 q14 q15 q16 q17 q18 q19 q20
    have hF := hF.region hB [(11, .agg #[.slice B104 p103.1.length d106, .bool p103.2.1]), (12, .pointer (some ⟨g102, 0, none⟩)), (13, .pointer (some ⟨g107, 0, none⟩)), (14, .slice B104 p103.1.length d106), (15, .int .i64 (p103.1.length : Int)), (16, .int .i64 (w64 ((p103.1.length : Int) + 1))), (17, .int .i64 p108.1), (18, .pointer (some ⟨g102, 0, none⟩)), (19, .int .i64 p109.1), (20, .int .i64 (w64 (Int.tdiv p109.1 11))), (21, .int .i64 (w64 (p108.1 - (w64 (Int.tdiv p109.1 11))))), (22, .pointer (some ⟨g102, 0, none⟩)), (23, .int .i64 p110.1), (24, .int .i64 (w64 (1 + p110.1))), (25, .pointer (some ⟨g102, 0, none⟩)), (26, .int .i64 p111.1), (27, .int .i64 (w64 (Int.tdiv p111.1 8))), (28, .int .i64 (w64 ((w64 (1 + p110.1)) + (w64 (Int.tdiv p111.1 8))))), (3, .int .i64 (w64 (p108.1 - (w64 (Int.tdiv p109.1 11))))), (4, .int .i64 (w64 ((w64 (1 + p110.1)) + (w64 (Int.tdiv p111.1 8)))))] (allSl_mem ⟨e11, e12, e13, e14, e15, e16, e17, e18, e19, e20, e21, e22, e23, e24, e25, e26, e27, e28, e3, e4, trivial⟩) rfl
    clear hB e11 e12 e13 e14 e15 e16 e17 e18 e19 e20 e21 e22 e23 e24 e25 e26 e27 e28 e3 e4
    refine wp_ret ?_
    repeat with_reducible (first | refine then_ret ?_ | refine in_ret ?_ | refine in_nrm ?_)
    refine ret3_gw (.inl rfl) hF rfl (res_cell (hF.ev rfl) (res_loadN ag25 rfl (S.cells 1 rfl 0 #[.slice B104 p103.1.length d106, .bool p103.2.1] rfl))) (res_tmp (hF.ev rfl)) (res_tmp (hF.ev rfl)) ?_
    obtain rfl := Option.some.inj hM
    exact ⟨B104, p103.1.length, d106, rfl, rfl, S.sel [3] rfl rfl⟩

set_option maxHeartbeats 4000000 in
theorem c_impl_isolatorDeed {x0 : Int} {x1 : Int} {w : World} {r : Int}  (hM : m_impl_isolatorDeed x0 x1 = some r) :
    Calls Tryd.prog 31 #[.int .i64 x0, .int .i64 x1] w (fun e w' => e = .returned (.int .i64 r) ∧ St w w' []) := by
  unfold m_impl_isolatorDeed at hM
  refine calls_gw Tryd.func31 Tryd.ntmps31 rfl [(0, .int .i64 x0), (1, .int .i64 x1)] ⟨rfl, rfl, trivial⟩ rfl ?_
  intro a hF
  have S := St.nil w
  refine wp_seq ?_
  refine wp_region_lit ?_
  refine op_val (v := .int .i64 0) rfl rfl hF rfl (run_assign rfl rfl) ?_; clear hF; intro a hF
  refine wpList_nil ?_
  refine wp_seq ?_
  refine wp_region_lit ?_
  refine op_val (v := .int .i64 x0) rfl rfl hF rfl (run_move rfl (hF.ev rfl)) ?_; clear hF; intro a hF
  refine op_val (v := .int .i64 (w64 (4 * x0))) rfl rfl hF rfl (run_mul (z := w64 (4 * x0)) rfl (hF.ev rfl) rfl rfl) ?_; clear hF; intro a hF
  refine op_val (v := .int .i64 (w64 (2 + (w64 (4 * x0))))) rfl rfl hF rfl (run_add (z := w64 (2 + (w64 (4 * x0)))) rfl (hF.ev rfl) rfl rfl) ?_; clear hF; intro a hF
  refine op_val (v := .int .i64 x1) rfl rfl hF rfl (run_move rfl (hF.ev rfl)) ?_; clear hF; intro a hF
  refine op_val (v := .int .i64 (w64 (x1 - 1))) rfl rfl hF rfl (run_sub (z := w64 (x1 - 1)) (hF.ev rfl) rfl rfl rfl) ?_; clear hF; intro a hF
  refine op_val (v := .int .i64 (w64 (2 * (w64 (x1 - 1))))) rfl rfl hF rfl (run_mul (z := w64 (2 * (w64 (x1 - 1)))) rfl (hF.ev rfl) rfl rfl) ?_; clear hF; intro a hF
  refine op_val (v := .int .i64 (w64 ((w64 (2 + (w64 (4 * x0)))) + (w64 (2 * (w64 (x1 - 1))))))) rfl rfl hF rfl (run_add (z := w64 ((w64 (2 + (w64 (4 * x0)))) + (w64 (2 * (w64 (x1 - 1)))))) (hF.ev rfl) (hF.ev rfl) rfl rfl) ?_; clear hF; intro a hF
  refine op_val (v := .int .i64 (w64 ((w64 (2 + (w64 (4 * x0)))) + (w64 (2 * (w64 (x1 - 1))))))) rfl rfl hF rfl (run_assign rfl (hF.ev rfl)) ?_; clear hF; intro a hF
  refine wpList_nil ?_
  refine wp_ret ?_
  repeat with_reducible (first | refine then_ret ?_ | refine in_ret ?_ | refine in_nrm ?_)
  refine ret1_gw (.inl rfl) hF rfl (res_tmp (hF.ev rfl)) ?_
  obtain rfl := Option.some.inj hM
  exact ⟨rfl, S.sel [] rfl rfl⟩

set_option maxHeartbeats 4000000 in
theorem c_impl_MoveDeeds {x0 : List Int} {x1 : Bool} {x2 : Int} {x3 : Int} {A0 : Option Addr} {n0 c0 : Nat} {w : World} {r : List Int} (h0 : Rt w 1 eI A0 n0 c0 x0) (hM : m_impl_MoveDeeds x0 x1 x2 x3 = some r) :
    Calls Tryd.prog 14 #[.agg #[.slice A0 n0 c0, .bool x1], .int .i64 x2, .int .i64 x3] w (fun e w' => ∃ (B0 : Option Addr) (N0 D0 : Nat), e = .returned (.slice B0 N0 D0) ∧ N0 = r.length ∧ St w w' [.row 3 1 (.slice B0 N0 D0) N0 (r.flatMap eI)]) := by
  obtain rfl := h0.len
  unfold m_impl_MoveDeeds at hM
  refine calls_gw Tryd.func14 Tryd.ntmps14 rfl [(0, .agg #[.slice A0 x0.length c0, .bool x1]), (1, .int .i64 x2), (2, .int .i64 x3)] ⟨rfl, rfl, rfl, trivial⟩ rfl ?_
  intro a hF
  have S := St.nil w
  refine wp_seq ?_
  refine wp_region_lit ?_
  refine op_new (cs := #[.slice A0 x0.length c0, .bool x1]) rfl rfl hF rfl S (run_box rfl (hF.ev rfl) rfl) ?_; clear hF S; intro a g101 u hF S
  refine op_val (v := .slice none 0 0) rfl rfl hF rfl (run_assign rfl rfl) ?_; clear hF; intro a hF
  refine wpList_nil ?_
  refine wp_seq ?_
  refine wp_seq ?_
  refine wp_region_lit ?_
  refine op_val (v := .agg #[.slice A0 x0.length c0, .bool x1]) rfl rfl hF rfl (run_loadN rfl ag25 (hF.ev rfl) rfl ((S.free 0 rfl).cells 0 #[.slice A0 x0.length c0, .bool x1] rfl)) ?_; clear hF; intro a hF
  obtain ⟨p102, h102, hM⟩ := bind_ex hM
  refine op_call rfl rfl hF rfl (run_call (vs := [.agg #[.slice A0 x0.length c0, .bool x1]]) rfl rfl co12 ⟨(hF.ev rfl), trivial⟩) (c_impl_BarsValid (x0 := x0) (x1 := x1) ⟨(S.rc0 h0.rc), rfl⟩ h102) ?_
  rintro e u ⟨rfl, T⟩
  refine ⟨_, rfl, ?_⟩
  clear hF; intro a hF
  replace S := S.call0 T; clear T
  refine op_val (v := .bool (!p102)) rfl rfl hF rfl (run_not rfl (hF.ev rfl)) ?_; clear hF; intro a hF
  refine op_val (v := .bool (!p102)) rfl rfl hF rfl (run_move rfl (hF.ev rfl)) ?_; clear hF; intro a hF
  refine op_gv (v := .int .i64 x2) rfl rfl hF rfl (yf (gw_yield hF rfl rfl rfl)) (fun hg => (run_move rfl (hF.ev rfl))) ?_; clear hF; intro a hF
  refine op_gv (v := .bool (ltB x2 0)) rfl rfl hF rfl (yf (gw_yield hF rfl rfl rfl)) (fun hg => (run_lss ((hF.ev rfl).trans (gv_t hg)) rfl rfl)) ?_; clear hF; intro a hF
  refine op_val (v := .bool ((!p102) || (ltB x2 0))) rfl rfl hF rfl (run_pick_or rfl (hF.ev rfl) rfl (fun hp => ((hF.ev rfl).trans (gv_t (not_t hp))))) ?_; clear hF; intro a hF
  refine op_val (v := .bool ((!p102) || (ltB x2 0))) rfl rfl hF rfl (run_move rfl (hF.ev rfl)) ?_; clear hF; intro a hF
  refine op_gv (v := .int .i64 x2) rfl rfl hF rfl (yf (gw_yield hF rfl rfl rfl)) (fun hg => (run_move rfl (hF.ev rfl))) ?_; clear hF; intro a hF
  refine op_gv (v := .pointer (some ⟨g101, 0, none⟩)) rfl rfl hF rfl (yf (gw_yield hF rfl rfl rfl)) (fun hg => (run_fieldAddr rfl fl25_0 (hF.ev rfl) rfl)) ?_; clear hF; intro a hF
  refine op_gv (v := .slice A0 x0.length c0) rfl rfl hF rfl (yf (gw_yield hF rfl rfl rfl)) (fun hg => (run_load1 rfl one23 ((hF.ev rfl).trans (gv_t hg)) ((S.free 0 rfl).cell rfl))) ?_; clear hF; intro a hF
  refine op_gv (v := .int .i64 (x0.length : Int)) rfl rfl hF rfl (yf (gw_yield hF rfl rfl rfl)) (fun hg => (run_lenL rfl rfl Tryd.underlying23 ((hF.ev rfl).trans (gv_t hg)))) ?_; clear hF; intro a hF
  refine op_gv (v := .bool (leB (x0.length : Int) x2)) rfl rfl hF rfl (yf (gw_yield hF rfl rfl rfl)) (fun hg => (run_geq ((hF.ev rfl).trans (gv_t hg)) ((hF.ev rfl).trans (gv_t hg)) rfl)) ?_; clear hF; intro a hF
  refine op_val (v := .bool (((!p102) || (ltB x2 0)) || (leB (x0.length : Int) x2))) rfl rfl hF rfl (run_pick_or rfl (hF.ev rfl) rfl (fun hp => ((hF.ev rfl).trans (gv_t (not_t hp))))) ?_; clear hF; intro a hF
  refine op_val (v := .bool (((!p102) || (ltB x2 0)) || (leB (x0.length : Int) x2))) rfl rfl hF rfl (run_move rfl (hF.ev rfl)) ?_; clear hF; intro a hF
  refine op_gv (v := .int .i64 x3) rfl rfl hF rfl (yf (gw_yield hF rfl rfl rfl)) (fun hg => (run_move rfl (hF.ev rfl))) ?_; clear hF; intro a hF
  refine op_gv (v := .bool (ltB x3 1)) rfl rfl hF rfl (yf (gw_yield hF rfl rfl rfl)) (fun hg => (run_lss ((hF.ev rfl).trans (gv_t hg)) rfl rfl)) ?_; clear hF; intro a hF
  refine op_val (v := .bool ((((!p102) || (ltB x2 0)) || (leB (x0.length : Int) x2)) || (ltB x3 1))) rfl rfl hF rfl (run_pick_or rfl (hF.ev rfl) rfl (fun hp => ((hF.ev rfl).trans (gv_t (not_t hp))))) ?_; clear hF; intro a hF
  refine op_val (v := .bool ((((!p102) || (ltB x2 0)) || (leB (x0.length : Int) x2)) || (ltB x3 1))) rfl rfl hF rfl (run_move rfl (hF.ev rfl)) ?_; clear hF; intro a hF
  refine op_gv (v := .int .i64 x3) rfl rfl hF rfl (yf (gw_yield hF rfl rfl rfl)) (fun hg => (run_move rfl (hF.ev rfl))) ?_; clear hF; intro a hF
  refine op_gv (v := .bool (ltB 2 x3)) rfl rfl hF rfl (yf (gw_yield hF rfl rfl rfl)) (fun hg => (run_gtr ((hF.ev rfl).trans (gv_t hg)) rfl rfl)) ?_; clear hF; intro a hF
  refine op_val (v := .bool (((((!p102) || (ltB x2 0)) || (leB (x0.length : Int) x2)) || (ltB x3 1)) || (ltB 2 x3))) rfl rfl hF rfl (run_pick_or rfl (hF.ev rfl) rfl (fun hp => ((hF.ev rfl).trans (gv_t (not_t hp))))) ?_; clear hF; intro a hF
  refine op_val (v := .bool (((((!p102) || (ltB x2 0)) || (leB (x0.length : Int) x2)) || (ltB x3 1)) || (ltB 2 x3))) rfl rfl hF rfl (run_move rfl (hF.ev rfl)) ?_; clear hF; intro a hF
  refine op_gv (v := .pointer (some ⟨g101, 0, none⟩)) rfl rfl hF rfl (yf (gw_yield hF rfl rfl rfl)) (fun hg => (run_fieldAddr rfl fl25_0 (hF.ev rfl) rfl)) ?_; clear hF; intro a hF
  refine op_gv (v := .slice A0 x0.length c0) rfl rfl hF rfl (yf (gw_yield hF rfl rfl rfl)) (fun hg => (run_load1 rfl one23 ((hF.ev rfl).trans (gv_t hg)) ((S.free 0 rfl).cell rfl))) ?_; clear hF; intro a hF
  refine op_gv (v := .int .i64 x2) rfl rfl hF rfl (yf (gw_yield hF rfl rfl rfl)) (fun hg => (run_move rfl (hF.ev rfl))) ?_; clear hF; intro a hF
  obtain ⟨hk103, hM⟩ := chk_ex hM
  replace hk103 := fun hg => ixB_t (imp_t hk103 hg)
  refine op_gv (v := .pointer (some ⟨adB A0, adO A0 + x2.toNat * 1, none⟩)) rfl rfl hF rfl (yf (gw_yield hF rfl rfl rfl)) (fun hg => (run_indexAddr (b := adB A0) (off := adO A0) rfl Tryd.underlying23 sz3 (((hF.ev rfl).trans (gv_t hg)).trans (congrArg (fun A => Value.slice A x0.length c0) ((S.rc0 h0.rc).rd.ad (ix_pos (hk103 hg))))) ((hF.ev rfl).trans (gv_t hg)) (hk103 hg).1 (hk103 hg).2 (k' := adO A0 + x2.toNat * 1) rfl)) ?_; clear hF; intro a hF
  refine op_gv (v := .int .i64 (x0.getD x2.toNat (0 : Int))) rfl rfl hF rfl (yf (gw_yield hF rfl rfl rfl)) (fun hg => (run_load1 rfl one3 ((hF.ev rfl).trans (gv_t hg)) (rd_el0 (l := x0) (S.rc0 h0.rc).rd rfl eI_len (0 : Int) (ix_ltn (hk103 hg) rfl) rfl))) ?_; clear hF; intro a hF
  refine op_gv (v := .int .i64 x3) rfl rfl hF rfl (yf (gw_yield hF rfl rfl rfl)) (fun hg => (run_move rfl (hF.ev rfl))) ?_; clear hF; intro a hF
  refine op_gv (v := .bool ((x0.getD x2.toNat (0 : Int)) == x3)) rfl rfl hF rfl (yf (gw_yield hF rfl rfl rfl)) (fun hg => (run_eql ((hF.ev rfl).trans (gv_t hg)) ((hF.ev rfl).trans (gv_t hg)) rfl)) ?_; clear hF; intro a hF
  refine op_val (v := .bool ((((((!p102) || (ltB x2 0)) || (leB (x0.length : Int) x2)) || (ltB x3 1)) || (ltB 2 x3)) || ((x0.getD x2.toNat (0 : Int)) == x3))) rfl rfl hF rfl (run_pick_or rfl (hF.ev rfl) rfl (fun hp => ((hF.ev rfl).trans (gv_t (not_t hp))))) ?_; clear hF; intro a hF
  refine wpList_nil ?_
  cases hc104 : ((((((!p102) || (ltB x2 0)) || (leB (x0.length : Int) x2)) || (ltB x3 1)) || (ltB 2 x3)) || ((x0.getD x2.toNat (0 : Int)) == x3))
  · replace hM := bif_f hc104 hM
    refine cond_f hF rfl hc104 ?_
    refine wp_skip ?_
    refine wp_seq ?_
    refine wp_region_lit ?_
    refine op_val (v := .slice none 0 0) rfl rfl hF rfl (run_assign rfl rfl) ?_; clear hF; intro a hF
    refine wpList_nil ?_
    refine wp_seq ?_
    refine wp_seq ?_
    refine wp_region_lit ?_
    refine op_val (v := .pointer (some ⟨g101, 1, none⟩)) rfl rfl hF rfl (run_fieldAddr rfl fl25_1 (hF.ev rfl) rfl) ?_; clear hF; intro a hF
    refine op_val (v := .bool x1) rfl rfl hF rfl (run_load1 rfl one4 (hF.ev rfl) ((S.free 0 rfl).cell rfl)) ?_; clear hF; intro a hF
    refine op_val (v := .bool (!x1)) rfl rfl hF rfl (run_not rfl (hF.ev rfl)) ?_; clear hF; intro a hF
    refine wpList_nil ?_
    obtain ⟨o106, hM109, hM⟩ := bind_ex hM
    refine wp_cut (fun a u => ∃ (p105 : List Int) (B107 : Option Addr) (d108 : Nat), p105 = o106 ∧ Fr a 74 [(1, .int .i64 x2), (2, .int .i64 x3), (3, .pointer (some ⟨g101, 0, none⟩)), (6, .slice none 0 0), (7, .slice B107 p105.length d108)] ∧ St w u [.box g101 25 #[.slice A0 x0.length c0, .bool x1], .row 3 1 (.slice B107 p105.length d108) p105.length (p105.flatMap eI)]) ?_ ?_
    · have _ := trivial
      rcases (Bool.eq_false_or_eq_true (x1)).symm with hc110 | hc110
      · replace hM109 := bif_f hc110 hM109
        refine cond_t hF rfl (not_t hc110) ?_
        refine wp_region_lit ?_
        refine op_val (v := .slice none 0 0) rfl rfl hF rfl (run_move rfl (hF.ev rfl)) ?_; clear hF; intro a hF
        refine op_newrowL (ls := (([1] : List Int) : List Int)) (e := eI) rfl rfl hF rfl S (run_buildS (vs := [(0, .int .i64 1)]) rfl ⟨⟨rfl, rfl⟩, trivial⟩ (bs23_1_0 rfl)) rfl eI_len (Nat.le_of_ble_eq_true rfl) ?_; clear hF S; intro a g111 u hF S
        replace S := S.nilrow 3 1
        obtain ⟨hk114, hM109⟩ := chk_ex hM109
        replace hk114 := apB_t hk114
        refine op_appendL (lx := []) (ly := ([1] : List Int)) rfl rfl hF rfl S rfl (hF.ev rfl) (hF.ev rfl) (i := 0) rfl rfl Tryd.underlying23 inf3 rfl (by decide) (S.rc 1 rfl).rd rfl eI_one hk114 (by decide) ?_; clear hF S; intro a B112 d113 u hF S
        refine op_val (v := .slice B112 ((([] : List Int) ++ ([1] : List Int)).length) d113) rfl rfl hF rfl (run_assign rfl (hF.ev rfl)) ?_; clear hF; intro a hF
        refine wpList_nil ?_
        obtain rfl := Option.some.inj hM109
        exact ⟨([] : List Int) ++ ([1] : List Int), B112, d113, rfl, hF.keep _ ⟨rfl, rfl, rfl, rfl, rfl, trivial⟩, S.sel [2, 0] rfl rfl⟩
      · replace hM109 := bif_t hc110 hM109
        refine cond_f hF rfl (not_f hc110) ?_
        refine wp_skip ?_
        obtain rfl := Option.some.inj hM109
        replace S := S.nilrow 3 1
        exact ⟨([] : List Int), none, 0, rfl, hF.keep _ ⟨rfl, rfl, rfl, rfl, rfl, trivial⟩, S.sel [1, 0] rfl rfl⟩
    · rintro a u ⟨p105, B107, d108, rfl, hF, S⟩
      refine wp_seq ?_
      refine wp_seq ?_
      refine wp_region_lit ?_
      refine op_val (v := .pointer (some ⟨g101, 0, none⟩)) rfl rfl hF rfl (run_fieldAddr rfl fl25_0 (hF.ev rfl) rfl) ?_; clear hF; intro a hF
      refine op_val (v := .slice A0 x0.length c0) rfl rfl hF rfl (run_load1 rfl one23 (hF.ev rfl) ((S.free 0 rfl).cell rfl)) ?_; clear hF; intro a hF
      refine op_val (v := .int .i64 x2) rfl rfl hF rfl (run_move rfl (hF.ev rfl)) ?_; clear hF; intro a hF
      obtain ⟨hk115, hM⟩ := chk_ex hM
      replace hk115 := ixB_t hk115
      refine op_val (v := .pointer (some ⟨adB A0, adO A0 + x2.toNat * 1, none⟩)) rfl rfl hF rfl (run_indexAddr (b := adB A0) (off := adO A0) rfl Tryd.underlying23 sz3 ((hF.ev rfl).trans (congrArg (fun A => Value.slice A x0.length c0) ((S.rc0 h0.rc).rd.ad (ix_pos hk115)))) (hF.ev rfl) hk115.1 hk115.2 (k' := adO A0 + x2.toNat * 1) rfl) ?_; clear hF; intro a hF
      refine op_val (v := .int .i64 (x0.getD x2.toNat (0 : Int))) rfl rfl hF rfl (run_load1 rfl one3 (hF.ev rfl) (rd_el0 (l := x0) (S.rc0 h0.rc).rd rfl eI_len (0 : Int) (ix_ltn hk115 rfl) rfl)) ?_; clear hF; intro a hF
      refine op_val (v := .int .i64 x3) rfl rfl hF rfl (run_move rfl (hF.ev rfl)) ?_; clear hF; intro a hF
      refine op_val (v := .int .i64 (bitsAnd .i64 (x0.getD x2.toNat (0 : Int)) x3)) rfl rfl hF rfl (run_band (hF.ev rfl) (hF.ev rfl) rfl) ?_; clear hF; intro a hF
      refine op_val (v := .bool ((bitsAnd .i64 (x0.getD x2.toNat (0 : Int)) x3) == 0)) rfl rfl hF rfl (run_eql (hF.ev rfl) rfl rfl) ?_; clear hF; intro a hF
      refine wpList_nil ?_
      obtain ⟨o117, hM120, hM⟩ := bind_ex hM
      refine wp_cut (fun a u => ∃ (p116 : List Int) (B118 : Option Addr) (d119 : Nat), p116 = o117 ∧ Fr a 74 [(1, .int .i64 x2), (2, .int .i64 x3), (3, .pointer (some ⟨g101, 0, none⟩)), (6, .slice none 0 0), (7, .slice B118 p116.length d119)] ∧ St w u [.box g101 25 #[.slice A0 x0.length c0, .bool x1], .row 3 1 (.slice B118 p116.length d119) p116.length (p116.flatMap eI)]) ?_ ?_
      · have _ := trivial
        cases hc121 : ((bitsAnd .i64 (x0.getD x2.toNat (0 : Int)) x3) == 0)
        · replace hM120 := bif_f hc121 hM120
          refine cond_f hF rfl hc121 ?_
          refine wp_skip ?_
          obtain rfl := Option.some.inj hM120
          exact ⟨p105, B107, d108, rfl, hF.keep _ ⟨rfl, rfl, rfl, rfl, rfl, trivial⟩, S.sel [0, 1] rfl rfl⟩
        · replace hM120 := bif_t hc121 hM120
          refine cond_t hF rfl hc121 ?_
          refine wp_region_lit ?_
          refine op_val (v := .slice B107 p105.length d108) rfl rfl hF rfl (run_move rfl (hF.ev rfl)) ?_; clear hF; intro a hF
          refine op_val (v := .int .i64 x2) rfl rfl hF rfl (run_move rfl (hF.ev rfl)) ?_; clear hF; intro a hF
          refine op_val (v := .int .i64 x3) rfl rfl hF rfl (run_move rfl (hF.ev rfl)) ?_; clear hF; intro a hF
          obtain ⟨p122, h122, hM120⟩ := bind_ex hM120
          refine op_call rfl rfl hF rfl (run_call (vs := [.int .i64 x2, .int .i64 x3]) rfl rfl co31 ⟨(hF.ev rfl), (hF.ev rfl), trivial⟩) (c_impl_isolatorDeed (x0 := x2) (x1 := x3)  h122) ?_
          rintro e u ⟨rfl, T⟩
          refine ⟨_, rfl, ?_⟩
          clear hF; intro a hF
          replace S := S.call0 T; clear T
          refine op_val (v := .int .i64 (w64 (p122 + 1))) rfl rfl hF rfl (run_add (z := w64 (p122 + 1)) (hF.ev rfl) rfl rfl rfl) ?_; clear hF; intro a hF
          refine op_newrowL (ls := (([w64 (p122 + 1)] : List Int) : List Int)) (e := eI) rfl rfl hF rfl S (run_buildS (vs := [(0, .int .i64 (w64 (p122 + 1)))]) rfl ⟨⟨rfl, (hF.ev rfl)⟩, trivial⟩ (bs23_1_0 rfl)) rfl eI_len (Nat.le_of_ble_eq_true rfl) ?_; clear hF S; intro a g123 u hF S
          obtain ⟨hk126, hM120⟩ := chk_ex hM120
          replace hk126 := apB_t hk126
          refine op_appendL (lx := p105) (ly := ([w64 (p122 + 1)] : List Int)) rfl rfl hF rfl S rfl (hF.ev rfl) (hF.ev rfl) (i := 2) rfl rfl Tryd.underlying23 inf3 rfl (by decide) (S.rc 0 rfl).rd rfl eI_one hk126 (by decide) ?_; clear hF S; intro a B124 d125 u hF S
          refine op_val (v := .slice B124 ((p105 ++ ([w64 (p122 + 1)] : List Int)).length) d125) rfl rfl hF rfl (run_assign rfl (hF.ev rfl)) ?_; clear hF; intro a hF
          refine wpList_nil ?_
          obtain rfl := Option.some.inj hM120
          exact ⟨p105 ++ ([w64 (p122 + 1)] : List Int), B124, d125, rfl, hF.keep _ ⟨rfl, rfl, rfl, rfl, rfl, trivial⟩, S.sel [1, 2] rfl rfl⟩
      · rintro a u ⟨p116, B118, d119, rfl, hF, S⟩
        refine wp_seq ?_
        refine wp_region_lit ?_
        refine op_val (v := .slice B118 p116.length d119) rfl rfl hF rfl (run_move rfl (hF.ev rfl)) ?_; clear hF; intro a hF
        refine op_val (v := .int .i64 x2) rfl rfl hF rfl (run_move rfl (hF.ev rfl)) ?_; clear hF; intro a hF
        refine op_val (v := .int .i64 x3) rfl rfl hF rfl (run_move rfl (hF.ev rfl)) ?_; clear hF; intro a hF
        refine op_val (v := .int .i64 (w64 (3 - x3))) rfl rfl hF rfl (run_sub (z := w64 (3 - x3)) rfl (hF.ev rfl) rfl rfl) ?_; clear hF; intro a hF
        obtain ⟨p127, h127, hM⟩ := bind_ex hM
        refine op_call rfl rfl hF rfl (run_call (vs := [.int .i64 x2, .int .i64 (w64 (3 - x3))]) rfl rfl co31 ⟨(hF.ev rfl), (hF.ev rfl), trivial⟩) (c_impl_isolatorDeed (x0 := x2) (x1 := w64 (3 - x3))  h127) ?_
        rintro e u ⟨rfl, T⟩
        refine ⟨_, rfl, ?_⟩
        clear hF; intro a hF
        replace S := S.call0 T; clear T
        refine op_newrowL (ls := (([p127] : List Int) : List Int)) (e := eI) rfl rfl hF rfl S (run_buildS (vs := [(0, .int .i64 p127)]) rfl ⟨⟨rfl, (hF.ev rfl)⟩, trivial⟩ (bs23_1_0 rfl)) rfl eI_len (Nat.le_of_ble_eq_true rfl) ?_; clear hF S; intro a g128 u hF S
        obtain ⟨hk131, hM⟩ := chk_ex hM
        replace hk131 := apB_t hk131
        refine op_appendL (lx := p116) (ly := ([p127] : List Int)) rfl rfl hF rfl S rfl (hF.ev rfl) (hF.ev rfl) (i := 2) rfl rfl Tryd.underlying23 inf3 rfl (by decide) (S.rc 0 rfl).rd rfl eI_one hk131 (by decide) ?_; clear hF S; intro a B129 d130 u hF S
        refine op_val (v := .slice B129 ((p116 ++ ([p127] : List Int)).length) d130) rfl rfl hF rfl (run_assign rfl (hF.ev rfl)) ?_; clear hF; intro a hF
        refine wpList_nil ?_
        refine wp_seq ?_
        refine wp_seq ?_
        refine wp_region_lit ?_
        refine op_val (v := .pointer (some ⟨g101, 1, none⟩)) rfl rfl hF rfl (run_fieldAddr rfl fl25_1 (hF.ev rfl) rfl) ?_; clear hF; intro a hF
        refine op_val (v := .bool x1) rfl rfl hF rfl (run_load1 rfl one4 (hF.ev rfl) ((S.free 1 rfl).cell rfl)) ?_; clear hF; intro a hF
        refine op_val (v := .bool (!x1)) rfl rfl hF rfl (run_not rfl (hF.ev rfl)) ?_; clear hF; intro a hF
        refine wpList_nil ?_
        obtain ⟨o133, hM136, hM⟩ := bind_ex hM
        refine wp_cut (fun a u => ∃ (p132 : List Int) (B134 : Option Addr) (d135 : Nat), p132 = o133 ∧ Fr a 74 [(6, .slice none 0 0), (7, .slice B134 p132.length d135)] ∧ St w u [.row 3 1 (.slice B134 p132.length d135) p132.length (p132.flatMap eI)]) ?_ ?_
        · have _ := trivial
          rcases (Bool.eq_false_or_eq_true (x1)).symm with hc137 | hc137
          · replace hM136 := bif_f hc137 hM136
            refine cond_t hF rfl (not_t hc137) ?_
            refine wp_region_lit ?_
            refine op_val (v := .slice B129 ((p116 ++ ([p127] : List Int)).length) d130) rfl rfl hF rfl (run_move rfl (hF.ev rfl)) ?_; clear hF; intro a hF
            refine op_newrowL (ls := (([0] : List Int) : List Int)) (e := eI) rfl rfl hF rfl S (run_buildS (vs := [(0, .int .i64 0)]) rfl ⟨⟨rfl, rfl⟩, trivial⟩ (bs23_1_0 rfl)) rfl eI_len (Nat.le_of_ble_eq_true rfl) ?_; clear hF S; intro a g138 u hF S
            obtain ⟨hk141, hM136⟩ := chk_ex hM136
            replace hk141 := apB_t hk141
            refine op_appendL (lx := p116 ++ ([p127] : List Int)) (ly := ([0] : List Int)) rfl rfl hF rfl S rfl (hF.ev rfl) (hF.ev rfl) (i := 3) rfl rfl Tryd.underlying23 inf3 rfl (by decide) (S.rc 0 rfl).rd rfl eI_one hk141 (by decide) ?_; clear hF S; intro a B139 d140 u hF S
            refine op_val (v := .slice B139 (((p116 ++ ([p127] : List Int)) ++ ([0] : List Int)).length) d140) rfl rfl hF rfl (run_assign rfl (hF.ev rfl)) ?_; clear hF; intro a hF
            refine wpList_nil ?_
            obtain rfl := Option.some.inj hM136
            exact ⟨(p116 ++ ([p127] : List Int)) ++ ([0] : List Int), B139, d140, rfl, hF.keep _ ⟨rfl, rfl, trivial⟩, S.sel [3] rfl rfl⟩
          · replace hM136 := bif_t hc137 hM136
            refine cond_f hF rfl (not_f hc137) ?_
            refine wp_skip ?_
            obtain rfl := Option.some.inj hM136
            exact ⟨p116 ++ ([p127] : List Int), B129, d130, rfl, hF.keep _ ⟨rfl, rfl, trivial⟩, S.sel [2] rfl rfl⟩
        · rintro a u ⟨p132, B134, d135, rfl, hF, S⟩
          refine wp_seq ?_
          refine wp_region_lit ?_
          refine op_val (v := .slice B134 p132.length d135) rfl rfl hF rfl (run_move rfl (hF.ev rfl)) ?_; clear hF; intro a hF
          refine op_val (v := .slice B134 p132.length d135) rfl rfl hF rfl (run_assign rfl (hF.ev rfl)) ?_; clear hF; intro a hF
          refine wpList_nil ?_
          refine wp_ret ?_
          repeat with_reducible (first | refine then_ret ?_ | refine in_ret ?_ | refine in_nrm ?_)
          refine ret1_gw (.inl rfl) hF rfl (res_tmp (hF.ev rfl)) ?_
          obtain rfl := Option.some.inj hM
          exact ⟨B134, p132.length, d135, rfl, rfl, S.sel [0] rfl rfl⟩
  · replace hM := bif_t hc104 hM
    refine cond_t hF rfl hc104 ?_
    refine wp_seq ?_
    refine wp_region_lit ?_
    refine op_val (v := .slice none 0 0) rfl rfl hF rfl (run_assign rfl rfl) ?_; clear hF; intro a hF
    refine wpList_nil ?_
    refine wp_ret ?_
    repeat with_reducible (first | refine then_ret ?_ | refine in_ret ?_ | refine in_nrm ?_)
    refine ret1_gw (.inl rfl) hF rfl (res_tmp (hF.ev rfl)) ?_
    obtain rfl := Option.some.inj hM
    replace S := S.nilrow 3 1
    exact ⟨none, 0, 0, rfl, rfl, S.sel [0] rfl rfl⟩

set_option maxHeartbeats 4000000 in
theorem c_spec_MoveDeeds {x0 : List Int} {x1 : Bool} {x2 : Int} {x3 : Int} {A0 : Option Addr} {n0 c0 : Nat} {w : World} {r : List Int} (h0 : Rt w 1 eI A0 n0 c0 x0) (hM : m_spec_MoveDeeds x0 x1 x2 x3 = some r) :
    Calls Tryd.prog 16 #[.agg #[.slice A0 n0 c0, .bool x1], .int .i64 x2, .int .i64 x3] w (fun e w' => ∃ (B0 : Option Addr) (N0 D0 : Nat), e = .returned (.slice B0 N0 D0) ∧ N0 = r.length ∧ St w w' [.row 3 1 (.slice B0 N0 D0) N0 (r.flatMap eI)]) := by
  obtain rfl := h0.len
  unfold m_spec_MoveDeeds at hM
  refine calls_gw Tryd.func16 Tryd.ntmps16 rfl [(0, .agg #[.slice A0 x0.length c0, .bool x1]), (1, .int .i64 x2), (2, .int .i64 x3)] ⟨rfl, rfl, rfl, trivial⟩ rfl ?_
  intro a hF
  have S := St.nil w
  refine wp_seq ?_
  refine wp_region_lit ?_
  refine op_new (cs := #[.slice A0 x0.length c0, .bool x1]) rfl rfl hF rfl S (run_box rfl (hF.ev rfl) rfl) ?_; clear hF S; intro a g101 u hF S
  refine op_val (v := .slice none 0 0) rfl rfl hF rfl (run_assign rfl rfl) ?_; clear hF; intro a hF
  refine wpList_nil ?_
  refine wp_seq ?_
  refine wp_region_lit ?_
  refine op_newrow (cs := #[]) (size := 1) rfl rfl hF rfl S (run_buildSlice0 rfl Tryd.underlying23 (congrArg Option.isSome sz3)) rfl (Nat.zero_le _) ?_; clear hF S; intro a g102 u hF S
  refine op_val (v := .slice (some ⟨g102, 0, none⟩) 0 0) rfl rfl hF rfl (run_assign rfl (hF.ev rfl)) ?_; clear hF; intro a hF
  refine wpList_nil ?_
  refine wp_seq ?_
  refine wp_seq ?_
  refine wp_region_lit ?_
  refine op_val (v := .agg #[.slice A0 x0.length c0, .bool x1]) rfl rfl hF rfl (run_loadN rfl ag25 (hF.ev rfl) rfl ((S.free 1 rfl).cells 0 #[.slice A0 x0.length c0, .bool x1] rfl)) ?_; clear hF; intro a hF
  obtain ⟨p103, h103, hM⟩ := bind_ex hM
  refine op_call rfl rfl hF rfl (run_call (vs := [.agg #[.slice A0 x0.length c0, .bool x1]]) rfl rfl co20 ⟨(hF.ev rfl), trivial⟩) (c_spec_BarsValid (x0 := x0) (x1 := x1) ⟨(S.rc0 h0.rc), rfl⟩ h103) ?_
  rintro e u ⟨rfl, T⟩
  refine ⟨_, rfl, ?_⟩
  clear hF; intro a hF
  replace S := S.call0 T; clear T
  refine op_val (v := .bool (!p103)) rfl rfl hF rfl (run_not rfl (hF.ev rfl)) ?_; clear hF; intro a hF
  refine op_val (v := .bool (!p103)) rfl rfl hF rfl (run_move rfl (hF.ev rfl)) ?_; clear hF; intro a hF
  refine op_gv (v := .int .i64 x2) rfl rfl hF rfl (yf (gw_yield hF rfl rfl rfl)) (fun hg => (run_move rfl (hF.ev rfl))) ?_; clear hF; intro a hF
  refine op_gv (v := .pointer (some ⟨g101, 0, none⟩)) rfl rfl hF rfl (yf (gw_yield hF rfl rfl rfl)) (fun hg => (run_fieldAddr rfl fl25_0 (hF.ev rfl) rfl)) ?_; clear hF; intro a hF
  refine op_gv (v := .slice A0 x0.length c0) rfl rfl hF rfl (yf (gw_yield hF rfl rfl rfl)) (fun hg => (run_load1 rfl one23 ((hF.ev rfl).trans (gv_t hg)) ((S.free 1 rfl).cell rfl))) ?_; clear hF; intro a hF
  refine op_gv (v := .int .i64 (x0.length : Int)) rfl rfl hF rfl (yf (gw_yield hF rfl rfl rfl)) (fun hg => (run_lenL rfl rfl Tryd.underlying23 ((hF.ev rfl).trans (gv_t hg)))) ?_; clear hF; intro a hF
  refine op_gv (v := .int .i64 (w64 ((x0.length : Int) - 1))) rfl rfl hF rfl (yf (gw_yield hF rfl rfl rfl)) (fun hg => (run_sub (z := w64 ((x0.length : Int) - 1)) ((hF.ev rfl).trans (gv_t hg)) rfl rfl rfl)) ?_; clear hF; intro a hF
  obtain ⟨p104, h104, hM⟩ := bind_ex hM
  refine op_gcall (v := .bool p104) rfl rfl hF rfl S (yf (gw_yield hF rfl rfl rfl)) (fun hg => (run_call (vs := [.int .i64 x2, .int .i64 0, .int .i64 (w64 ((x0.length : Int) - 1))]) rfl rfl co32 ⟨((hF.ev rfl).trans (gv_t hg)), rfl, ((hF.ev rfl).trans (gv_t hg)), trivial⟩)) (fun hg => c_spec_l1In (x0 := x2) (x1 := 0) (x2 := w64 ((x0.length : Int) - 1))  (gb_t h104 hg)) ?_; clear hF S; intro a u hF S
  refine op_gv (v := .bool (!p104)) rfl rfl hF rfl (yf (gw_yield hF rfl rfl rfl)) (fun hg => (run_not rfl ((hF.ev rfl).trans (gv_t hg)))) ?_; clear hF; intro a hF
  refine op_val (v := .bool ((!p103) || (!p104))) rfl rfl hF rfl (run_pick_or rfl (hF.ev rfl) rfl (fun hp => ((hF.ev rfl).trans (gv_t (not_t hp))))) ?_; clear hF; intro a hF
  refine op_val (v := .bool ((!p103) || (!p104))) rfl rfl hF rfl (run_move rfl (hF.ev rfl)) ?_; clear hF; intro a hF
  refine op_gv (v := .int .i64 x3) rfl rfl hF rfl (yf (gw_yield hF rfl rfl rfl)) (fun hg => (run_move rfl (hF.ev rfl))) ?_; clear hF; intro a hF
  obtain ⟨p105, h105, hM⟩ := bind_ex hM
  refine op_gcall (v := .bool p105) rfl rfl hF rfl S (yf (gw_yield hF rfl rfl rfl)) (fun hg => (run_call (vs := [.int .i64 x3, .int .i64 1, .int .i64 2]) rfl rfl co32 ⟨((hF.ev rfl).trans (gv_t hg)), rfl, rfl, trivial⟩)) (fun hg => c_spec_l1In (x0 := x3) (x1 := 1) (x2 := 2)  (gb_t h105 hg)) ?_; clear hF S; intro a u hF S
  refine op_gv (v := .bool (!p105)) rfl rfl hF rfl (yf (gw_yield hF rfl rfl rfl)) (fun hg => (run_not rfl ((hF.ev rfl).trans (gv_t hg)))) ?_; clear hF; intro a hF
  refine op_val (v := .bool (((!p103) || (!p104)) || (!p105))) rfl rfl hF rfl (run_pick_or rfl (hF.ev rfl) rfl (fun hp => ((hF.ev rfl).trans (gv_t (not_t hp))))) ?_; clear hF; intro a hF
  refine op_val (v := .bool (((!p103) || (!p104)) || (!p105))) rfl rfl hF rfl (run_move rfl (hF.ev rfl)) ?_; clear hF; intro a hF
  refine op_gv (v := .pointer (some ⟨g101, 0, none⟩)) rfl rfl hF rfl (yf (gw_yield hF rfl rfl rfl)) (fun hg => (run_fieldAddr rfl fl25_0 (hF.ev rfl) rfl)) ?_; clear hF; intro a hF
  refine op_gv (v := .slice A0 x0.length c0) rfl rfl hF rfl (yf (gw_yield hF rfl rfl rfl)) (fun hg => (run_load1 rfl one23 ((hF.ev rfl).trans (gv_t hg)) ((S.free 1 rfl).cell rfl))) ?_; clear hF; intro a hF
  refine op_gv (v := .int .i64 x2) rfl rfl hF rfl (yf (gw_yield hF rfl rfl rfl)) (fun hg => (run_move rfl (hF.ev rfl))) ?_; clear hF; intro a hF
  obtain ⟨hk106, hM⟩ := chk_ex hM
  replace hk106 := fun hg => ixB_t (imp_t hk106 hg)
  refine op_gv (v := .pointer (some ⟨adB A0, adO A0 + x2.toNat * 1, none⟩)) rfl rfl hF rfl (yf (gw_yield hF rfl rfl rfl)) (fun hg => (run_indexAddr (b := adB A0) (off := adO A0) rfl Tryd.underlying23 sz3 (((hF.ev rfl).trans (gv_t hg)).trans (congrArg (fun A => Value.slice A x0.length c0) ((S.rc0 h0.rc).rd.ad (ix_pos (hk106 hg))))) ((hF.ev rfl).trans (gv_t hg)) (hk106 hg).1 (hk106 hg).2 (k' := adO A0 + x2.toNat * 1) rfl)) ?_; clear hF; intro a hF
  refine op_gv (v := .int .i64 (x0.getD x2.toNat (0 : Int))) rfl rfl hF rfl (yf (gw_yield hF rfl rfl rfl)) (fun hg => (run_load1 rfl one3 ((hF.ev rfl).trans (gv_t hg)) (rd_el0 (l := x0) (S.rc0 h0.rc).rd rfl eI_len (0 : Int) (ix_ltn (hk106 hg) rfl) rfl))) ?_; clear hF; intro a hF
  refine op_gv (v := .int .i64 x3) rfl rfl hF rfl (yf (gw_yield hF rfl rfl rfl)) (fun hg => (run_move rfl (hF.ev rfl))) ?_; clear hF; intro a hF
  refine op_gv (v := .bool ((x0.getD x2.toNat (0 : Int)) == x3)) rfl rfl hF rfl (yf (gw_yield hF rfl rfl rfl)) (fun hg => (run_eql ((hF.ev rfl).trans (gv_t hg)) ((hF.ev rfl).trans (gv_t hg)) rfl)) ?_; clear hF; intro a hF
  refine op_val (v := .bool ((((!p103) || (!p104)) || (!p105)) || ((x0.getD x2.toNat (0 : Int)) == x3))) rfl rfl hF rfl (run_pick_or rfl (hF.ev rfl) rfl (fun hp => ((hF.ev rfl).trans (gv_t (not_t hp))))) ?_; clear hF; intro a hF
  refine wpList_nil ?_
  cases hc107 : ((((!p103) || (!p104)) || (!p105)) || ((x0.getD x2.toNat (0 : Int)) == x3))
  · replace hM := bif_f hc107 hM
    refine cond_f hF rfl hc107 ?_
    refine wp_skip ?_
    refine wp_seq ?_
    refine wp_seq ?_
    refine wp_region_lit ?_
    refine op_val (v := .pointer (some ⟨g101, 1, none⟩)) rfl rfl hF rfl (run_fieldAddr rfl fl25_1 (hF.ev rfl) rfl) ?_; clear hF; intro a hF
    refine op_val (v := .bool x1) rfl rfl hF rfl (run_load1 rfl one4 (hF.ev rfl) ((S.free 1 rfl).cell rfl)) ?_; clear hF; intro a hF
    refine op_val (v := .bool (!x1)) rfl rfl hF rfl (run_not rfl (hF.ev rfl)) ?_; clear hF; intro a hF
    refine wpList_nil ?_
    obtain ⟨o109, hM112, hM⟩ := bind_ex hM
    refine wp_cut (fun a u => ∃ (p108 : List Int) (B110 : Option Addr) (d111 : Nat), p108 = o109 ∧ Fr a 76 [(1, .int .i64 x2), (2, .int .i64 x3), (3, .pointer (some ⟨g101, 0, none⟩)), (6, .slice none 0 0), (7, .slice B110 p108.length d111)] ∧ St w u [.box g101 25 #[.slice A0 x0.length c0, .bool x1], .row 3 1 (.slice B110 p108.length d111) p108.length (p108.flatMap eI)]) ?_ ?_
    · have _ := trivial
      rcases (Bool.eq_false_or_eq_true (x1)).symm with hc113 | hc113
      · replace hM112 := bif_f hc113 hM112
        refine cond_t hF rfl (not_t hc113) ?_
        refine wp_region_lit ?_
        refine op_val (v := .slice (some ⟨g102, 0, none⟩) 0 0) rfl rfl hF rfl (run_move rfl (hF.ev rfl)) ?_; clear hF; intro a hF
        refine op_newrowL (ls := (([1] : List Int) : List Int)) (e := eI) rfl rfl hF rfl S (run_buildS (vs := [(0, .int .i64 1)]) rfl ⟨⟨rfl, rfl⟩, trivial⟩ (bs23_1_0 rfl)) rfl eI_len (Nat.le_of_ble_eq_true rfl) ?_; clear hF S; intro a g114 u hF S
        obtain ⟨hk117, hM112⟩ := chk_ex hM112
        replace hk117 := apB_t hk117
        refine op_appendL (lx := []) (ly := ([1] : List Int)) rfl rfl hF rfl S rfl (hF.ev rfl) (hF.ev rfl) (i := 1) rfl rfl Tryd.underlying23 inf3 rfl (by decide) (S.rc 0 rfl).rd rfl eI_one hk117 (by decide) ?_; clear hF S; intro a B115 d116 u hF S
        refine op_val (v := .slice B115 ((([] : List Int) ++ ([1] : List Int)).length) d116) rfl rfl hF rfl (run_assign rfl (hF.ev rfl)) ?_; clear hF; intro a hF
        refine wpList_nil ?_
        obtain rfl := Option.some.inj hM112
        exact ⟨([] : List Int) ++ ([1] : List Int), B115, d116, rfl, hF.keep _ ⟨rfl, rfl, rfl, rfl, rfl, trivial⟩, S.sel [2, 1] rfl rfl⟩
      · replace hM112 := bif_t hc113 hM112
        refine cond_f hF rfl (not_f hc113) ?_
        refine wp_skip ?_
        obtain rfl := Option.some.inj hM112
        exact ⟨([] : List Int), (some ⟨g102, 0, none⟩), 0, rfl, hF.keep _ ⟨rfl, rfl, rfl, rfl, rfl, trivial⟩, S.sel [1, 0] rfl rfl⟩
    · rintro a u ⟨p108, B110, d111, rfl, hF, S⟩
      refine wp_seq ?_
      refine wp_seq ?_
      refine wp_region_lit ?_
      refine op_val (v := .pointer (some ⟨g101, 0, none⟩)) rfl rfl hF rfl (run_fieldAddr rfl fl25_0 (hF.ev rfl) rfl) ?_; clear hF; intro a hF
      refine op_val (v := .slice A0 x0.length c0) rfl rfl hF rfl (run_load1 rfl one23 (hF.ev rfl) ((S.free 0 rfl).cell rfl)) ?_; clear hF; intro a hF
      refine op_val (v := .int .i64 x2) rfl rfl hF rfl (run_move rfl (hF.ev rfl)) ?_; clear hF; intro a hF
      obtain ⟨hk118, hM⟩ := chk_ex hM
      replace hk118 := ixB_t hk118
      refine op_val (v := .pointer (some ⟨adB A0, adO A0 + x2.toNat * 1, none⟩)) rfl rfl hF rfl (run_indexAddr (b := adB A0) (off := adO A0) rfl Tryd.underlying23 sz3 ((hF.ev rfl).trans (congrArg (fun A => Value.slice A x0.length c0) ((S.rc0 h0.rc).rd.ad (ix_pos hk118)))) (hF.ev rfl) hk118.1 hk118.2 (k' := adO A0 + x2.toNat * 1) rfl) ?_; clear hF; intro a hF
      refine op_val (v := .int .i64 (x0.getD x2.toNat (0 : Int))) rfl rfl hF rfl (run_load1 rfl one3 (hF.ev rfl) (rd_el0 (l := x0) (S.rc0 h0.rc).rd rfl eI_len (0 : Int) (ix_ltn hk118 rfl) rfl)) ?_; clear hF; intro a hF
      refine op_val (v := .bool ((x0.getD x2.toNat (0 : Int)) != 3)) rfl rfl hF rfl (run_neq (hF.ev rfl) rfl rfl) ?_; clear hF; intro a hF
      refine wpList_nil ?_
      obtain ⟨o120, hM123, hM⟩ := bind_ex hM
      refine wp_cut (fun a u => ∃ (p119 : List Int) (B121 : Option Addr) (d122 : Nat), p119 = o120 ∧ Fr a 76 [(1, .int .i64 x2), (2, .int .i64 x3), (3, .pointer (some ⟨g101, 0, none⟩)), (6, .slice none 0 0), (7, .slice B121 p119.length d122)] ∧ St w u [.box g101 25 #[.slice A0 x0.length c0, .bool x1], .row 3 1 (.slice B121 p119.length d122) p119.length (p119.flatMap eI)]) ?_ ?_
      · have _ := trivial
        cases hc124 : ((x0.getD x2.toNat (0 : Int)) != 3)
        · replace hM123 := bif_f hc124 hM123
          refine cond_f hF rfl hc124 ?_
          refine wp_skip ?_
          obtain rfl := Option.some.inj hM123
          exact ⟨p108, B110, d111, rfl, hF.keep _ ⟨rfl, rfl, rfl, rfl, rfl, trivial⟩, S.sel [0, 1] rfl rfl⟩
        · replace hM123 := bif_t hc124 hM123
          refine cond_t hF rfl hc124 ?_
          refine wp_region_lit ?_
          refine op_val (v := .slice B110 p108.length d111) rfl rfl hF rfl (run_move rfl (hF.ev rfl)) ?_; clear hF; intro a hF
          refine op_val (v := .int .i64 x2) rfl rfl hF rfl (run_move rfl (hF.ev rfl)) ?_; clear hF; intro a hF
          refine op_val (v := .int .i64 (w64 (4 * x2))) rfl rfl hF rfl (run_mul (z := w64 (4 * x2)) rfl (hF.ev rfl) rfl rfl) ?_; clear hF; intro a hF
          refine op_val (v := .int .i64 (w64 (2 + (w64 (4 * x2))))) rfl rfl hF rfl (run_add (z := w64 (2 + (w64 (4 * x2)))) rfl (hF.ev rfl) rfl rfl) ?_; clear hF; intro a hF
          refine op_val (v := .int .i64 x3) rfl rfl hF rfl (run_move rfl (hF.ev rfl)) ?_; clear hF; intro a hF
          refine op_val (v := .int .i64 (w64 (x3 - 1))) rfl rfl hF rfl (run_sub (z := w64 (x3 - 1)) (hF.ev rfl) rfl rfl rfl) ?_; clear hF; intro a hF
          refine op_val (v := .int .i64 (w64 (2 * (w64 (x3 - 1))))) rfl rfl hF rfl (run_mul (z := w64 (2 * (w64 (x3 - 1)))) rfl (hF.ev rfl) rfl rfl) ?_; clear hF; intro a hF
          refine op_val (v := .int .i64 (w64 ((w64 (2 + (w64 (4 * x2)))) + (w64 (2 * (w64 (x3 - 1))))))) rfl rfl hF rfl (run_add (z := w64 ((w64 (2 + (w64 (4 * x2)))) + (w64 (2 * (w64 (x3 - 1)))))) (hF.ev rfl) (hF.ev rfl) rfl rfl) ?_; clear hF; intro a hF
          refine op_val (v := .int .i64 (w64 ((w64 ((w64 (2 + (w64 (4 * x2)))) + (w64 (2 * (w64 (x3 - 1)))))) + 1))) rfl rfl hF rfl (run_add (z := w64 ((w64 ((w64 (2 + (w64 (4 * x2)))) + (w64 (2 * (w64 (x3 - 1)))))) + 1)) (hF.ev rfl) rfl rfl rfl) ?_; clear hF; intro a hF
          refine op_newrowL (ls := (([w64 ((w64 ((w64 (2 + (w64 (4 * x2)))) + (w64 (2 * (w64 (x3 - 1)))))) + 1)] : List Int) : List Int)) (e := eI) rfl rfl hF rfl S (run_buildS (vs := [(0, .int .i64 (w64 ((w64 ((w64 (2 + (w64 (4 * x2)))) + (w64 (2 * (w64 (x3 - 1)))))) + 1)))]) rfl ⟨⟨rfl, (hF.ev rfl)⟩, trivial⟩ (bs23_1_0 rfl)) rfl eI_len (Nat.le_of_ble_eq_true rfl) ?_; clear hF S; intro a g125 u hF S
          obtain ⟨hk128, hM123⟩ := chk_ex hM123
          replace hk128 := apB_t hk128
          refine op_appendL (lx := p108) (ly := ([w64 ((w64 ((w64 (2 + (w64 (4 * x2)))) + (w64 (2 * (w64 (x3 - 1)))))) + 1)] : List Int)) rfl rfl hF rfl S rfl (hF.ev rfl) (hF.ev rfl) (i := 2) rfl rfl Tryd.underlying23 inf3 rfl (by decide) (S.rc 0 rfl).rd rfl eI_one hk128 (by decide) ?_; clear hF S; intro a B126 d127 u hF S
          refine op_val (v := .slice B126 ((p108 ++ ([w64 ((w64 ((w64 (2 + (w64 (4 * x2)))) + (w64 (2 * (w64 (x3 - 1)))))) + 1)] : List Int)).length) d127) rfl rfl hF rfl (run_assign rfl (hF.ev rfl)) ?_; clear hF; intro a hF
          refine wpList_nil ?_
          obtain rfl := Option.some.inj hM123
          exact ⟨p108 ++ ([w64 ((w64 ((w64 (2 + (w64 (4 * x2)))) + (w64 (2 * (w64 (x3 - 1)))))) + 1)] : List Int), B126, d127, rfl, hF.keep _ ⟨rfl, rfl, rfl, rfl, rfl, trivial⟩, S.sel [1, 2] rfl rfl⟩
      · rintro a u ⟨p119, B121, d122, rfl, hF, S⟩
        refine wp_seq ?_
        refine wp_region_lit ?_
        refine op_val (v := .slice B121 p119.length d122) rfl rfl hF rfl (run_move rfl (hF.ev rfl)) ?_; clear hF; intro a hF
        refine op_val (v := .int .i64 x2) rfl rfl hF rfl (run_move rfl (hF.ev rfl)) ?_; clear hF; intro a hF
        refine op_val (v := .int .i64 (w64 (4 * x2))) rfl rfl hF rfl (run_mul (z := w64 (4 * x2)) rfl (hF.ev rfl) rfl rfl) ?_; clear hF; intro a hF
        refine op_val (v := .int .i64 (w64 (2 + (w64 (4 * x2))))) rfl rfl hF rfl (run_add (z := w64 (2 + (w64 (4 * x2)))) rfl (hF.ev rfl) rfl rfl) ?_; clear hF; intro a hF
        refine op_val (v := .int .i64 x3) rfl rfl hF rfl (run_move rfl (hF.ev rfl)) ?_; clear hF; intro a hF
        refine op_val (v := .int .i64 (w64 (2 - x3))) rfl rfl hF rfl (run_sub (z := w64 (2 - x3)) rfl (hF.ev rfl) rfl rfl) ?_; clear hF; intro a hF
        refine op_val (v := .int .i64 (w64 (2 * (w64 (2 - x3))))) rfl rfl hF rfl (run_mul (z := w64 (2 * (w64 (2 - x3)))) rfl (hF.ev rfl) rfl rfl) ?_; clear hF; intro a hF
        refine op_val (v := .int .i64 (w64 ((w64 (2 + (w64 (4 * x2)))) + (w64 (2 * (w64 (2 - x3))))))) rfl rfl hF rfl (run_add (z := w64 ((w64 (2 + (w64 (4 * x2)))) + (w64 (2 * (w64 (2 - x3)))))) (hF.ev rfl) (hF.ev rfl) rfl rfl) ?_; clear hF; intro a hF
        refine op_newrowL (ls := (([w64 ((w64 (2 + (w64 (4 * x2)))) + (w64 (2 * (w64 (2 - x3)))))] : List Int) : List Int)) (e := eI) rfl rfl hF rfl S (run_buildS (vs := [(0, .int .i64 (w64 ((w64 (2 + (w64 (4 * x2)))) + (w64 (2 * (w64 (2 - x3)))))))]) rfl ⟨⟨rfl, (hF.ev rfl)⟩, trivial⟩ (bs23_1_0 rfl)) rfl eI_len (Nat.le_of_ble_eq_true rfl) ?_; clear hF S; intro a g129 u hF S
        obtain ⟨hk132, hM⟩ := chk_ex hM
        replace hk132 := apB_t hk132
        refine op_appendL (lx := p119) (ly := ([w64 ((w64 (2 + (w64 (4 * x2)))) + (w64 (2 * (w64 (2 - x3)))))] : List Int)) rfl rfl hF rfl S rfl (hF.ev rfl) (hF.ev rfl) (i := 2) rfl rfl Tryd.underlying23 inf3 rfl (by decide) (S.rc 0 rfl).rd rfl eI_one hk132 (by decide) ?_; clear hF S; intro a B130 d131 u hF S
        refine op_val (v := .slice B130 ((p119 ++ ([w64 ((w64 (2 + (w64 (4 * x2)))) + (w64 (2 * (w64 (2 - x3)))))] : List Int)).length) d131) rfl rfl hF rfl (run_assign rfl (hF.ev rfl)) ?_; clear hF; intro a hF
        refine wpList_nil ?_
        refine wp_seq ?_
        refine wp_seq ?_
        refine wp_region_lit ?_
        refine op_val (v := .pointer (some ⟨g101, 1, none⟩)) rfl rfl hF rfl (run_fieldAddr rfl fl25_1 (hF.ev rfl) rfl) ?_; clear hF; intro a hF
        refine op_val (v := .bool x1) rfl rfl hF rfl (run_load1 rfl one4 (hF.ev rfl) ((S.free 1 rfl).cell rfl)) ?_; clear hF; intro a hF
        refine op_val (v := .bool (!x1)) rfl rfl hF rfl (run_not rfl (hF.ev rfl)) ?_; clear hF; intro a hF
        refine wpList_nil ?_
        obtain ⟨o134, hM137, hM⟩ := bind_ex hM
        refine wp_cut (fun a u => ∃ (p133 : List Int) (B135 : Option Addr) (d136 : Nat), p133 = o134 ∧ Fr a 76 [(6, .slice none 0 0), (7, .slice B135 p133.length d136)] ∧ St w u [.row 3 1 (.slice B135 p133.length d136) p133.length (p133.flatMap eI)]) ?_ ?_
        · have _ := trivial
          rcases (Bool.eq_false_or_eq_true (x1)).symm with hc138 | hc138
          · replace hM137 := bif_f hc138 hM137
            refine cond_t hF rfl (not_t hc138) ?_
            refine wp_region_lit ?_
            refine op_val (v := .slice B130 ((p119 ++ ([w64 ((w64 (2 + (w64 (4 * x2)))) + (w64 (2 * (w64 (2 - x3)))))] : List Int)).length) d131) rfl rfl hF rfl (run_move rfl (hF.ev rfl)) ?_; clear hF; intro a hF
            refine op_newrowL (ls := (([0] : List Int) : List Int)) (e := eI) rfl rfl hF rfl S (run_buildS (vs := [(0, .int .i64 0)]) rfl ⟨⟨rfl, rfl⟩, trivial⟩ (bs23_1_0 rfl)) rfl eI_len (Nat.le_of_ble_eq_true rfl) ?_; clear hF S; intro a g139 u hF S
            obtain ⟨hk142, hM137⟩ := chk_ex hM137
            replace hk142 := apB_t hk142
            refine op_appendL (lx := p119 ++ ([w64 ((w64 (2 + (w64 (4 * x2)))) + (w64 (2 * (w64 (2 - x3)))))] : List Int)) (ly := ([0] : List Int)) rfl rfl hF rfl S rfl (hF.ev rfl) (hF.ev rfl) (i := 3) rfl rfl Tryd.underlying23 inf3 rfl (by decide) (S.rc 0 rfl).rd rfl eI_one hk142 (by decide) ?_; clear hF S; intro a B140 d141 u hF S
            refine op_val (v := .slice B140 (((p119 ++ ([w64 ((w64 (2 + (w64 (4 * x2)))) + (w64 (2 * (w64 (2 - x3)))))] : List Int)) ++ ([0] : List Int)).length) d141) rfl rfl hF rfl (run_assign rfl (hF.ev rfl)) ?_; clear hF; intro a hF
            refine wpList_nil ?_
            obtain rfl := Option.some.inj hM137
            exact ⟨(p119 ++ ([w64 ((w64 (2 + (w64 (4 * x2)))) + (w64 (2 * (w64 (2 - x3)))))] : List Int)) ++ ([0] : List Int), B140, d141, rfl, hF.keep _ ⟨rfl, rfl, trivial⟩, S.sel [3] rfl rfl⟩
          · replace hM137 := bif_t hc138 hM137
            refine cond_f hF rfl (not_f hc138) ?_
            refine wp_skip ?_
            obtain rfl := Option.some.inj hM137
            exact ⟨p119 ++ ([w64 ((w64 (2 + (w64 (4 * x2)))) + (w64 (2 * (w64 (2 - x3)))))] : List Int), B130, d131, rfl, hF.keep _ ⟨rfl, rfl, trivial⟩, S.sel [2] rfl rfl⟩
        · rintro a u ⟨p133, B135, d136, rfl, hF, S⟩
          refine wp_seq ?_
          refine wp_region_lit ?_
          refine op_val (v := .slice B135 p133.length d136) rfl rfl hF rfl (run_move rfl (hF.ev rfl)) ?_; clear hF; intro a hF
          refine op_val (v := .slice B135 p133.length d136) rfl rfl hF rfl (run_assign rfl (hF.ev rfl)) ?_; clear hF; intro a hF
          refine wpList_nil ?_
          refine wp_ret ?_
          repeat with_reducible (first | refine then_ret ?_ | refine in_ret ?_ | refine in_nrm ?_)
          refine ret1_gw (.inl rfl) hF rfl (res_tmp (hF.ev rfl)) ?_
          obtain rfl := Option.some.inj hM
          exact ⟨B135, p133.length, d136, rfl, rfl, S.sel [0] rfl rfl⟩
  · replace hM := bif_t hc107 hM
    refine cond_t hF rfl hc107 ?_
    refine wp_seq ?_
    refine wp_region_lit ?_
    refine op_val (v := .slice (some ⟨g102, 0, none⟩) 0 0) rfl rfl hF rfl (run_move rfl (hF.ev rfl)) ?_; clear hF; intro a hF
    refine op_val (v := .slice (some ⟨g102, 0, none⟩) 0 0) rfl rfl hF rfl (run_assign rfl (hF.ev rfl)) ?_; clear hF; intro a hF
    refine wpList_nil ?_
    refine wp_ret ?_
    repeat with_reducible (first | refine then_ret ?_ | refine in_ret ?_ | refine in_nrm ?_)
    refine ret1_gw (.inl rfl) hF rfl (res_tmp (hF.ev rfl)) ?_
    obtain rfl := Option.some.inj hM
    exact ⟨(some ⟨g102, 0, none⟩), 0, 0, rfl, rfl, S.sel [0] rfl rfl⟩

set_option maxHeartbeats 4000000 in
theorem c_impl_BarsRun {x0 : List Int} {x1 : Bool} {x2 : List Int} {A0 : Option Addr} {n0 c0 : Nat} {A2 : Option Addr} {n2 c2 : Nat} {w : World} {r : List Int × Bool × Int} (h0 : Rt w 1 eI A0 n0 c0 x0) (h2 : Rt w 1 eI A2 n2 c2 x2) (hM : m_impl_BarsRun x0 x1 x2 = some r) :
    Calls Tryd.prog 17 #[.agg #[.slice A0 n0 c0, .bool x1], .slice A2 n2 c2] w (fun e w' => ∃ (B0 : Option Addr) (N0 D0 : Nat), e = .returned (.tuple #[.agg #[.slice B0 N0 D0, .bool r.2.1], .int .i64 r.2.2]) ∧ N0 = r.1.length ∧ St w w' [.row 3 1 (.slice B0 N0 D0) N0 (r.1.flatMap eI)]) := by
  obtain rfl := h0.len
  obtain rfl := h2.len
  unfold m_impl_BarsRun at hM
  refine calls_gw Tryd.func17 Tryd.ntmps17 rfl [(0, .agg #[.slice A0 x0.length c0, .bool x1]), (1, .slice A2 x2.length c2)] ⟨rfl, rfl, trivial⟩ rfl ?_
  intro a hF
  have S := St.nil w
  refine wp_seq ?_
  refine wp_region_lit ?_
  refine op_new (cs := #[.slice A0 x0.length c0, .bool x1]) rfl rfl hF rfl S (run_box rfl (hF.ev rfl) rfl) ?_; clear hF S; intro a g101 u hF S
  refine op_new (cs := #[.slice none 0 0, .bool false]) rfl rfl hF rfl S (run_allocZ rfl zr25) ?_; clear hF S; intro a g102 u hF S
  refine op_val (v := .int .i64 0) rfl rfl hF rfl (run_assign rfl rfl) ?_; clear hF; intro a hF
  refine wpList_nil ?_
  refine wp_seq ?_
  refine wp_seq ?_
  refine wp_region_lit ?_
  refine op_val (v := .agg #[.slice A0 x0.length c0, .bool x1]) rfl rfl hF rfl (run_loadN rfl ag25 (hF.ev rfl) rfl ((S.free 1 rfl).cells 0 #[.slice A0 x0.length c0, .bool x1] rfl)) ?_; clear hF; intro a hF
  obtain ⟨p103, h103, hM⟩ := bind_ex hM
  refine op_call rfl rfl hF rfl (run_call (vs := [.agg #[.slice A0 x0.length c0, .bool x1]]) rfl rfl co12 ⟨(hF.ev rfl), trivial⟩) (c_impl_BarsValid (x0 := x0) (x1 := x1) ⟨(S.rc0 h0.rc), rfl⟩ h103) ?_
  rintro e u ⟨rfl, T⟩
  refine ⟨_, rfl, ?_⟩
  clear hF; intro a hF
  replace S := S.call0 T; clear T
  refine op_val (v := .bool (!p103)) rfl rfl hF rfl (run_not rfl (hF.ev rfl)) ?_; clear hF; intro a hF
  refine wpList_nil ?_
  cases hc104 : (p103)
  · replace hM := bif_f hc104 hM
    refine cond_t hF rfl (not_t hc104) ?_
    refine wp_seq ?_
    refine wp_region_lit ?_
    refine op_val (v := .agg #[.slice none 0 0, .bool false]) rfl rfl hF rfl (run_build (vs := []) rfl trivial (bd25 )) ?_; clear hF; intro a hF
    refine op_do rfl rfl (run_store (cs' := #[.slice none 0 0, .bool false]) rfl sz25 (hF.ev rfl) (hF.ev rfl) rfl rfl rfl (S.free 0 rfl) rfl rfl) ?_; replace S := S.put 0 rfl (#[.slice none 0 0, .bool false])
    generalize World.setRow _ _ _ = u at S ⊢
    refine op_val (v := .int .i64 0) rfl rfl hF rfl (run_assign rfl rfl) ?_; clear hF; intro a hF
    refine wpList_nil ?_
    refine wp_ret ?_
    repeat with_reducible (first | refine then_ret ?_ | refine in_ret ?_ | refine in_nrm ?_)
    refine ret2_gw (.inl rfl) hF rfl (res_cell (hF.ev rfl) (res_loadN ag25 rfl (S.cells 0 rfl 0 #[.slice none 0 0, .bool false] rfl))) (res_tmp (hF.ev rfl)) ?_
    obtain rfl := Option.some.inj hM
    replace S := S.nilrow 3 1
    exact ⟨none, 0, 0, rfl, rfl, S.sel [0] rfl rfl⟩
  · replace hM := bif_t hc104 hM
    refine cond_f hF rfl (not_f hc104) ?_
    refine wp_skip ?_
    refine wp_seq ?_
    refine wp_region_lit ?_
    refine op_val (v := .agg #[.slice A0 x0.length c0, .bool x1]) rfl rfl hF rfl (run_loadN rfl ag25 (hF.ev rfl) rfl ((S.free 1 rfl).cells 0 #[.slice A0 x0.length c0, .bool x1] rfl)) ?_; clear hF; intro a hF
    obtain ⟨p105, h105, hM⟩ := bind_ex hM
    refine op_call rfl rfl hF rfl (run_call (vs := [.agg #[.slice A0 x0.length c0, .bool x1]]) rfl rfl co27 ⟨(hF.ev rfl), trivial⟩) (c_impl_Bars_clone (x0 := x0) (x1 := x1) ⟨(S.rc0 h0.rc), rfl⟩ h105) ?_
    rintro e u ⟨B106, n107, d108, rfl, rfl, T⟩
    refine ⟨_, rfl, ?_⟩
    clear hF; intro a hF
    replace S := S.call1 T; clear T
    refine op_new (cs := #[.slice none 0 0, .bool false]) rfl rfl hF rfl S (run_allocZ rfl zr25) ?_; clear hF S; intro a g109 u hF S
    refine op_do rfl rfl (run_store (cs' := #[.slice B106 p105.1.length d108, .bool p105.2]) rfl sz25 (hF.ev rfl) (hF.ev rfl) rfl rfl rfl (S.free 0 rfl) rfl rfl) ?_; replace S := S.put 0 rfl (#[.slice B106 p105.1.length d108, .bool p105.2])
    generalize World.setRow _ _ _ = u at S ⊢
    refine op_val (v := .int .i64 0) rfl rfl hF rfl (run_assign rfl rfl) ?_; clear hF; intro a hF
    refine wpList_nil ?_
    refine wp_seq ?_
    refine wp_seq ?_
    refine wp_region_lit ?_
    refine op_val (v := .slice A2 x2.length c2) rfl rfl hF rfl (run_move rfl (hF.ev rfl)) ?_; clear hF; intro a hF
    refine op_val (v := .int .i64 (x2.length : Int)) rfl rfl hF rfl (run_lenL rfl rfl Tryd.underlying23 (hF.ev rfl)) ?_; clear hF; intro a hF
    refine op_val (v := .int .i64 0) rfl rfl hF rfl (run_move rfl rfl) ?_; clear hF; intro a hF
    refine wpList_nil ?_
    obtain ⟨o111, hM114, hM⟩ := bind_ex hM
    refine wp_cut (fun a u => ∃ (p110 : Int × List Int × Bool) (B112 : Option Addr) (d113 : Nat), p110 = o111 ∧ Fr a 37 [(4, .pointer (some ⟨g102, 0, none⟩)), (5, .int .i64 0), (6, .pointer (some ⟨g109, 0, none⟩)), (7, .int .i64 p110.1)] ∧ St w u [.box g109 25 #[.slice B112 p110.2.1.length d113, .bool p110.2.2], .box g102 25 #[.slice none 0 0, .bool false], .row 3 1 (.slice B112 p110.2.1.length d113) p110.2.1.length (p110.2.1.flatMap eI)]) ?_ ?_
    · have _ := trivial
      refine wp_block ?_
      refine loop_gw (fun m a u => ∃ (p115 : Int × Int × List Int × Bool) (B116 : Option Addr) (d117 : Nat), m_impl_BarsRun_l1 x2 m p115 = some _ ∧ Fr a 37 [(4, .pointer (some ⟨g102, 0, none⟩)), (5, .int .i64 0), (6, .pointer (some ⟨g109, 0, none⟩)), (7, .int .i64 p115.1), (18, .slice A2 x2.length c2), (19, .int .i64 (x2.length : Int)), (20, .int .i64 p115.2.1)] ∧ St w u [.box g109 25 #[.slice B116 p115.2.2.1.length d117, .bool p115.2.2.2], .box g102 25 #[.slice none 0 0, .bool false], .row 3 1 (.slice B116 p115.2.2.1.length d117) p115.2.2.1.length (p115.2.2.1.flatMap eI)]) FUEL ⟨(0, 0, p105.1, p105.2), B106, d108, hM114, hF.keep _ ⟨rfl, rfl, rfl, rfl, rfl, rfl, rfl, trivial⟩, S.sel [0, 2, 1] rfl rfl⟩ ?_
      clear hF S hM114; rintro m a u ⟨p115, B116, d117, hM114, hF, S⟩
      rcases m with _ | f1
      · exact none_some hM114
      rw [m_impl_BarsRun_l1.eq_2] at hM114
      refine wp_seq ?_
      refine wp_region_lit ?_
      refine op_val (v := .bool (ltB p115.2.1 (x2.length : Int))) rfl rfl hF rfl (run_lss (hF.ev rfl) (hF.ev rfl) rfl) ?_; clear hF; intro a hF
      refine wpList_nil ?_
      refine wp_seq ?_
      cases hc118 : (ltB p115.2.1 (x2.length : Int))
      · replace hM114 := bif_f hc118 hM114
        refine cond_f hF rfl hc118 ?_
        refine wp_exit ?_
        repeat with_reducible (first | refine then_exit ?_ | refine in_hit ?_ | refine in_miss rfl ?_)
        obtain rfl := Option.some.inj hM114
        exact ⟨(p115.1, p115.2.2.1, p115.2.2.2), B116, d117, rfl, hF.keep _ ⟨rfl, rfl, rfl, rfl, trivial⟩, S.sel [0, 1, 2] rfl rfl⟩
      · replace hM114 := bif_t hc118 hM114
        refine cond_t hF rfl hc118 ?_
        refine wp_skip ?_
        refine wp_seq ?_
        refine wp_block ?_
        refine wp_seq ?_
        refine wp_region_lit ?_
        obtain ⟨hk119, hM114⟩ := chk_ex hM114
        replace hk119 := ixB_t hk119
        refine op_val (v := .pointer (some ⟨adB A2, adO A2 + p115.2.1.toNat * 1, none⟩)) rfl rfl hF rfl (run_indexAddr (b := adB A2) (off := adO A2) rfl Tryd.underlying23 sz3 ((hF.ev rfl).trans (congrArg (fun A => Value.slice A x2.length c2) ((S.rc0 h2.rc).rd.ad (ix_pos hk119)))) (hF.ev rfl) hk119.1 hk119.2 (k' := adO A2 + p115.2.1.toNat * 1) rfl) ?_; clear hF; intro a hF
        refine op_val (v := .int .i64 (x2.getD p115.2.1.toNat (0 : Int))) rfl rfl hF rfl (run_load1 rfl one3 (hF.ev rfl) (rd_el0 (l := x2) (S.rc0 h2.rc).rd rfl eI_len (0 : Int) (ix_ltn hk119 rfl) rfl)) ?_; clear hF; intro a hF
        refine op_val (v := .int .i64 (x2.getD p115.2.1.toNat (0 : Int))) rfl rfl hF rfl (run_assign rfl (hF.ev rfl)) ?_; clear hF; intro a hF
        refine wpList_nil ?_
        refine wp_seq ?_
        refine wp_region_lit ?_
        refine op_val (v := .agg #[.slice B116 p115.2.2.1.length d117, .bool p115.2.2.2]) rfl rfl hF rfl (run_loadN rfl ag25 (hF.ev rfl) rfl ((S.free 0 rfl).cells 0 #[.slice B116 p115.2.2.1.length d117, .bool p115.2.2.2] rfl)) ?_; clear hF; intro a hF
        refine op_val (v := .int .i64 (x2.getD p115.2.1.toNat (0 : Int))) rfl rfl hF rfl (run_move rfl (hF.ev rfl)) ?_; clear hF; intro a hF
        obtain ⟨p120, h120, hM114⟩ := bind_ex hM114
        refine op_call rfl rfl hF rfl (run_call (vs := [.agg #[.slice B116 p115.2.2.1.length d117, .bool p115.2.2.2], .int .i64 (x2.getD p115.2.1.toNat (0 : Int))]) rfl rfl co8 ⟨(hF.ev rfl), (hF.ev rfl), trivial⟩) (c_impl_BarsDo (x0 := p115.2.2.1) (x1 := p115.2.2.2) (x2 := (x2.getD p115.2.1.toNat (0 : Int))) ⟨(S.rc 2 rfl), rfl⟩ h120) ?_
        rintro e u ⟨B121, n122, d123, rfl, rfl, T⟩
        refine ⟨_, rfl, ?_⟩
        clear hF; intro a hF
        replace S := S.call1 T; clear T
        refine op_val (v := .tuple #[.agg #[.slice B121 p120.1.length d123, .bool p120.2.1], .bool p120.2.2]) rfl rfl hF rfl (run_move rfl (hF.ev rfl)) ?_; clear hF; intro a hF
        refine op_val (v := .agg #[.slice B121 p120.1.length d123, .bool p120.2.1]) rfl rfl hF rfl (run_extract rfl (hF.ev rfl) rfl) ?_; clear hF; intro a hF
        refine op_val (v := .bool p120.2.2) rfl rfl hF rfl (run_extract rfl (hF.ev rfl) rfl) ?_; clear hF; intro a hF
        refine op_new (cs := #[.slice none 0 0, .bool false]) rfl rfl hF rfl S (run_allocZ rfl zr25) ?_; clear hF S; intro a g124 u hF S
        refine op_do rfl rfl (run_store (cs' := #[.slice B121 p120.1.length d123, .bool p120.2.1]) rfl sz25 (hF.ev rfl) (hF.ev rfl) rfl rfl rfl (S.free 0 rfl) rfl rfl) ?_; replace S := S.put 0 rfl (#[.slice B121 p120.1.length d123, .bool p120.2.1])
        generalize World.setRow _ _ _ = u at S ⊢
        refine op_val (v := .bool p120.2.2) rfl rfl hF rfl (run_assign rfl (hF.ev rfl)) ?_; clear hF; intro a hF
        refine wpList_nil ?_
        refine wp_seq ?_
        refine wp_region_lit ?_
        refine op_val (v := .bool p120.2.2) rfl rfl hF rfl (run_move rfl (hF.ev rfl)) ?_; clear hF; intro a hF
        refine wpList_nil ?_
        obtain ⟨o126, hM129, hM114⟩ := bind_ex hM114
        refine wp_cut (fun a u => ∃ (p125 : Int × List Int × Bool) (B127 : Option Addr) (d128 : Nat), p125 = o126 ∧ Fr a 37 [(4, .pointer (some ⟨g102, 0, none⟩)), (5, .int .i64 0), (6, .pointer (some ⟨g109, 0, none⟩)), (7, .int .i64 p125.1), (18, .slice A2 x2.length c2), (19, .int .i64 (x2.length : Int)), (20, .int .i64 p115.2.1)] ∧ St w u [.box g109 25 #[.slice B127 p125.2.1.length d128, .bool p125.2.2], .box g102 25 #[.slice none 0 0, .bool false], .row 3 1 (.slice B127 p125.2.1.length d128) p125.2.1.length (p125.2.1.flatMap eI)]) ?_ ?_
        · have _ := trivial
          cases hc130 : (p120.2.2)
          · replace hM129 := bif_f hc130 hM129
            refine cond_f hF rfl hc130 ?_
            refine wp_skip ?_
            obtain rfl := Option.some.inj hM129
            exact ⟨(p115.1, p115.2.2.1, p115.2.2.2), B116, d117, rfl, hF.keep _ ⟨rfl, rfl, rfl, rfl, rfl, rfl, rfl, trivial⟩, S.sel [2, 3, 4] rfl rfl⟩
          · replace hM129 := bif_t hc130 hM129
            refine cond_t hF rfl hc130 ?_
            refine wp_seq ?_
            refine wp_region_lit ?_
            refine op_val (v := .agg #[.slice B121 p120.1.length d123, .bool p120.2.1]) rfl rfl hF rfl (run_loadN rfl ag25 (hF.ev rfl) rfl ((S.free 0 rfl).cells 0 #[.slice B121 p120.1.length d123, .bool p120.2.1] rfl)) ?_; clear hF; intro a hF
            refine op_do rfl rfl (run_store (cs' := #[.slice B121 p120.1.length d123, .bool p120.2.1]) rfl sz25 (hF.ev rfl) (hF.ev rfl) rfl rfl rfl (S.free 2 rfl) rfl rfl) ?_; replace S := S.put 2 rfl (#[.slice B121 p120.1.length d123, .bool p120.2.1])
            generalize World.setRow _ _ _ = u at S ⊢
            refine wpList_nil ?_
            refine wp_region_lit ?_
            refine op_val (v := .int .i64 p115.1) rfl rfl hF rfl (run_move rfl (hF.ev rfl)) ?_; clear hF; intro a hF
            refine op_val (v := .int .i64 (w64 (p115.1 + 1))) rfl rfl hF rfl (run_add (z := w64 (p115.1 + 1)) (hF.ev rfl) rfl rfl rfl) ?_; clear hF; intro a hF
            refine op_val (v := .int .i64 (w64 (p115.1 + 1))) rfl rfl hF rfl (run_assign rfl (hF.ev rfl)) ?_; clear hF; intro a hF
            refine wpList_nil ?_
            obtain rfl := Option.some.inj hM129
            exact ⟨(w64 (p115.1 + 1), p120.1, p120.2.1), B121, d123, rfl, hF.keep _ ⟨rfl, rfl, rfl, rfl, rfl, rfl, rfl, trivial⟩, S.sel [2, 3, 1] rfl rfl⟩
        · rintro a u ⟨p125, B127, d128, rfl, hF, S⟩
          refine wp_region_lit ?_
          refine op_val (v := .int .i64 (w64 (p115.2.1 + 1))) rfl rfl hF rfl (run_add (z := w64 (p115.2.1 + 1)) (hF.ev rfl) rfl rfl rfl) ?_; clear hF; intro a hF
          refine op_val (v := .int .i64 (w64 (p115.2.1 + 1))) rfl rfl hF rfl (run_move rfl (hF.ev rfl)) ?_; clear hF; intro a hF
          refine wpList_nil ?_
          exact ⟨f1, Nat.lt_succ_self _, (p125.1, w64 (p115.2.1 + 1), p125.2.1, p125.2.2), B127, d128, hM114, hF.keep _ ⟨rfl, rfl, rfl, rfl, rfl, rfl, rfl, trivial⟩, S.sel [0, 1, 2] rfl rfl⟩
    · rintro a u ⟨p110, B112, d113, rfl, hF, S⟩
      refine wp_seq ?_
      refine wp_region_lit ?_
      refine op_val (v := .agg #[.slice B112 p110.2.1.length d113, .bool p110.2.2]) rfl rfl hF rfl (run_loadN rfl ag25 (hF.ev rfl) rfl ((S.free 0 rfl).cells 0 #[.slice B112 p110.2.1.length d113, .bool p110.2.2] rfl)) ?_; clear hF; intro a hF
      refine op_val (v := .int .i64 p110.1) rfl rfl hF rfl (run_move rfl (hF.ev rfl)) ?_; clear hF; intro a hF
      refine op_do rfl rfl (run_store (cs' := #[.slice B112 p110.2.1.length d113, .bool p110.2.2]) rfl sz25 (hF.ev rfl) (hF.ev rfl) rfl rfl rfl (S.free 1 rfl) rfl rfl) ?_; replace S := S.put 1 rfl (#[.slice B112 p110.2.1.length d113, .bool p110.2.2])
      generalize World.setRow _ _ _ = u at S ⊢
      refine op_val (v := .int .i64 p110.1) rfl rfl hF rfl (run_assign rfl (hF.ev rfl)) ?_; clear hF; intro a hF
      refine wpList_nil ?_
      refine wp_ret ?_
      repeat with_reducible (first | refine then_ret ?_ | refine in_ret ?_ | refine in_nrm ?_)
      refine ret2_gw (.inl rfl) hF rfl (res_cell (hF.ev rfl) (res_loadN ag25 rfl (S.cells 1 rfl 0 #[.slice B112 p110.2.1.length d113, .bool p110.2.2] rfl))) (res_tmp (hF.ev rfl)) ?_
      obtain rfl := Option.some.inj hM
      exact ⟨B112, p110.2.1.length, d113, rfl, rfl, S.sel [2] rfl rfl⟩

set_option maxHeartbeats 4000000 in
theorem c_laws_FnMoveDeeds {x0 : List Int} {A0 : Option Addr} {n0 c0 : Nat} {w : World} {r : Bool} (h0 : Rt w 1 eU A0 n0 c0 x0) (hM : m_laws_FnMoveDeeds x0 = some r) :
    Calls Tryd.prog 4 #[.slice A0 n0 c0] w (fun e w' => e = .returned (.bool r) ∧ St w w' []) := by
  obtain rfl := h0.len
  unfold m_laws_FnMoveDeeds at hM
  refine calls_gw Tryd.func4 Tryd.ntmps4 rfl [(0, .slice A0 x0.length c0)] ⟨rfl, trivial⟩ rfl ?_
  intro a hF
  have S := St.nil w
  refine wp_seq ?_
  refine wp_region_lit ?_
  refine op_val (v := .bool false) rfl rfl hF rfl (run_assign rfl rfl) ?_; clear hF; intro a hF
  refine wpList_nil ?_
  refine wp_seq ?_
  refine wp_seq ?_
  refine wp_region_lit ?_
  refine op_val (v := .slice A0 x0.length c0) rfl rfl hF rfl (run_move rfl (hF.ev rfl)) ?_; clear hF; intro a hF
  refine op_val (v := .int .i64 (x0.length : Int)) rfl rfl hF rfl (run_lenL rfl rfl Tryd.underlying22 (hF.ev rfl)) ?_; clear hF; intro a hF
  refine op_val (v := .bool (ltB 1048576 (x0.length : Int))) rfl rfl hF rfl (run_gtr (hF.ev rfl) rfl rfl) ?_; clear hF; intro a hF
  refine wpList_nil ?_
  cases hc101 : (ltB 1048576 (x0.length : Int))
  · replace hM := bif_f hc101 hM
    refine cond_f hF rfl hc101 ?_
    refine wp_skip ?_
    refine wp_seq ?_
    refine wp_region_lit ?_
    refine op_val (v := .slice A0 x0.length c0) rfl rfl hF rfl (run_move rfl (hF.ev rfl)) ?_; clear hF; intro a hF
    obtain ⟨p102, h102, hM⟩ := bind_ex hM
    refine op_call rfl rfl hF rfl (run_call (vs := [.slice A0 x0.length c0]) rfl rfl co13 ⟨(hF.ev rfl), trivial⟩) (c_spec_DrawMoveDeeds (x0 := x0) ⟨(S.rc0 h0.rc), rfl⟩ h102) ?_
    rintro e u ⟨B103, n104, d105, rfl, rfl, T⟩
    refine ⟨_, rfl, ?_⟩
    clear hF; intro a hF
    replace S := S.call1 T; clear T
    refine op_val (v := .tuple #[.agg #[.slice B103 p102.1.length d105, .bool p102.2.1], .int .i64 p102.2.2.1, .int .i64 p102.2.2.2]) rfl rfl hF rfl (run_move rfl (hF.ev rfl)) ?_; clear hF; intro a hF
    refine op_val (v := .agg #[.slice B103 p102.1.length d105, .bool p102.2.1]) rfl rfl hF rfl (run_extract rfl (hF.ev rfl) rfl) ?_; clear hF; intro a hF
    refine op_val (v := .int .i64 p102.2.2.1) rfl rfl hF rfl (run_extract rfl (hF.ev rfl) rfl) ?_; clear hF; intro a hF
    refine op_val (v := .int .i64 p102.2.2.2) rfl rfl hF rfl (run_extract rfl (hF.ev rfl) rfl) ?_; clear hF; intro a hF
    refine op_new (cs := #[.slice none 0 0, .bool false]) rfl rfl hF rfl S (run_allocZ rfl zr25) ?_; clear hF S; intro a g106 u hF S
    refine op_do rfl rfl (run_store (cs' := #[.slice B103 p102.1.length d105, .bool p102.2.1]) rfl sz25 (hF.ev rfl) (hF.ev rfl) rfl rfl rfl (S.free 0 rfl) rfl rfl) ?_; replace S := S.put 0 rfl (#[.slice B103 p102.1.length d105, .bool p102.2.1])
    generalize World.setRow _ _ _ = u at S ⊢
    refine op_val (v := .int .i64 p102.2.2.1) rfl rfl hF rfl (run_assign rfl (hF.ev rfl)) ?_; clear hF; intro a hF
    refine op_val (v := .int .i64 p102.2.2.2) rfl rfl hF rfl (run_assign rfl (hF.ev rfl)) ?_; clear hF; intro a hF
    refine wpList_nil ?_
    refine wp_seq ?_
    refine wp_region_lit ?_
    refine op_val (v := .agg #[.slice B103 p102.1.length d105, .bool p102.2.1]) rfl rfl hF rfl (run_loadN rfl ag25 (hF.ev rfl) rfl ((S.free 0 rfl).cells 0 #[.slice B103 p102.1.length d105, .bool p102.2.1] rfl)) ?_; clear hF; intro a hF
    refine op_val (v := .int .i64 p102.2.2.1) rfl rfl hF rfl (run_move rfl (hF.ev rfl)) ?_; clear hF; intro a hF
    refine op_val (v := .int .i64 p102.2.2.2) rfl rfl hF rfl (run_move rfl (hF.ev rfl)) ?_; clear hF; intro a hF
    obtain ⟨p107, h107, hM⟩ := bind_ex hM
    refine op_call rfl rfl hF rfl (run_call (vs := [.agg #[.slice B103 p102.1.length d105, .bool p102.2.1], .int .i64 p102.2.2.1, .int .i64 p102.2.2.2]) rfl rfl co14 ⟨(hF.ev rfl), (hF.ev rfl), (hF.ev rfl), trivial⟩) (c_impl_MoveDeeds (x0 := p102.1) (x1 := p102.2.1) (x2 := p102.2.2.1) (x3 := p102.2.2.2) ⟨(S.rc 1 rfl), rfl⟩ h107) ?_
    rintro e u ⟨B108, n109, d110, rfl, rfl, T⟩
    refine ⟨_, rfl, ?_⟩
    clear hF; intro a hF
    replace S := S.call1 T; clear T
    refine op_val (v := .slice B108 p107.length d110) rfl rfl hF rfl (run_assign rfl (hF.ev rfl)) ?_; clear hF; intro a hF
    refine wpList_nil ?_
    refine wp_seq ?_
    refine wp_seq ?_
    refine wp_region_lit ?_
    refine op_val (v := .slice B108 p107.length d110) rfl rfl hF rfl (run_move rfl (hF.ev rfl)) ?_; clear hF; intro a hF
    refine op_val (v := .agg #[.slice B103 p102.1.length d105, .bool p102.2.1]) rfl rfl hF rfl (run_loadN rfl ag25 (hF.ev rfl) rfl ((S.free 1 rfl).cells 0 #[.slice B103 p102.1.length d105, .bool p102.2.1] rfl)) ?_; clear hF; intro a hF
    refine op_val (v := .int .i64 p102.2.2.1) rfl rfl hF rfl (run_move rfl (hF.ev rfl)) ?_; clear hF; intro a hF
    refine op_val (v := .int .i64 p102.2.2.2) rfl rfl hF rfl (run_move rfl (hF.ev rfl)) ?_; clear hF; intro a hF
    obtain ⟨p111, h111, hM⟩ := bind_ex hM
    refine op_call rfl rfl hF rfl (run_call (vs := [.agg #[.slice B103 p102.1.length d105, .bool p102.2.1], .int .i64 p102.2.2.1, .int .i64 p102.2.2.2]) rfl rfl co16 ⟨(hF.ev rfl), (hF.ev rfl), (hF.ev rfl), trivial⟩) (c_spec_MoveDeeds (x0 := p102.1) (x1 := p102.2.1) (x2 := p102.2.2.1) (x3 := p102.2.2.2) ⟨(S.rc 2 rfl), rfl⟩ h111) ?_
    rintro e u ⟨B112, n113, d114, rfl, rfl, T⟩
    refine ⟨_, rfl, ?_⟩
    clear hF; intro a hF
    replace S := S.call1 T; clear T
    obtain ⟨p115, h115, hM⟩ := bind_ex hM
    refine op_call rfl rfl hF rfl (run_call (vs := [.slice B108 p107.length d110, .slice B112 p111.length d114]) rfl rfl co15 ⟨(hF.ev rfl), (hF.ev rfl), trivial⟩) (c_laws_sameInts (x0 := p107) (x1 := p111) ⟨(S.rc 1 rfl), rfl⟩ ⟨(S.rc 0 rfl), rfl⟩ h115) ?_
    rintro e u ⟨rfl, T⟩
    refine ⟨_, rfl, ?_⟩
    clear hF; intro a hF
    replace S := S.call0 T; clear T
    refine op_val (v := .bool (!p115)) rfl rfl hF rfl (run_not rfl (hF.ev rfl)) ?_; clear hF; intro a hF
    refine wpList_nil ?_
    cases hc116 : (p115)
    · replace hM := bif_f hc116 hM
      refine cond_t hF rfl (not_t hc116) ?_
      refine wp_seq ?_
      refine wp_region_lit ?_
      refine op_val (v := .bool false) rfl rfl hF rfl (run_assign rfl rfl) ?_; clear hF; intro a hF
      refine wpList_nil ?_
      refine wp_ret ?_
      repeat with_reducible (first | refine then_ret ?_ | refine in_ret ?_ | refine in_nrm ?_)
      refine ret1_gw (.inl rfl) hF rfl (res_tmp (hF.ev rfl)) ?_
      obtain rfl := Option.some.inj hM
      exact ⟨rfl, S.sel [] rfl rfl⟩
    · replace hM := bif_t hc116 hM
      refine cond_f hF rfl (not_f hc116) ?_
      refine wp_skip ?_
      refine wp_seq ?_
      refine wp_seq ?_
      refine wp_region_lit ?_
      refine op_val (v := .slice B108 p107.length d110) rfl rfl hF rfl (run_move rfl (hF.ev rfl)) ?_; clear hF; intro a hF
      refine op_val (v := .int .i64 (p107.length : Int)) rfl rfl hF rfl (run_lenL rfl rfl Tryd.underlying23 (hF.ev rfl)) ?_; clear hF; intro a hF
      refine op_val (v := .bool ((p107.length : Int) == 0)) rfl rfl hF rfl (run_eql (hF.ev rfl) rfl rfl) ?_; clear hF; intro a hF
      refine wpList_nil ?_
      cases hc117 : ((p107.length : Int) == 0)
      · replace hM := bif_f hc117 hM
        refine cond_f hF rfl hc117 ?_
        refine wp_skip ?_
        refine wp_seq ?_
        refine wp_region_lit ?_
        refine op_val (v := .agg #[.slice B103 p102.1.length d105, .bool p102.2.1]) rfl rfl hF rfl (run_loadN rfl ag25 (hF.ev rfl) rfl ((S.free 2 rfl).cells 0 #[.slice B103 p102.1.length d105, .bool p102.2.1] rfl)) ?_; clear hF; intro a hF
        refine op_val (v := .slice B108 p107.length d110) rfl rfl hF rfl (run_move rfl (hF.ev rfl)) ?_; clear hF; intro a hF
        obtain ⟨p118, h118, hM⟩ := bind_ex hM
        refine op_call rfl rfl hF rfl (run_call (vs := [.agg #[.slice B103 p102.1.length d105, .bool p102.2.1], .slice B108 p107.length d110]) rfl rfl co17 ⟨(hF.ev rfl), (hF.ev rfl), trivial⟩) (c_impl_BarsRun (x0 := p102.1) (x1 := p102.2.1) (x2 := p107) ⟨(S.rc 3 rfl), rfl⟩ ⟨(S.rc 1 rfl), rfl⟩ h118) ?_
        rintro e u ⟨B119, n120, d121, rfl, rfl, T⟩
        refine ⟨_, rfl, ?_⟩
        clear hF; intro a hF
        replace S := S.call1 T; clear T
        refine op_val (v := .tuple #[.agg #[.slice B119 p118.1.length d121, .bool p118.2.1], .int .i64 p118.2.2]) rfl rfl hF rfl (run_move rfl (hF.ev rfl)) ?_; clear hF; intro a hF
        refine op_val (v := .agg #[.slice B119 p118.1.length d121, .bool p118.2.1]) rfl rfl hF rfl (run_extract rfl (hF.ev rfl) rfl) ?_; clear hF; intro a hF
        refine op_val (v := .int .i64 p118.2.2) rfl rfl hF rfl (run_extract rfl (hF.ev rfl) rfl) ?_; clear hF; intro a hF
        refine op_new (cs := #[.slice none 0 0, .bool false]) rfl rfl hF rfl S (run_allocZ rfl zr25) ?_; clear hF S; intro a g122 u hF S
        refine op_do rfl rfl (run_store (cs' := #[.slice B119 p118.1.length d121, .bool p118.2.1]) rfl sz25 (hF.ev rfl) (hF.ev rfl) rfl rfl rfl (S.free 0 rfl) rfl rfl) ?_; replace S := S.put 0 rfl (#[.slice B119 p118.1.length d121, .bool p118.2.1])
        generalize World.setRow _ _ _ = u at S ⊢
        refine op_val (v := .int .i64 p118.2.2) rfl rfl hF rfl (run_assign rfl (hF.ev rfl)) ?_; clear hF; intro a hF
        refine wpList_nil ?_
        refine wp_seq ?_
        refine wp_region_lit ?_
        refine op_newrow (cs := #[]) (size := 1) rfl rfl hF rfl S (run_buildSlice0 rfl Tryd.underlying23 (congrArg Option.isSome sz3)) rfl (Nat.zero_le _) ?_; clear hF S; intro a g123 u hF S
        refine op_val (v := .pointer (some ⟨g106, 0, none⟩)) rfl rfl hF rfl (run_fieldAddr rfl fl25_0 (hF.ev rfl) rfl) ?_; clear hF; intro a hF
        refine op_val (v := .slice B103 p102.1.length d105) rfl rfl hF rfl (run_load1 rfl one23 (hF.ev rfl) ((S.free 5 rfl).cell rfl)) ?_; clear hF; intro a hF
        obtain ⟨hk126, hM⟩ := chk_ex hM
        replace hk126 := apB_t hk126
        refine op_appendL (lx := []) (ly := p102.1) rfl rfl hF rfl S rfl (hF.ev rfl) (hF.ev rfl) (i := 0) rfl rfl Tryd.underlying23 inf3 rfl (by decide) (S.rc 6 rfl).rd rfl eI_one hk126 (by decide) ?_; clear hF S; intro a B124 d125 u hF S
        refine op_val (v := .slice B124 ((([] : List Int) ++ p102.1).length) d125) rfl rfl hF rfl (run_assign rfl (hF.ev rfl)) ?_; clear hF; intro a hF
        refine wpList_nil ?_
        refine wp_seq ?_
        refine wp_region_lit ?_
        refine op_val (v := .slice B124 ((([] : List Int) ++ p102.1).length) d125) rfl rfl hF rfl (run_move rfl (hF.ev rfl)) ?_; clear hF; intro a hF
        refine op_val (v := .int .i64 p102.2.2.1) rfl rfl hF rfl (run_move rfl (hF.ev rfl)) ?_; clear hF; intro a hF
        refine op_val (v := .int .i64 p102.2.2.2) rfl rfl hF rfl (run_move rfl (hF.ev rfl)) ?_; clear hF; intro a hF
        obtain ⟨hk127, hM⟩ := chk_ex hM
        replace hk127 := ixB_t hk127
        refine op_val (v := .pointer (some ⟨adB B124, adO B124 + p102.2.2.1.toNat * 1, none⟩)) rfl rfl hF rfl (run_indexAddr (b := adB B124) (off := adO B124) rfl Tryd.underlying23 sz3 ((hF.ev rfl).trans (congrArg (fun A => Value.slice A ((([] : List Int) ++ p102.1).length) d125) ((S.rc 0 rfl).rd.ad (ix_pos hk127)))) (hF.ev rfl) hk127.1 hk127.2 (k' := adO B124 + p102.2.2.1.toNat * 1) rfl) ?_; clear hF; intro a hF
        obtain ⟨w', hrun, S'⟩ := run_storeElN (P := Tryd.prog) (ρ := a.eval) (y0 := p102.2.2.2) (off := 0) S 3 (.tmp 47) (.tmp 46) (i := 0) sz3 (hF.ev rfl) (hF.ev rfl) rfl rfl rfl rfl rfl eI_len (0 : Int) (ix_ltn hk127 rfl) rfl rfl
        refine op_do rfl rfl (hrun _ rfl) ?_; clear hrun S; have S := S'; clear S'; generalize w' = u at S ⊢
        refine wpList_nil ?_
        refine wp_seq ?_
        refine wp_region_lit ?_
        refine op_val (v := .int .i64 p118.2.2) rfl rfl hF rfl (run_move rfl (hF.ev rfl)) ?_; clear hF; intro a hF
        refine op_val (v := .slice B108 p107.length d110) rfl rfl hF rfl (run_move rfl (hF.ev rfl)) ?_; clear hF; intro a hF
        refine op_val (v := .int .i64 (p107.length : Int)) rfl rfl hF rfl (run_lenL rfl rfl Tryd.underlying23 (hF.ev rfl)) ?_; clear hF; intro a hF
        refine op_val (v := .bool (p118.2.2 == (p107.length : Int))) rfl rfl hF rfl (run_eql (hF.ev rfl) (hF.ev rfl) rfl) ?_; clear hF; intro a hF
        refine op_val (v := .bool (p118.2.2 == (p107.length : Int))) rfl rfl hF rfl (run_move rfl (hF.ev rfl)) ?_; clear hF; intro a hF
        refine op_gv (v := .agg #[.slice B119 p118.1.length d121, .bool p118.2.1]) rfl rfl hF rfl (yt (gw_yield hF rfl rfl rfl)) (fun hg => (run_loadN rfl ag25 (hF.ev rfl) rfl ((S.free 1 rfl).cells 0 #[.slice B119 p118.1.length d121, .bool p118.2.1] rfl))) ?_; clear hF; intro a hF
        refine op_gv (v := .slice B124 ((([] : List Int) ++ p102.1).length) d125) rfl rfl hF rfl (yt (gw_yield hF rfl rfl rfl)) (fun hg => (run_move rfl (hF.ev rfl))) ?_; clear hF; intro a hF
        refine op_gv (v := .pointer (some ⟨g106, 1, none⟩)) rfl rfl hF rfl (yt (gw_yield hF rfl rfl rfl)) (fun hg => (run_fieldAddr rfl fl25_1 (hF.ev rfl) rfl)) ?_; clear hF; intro a hF
        refine op_gv (v := .bool p102.2.1) rfl rfl hF rfl (yt (gw_yield hF rfl rfl rfl)) (fun hg => (run_load1 rfl one4 ((hF.ev rfl).trans (gv_t hg)) ((S.free 5 rfl).cell rfl))) ?_; clear hF; intro a hF
        refine op_gv (v := .agg #[.slice B124 ((([] : List Int) ++ p102.1).length) d125, .bool p102.2.1]) rfl rfl hF rfl (yt (gw_yield hF rfl rfl rfl)) (fun hg => (run_build (vs := [(0, .slice B124 ((([] : List Int) ++ p102.1).length) d125), (1, .bool p102.2.1)]) rfl ⟨⟨rfl, ((hF.ev rfl).trans (gv_t hg))⟩, ⟨rfl, ((hF.ev rfl).trans (gv_t hg))⟩, trivial⟩ (bd25_0_1 rfl rfl))) ?_; clear hF; intro a hF
        obtain ⟨p128, h128, hM⟩ := bind_ex hM
        refine op_gcall (v := .bool p128) rfl rfl hF rfl S (yt (gw_yield hF rfl rfl rfl)) (fun hg => (run_call (vs := [.agg #[.slice B119 p118.1.length d121, .bool p118.2.1], .agg #[.slice B124 ((([] : List Int) ++ p102.1).length) d125, .bool p102.2.1]]) rfl rfl co10 ⟨((hF.ev rfl).trans (gv_t hg)), ((hF.ev rfl).trans (gv_t hg)), trivial⟩)) (fun hg => c_laws_sameBars (x0 := p118.1) (x1 := p118.2.1) (x2 := (([] : List Int) ++ p102.1).set p102.2.2.1.toNat p102.2.2.2) (x3 := p102.2.1) ⟨(S.rc 2 rfl), rfl⟩ ⟨(S.rc 0 rfl), (len_set rfl)⟩ (gb_t h128 hg)) ?_; clear hF S; intro a u hF S
        refine op_val (v := .bool ((p118.2.2 == (p107.length : Int)) && p128)) rfl rfl hF rfl (run_pick_and rfl (hF.ev rfl) (fun hp => ((hF.ev rfl).trans (gv_t hp))) rfl) ?_; clear hF; intro a hF
        refine op_val (v := .bool ((p118.2.2 == (p107.length : Int)) && p128)) rfl rfl hF rfl (run_assign rfl (hF.ev rfl)) ?_; clear hF; intro a hF
        refine wpList_nil ?_
        refine wp_ret ?_
        repeat with_reducible (first | refine then_ret ?_ | refine in_ret ?_ | refine in_nrm ?_)
        refine ret1_gw (.inl rfl) hF rfl (res_tmp (hF.ev rfl)) ?_
        obtain rfl := Option.some.inj hM
        exact ⟨rfl, S.sel [] rfl rfl⟩
      · replace hM := bif_t hc117 hM
        refine cond_t hF rfl hc117 ?_
        refine wp_seq ?_
        refine wp_region_lit ?_
        obtain ⟨p129, h129, hM⟩ := bind_ex hM
        refine op_call rfl rfl hF rfl (run_call (vs := []) rfl rfl co11 trivial) (c_laws_alive   h129) ?_
        rintro e u ⟨rfl, T⟩
        refine ⟨_, rfl, ?_⟩
        clear hF; intro a hF
        replace S := S.call0 T; clear T
        refine op_val (v := .bool p129) rfl rfl hF rfl (run_assign rfl (hF.ev rfl)) ?_; clear hF; intro a hF
        refine wpList_nil ?_
        refine wp_ret ?_
        repeat with_reducible (first | refine then_ret ?_ | refine in_ret ?_ | refine in_nrm ?_)
        refine ret1_gw (.inl rfl) hF rfl (res_tmp (hF.ev rfl)) ?_
        obtain rfl := Option.some.inj hM
        exact ⟨rfl, S.sel [] rfl rfl⟩
  · replace hM := bif_t hc101 hM
    refine cond_t hF rfl hc101 ?_
    refine wp_seq ?_
    refine wp_region_lit ?_
    refine op_val (v := .bool true) rfl rfl hF rfl (run_assign rfl rfl) ?_; clear hF; intro a hF
    refine wpList_nil ?_
    refine wp_ret ?_
    repeat with_reducible (first | refine then_ret ?_ | refine in_ret ?_ | refine in_nrm ?_)
    refine ret1_gw (.inl rfl) hF rfl (res_tmp (hF.ev rfl)) ?_
    obtain rfl := Option.some.inj hM
    exact ⟨rfl, S.sel [] rfl rfl⟩

set_option maxHeartbeats 4000000 in
theorem c_spec_DrawBarsRun {x0 : List Int} {A0 : Option Addr} {n0 c0 : Nat} {w : World} {r : List Int × Bool × List Int} (h0 : Rt w 1 eU A0 n0 c0 x0) (hM : m_spec_DrawBarsRun x0 = some r) :
    Calls Tryd.prog 18 #[.slice A0 n0 c0] w (fun e w' => ∃ (B0 : Option Addr) (N0 D0 : Nat) (B1 : Option Addr) (N1 D1 : Nat), e = .returned (.tuple #[.agg #[.slice B0 N0 D0, .bool r.2.1], .slice B1 N1 D1]) ∧ N0 = r.1.length ∧ N1 = r.2.2.length ∧ St w w' [.row 3 1 (.slice B0 N0 D0) N0 (r.1.flatMap eI), .row 3 1 (.slice B1 N1 D1) N1 (r.2.2.flatMap eI)]) := by
  obtain rfl := h0.len
  unfold m_spec_DrawBarsRun at hM
  refine calls_gw Tryd.func18 Tryd.ntmps18 rfl [(0, .slice A0 x0.length c0)] ⟨rfl, trivial⟩ rfl ?_
  intro a hF
  have S := St.nil w
  refine wp_seq ?_
  refine wp_region_lit ?_
  refine op_new (cs := #[.slice none 0 0, .bool false]) rfl rfl hF rfl S (run_allocZ rfl zr25) ?_; clear hF S; intro a g101 u hF S
  refine op_val (v := .slice none 0 0) rfl rfl hF rfl (run_assign rfl rfl) ?_; clear hF; intro a hF
  refine wpList_nil ?_
  refine wp_seq ?_
  refine wp_region_lit ?_
  refine op_val (v := .slice A0 x0.length c0) rfl rfl hF rfl (run_move rfl (hF.ev rfl)) ?_; clear hF; intro a hF
  refine op_call rfl rfl hF rfl (run_call (vs := [.slice A0 x0.length c0]) rfl rfl co24 ⟨(hF.ev rfl), trivial⟩) (c_spec_l20Open ⟨(S.rc0 h0.rc), rfl⟩) ?_
  rintro e u ⟨g102, rfl, T⟩
  refine ⟨_, rfl, ?_⟩
  clear hF; intro a hF
  replace S := S.call1 T; clear T
  refine op_val (v := .pointer (some ⟨g102, 0, none⟩)) rfl rfl hF rfl (run_assign rfl (hF.ev rfl)) ?_; clear hF; intro a hF
  refine wpList_nil ?_
  refine wp_seq ?_
  refine wp_region_lit ?_
  refine op_val (v := .pointer (some ⟨g102, 0, none⟩)) rfl rfl hF rfl (run_move rfl (hF.ev rfl)) ?_; clear hF; intro a hF
  obtain ⟨p103, h103, hM⟩ := bind_ex hM
  refine op_call rfl rfl hF rfl (run_call (vs := [.pointer (some ⟨g102, 0, none⟩), .int .i64 9]) rfl rfl co25 ⟨(hF.ev rfl), rfl, trivial⟩) (c_spec_l20Bars (x0 := x0.take 2000) (x1 := 0) (x2 := 9) ⟨(op_rc h0.rc rfl), rfl⟩ (show St w _ [.box g102 58 #[.slice (opA c0 x0.length A0) ((x0.take 2000).length) c0, .int .i64 0], .box g101 25 #[.slice none 0 0, .bool false]] from S.sel [0, 1] rfl rfl) h103) ?_
  rintro e u ⟨B104, n105, d106, rfl, rfl, T⟩
  refine ⟨_, rfl, ?_⟩
  clear hF; intro a hF
  clear S; have S := T; clear T
  refine op_new (cs := #[.slice none 0 0, .bool false]) rfl rfl hF rfl S (run_allocZ rfl zr25) ?_; clear hF S; intro a g107 u hF S
  refine op_do rfl rfl (run_store (cs' := #[.slice B104 p103.1.length d106, .bool p103.2.1]) rfl sz25 (hF.ev rfl) (hF.ev rfl) rfl rfl rfl (S.free 0 rfl) rfl rfl) ?_; replace S := S.put 0 rfl (#[.slice B104 p103.1.length d106, .bool p103.2.1])
  generalize World.setRow _ _ _ = u at S ⊢
  refine wpList_nil ?_
  refine wp_seq ?_
  refine wp_region_lit ?_
  refine op_newrow (cs := #[]) (size := 1) rfl rfl hF rfl S (run_buildSlice0 rfl Tryd.underlying23 (congrArg Option.isSome sz3)) rfl (Nat.zero_le _) ?_; clear hF S; intro a g108 u hF S
  refine op_val (v := .slice (some ⟨g108, 0, none⟩) 0 0) rfl rfl hF rfl (run_assign rfl (hF.ev rfl)) ?_; clear hF; intro a hF
  refine wpList_nil ?_
  refine wp_seq ?_
  refine wp_seq ?_
  refine wp_region_lit ?_
  refine op_val (v := .pointer (some ⟨g102, 0, none⟩)) rfl rfl hF rfl (run_move rfl (hF.ev rfl)) ?_; clear hF; intro a hF
  obtain ⟨p109, h109, hM⟩ := bind_ex hM
  refine op_call rfl rfl hF rfl (run_call (vs := [.pointer (some ⟨g102, 0, none⟩), .int .i64 12]) rfl rfl co26 ⟨(hF.ev rfl), rfl, trivial⟩) (c_spec_l20Rd_pick (x0 := x0.take 2000) (x1 := p103.2.2) (x2 := 12) ⟨(op_rc h0.rc rfl), rfl⟩ (show St w _ [.box g102 58 #[.slice (opA c0 x0.length A0) ((x0.take 2000).length) c0, .int .i64 p103.2.2], .row 3 1 (.slice (some ⟨g108, 0, none⟩) 0 0) 0 (([] : List Int).flatMap eI), .box g107 25 #[.slice B104 p103.1.length d106, .bool p103.2.1], .row 3 1 (.slice B104 p103.1.length d106) p103.1.length (p103.1.flatMap eI), .box g101 25 #[.slice none 0 0, .bool false]] from S.sel [3, 0, 1, 2, 4] rfl rfl) h109) ?_
  rintro e u ⟨rfl, T⟩
  refine ⟨_, rfl, ?_⟩
  clear hF; intro a hF
  clear S; have S := T; clear T
  refine op_val (v := .int .i64 p109.1) rfl rfl hF rfl (run_assign rfl (hF.ev rfl)) ?_; clear hF; intro a hF
  refine wpList_nil ?_
  obtain ⟨o111, hM114, hM⟩ := bind_ex hM
  refine wp_cut (fun a u => ∃ (p110 : List Int) (B112 : Option Addr) (d113 : Nat), p110 = o111 ∧ Fr a 31 [(2, .pointer (some ⟨g101, 0, none⟩)), (3, .slice none 0 0), (5, .pointer (some ⟨g107, 0, none⟩)), (6, .slice B112 p110.length d113)] ∧ St w u [.box g107 25 #[.slice B104 p103.1.length d106, .bool p103.2.1], .box g101 25 #[.slice none 0 0, .bool false], .row 3 1 (.slice B112 p110.length d113) p110.length (p110.flatMap eI), .row 3 1 (.slice B104 p103.1.length d106) p103.1.length (p103.1.flatMap eI)]) ?_ ?_
  · have _ := trivial
    refine wp_block ?_
    refine loop_gw (fun m a u => ∃ (p115 : List Int × Int × Int) (B116 : Option Addr) (d117 : Nat), m_spec_DrawBarsRun_l1 x0 p103 m p115 = some _ ∧ Fr a 31 [(2, .pointer (some ⟨g101, 0, none⟩)), (3, .slice none 0 0), (4, .pointer (some ⟨g102, 0, none⟩)), (5, .pointer (some ⟨g107, 0, none⟩)), (6, .slice B116 p115.1.length d117), (7, .int .i64 p115.2.1)] ∧ St w u [.box g102 58 #[.slice (opA c0 x0.length A0) ((x0.take 2000).length) c0, .int .i64 p115.2.2], .box g107 25 #[.slice B104 p103.1.length d106, .bool p103.2.1], .box g101 25 #[.slice none 0 0, .bool false], .row 3 1 (.slice B116 p115.1.length d117) p115.1.length (p115.1.flatMap eI), .row 3 1 (.slice B104 p103.1.length d106) p103.1.length (p103.1.flatMap eI)]) FUEL ⟨(([] : List Int), p109.1, p109.2), (some ⟨g108, 0, none⟩), 0, hM114, hF.keep _ ⟨rfl, rfl, rfl, rfl, rfl, rfl, trivial⟩, S.sel [0, 2, 4, 1, 3] rfl rfl⟩ ?_
    clear hF S hM114; rintro m a u ⟨p115, B116, d117, hM114, hF, S⟩
    rcases m with _ | f1
    · exact none_some hM114
    rw [m_spec_DrawBarsRun_l1.eq_2] at hM114
    refine wp_seq ?_
    refine wp_seq ?_
    refine wp_region_lit ?_
    refine op_val (v := .int .i64 p115.2.1) rfl rfl hF rfl (run_move rfl (hF.ev rfl)) ?_; clear hF; intro a hF
    refine op_val (v := .bool (ltB 0 p115.2.1)) rfl rfl hF rfl (run_gtr (hF.ev rfl) rfl rfl) ?_; clear hF; intro a hF
    refine wpList_nil ?_
    cases hc118 : (ltB 0 p115.2.1)
    · replace hM114 := bif_f hc118 hM114
      refine cond_f hF rfl hc118 ?_
      refine wp_exit ?_
      repeat with_reducible (first | refine then_exit ?_ | refine in_hit ?_ | refine in_miss rfl ?_)
      obtain rfl := Option.some.inj hM114
      exact ⟨p115.1, B116, d117, rfl, hF.keep _ ⟨rfl, rfl, rfl, rfl, trivial⟩, S.sel [1, 2, 3, 4] rfl rfl⟩
    · replace hM114 := bif_t hc118 hM114
      refine cond_t hF rfl hc118 ?_
      refine wp_skip ?_
      refine wp_seq ?_
      refine wp_block ?_
      refine wp_region_lit ?_
      refine op_val (v := .slice B116 p115.1.length d117) rfl rfl hF rfl (run_move rfl (hF.ev rfl)) ?_; clear hF; intro a hF
      refine op_val (v := .pointer (some ⟨g102, 0, none⟩)) rfl rfl hF rfl (run_move rfl (hF.ev rfl)) ?_; clear hF; intro a hF
      refine op_val (v := .pointer (some ⟨g107, 0, none⟩)) rfl rfl hF rfl (run_fieldAddr rfl fl25_0 (hF.ev rfl) rfl) ?_; clear hF; intro a hF
      refine op_val (v := .slice B104 p103.1.length d106) rfl rfl hF rfl (run_load1 rfl one23 (hF.ev rfl) ((S.free 1 rfl).cell rfl)) ?_; clear hF; intro a hF
      refine op_val (v := .int .i64 (p103.1.length : Int)) rfl rfl hF rfl (run_lenL rfl rfl Tryd.underlying23 (hF.ev rfl)) ?_; clear hF; intro a hF
      refine op_val (v := .int .i64 (w64 (4 * (p103.1.length : Int)))) rfl rfl hF rfl (run_mul (z := w64 (4 * (p103.1.length : Int))) rfl (hF.ev rfl) rfl rfl) ?_; clear hF; intro a hF
      refine op_val (v := .int .i64 (w64 ((w64 (4 * (p103.1.length : Int))) + 3))) rfl rfl hF rfl (run_add (z := w64 ((w64 (4 * (p103.1.length : Int))) + 3)) (hF.ev rfl) rfl rfl rfl) ?_; clear hF; intro a hF
      obtain ⟨p119, h119, hM114⟩ := bind_ex hM114
      refine op_call rfl rfl hF rfl (run_call (vs := [.pointer (some ⟨g102, 0, none⟩), .int .i64 (w64 ((w64 (4 * (p103.1.length : Int))) + 3))]) rfl rfl co26 ⟨(hF.ev rfl), (hF.ev rfl), trivial⟩) (c_spec_l20Rd_pick (x0 := x0.take 2000) (x1 := p115.2.2) (x2 := w64 ((w64 (4 * (p103.1.length : Int))) + 3)) ⟨(op_rc h0.rc rfl), rfl⟩ (show St w _ [.box g102 58 #[.slice (opA c0 x0.length A0) ((x0.take 2000).length) c0, .int .i64 p115.2.2], .box g107 25 #[.slice B104 p103.1.length d106, .bool p103.2.1], .box g101 25 #[.slice none 0 0, .bool false], .row 3 1 (.slice B116 p115.1.length d117) p115.1.length (p115.1.flatMap eI), .row 3 1 (.slice B104 p103.1.length d106) p103.1.length (p103.1.flatMap eI)] from S.sel [0, 1, 2, 3, 4] rfl rfl) h119) ?_
      rintro e u ⟨rfl, T⟩
      refine ⟨_, rfl, ?_⟩
      clear hF; intro a hF
      clear S; have S := T; clear T
      refine op_newrowL (ls := (([p119.1] : List Int) : List Int)) (e := eI) rfl rfl hF rfl S (run_buildS (vs := [(0, .int .i64 p119.1)]) rfl ⟨⟨rfl, (hF.ev rfl)⟩, trivial⟩ (bs23_1_0 rfl)) rfl eI_len (Nat.le_of_ble_eq_true rfl) ?_; clear hF S; intro a g120 u hF S
      obtain ⟨hk123, hM114⟩ := chk_ex hM114
      replace hk123 := apB_t hk123
      refine op_appendL (lx := p115.1) (ly := ([p119.1] : List Int)) rfl rfl hF rfl S rfl (hF.ev rfl) (hF.ev rfl) (i := 4) rfl rfl Tryd.underlying23 inf3 rfl (by decide) (S.rc 0 rfl).rd rfl eI_one hk123 (by decide) ?_; clear hF S; intro a B121 d122 u hF S
      refine op_val (v := .slice B121 ((p115.1 ++ ([p119.1] : List Int)).length) d122) rfl rfl hF rfl (run_assign rfl (hF.ev rfl)) ?_; clear hF; intro a hF
      refine wpList_nil ?_
      refine wp_region_lit ?_
      refine op_val (v := .int .i64 p115.2.1) rfl rfl hF rfl (run_move rfl (hF.ev rfl)) ?_; clear hF; intro a hF
      refine op_val (v := .int .i64 (w64 (p115.2.1 - 1))) rfl rfl hF rfl (run_sub (z := w64 (p115.2.1 - 1)) (hF.ev rfl) rfl rfl rfl) ?_; clear hF; intro a hF
      refine op_val (v := .int .i64 (w64 (p115.2.1 - 1))) rfl rfl hF rfl (run_assign rfl (hF.ev rfl)) ?_; clear hF; intro a hF
      refine wpList_nil ?_
      exact ⟨f1, Nat.lt_succ_self _, (p115.1 ++ ([p119.1] : List Int), w64 (p115.2.1 - 1), p119.2), B121, d122, hM114, hF.keep _ ⟨rfl, rfl, rfl, rfl, rfl, rfl, trivial⟩, S.sel [1, 2, 3, 4, 5] rfl rfl⟩
  · rintro a u ⟨p110, B112, d113, rfl, hF, S⟩
    refine wp_seq ?_
    refine wp_region_lit ?_
    refine op_val (v := .agg #[.slice B104 p103.1.length d106, .bool p103.2.1]) rfl rfl hF rfl (run_loadN rfl ag25 (hF.ev rfl) rfl ((S.free 0 rfl).cells 0 #[.slice B104 p103.1.length d106, .bool p103.2.1] rfl)) ?_; clear hF; intro a hF
    refine op_val (v := .slice B112 p110.length d113) rfl rfl hF rfl (run_move rfl (hF.ev rfl)) ?_; clear hF; intro a hF
    refine op_do rfl rfl (run_store (cs' := #[.slice B104 p103.1.length d106, .bool p103.2.1]) rfl sz25 (hF.ev rfl) (hF.ev rfl) rfl rfl rfl (S.free 1 rfl) rfl rfl) ?_; replace S := S.put 1 rfl (#[.slice B104 p103.1.length d106, .bool p103.2.1])
    generalize World.setRow _ _ _ = u at S ⊢
    refine op_val (v := .slice B112 p110.length d113) rfl rfl hF rfl (run_assign rfl (hF.ev rfl)) ?_; clear hF; intro a hF
    refine wpList_nil ?_
    refine wp_ret ?_
    repeat with_reducible (first | refine then_ret ?_ | refine in_ret ?_ | refine in_nrm ?_)
    refine ret2_gw (.inl rfl) hF rfl (res_cell (hF.ev rfl) (res_loadN ag25 rfl (S.cells 1 rfl 0 #[.slice B104 p103.1.length d106, .bool p103.2.1] rfl))) (res_tmp (hF.ev rfl)) ?_
    obtain rfl := Option.some.inj hM
    exact ⟨B104, p103.1.length, d106, B112, p110.length, d113, rfl, rfl, rfl, S.sel [3, 2] rfl rfl⟩

set_option maxHeartbeats 4000000 in
theorem c_spec_BarsRun {x0 : List Int} {x1 : Bool} {x2 : List Int} {A0 : Option Addr} {n0 c0 : Nat} {A2 : Option Addr} {n2 c2 : Nat} {w : World} {r : List Int × Bool × Int} (h0 : Rt w 1 eI A0 n0 c0 x0) (h2 : Rt w 1 eI A2 n2 c2 x2) (hM : m_spec_BarsRun x0 x1 x2 = some r) :
    Calls Tryd.prog 19 #[.agg #[.slice A0 n0 c0, .bool x1], .slice A2 n2 c2] w (fun e w' => ∃ (B0 : Option Addr) (N0 D0 : Nat), e = .returned (.tuple #[.agg #[.slice B0 N0 D0, .bool r.2.1], .int .i64 r.2.2]) ∧ N0 = r.1.length ∧ St w w' [.row 3 1 (.slice B0 N0 D0) N0 (r.1.flatMap eI)]) := by
  obtain rfl := h0.len
  obtain rfl := h2.len
  unfold m_spec_BarsRun at hM
  refine calls_gw Tryd.func19 Tryd.ntmps19 rfl [(0, .agg #[.slice A0 x0.length c0, .bool x1]), (1, .slice A2 x2.length c2)] ⟨rfl, rfl, trivial⟩ rfl ?_
  intro a hF
  have S := St.nil w
  refine wp_seq ?_
  refine wp_region_lit ?_
  refine op_new (cs := #[.slice A0 x0.length c0, .bool x1]) rfl rfl hF rfl S (run_box rfl (hF.ev rfl) rfl) ?_; clear hF S; intro a g101 u hF S
  refine op_new (cs := #[.slice none 0 0, .bool false]) rfl rfl hF rfl S (run_allocZ rfl zr25) ?_; clear hF S; intro a g102 u hF S
  refine op_val (v := .int .i64 0) rfl rfl hF rfl (run_assign rfl rfl) ?_; clear hF; intro a hF
  refine wpList_nil ?_
  refine wp_seq ?_
  refine wp_seq ?_
  refine wp_region_lit ?_
  refine op_val (v := .agg #[.slice A0 x0.length c0, .bool x1]) rfl rfl hF rfl (run_loadN rfl ag25 (hF.ev rfl) rfl ((S.free 1 rfl).cells 0 #[.slice A0 x0.length c0, .bool x1] rfl)) ?_; clear hF; intro a hF
  obtain ⟨p103, h103, hM⟩ := bind_ex hM
  refine op_call rfl rfl hF rfl (run_call (vs := [.agg #[.slice A0 x0.length c0, .bool x1]]) rfl rfl co20 ⟨(hF.ev rfl), trivial⟩) (c_spec_BarsValid (x0 := x0) (x1 := x1) ⟨(S.rc0 h0.rc), rfl⟩ h103) ?_
  rintro e u ⟨rfl, T⟩
  refine ⟨_, rfl, ?_⟩
  clear hF; intro a hF
  replace S := S.call0 T; clear T
  refine op_val (v := .bool (!p103)) rfl rfl hF rfl (run_not rfl (hF.ev rfl)) ?_; clear hF; intro a hF
  refine wpList_nil ?_
  cases hc104 : (p103)
  · replace hM := bif_f hc104 hM
    refine cond_t hF rfl (not_t hc104) ?_
    refine wp_seq ?_
    refine wp_region_lit ?_
    refine op_val (v := .agg #[.slice none 0 0, .bool false]) rfl rfl hF rfl (run_build (vs := []) rfl trivial (bd25 )) ?_; clear hF; intro a hF
    refine op_do rfl rfl (run_store (cs' := #[.slice none 0 0, .bool false]) rfl sz25 (hF.ev rfl) (hF.ev rfl) rfl rfl rfl (S.free 0 rfl) rfl rfl) ?_; replace S := S.put 0 rfl (#[.slice none 0 0, .bool false])
    generalize World.setRow _ _ _ = u at S ⊢
    refine op_val (v := .int .i64 0) rfl rfl hF rfl (run_assign rfl rfl) ?_; clear hF; intro a hF
    refine wpList_nil ?_
    refine wp_ret ?_
    repeat with_reducible (first | refine then_ret ?_ | refine in_ret ?_ | refine in_nrm ?_)
    refine ret2_gw (.inl rfl) hF rfl (res_cell (hF.ev rfl) (res_loadN ag25 rfl (S.cells 0 rfl 0 #[.slice none 0 0, .bool false] rfl))) (res_tmp (hF.ev rfl)) ?_
    obtain rfl := Option.some.inj hM
    replace S := S.nilrow 3 1
    exact ⟨none, 0, 0, rfl, rfl, S.sel [0] rfl rfl⟩
  · replace hM := bif_t hc104 hM
    refine cond_f hF rfl (not_f hc104) ?_
    refine wp_skip ?_
    refine wp_seq ?_
    refine wp_region_lit ?_
    refine op_val (v := .agg #[.slice A0 x0.length c0, .bool x1]) rfl rfl hF rfl (run_loadN rfl ag25 (hF.ev rfl) rfl ((S.free 1 rfl).cells 0 #[.slice A0 x0.length c0, .bool x1] rfl)) ?_; clear hF; intro a hF
    obtain ⟨p105, h105, hM⟩ := bind_ex hM
    refine op_call rfl rfl hF rfl (run_call (vs := [.agg #[.slice A0 x0.length c0, .bool x1]]) rfl rfl co28 ⟨(hF.ev rfl), trivial⟩) (c_spec_l10Copy (x0 := x0) (x1 := x1) ⟨(S.rc0 h0.rc), rfl⟩ h105) ?_
    rintro e u ⟨B106, n107, d108, rfl, rfl, T⟩
    refine ⟨_, rfl, ?_⟩
    clear hF; intro a hF
    replace S := S.call1 T; clear T
    refine op_new (cs := #[.slice none 0 0, .bool false]) rfl rfl hF rfl S (run_allocZ rfl zr25) ?_; clear hF S; intro a g109 u hF S
    refine op_do rfl rfl (run_store (cs' := #[.slice B106 p105.1.length d108, .bool p105.2]) rfl sz25 (hF.ev rfl) (hF.ev rfl) rfl rfl rfl (S.free 0 rfl) rfl rfl) ?_; replace S := S.put 0 rfl (#[.slice B106 p105.1.length d108, .bool p105.2])
    generalize World.setRow _ _ _ = u at S ⊢
    refine wpList_nil ?_
    refine wp_seq ?_
    refine wp_region_lit ?_
    refine op_val (v := .int .i64 0) rfl rfl hF rfl (run_assign rfl rfl) ?_; clear hF; intro a hF
    refine wpList_nil ?_
    refine wp_seq ?_
    refine wp_seq ?_
    refine wp_region_lit ?_
    refine op_val (v := .int .i64 0) rfl rfl hF rfl (run_assign rfl rfl) ?_; clear hF; intro a hF
    refine wpList_nil ?_
    obtain ⟨o111, hM114, hM⟩ := bind_ex hM
    refine wp_cut (fun a u => ∃ (p110 : Int × List Int × Bool) (B112 : Option Addr) (d113 : Nat), p110 = o111 ∧ Fr a 38 [(4, .pointer (some ⟨g102, 0, none⟩)), (5, .int .i64 0), (6, .pointer (some ⟨g109, 0, none⟩)), (7, .int .i64 p110.1)] ∧ St w u [.box g109 25 #[.slice B112 p110.2.1.length d113, .bool p110.2.2], .box g102 25 #[.slice none 0 0, .bool false], .row 3 1 (.slice B112 p110.2.1.length d113) p110.2.1.length (p110.2.1.flatMap eI)]) ?_ ?_
    · have _ := trivial
      refine wp_block ?_
      refine loop_gw (fun m a u => ∃ (p115 : Int × Int × List Int × Bool) (B116 : Option Addr) (d117 : Nat), m_spec_BarsRun_l1 x2 m p115 = some _ ∧ Fr a 38 [(1, .slice A2 x2.length c2), (4, .pointer (some ⟨g102, 0, none⟩)), (5, .int .i64 0), (6, .pointer (some ⟨g109, 0, none⟩)), (7, .int .i64 p115.1), (8, .int .i64 p115.2.1)] ∧ St w u [.box g109 25 #[.slice B116 p115.2.2.1.length d117, .bool p115.2.2.2], .box g102 25 #[.slice none 0 0, .bool false], .row 3 1 (.slice B116 p115.2.2.1.length d117) p115.2.2.1.length (p115.2.2.1.flatMap eI)]) FUEL ⟨(0, 0, p105.1, p105.2), B106, d108, hM114, hF.keep _ ⟨rfl, rfl, rfl, rfl, rfl, rfl, trivial⟩, S.sel [0, 2, 1] rfl rfl⟩ ?_
      clear hF S hM114; rintro m a u ⟨p115, B116, d117, hM114, hF, S⟩
      rcases m with _ | f1
      · exact none_some hM114
      rw [m_spec_BarsRun_l1.eq_2] at hM114
      refine wp_seq ?_
      refine wp_seq ?_
      refine wp_region_lit ?_
      refine op_val (v := .int .i64 p115.2.1) rfl rfl hF rfl (run_move rfl (hF.ev rfl)) ?_; clear hF; intro a hF
      refine op_val (v := .slice A2 x2.length c2) rfl rfl hF rfl (run_move rfl (hF.ev rfl)) ?_; clear hF; intro a hF
      refine op_val (v := .int .i64 (x2.length : Int)) rfl rfl hF rfl (run_lenL rfl rfl Tryd.underlying23 (hF.ev rfl)) ?_; clear hF; intro a hF
      refine op_val (v := .bool (ltB p115.2.1 (x2.length : Int))) rfl rfl hF rfl (run_lss (hF.ev rfl) (hF.ev rfl) rfl) ?_; clear hF; intro a hF
      refine wpList_nil ?_
      cases hc118 : (ltB p115.2.1 (x2.length : Int))
      · replace hM114 := bif_f hc118 hM114
        refine cond_f hF rfl hc118 ?_
        refine wp_exit ?_
        repeat with_reducible (first | refine then_exit ?_ | refine in_hit ?_ | refine in_miss rfl ?_)
        obtain rfl := Option.some.inj hM114
        exact ⟨(p115.1, p115.2.2.1, p115.2.2.2), B116, d117, rfl, hF.keep _ ⟨rfl, rfl, rfl, rfl, trivial⟩, S.sel [0, 1, 2] rfl rfl⟩
      · replace hM114 := bif_t hc118 hM114
        refine cond_t hF rfl hc118 ?_
        refine wp_skip ?_
        refine wp_seq ?_
        refine wp_block ?_
        refine wp_seq ?_
        obtain ⟨hk119, hM114⟩ := chk_ex hM114
        replace hk119 := ixB_t hk119
        obtain ⟨p120, h120, hM114⟩ := bind_ex hM114
        refine region_gw (D := [24, 25, 26, 27, 28, 29, 23, 30, 31, 9, 10]) (Lr := [.box g109 25 #[.slice B116 p115.2.2.1.length d117, .bool p115.2.2.2], .box g102 25 #[.slice none 0 0, .bool false], .row 3 1 (.slice B116 p115.2.2.1.length d117) p115.2.2.1.length (p115.2.2.1.flatMap eI)]) (deps := (fun | 0 => [24] | 1 => [25] | 2 => [26] | 3 => [27] | 4 => [28] | 5 => [29] | 6 => [23, 29] | 7 => [30, 29] | 8 => [31] | 9 => [9] | 10 => [9, 29] | 11 => [10] | _ => [])) (rd := (fun _ => [])) (zr := (fun _ => []))
          (φ := fun i vs => match i, vs with | 0, [v24] => v24 = .agg #[.slice B116 p115.2.2.1.length d117, .bool p115.2.2.2] | 1, [v25] => v25 = .slice A2 x2.length c2 | 2, [v26] => v26 = .int .i64 p115.2.1 | 3, [v27] => v27 = .pointer (some ⟨adB A2, adO A2 + p115.2.1.toNat * 1, none⟩) | 4, [v28] => v28 = .int .i64 (x2.getD p115.2.1.toNat (0 : Int)) | 5, [v29] => v29 = .tuple #[.agg #[.slice (slA (vtup (vtup v29 0) 0)) p120.1.length (slC (vtup (vtup v29 0) 0)), .bool p120.2.1], .bool p120.2.2] | 6, [v23, v29] => v23 = .tuple #[.agg #[.slice (slA (vtup (vtup v29 0) 0)) p120.1.length (slC (vtup (vtup v29 0) 0)), .bool p120.2.1], .bool p120.2.2] | 7, [v30, v29] => v30 = .agg #[.slice (slA (vtup (vtup v29 0) 0)) p120.1.length (slC (vtup (vtup v29 0) 0)), .bool p120.2.1] | 8, [v31] => v31 = .bool p120.2.2 | 9, [v9] => v9 = .pointer (some ⟨ptB v9, 0, none⟩) | 11, [v10] => v10 = .bool p120.2.2 | _, _ => True)
          (C := fun i vs => match i, vs with | 5, [v29] => [.row 3 1 (.slice (slA (vtup (vtup v29 0) 0)) p120.1.length (slC (vtup (vtup v29 0) 0))) p120.1.length (p120.1.flatMap eI)] | 9, [v9] => [.box (ptB v9) 25 #[.slice none 0 0, .bool false]] | 10, [v9, v29] => [.box (ptB v9) 25 #[.slice (slA (vtup (vtup v29 0) 0)) p120.1.length (slC (vtup (vtup v29 0) 0)), .bool p120.2.1]] | _, _ => [])
          (κ := (fun | 9 => some 10 | _ => none)) (Z := (fun _ => [])) mixed hF (by kernel_rfl) S ?_ ?_
        · refine ⟨?_, ?_, ?_, ?_, ?_, ?_, ?_, ?_, ?_, ?_, ?_, ?_, trivial⟩
          · intro a u X hB hu hp hr hz hl S
            replace S : St w u ([] ++ X) := S
            exact .inl ⟨rfl, .agg #[.slice B116 p115.2.2.1.length d117, .bool p115.2.2.2], u, (run_loadN rfl ag25 (hF.evB hB rfl rfl) rfl ((gr_box S hl 0 rfl).cells 0 #[.slice B116 p115.2.2.1.length d117, .bool p115.2.2.2] rfl)), rfl, S⟩
          · intro a u X hB hu hp hr hz hl S
            replace S : St w u ([] ++ X) := S
            exact .inl ⟨rfl, .slice A2 x2.length c2, u, (run_move rfl (hF.evB hB rfl rfl)), rfl, S⟩
          · intro a u X hB hu hp hr hz hl S
            replace S : St w u ([] ++ X) := S
            exact .inl ⟨rfl, .int .i64 p115.2.1, u, (run_move rfl (hF.evB hB rfl rfl)), rfl, S⟩
          · intro a u X hB hu hp hr hz hl S
            replace S : St w u ([] ++ X) := S
            have e25 : sl a 25 = .slice A2 x2.length c2 := hp 1 rfl
            have e26 : sl a 26 = .int .i64 p115.2.1 := hp 2 rfl
            exact .inl ⟨rfl, .pointer (some ⟨adB A2, adO A2 + p115.2.1.toNat * 1, none⟩), u, (run_indexAddr (b := adB A2) (off := adO A2) rfl Tryd.underlying23 sz3 ((ev_sl e25).trans (congrArg (fun A => Value.slice A x2.length c2) ((S.rc0 h2.rc).rd.ad (ix_pos hk119)))) (ev_sl e26) hk119.1 hk119.2 (k' := adO A2 + p115.2.1.toNat * 1) rfl), rfl, S⟩
          · intro a u X hB hu hp hr hz hl S
            replace S : St w u ([] ++ X) := S
            have e27 : sl a 27 = .pointer (some ⟨adB A2, adO A2 + p115.2.1.toNat * 1, none⟩) := hp 3 rfl
            exact .inl ⟨rfl, .int .i64 (x2.getD p115.2.1.toNat (0 : Int)), u, (run_load1 rfl one3 (ev_sl e27) (rd_el0 (l := x2) (S.rc0 h2.rc).rd rfl eI_len (0 : Int) (ix_ltn hk119 rfl) rfl)), rfl, S⟩
          · intro a u X hB hu hp hr hz hl S
            replace S : St w u ([] ++ X) := S
            have e24 : sl a 24 = .agg #[.slice B116 p115.2.2.1.length d117, .bool p115.2.2.2] := hp 0 rfl
            have e28 : sl a 28 = .int .i64 (x2.getD p115.2.1.toNat (0 : Int)) := hp 4 rfl
            refine .inr (.inr (.inl ⟨rfl, _, _, (run_call (vs := [.agg #[.slice B116 p115.2.2.1.length d117, .bool p115.2.2.2], .int .i64 (x2.getD p115.2.1.toNat (0 : Int))]) rfl rfl co9 ⟨(ev_sl e24), (ev_sl e28), trivial⟩), ?_⟩))
            refine Calls.mono (c_spec_BarsDo (x0 := p115.2.2.1) (x1 := p115.2.2.2) (x2 := (x2.getD p115.2.1.toNat (0 : Int))) ⟨(gr_rc S hl 2 rfl), rfl⟩ h120) ?_
            rintro e w1 ⟨B121, n122, d123, rfl, rfl, T⟩
            exact ⟨_, rfl, rfl, S.call1 T⟩
          · intro a u X hB hu hp hr hz hl S
            replace S : St w u ([] ++ X) := S
            have e29 : sl a 29 = .tuple #[.agg #[.slice (slA (vtup (vtup (sl a 29) 0) 0)) p120.1.length (slC (vtup (vtup (sl a 29) 0) 0)), .bool p120.2.1], .bool p120.2.2] := hp 5 rfl
            exact .inl ⟨rfl, .tuple #[.agg #[.slice (slA (vtup (vtup (sl a 29) 0) 0)) p120.1.length (slC (vtup (vtup (sl a 29) 0) 0)), .bool p120.2.1], .bool p120.2.2], u, (run_move rfl (ev_sl e29)), rfl, S⟩
          · intro a u X hB hu hp hr hz hl S
            replace S : St w u ([] ++ X) := S
            have e23 : sl a 23 = .tuple #[.agg #[.slice (slA (vtup (vtup (sl a 29) 0) 0)) p120.1.length (slC (vtup (vtup (sl a 29) 0) 0)), .bool p120.2.1], .bool p120.2.2] := hp 6 rfl
            exact .inl ⟨rfl, .agg #[.slice (slA (vtup (vtup (sl a 29) 0) 0)) p120.1.length (slC (vtup (vtup (sl a 29) 0) 0)), .bool p120.2.1], u, (run_extract rfl (ev_sl e23) rfl), rfl, S⟩
          · intro a u X hB hu hp hr hz hl S
            replace S : St w u ([] ++ X) := S
            have e23 : sl a 23 = .tuple #[.agg #[.slice (slA (vtup (vtup (sl a 29) 0) 0)) p120.1.length (slC (vtup (vtup (sl a 29) 0) 0)), .bool p120.2.1], .bool p120.2.2] := hp 6 rfl
            exact .inl ⟨rfl, .bool p120.2.2, u, (run_extract rfl (ev_sl e23) rfl), rfl, S⟩
          · intro a u X hB hu hp hr hz hl S
            replace S : St w u ([] ++ X) := S
            exact .inl ⟨rfl, _, _, (run_allocZ rfl zr25), rfl, S.alloc _ _⟩
          · intro a u X hB hu hp hr hz hl S
            replace S : St w u ([.box (ptB (sl a 9)) 25 #[.slice none 0 0, .bool false]] ++ X) := S
            have e9 : sl a 9 = .pointer (some ⟨ptB (sl a 9), 0, none⟩) := hp 9 rfl
            have e30 : sl a 30 = .agg #[.slice (slA (vtup (vtup (sl a 29) 0) 0)) p120.1.length (slC (vtup (vtup (sl a 29) 0) 0)), .bool p120.2.1] := hp 7 rfl
            exact .inr (.inl ⟨rfl, _, run_store (cs' := #[.slice (slA (vtup (vtup (sl a 29) 0) 0)) p120.1.length (slC (vtup (vtup (sl a 29) 0) 0)), .bool p120.2.1]) rfl sz25 (ev_sl e9) (ev_sl e30) rfl rfl rfl (S.free 0 rfl) rfl rfl, trivial, S.put 0 rfl (#[.slice (slA (vtup (vtup (sl a 29) 0) 0)) p120.1.length (slC (vtup (vtup (sl a 29) 0) 0)), .bool p120.2.1])⟩)
          · intro a u X hB hu hp hr hz hl S
            replace S : St w u ([] ++ X) := S
            have e31 : sl a 31 = .bool p120.2.2 := hp 8 rfl
            exact .inl ⟨rfl, .bool p120.2.2, u, (run_assign rfl (ev_sl e31)), rfl, S⟩
        · intro a u hB hp S
          obtain ⟨q0, q1, q2, q3, q4, q5, q6, q7, q8, q9, q10, q11, _⟩ := hp
          have e24 : sl a 24 = .agg #[.slice B116 p115.2.2.1.length d117, .bool p115.2.2.2] := q0
          have e25 : sl a 25 = .slice A2 x2.length c2 := q1
          have e26 : sl a 26 = .int .i64 p115.2.1 := q2
          have e27 : sl a 27 = .pointer (some ⟨adB A2, adO A2 + p115.2.1.toNat * 1, none⟩) := q3
          have e28 : sl a 28 = .int .i64 (x2.getD p115.2.1.toNat (0 : Int)) := q4
          have e29 : sl a 29 = .tuple #[.agg #[.slice (slA (vtup (vtup (sl a 29) 0) 0)) p120.1.length (slC (vtup (vtup (sl a 29) 0) 0)), .bool p120.2.1], .bool p120.2.2] := q5
          have e23 : sl a 23 = .tuple #[.agg #[.slice (slA (vtup (vtup (sl a 29) 0) 0)) p120.1.length (slC (vtup (vtup (sl a 29) 0) 0)), .bool p120.2.1], .bool p120.2.2] := q6
          have e30 : sl a 30 = .agg #[.slice (slA (vtup (vtup (sl a 29) 0) 0)) p120.1.length (slC (vtup (vtup (sl a 29) 0) 0)), .bool p120.2.1] := q7
          have e31 : sl a 31 = .bool p120.2.2 := q8
          have e9 : sl a 9 = .pointer (some ⟨ptB (sl a 9), 0, none⟩) := q9
          have e10 : sl a 10 = .bool p120.2.2 := q11
          replace S : St w u [.row 3 1 (.slice (slA (vtup (vtup (sl a 29) 0) 0)) p120.1.length (slC (vtup (vtup (sl a 29) 0) 0))) p120.1.length (p120.1.flatMap eI), .box (ptB (sl a 9)) 25 #[.slice (slA (vtup (vtup (sl a 29) 0) 0)) p120.1.length (slC (vtup (vtup (sl a 29) 0) 0)), .bool p120.2.1], .box g109 25 #[.slice B116 p115.2.2.1.length d117, .bool p115.2.2.2], .box g102 25 #[.slice none 0 0, .bool false], .row 3 1 (.slice B116 p115.2.2.1.length d117) p115.2.2.1.length (p115.2.2.1.flatMap eI)] := S
          clear q0 q1 q2 q3 q4 q5 q6 q7 q8 q9 q10 q11
          generalize slA (vtup (vtup (sl a 29) 0) 0) = B124 at *
          generalize slC (vtup (vtup (sl a 29) 0) 0) = d125 at *
          generalize ptB (sl a 9) = g126 at *
          have hF := hF.region hB [(24, .agg #[.slice B116 p115.2.2.1.length d117, .bool p115.2.2.2]), (25, .slice A2 x2.length c2), (26, .int .i64 p115.2.1), (27, .pointer (some ⟨adB A2, adO A2 + p115.2.1.toNat * 1, none⟩)), (28, .int .i64 (x2.getD p115.2.1.toNat (0 : Int))), (29, .tuple #[.agg #[.slice B124 p120.1.length d125, .bool p120.2.1], .bool p120.2.2]), (23, .tuple #[.agg #[.slice B124 p120.1.length d125, .bool p120.2.1], .bool p120.2.2]), (30, .agg #[.slice B124 p120.1.length d125, .bool p120.2.1]), (31, .bool p120.2.2), (9, .pointer (some ⟨g126, 0, none⟩)), (10, .bool p120.2.2)] (allSl_mem ⟨e24, e25, e26, e27, e28, e29, e23, e30, e31, e9, e10, trivial⟩) rfl
          clear hB e24 e25 e26 e27 e28 e29 e23 e30 e31 e9 e10
          refine wp_seq ?_
          refine wp_region_lit ?_
          refine op_val (v := .bool p120.2.2) rfl rfl hF rfl (run_move rfl (hF.ev rfl)) ?_; clear hF; intro a hF
          refine wpList_nil ?_
          obtain ⟨o128, hM131, hM114⟩ := bind_ex hM114
          refine wp_cut (fun a u => ∃ (p127 : Int × List Int × Bool) (B129 : Option Addr) (d130 : Nat), p127 = o128 ∧ Fr a 38 [(1, .slice A2 x2.length c2), (4, .pointer (some ⟨g102, 0, none⟩)), (5, .int .i64 0), (6, .pointer (some ⟨g109, 0, none⟩)), (7, .int .i64 p127.1), (8, .int .i64 p115.2.1)] ∧ St w u [.box g109 25 #[.slice B129 p127.2.1.length d130, .bool p127.2.2], .box g102 25 #[.slice none 0 0, .bool false], .row 3 1 (.slice B129 p127.2.1.length d130) p127.2.1.length (p127.2.1.flatMap eI)]) ?_ ?_
          · have _ := trivial
            cases hc132 : (p120.2.2)
            · replace hM131 := bif_f hc132 hM131
              refine cond_f hF rfl hc132 ?_
              refine wp_skip ?_
              obtain rfl := Option.some.inj hM131
              exact ⟨(p115.1, p115.2.2.1, p115.2.2.2), B116, d117, rfl, hF.keep _ ⟨rfl, rfl, rfl, rfl, rfl, rfl, trivial⟩, S.sel [2, 3, 4] rfl rfl⟩
            · replace hM131 := bif_t hc132 hM131
              refine cond_t hF rfl hc132 ?_
              refine wp_seq ?_
              refine wp_region_lit ?_
              refine op_val (v := .agg #[.slice B124 p120.1.length d125, .bool p120.2.1]) rfl rfl hF rfl (run_loadN rfl ag25 (hF.ev rfl) rfl ((S.free 1 rfl).cells 0 #[.slice B124 p120.1.length d125, .bool p120.2.1] rfl)) ?_; clear hF; intro a hF
              refine op_do rfl rfl (run_store (cs' := #[.slice B124 p120.1.length d125, .bool p120.2.1]) rfl sz25 (hF.ev rfl) (hF.ev rfl) rfl rfl rfl (S.free 2 rfl) rfl rfl) ?_; replace S := S.put 2 rfl (#[.slice B124 p120.1.length d125, .bool p120.2.1])
              generalize World.setRow _ _ _ = u at S ⊢
              refine wpList_nil ?_
              refine wp_region_lit ?_
              refine op_val (v := .int .i64 p115.1) rfl rfl hF rfl (run_move rfl (hF.ev rfl)) ?_; clear hF; intro a hF
              refine op_val (v := .int .i64 (w64 (p115.1 + 1))) rfl rfl hF rfl (run_add (z := w64 (p115.1 + 1)) (hF.ev rfl) rfl rfl rfl) ?_; clear hF; intro a hF
              refine op_val (v := .int .i64 (w64 (p115.1 + 1))) rfl rfl hF rfl (run_assign rfl (hF.ev rfl)) ?_; clear hF; intro a hF
              refine wpList_nil ?_
              obtain rfl := Option.some.inj hM131
              exact ⟨(w64 (p115.1 + 1), p120.1, p120.2.1), B124, d125, rfl, hF.keep _ ⟨rfl, rfl, rfl, rfl, rfl, rfl, trivial⟩, S.sel [2, 3, 0] rfl rfl⟩
          · rintro a u ⟨p127, B129, d130, rfl, hF, S⟩
            refine wp_region_lit ?_
            refine op_val (v := .int .i64 p115.2.1) rfl rfl hF rfl (run_move rfl (hF.ev rfl)) ?_; clear hF; intro a hF
            refine op_val (v := .int .i64 (w64 (p115.2.1 + 1))) rfl rfl hF rfl (run_add (z := w64 (p115.2.1 + 1)) (hF.ev rfl) rfl rfl rfl) ?_; clear hF; intro a hF
            refine op_val (v := .int .i64 (w64 (p115.2.1 + 1))) rfl rfl hF rfl (run_assign rfl (hF.ev rfl)) ?_; clear hF; intro a hF
            refine wpList_nil ?_
            exact ⟨f1, Nat.lt_succ_self _, (p127.1, w64 (p115.2.1 + 1), p127.2.1, p127.2.2), B129, d130, hM114, hF.keep _ ⟨rfl, rfl, rfl, rfl, rfl, rfl, trivial⟩, S.sel [0, 1, 2] rfl rfl⟩
    · rintro a u ⟨p110, B112, d113, rfl, hF, S⟩
      refine wp_seq ?_
      refine wp_region_lit ?_
      refine op_val (v := .agg #[.slice B112 p110.2.1.length d113, .bool p110.2.2]) rfl rfl hF rfl (run_loadN rfl ag25 (hF.ev rfl) rfl ((S.free 0 rfl).cells 0 #[.slice B112 p110.2.1.length d113, .bool p110.2.2] rfl)) ?_; clear hF; intro a hF
      refine op_val (v := .int .i64 p110.1) rfl rfl hF rfl (run_move rfl (hF.ev rfl)) ?_; clear hF; intro a hF
      refine op_do rfl rfl (run_store (cs' := #[.slice B112 p110.2.1.length d113, .bool p110.2.2]) rfl sz25 (hF.ev rfl) (hF.ev rfl) rfl rfl rfl (S.free 1 rfl) rfl rfl) ?_; replace S := S.put 1 rfl (#[.slice B112 p110.2.1.length d113, .bool p110.2.2])
      generalize World.setRow _ _ _ = u at S ⊢
      refine op_val (v := .int .i64 p110.1) rfl rfl hF rfl (run_assign rfl (hF.ev rfl)) ?_; clear hF; intro a hF
      refine wpList_nil ?_
      refine wp_ret ?_
      repeat with_reducible (first | refine then_ret ?_ | refine in_ret ?_ | refine in_nrm ?_)
      refine ret2_gw (.inl rfl) hF rfl (res_cell (hF.ev rfl) (res_loadN ag25 rfl (S.cells 1 rfl 0 #[.slice B112 p110.2.1.length d113, .bool p110.2.2] rfl))) (res_tmp (hF.ev rfl)) ?_
      obtain rfl := Option.some.inj hM
      exact ⟨B112, p110.2.1.length, d113, rfl, rfl, S.sel [2] rfl rfl⟩

end Go.Proofs.YtandfbpanaldcaaDoor
