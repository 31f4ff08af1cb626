/- Calls return what the models say. -/
import Derived.Test.YtandfbpanaldcaaDoorDa2
namespace Go.Proofs.YtandfbpanaldcaaDoor
open Go.ChangeShapes Go.WideShapes Go.ChangeAt Go.RowKit
set_option linter.unusedVariables false
set_option linter.unusedSimpArgs false

set_option maxHeartbeats 4000000 in
theorem c_laws_FnBarsRun {x0 : List Int} {A0 : Option Addr} {n0 c0 : Nat} {w : World} {r : Bool} (h0 : Rt w 1 eU A0 n0 c0 x0) (hM : m_laws_FnBarsRun x0 = some r) :
    Calls Tryd.prog 5 #[.slice A0 n0 c0] w (fun e w' => e = .returned (.bool r) ∧ St w w' []) := by
  obtain rfl := h0.len
  unfold m_laws_FnBarsRun at hM
  refine calls_gw Tryd.func5 Tryd.ntmps5 rfl [(0, .slice A0 x0.length c0)] ⟨rfl, trivial⟩ rfl ?_
  intro a hF
  have S := St.nil w
  refine wp_seq ?_
  refine wp_region_lit ?_
  refine op_val (v := .bool false) rfl rfl hF rfl (run_assign rfl rfl) ?_; clear hF; intro a hF
  refine wpList_nil ?_
  refine wp_seq ?_
  refine wp_seq ?_
  refine wp_region_lit ?_
  refine op_val (v := .slice A0 x0.length c0) rfl rfl hF rfl (run_move rfl (hF.ev rfl)) ?_; clear hF; intro a hF
  refine op_val (v := .int .i64 (x0.length : Int)) rfl rfl hF rfl (run_lenL rfl rfl Tryd.underlying22 (hF.ev rfl)) ?_; clear hF; intro a hF
  refine op_val (v := .bool (ltB 1048576 (x0.length : Int))) rfl rfl hF rfl (run_gtr (hF.ev rfl) rfl rfl) ?_; clear hF; intro a hF
  refine wpList_nil ?_
  cases hc101 : (ltB 1048576 (x0.length : Int))
  · replace hM := bif_f hc101 hM
    refine cond_f hF rfl hc101 ?_
    refine wp_skip ?_
    refine wp_seq ?_
    refine wp_region_lit ?_
    refine op_val (v := .slice A0 x0.length c0) rfl rfl hF rfl (run_move rfl (hF.ev rfl)) ?_; clear hF; intro a hF
    obtain ⟨p102, h102, hM⟩ := bind_ex hM
    refine op_call rfl rfl hF rfl (run_call (vs := [.slice A0 x0.length c0]) rfl rfl co18 ⟨(hF.ev rfl), trivial⟩) (c_spec_DrawBarsRun (x0 := x0) ⟨(S.rc0 h0.rc), rfl⟩ h102) ?_
    rintro e u ⟨B103, n104, d105, B106, n107, d108, rfl, rfl, rfl, T⟩
    refine ⟨_, rfl, ?_⟩
    clear hF; intro a hF
    replace S := S.call2 T; clear T
    refine op_val (v := .tuple #[.agg #[.slice B103 p102.1.length d105, .bool p102.2.1], .slice B106 p102.2.2.length d108]) rfl rfl hF rfl (run_move rfl (hF.ev rfl)) ?_; clear hF; intro a hF
    refine op_val (v := .agg #[.slice B103 p102.1.length d105, .bool p102.2.1]) rfl rfl hF rfl (run_extract rfl (hF.ev rfl) rfl) ?_; clear hF; intro a hF
    refine op_val (v := .slice B106 p102.2.2.length d108) rfl rfl hF rfl (run_extract rfl (hF.ev rfl) rfl) ?_; clear hF; intro a hF
    refine op_new (cs := #[.slice none 0 0, .bool false]) rfl rfl hF rfl S (run_allocZ rfl zr25) ?_; clear hF S; intro a g109 u hF S
    refine op_do rfl rfl (run_store (cs' := #[.slice B103 p102.1.length d105, .bool p102.2.1]) rfl sz25 (hF.ev rfl) (hF.ev rfl) rfl rfl rfl (S.free 0 rfl) rfl rfl) ?_; replace S := S.put 0 rfl (#[.slice B103 p102.1.length d105, .bool p102.2.1])
    generalize World.setRow _ _ _ = u at S ⊢
    refine op_val (v := .slice B106 p102.2.2.length d108) rfl rfl hF rfl (run_assign rfl (hF.ev rfl)) ?_; clear hF; intro a hF
    refine wpList_nil ?_
    refine wp_seq ?_
    refine wp_region_lit ?_
    refine op_val (v := .agg #[.slice B103 p102.1.length d105, .bool p102.2.1]) rfl rfl hF rfl (run_loadN rfl ag25 (hF.ev rfl) rfl ((S.free 0 rfl).cells 0 #[.slice B103 p102.1.length d105, .bool p102.2.1] rfl)) ?_; clear hF; intro a hF
    refine op_val (v := .slice B106 p102.2.2.length d108) rfl rfl hF rfl (run_move rfl (hF.ev rfl)) ?_; clear hF; intro a hF
    obtain ⟨p110, h110, hM⟩ := bind_ex hM
    refine op_call rfl rfl hF rfl (run_call (vs := [.agg #[.slice B103 p102.1.length d105, .bool p102.2.1], .slice B106 p102.2.2.length d108]) rfl rfl co17 ⟨(hF.ev rfl), (hF.ev rfl), trivial⟩) (c_impl_BarsRun (x0 := p102.1) (x1 := p102.2.1) (x2 := p102.2.2) ⟨(S.rc 1 rfl), rfl⟩ ⟨(S.rc 2 rfl), rfl⟩ h110) ?_
    rintro e u ⟨B111, n112, d113, rfl, rfl, T⟩
    refine ⟨_, rfl, ?_⟩
    clear hF; intro a hF
    replace S := S.call1 T; clear T
    refine op_val (v := .tuple #[.agg #[.slice B111 p110.1.length d113, .bool p110.2.1], .int .i64 p110.2.2]) rfl rfl hF rfl (run_move rfl (hF.ev rfl)) ?_; clear hF; intro a hF
    refine op_val (v := .agg #[.slice B111 p110.1.length d113, .bool p110.2.1]) rfl rfl hF rfl (run_extract rfl (hF.ev rfl) rfl) ?_; clear hF; intro a hF
    refine op_val (v := .int .i64 p110.2.2) rfl rfl hF rfl (run_extract rfl (hF.ev rfl) rfl) ?_; clear hF; intro a hF
    refine op_new (cs := #[.slice none 0 0, .bool false]) rfl rfl hF rfl S (run_allocZ rfl zr25) ?_; clear hF S; intro a g114 u hF S
    refine op_do rfl rfl (run_store (cs' := #[.slice B111 p110.1.length d113, .bool p110.2.1]) rfl sz25 (hF.ev rfl) (hF.ev rfl) rfl rfl rfl (S.free 0 rfl) rfl rfl) ?_; replace S := S.put 0 rfl (#[.slice B111 p110.1.length d113, .bool p110.2.1])
    generalize World.setRow _ _ _ = u at S ⊢
    refine op_val (v := .int .i64 p110.2.2) rfl rfl hF rfl (run_assign rfl (hF.ev rfl)) ?_; clear hF; intro a hF
    refine wpList_nil ?_
    refine wp_seq ?_
    refine wp_region_lit ?_
    refine op_val (v := .agg #[.slice B103 p102.1.length d105, .bool p102.2.1]) rfl rfl hF rfl (run_loadN rfl ag25 (hF.ev rfl) rfl ((S.free 2 rfl).cells 0 #[.slice B103 p102.1.length d105, .bool p102.2.1] rfl)) ?_; clear hF; intro a hF
    refine op_val (v := .slice B106 p102.2.2.length d108) rfl rfl hF rfl (run_move rfl (hF.ev rfl)) ?_; clear hF; intro a hF
    obtain ⟨p115, h115, hM⟩ := bind_ex hM
    refine op_call rfl rfl hF rfl (run_call (vs := [.agg #[.slice B103 p102.1.length d105, .bool p102.2.1], .slice B106 p102.2.2.length d108]) rfl rfl co19 ⟨(hF.ev rfl), (hF.ev rfl), trivial⟩) (c_spec_BarsRun (x0 := p102.1) (x1 := p102.2.1) (x2 := p102.2.2) ⟨(S.rc 3 rfl), rfl⟩ ⟨(S.rc 4 rfl), rfl⟩ h115) ?_
    rintro e u ⟨B116, n117, d118, rfl, rfl, T⟩
    refine ⟨_, rfl, ?_⟩
    clear hF; intro a hF
    replace S := S.call1 T; clear T
    refine op_val (v := .tuple #[.agg #[.slice B116 p115.1.length d118, .bool p115.2.1], .int .i64 p115.2.2]) rfl rfl hF rfl (run_move rfl (hF.ev rfl)) ?_; clear hF; intro a hF
    refine op_val (v := .agg #[.slice B116 p115.1.length d118, .bool p115.2.1]) rfl rfl hF rfl (run_extract rfl (hF.ev rfl) rfl) ?_; clear hF; intro a hF
    refine op_val (v := .int .i64 p115.2.2) rfl rfl hF rfl (run_extract rfl (hF.ev rfl) rfl) ?_; clear hF; intro a hF
    refine op_new (cs := #[.slice none 0 0, .bool false]) rfl rfl hF rfl S (run_allocZ rfl zr25) ?_; clear hF S; intro a g119 u hF S
    refine op_do rfl rfl (run_store (cs' := #[.slice B116 p115.1.length d118, .bool p115.2.1]) rfl sz25 (hF.ev rfl) (hF.ev rfl) rfl rfl rfl (S.free 0 rfl) rfl rfl) ?_; replace S := S.put 0 rfl (#[.slice B116 p115.1.length d118, .bool p115.2.1])
    generalize World.setRow _ _ _ = u at S ⊢
    refine op_val (v := .int .i64 p115.2.2) rfl rfl hF rfl (run_assign rfl (hF.ev rfl)) ?_; clear hF; intro a hF
    refine wpList_nil ?_
    refine wp_seq ?_
    refine wp_seq ?_
    refine wp_region_lit ?_
    refine op_val (v := .agg #[.slice B111 p110.1.length d113, .bool p110.2.1]) rfl rfl hF rfl (run_loadN rfl ag25 (hF.ev rfl) rfl ((S.free 2 rfl).cells 0 #[.slice B111 p110.1.length d113, .bool p110.2.1] rfl)) ?_; clear hF; intro a hF
    refine op_val (v := .agg #[.slice B116 p115.1.length d118, .bool p115.2.1]) rfl rfl hF rfl (run_loadN rfl ag25 (hF.ev rfl) rfl ((S.free 0 rfl).cells 0 #[.slice B116 p115.1.length d118, .bool p115.2.1] rfl)) ?_; clear hF; intro a hF
    obtain ⟨p120, h120, hM⟩ := bind_ex hM
    refine op_call rfl rfl hF rfl (run_call (vs := [.agg #[.slice B111 p110.1.length d113, .bool p110.2.1], .agg #[.slice B116 p115.1.length d118, .bool p115.2.1]]) rfl rfl co10 ⟨(hF.ev rfl), (hF.ev rfl), trivial⟩) (c_laws_sameBars (x0 := p110.1) (x1 := p110.2.1) (x2 := p115.1) (x3 := p115.2.1) ⟨(S.rc 3 rfl), rfl⟩ ⟨(S.rc 1 rfl), rfl⟩ h120) ?_
    rintro e u ⟨rfl, T⟩
    refine ⟨_, rfl, ?_⟩
    clear hF; intro a hF
    replace S := S.call0 T; clear T
    refine op_val (v := .bool (!p120)) rfl rfl hF rfl (run_not rfl (hF.ev rfl)) ?_; clear hF; intro a hF
    refine op_val (v := .bool (!p120)) rfl rfl hF rfl (run_move rfl (hF.ev rfl)) ?_; clear hF; intro a hF
    refine op_gv (v := .int .i64 p110.2.2) rfl rfl hF rfl (yf (gw_yield hF rfl rfl rfl)) (fun hg => (run_move rfl (hF.ev rfl))) ?_; clear hF; intro a hF
    refine op_gv (v := .int .i64 p115.2.2) rfl rfl hF rfl (yf (gw_yield hF rfl rfl rfl)) (fun hg => (run_move rfl (hF.ev rfl))) ?_; clear hF; intro a hF
    refine op_gv (v := .bool (p110.2.2 != p115.2.2)) rfl rfl hF rfl (yf (gw_yield hF rfl rfl rfl)) (fun hg => (run_neq ((hF.ev rfl).trans (gv_t hg)) ((hF.ev rfl).trans (gv_t hg)) rfl)) ?_; clear hF; intro a hF
    refine op_val (v := .bool ((!p120) || (p110.2.2 != p115.2.2))) rfl rfl hF rfl (run_pick_or rfl (hF.ev rfl) rfl (fun hp => ((hF.ev rfl).trans (gv_t (not_t hp))))) ?_; clear hF; intro a hF
    refine wpList_nil ?_
    cases hc121 : ((!p120) || (p110.2.2 != p115.2.2))
    · replace hM := bif_f hc121 hM
      refine cond_f hF rfl hc121 ?_
      refine wp_skip ?_
      refine wp_seq ?_
      refine wp_seq ?_
      refine wp_region_lit ?_
      refine op_val (v := .agg #[.slice B103 p102.1.length d105, .bool p102.2.1]) rfl rfl hF rfl (run_loadN rfl ag25 (hF.ev rfl) rfl ((S.free 4 rfl).cells 0 #[.slice B103 p102.1.length d105, .bool p102.2.1] rfl)) ?_; clear hF; intro a hF
      obtain ⟨p122, h122, hM⟩ := bind_ex hM
      refine op_call rfl rfl hF rfl (run_call (vs := [.agg #[.slice B103 p102.1.length d105, .bool p102.2.1]]) rfl rfl co20 ⟨(hF.ev rfl), trivial⟩) (c_spec_BarsValid (x0 := p102.1) (x1 := p102.2.1) ⟨(S.rc 5 rfl), rfl⟩ h122) ?_
      rintro e u ⟨rfl, T⟩
      refine ⟨_, rfl, ?_⟩
      clear hF; intro a hF
      replace S := S.call0 T; clear T
      refine op_val (v := .bool (!p122)) rfl rfl hF rfl (run_not rfl (hF.ev rfl)) ?_; clear hF; intro a hF
      refine wpList_nil ?_
      cases hc123 : (p122)
      · replace hM := bif_f hc123 hM
        refine cond_t hF rfl (not_t hc123) ?_
        refine wp_seq ?_
        refine wp_region_lit ?_
        refine op_val (v := .int .i64 p110.2.2) rfl rfl hF rfl (run_move rfl (hF.ev rfl)) ?_; clear hF; intro a hF
        refine op_val (v := .bool (p110.2.2 == 0)) rfl rfl hF rfl (run_eql (hF.ev rfl) rfl rfl) ?_; clear hF; intro a hF
        refine op_val (v := .bool (p110.2.2 == 0)) rfl rfl hF rfl (run_move rfl (hF.ev rfl)) ?_; clear hF; intro a hF
        refine op_gv (v := .pointer (some ⟨g114, 0, none⟩)) rfl rfl hF rfl (yt (gw_yield hF rfl rfl rfl)) (fun hg => (run_fieldAddr rfl fl25_0 (hF.ev rfl) rfl)) ?_; clear hF; intro a hF
        refine op_gv (v := .slice B111 p110.1.length d113) rfl rfl hF rfl (yt (gw_yield hF rfl rfl rfl)) (fun hg => (run_load1 rfl one23 ((hF.ev rfl).trans (gv_t hg)) ((S.free 2 rfl).cell rfl))) ?_; clear hF; intro a hF
        refine op_gv (v := .int .i64 (p110.1.length : Int)) rfl rfl hF rfl (yt (gw_yield hF rfl rfl rfl)) (fun hg => (run_lenL rfl rfl Tryd.underlying23 ((hF.ev rfl).trans (gv_t hg)))) ?_; clear hF; intro a hF
        refine op_gv (v := .bool ((p110.1.length : Int) == 0)) rfl rfl hF rfl (yt (gw_yield hF rfl rfl rfl)) (fun hg => (run_eql ((hF.ev rfl).trans (gv_t hg)) rfl rfl)) ?_; clear hF; intro a hF
        refine op_val (v := .bool ((p110.2.2 == 0) && ((p110.1.length : Int) == 0))) rfl rfl hF rfl (run_pick_and rfl (hF.ev rfl) (fun hp => ((hF.ev rfl).trans (gv_t hp))) rfl) ?_; clear hF; intro a hF
        refine op_val (v := .bool ((p110.2.2 == 0) && ((p110.1.length : Int) == 0))) rfl rfl hF rfl (run_move rfl (hF.ev rfl)) ?_; clear hF; intro a hF
        obtain ⟨p124, h124, hM⟩ := bind_ex hM
        refine op_gcall (v := .bool p124) rfl rfl hF rfl S (yt (gw_yield hF rfl rfl rfl)) (fun hg => (run_call (vs := []) rfl rfl co11 trivial)) (fun hg => c_laws_alive   (gb_t h124 hg)) ?_; clear hF S; intro a u hF S
        refine op_val (v := .bool (((p110.2.2 == 0) && ((p110.1.length : Int) == 0)) && p124)) rfl rfl hF rfl (run_pick_and rfl (hF.ev rfl) (fun hp => ((hF.ev rfl).trans (gv_t hp))) rfl) ?_; clear hF; intro a hF
        refine op_val (v := .bool (((p110.2.2 == 0) && ((p110.1.length : Int) == 0)) && p124)) rfl rfl hF rfl (run_assign rfl (hF.ev rfl)) ?_; clear hF; intro a hF
        refine wpList_nil ?_
        refine wp_ret ?_
        repeat with_reducible (first | refine then_ret ?_ | refine in_ret ?_ | refine in_nrm ?_)
        refine ret1_gw (.inl rfl) hF rfl (res_tmp (hF.ev rfl)) ?_
        obtain rfl := Option.some.inj hM
        exact ⟨rfl, S.sel [] rfl rfl⟩
      · replace hM := bif_t hc123 hM
        refine cond_f hF rfl (not_f hc123) ?_
        refine wp_skip ?_
        refine wp_seq ?_
        refine wp_region_lit ?_
        refine op_val (v := .slice B106 p102.2.2.length d108) rfl rfl hF rfl (run_move rfl (hF.ev rfl)) ?_; clear hF; intro a hF
        refine op_val (v := .int .i64 (p102.2.2.length : Int)) rfl rfl hF rfl (run_lenL rfl rfl Tryd.underlying23 (hF.ev rfl)) ?_; clear hF; intro a hF
        refine op_val (v := .int .i64 (w64 (Int.tdiv (p102.2.2.length : Int) 2))) rfl rfl hF rfl (run_quo (z := w64 (Int.tdiv (p102.2.2.length : Int) 2)) (hF.ev rfl) rfl rfl (by decide) rfl) ?_; clear hF; intro a hF
        refine op_val (v := .int .i64 (w64 (Int.tdiv (p102.2.2.length : Int) 2))) rfl rfl hF rfl (run_assign rfl (hF.ev rfl)) ?_; clear hF; intro a hF
        refine wpList_nil ?_
        refine wp_seq ?_
        obtain ⟨hk125, hM⟩ := chk_ex hM
        replace hk125 := slB_t hk125
        obtain ⟨p126, h126, hM⟩ := bind_ex hM
        refine region_gw (D := [61, 62, 63, 64, 65, 60, 66, 67, 10, 11]) (Lr := [.box g119 25 #[.slice B116 p115.1.length d118, .bool p115.2.1], .row 3 1 (.slice B116 p115.1.length d118) p115.1.length (p115.1.flatMap eI), .box g114 25 #[.slice B111 p110.1.length d113, .bool p110.2.1], .row 3 1 (.slice B111 p110.1.length d113) p110.1.length (p110.1.flatMap eI), .box g109 25 #[.slice B103 p102.1.length d105, .bool p102.2.1], .row 3 1 (.slice B103 p102.1.length d105) p102.1.length (p102.1.flatMap eI), .row 3 1 (.slice B106 p102.2.2.length d108) p102.2.2.length (p102.2.2.flatMap eI)]) (deps := (fun | 0 => [61] | 1 => [62] | 2 => [63] | 3 => [64] | 4 => [65] | 5 => [60, 65] | 6 => [66, 65] | 7 => [67] | 8 => [10] | 9 => [10, 65] | 10 => [11] | _ => [])) (rd := (fun _ => [])) (zr := (fun _ => []))
          (φ := fun i vs => match i, vs with | 0, [v61] => v61 = .agg #[.slice B103 p102.1.length d105, .bool p102.2.1] | 1, [v62] => v62 = .slice B106 p102.2.2.length d108 | 2, [v63] => v63 = .int .i64 (w64 (Int.tdiv (p102.2.2.length : Int) 2)) | 3, [v64] => v64 = .slice (subA d108 ((0 : Int).toNat) 1 B106) ((subL p102.2.2 0 (w64 (Int.tdiv (p102.2.2.length : Int) 2))).length) (d108 - (0 : Int).toNat) | 4, [v65] => v65 = .tuple #[.agg #[.slice (slA (vtup (vtup v65 0) 0)) p126.1.length (slC (vtup (vtup v65 0) 0)), .bool p126.2.1], .int .i64 p126.2.2] | 5, [v60, v65] => v60 = .tuple #[.agg #[.slice (slA (vtup (vtup v65 0) 0)) p126.1.length (slC (vtup (vtup v65 0) 0)), .bool p126.2.1], .int .i64 p126.2.2] | 6, [v66, v65] => v66 = .agg #[.slice (slA (vtup (vtup v65 0) 0)) p126.1.length (slC (vtup (vtup v65 0) 0)), .bool p126.2.1] | 7, [v67] => v67 = .int .i64 p126.2.2 | 8, [v10] => v10 = .pointer (some ⟨ptB v10, 0, none⟩) | 10, [v11] => v11 = .int .i64 p126.2.2 | _, _ => True)
          (C := fun i vs => match i, vs with | 4, [v65] => [.row 3 1 (.slice (slA (vtup (vtup v65 0) 0)) p126.1.length (slC (vtup (vtup v65 0) 0))) p126.1.length (p126.1.flatMap eI)] | 8, [v10] => [.box (ptB v10) 25 #[.slice none 0 0, .bool false]] | 9, [v10, v65] => [.box (ptB v10) 25 #[.slice (slA (vtup (vtup v65 0) 0)) p126.1.length (slC (vtup (vtup v65 0) 0)), .bool p126.2.1]] | _, _ => [])
          (κ := (fun | 8 => some 9 | _ => none)) (Z := (fun _ => [])) mixed hF (by kernel_rfl) S ?_ ?_
        · refine ⟨?_, ?_, ?_, ?_, ?_, ?_, ?_, ?_, ?_, ?_, ?_, trivial⟩
          · intro a u X hB hu hp hr hz hl S
            replace S : St w u ([] ++ X) := S
            exact .inl ⟨rfl, .agg #[.slice B103 p102.1.length d105, .bool p102.2.1], u, (run_loadN rfl ag25 (hF.evB hB rfl rfl) rfl ((gr_box S hl 4 rfl).cells 0 #[.slice B103 p102.1.length d105, .bool p102.2.1] rfl)), rfl, S⟩
          · intro a u X hB hu hp hr hz hl S
            replace S : St w u ([] ++ X) := S
            exact .inl ⟨rfl, .slice B106 p102.2.2.length d108, u, (run_move rfl (hF.evB hB rfl rfl)), rfl, S⟩
          · intro a u X hB hu hp hr hz hl S
            replace S : St w u ([] ++ X) := S
            exact .inl ⟨rfl, .int .i64 (w64 (Int.tdiv (p102.2.2.length : Int) 2)), u, (run_move rfl (hF.evB hB rfl rfl)), rfl, S⟩
          · intro a u X hB hu hp hr hz hl S
            replace S : St w u ([] ++ X) := S
            have e62 : sl a 62 = .slice B106 p102.2.2.length d108 := hp 1 rfl
            have e63 : sl a 63 = .int .i64 (w64 (Int.tdiv (p102.2.2.length : Int) 2)) := hp 2 rfl
            exact .inl ⟨rfl, .slice (subA d108 ((0 : Int).toNat) 1 B106) ((subL p102.2.2 0 (w64 (Int.tdiv (p102.2.2.length : Int) 2))).length) (d108 - (0 : Int).toNat), u, (run_sliceH (l := p102.2.2) rfl Tryd.underlying23 sz3 (ev_sl e62) (ev_sl e63) hk125 rfl (gr_rc S hl 6 rfl).cap), rfl, S⟩
          · intro a u X hB hu hp hr hz hl S
            replace S : St w u ([] ++ X) := S
            have e61 : sl a 61 = .agg #[.slice B103 p102.1.length d105, .bool p102.2.1] := hp 0 rfl
            have e64 : sl a 64 = .slice (subA d108 ((0 : Int).toNat) 1 B106) ((subL p102.2.2 0 (w64 (Int.tdiv (p102.2.2.length : Int) 2))).length) (d108 - (0 : Int).toNat) := hp 3 rfl
            refine .inr (.inr (.inl ⟨rfl, _, _, (run_call (vs := [.agg #[.slice B103 p102.1.length d105, .bool p102.2.1], .slice (subA d108 ((0 : Int).toNat) 1 B106) ((subL p102.2.2 0 (w64 (Int.tdiv (p102.2.2.length : Int) 2))).length) (d108 - (0 : Int).toNat)]) rfl rfl co17 ⟨(ev_sl e61), (ev_sl e64), trivial⟩), ?_⟩))
            refine Calls.mono (c_impl_BarsRun (x0 := p102.1) (x1 := p102.2.1) (x2 := subL p102.2.2 0 (w64 (Int.tdiv (p102.2.2.length : Int) 2))) ⟨(gr_rc S hl 5 rfl), rfl⟩ ⟨(rc_sub eI_len hk125 rfl (gr_rc S hl 6 rfl)), rfl⟩ h126) ?_
            rintro e w1 ⟨B127, n128, d129, rfl, rfl, T⟩
            exact ⟨_, rfl, rfl, S.call1 T⟩
          · intro a u X hB hu hp hr hz hl S
            replace S : St w u ([] ++ X) := S
            have e65 : sl a 65 = .tuple #[.agg #[.slice (slA (vtup (vtup (sl a 65) 0) 0)) p126.1.length (slC (vtup (vtup (sl a 65) 0) 0)), .bool p126.2.1], .int .i64 p126.2.2] := hp 4 rfl
            exact .inl ⟨rfl, .tuple #[.agg #[.slice (slA (vtup (vtup (sl a 65) 0) 0)) p126.1.length (slC (vtup (vtup (sl a 65) 0) 0)), .bool p126.2.1], .int .i64 p126.2.2], u, (run_move rfl (ev_sl e65)), rfl, S⟩
          · intro a u X hB hu hp hr hz hl S
            replace S : St w u ([] ++ X) := S
            have e60 : sl a 60 = .tuple #[.agg #[.slice (slA (vtup (vtup (sl a 65) 0) 0)) p126.1.length (slC (vtup (vtup (sl a 65) 0) 0)), .bool p126.2.1], .int .i64 p126.2.2] := hp 5 rfl
            exact .inl ⟨rfl, .agg #[.slice (slA (vtup (vtup (sl a 65) 0) 0)) p126.1.length (slC (vtup (vtup (sl a 65) 0) 0)), .bool p126.2.1], u, (run_extract rfl (ev_sl e60) rfl), rfl, S⟩
          · intro a u X hB hu hp hr hz hl S
            replace S : St w u ([] ++ X) := S
            have e60 : sl a 60 = .tuple #[.agg #[.slice (slA (vtup (vtup (sl a 65) 0) 0)) p126.1.length (slC (vtup (vtup (sl a 65) 0) 0)), .bool p126.2.1], .int .i64 p126.2.2] := hp 5 rfl
            exact .inl ⟨rfl, .int .i64 p126.2.2, u, (run_extract rfl (ev_sl e60) rfl), rfl, S⟩
          · intro a u X hB hu hp hr hz hl S
            replace S : St w u ([] ++ X) := S
            exact .inl ⟨rfl, _, _, (run_allocZ rfl zr25), rfl, S.alloc _ _⟩
          · intro a u X hB hu hp hr hz hl S
            replace S : St w u ([.box (ptB (sl a 10)) 25 #[.slice none 0 0, .bool false]] ++ X) := S
            have e10 : sl a 10 = .pointer (some ⟨ptB (sl a 10), 0, none⟩) := hp 8 rfl
            have e66 : sl a 66 = .agg #[.slice (slA (vtup (vtup (sl a 65) 0) 0)) p126.1.length (slC (vtup (vtup (sl a 65) 0) 0)), .bool p126.2.1] := hp 6 rfl
            exact .inr (.inl ⟨rfl, _, run_store (cs' := #[.slice (slA (vtup (vtup (sl a 65) 0) 0)) p126.1.length (slC (vtup (vtup (sl a 65) 0) 0)), .bool p126.2.1]) rfl sz25 (ev_sl e10) (ev_sl e66) rfl rfl rfl (S.free 0 rfl) rfl rfl, trivial, S.put 0 rfl (#[.slice (slA (vtup (vtup (sl a 65) 0) 0)) p126.1.length (slC (vtup (vtup (sl a 65) 0) 0)), .bool p126.2.1])⟩)
          · intro a u X hB hu hp hr hz hl S
            replace S : St w u ([] ++ X) := S
            have e67 : sl a 67 = .int .i64 p126.2.2 := hp 7 rfl
            exact .inl ⟨rfl, .int .i64 p126.2.2, u, (run_assign rfl (ev_sl e67)), rfl, S⟩
        · intro a u hB hp S
          obtain ⟨q0, q1, q2, q3, q4, q5, q6, q7, q8, q9, q10, _⟩ := hp
          have e61 : sl a 61 = .agg #[.slice B103 p102.1.length d105, .bool p102.2.1] := q0
          have e62 : sl a 62 = .slice B106 p102.2.2.length d108 := q1
          have e63 : sl a 63 = .int .i64 (w64 (Int.tdiv (p102.2.2.length : Int) 2)) := q2
          have e64 : sl a 64 = .slice (subA d108 ((0 : Int).toNat) 1 B106) ((subL p102.2.2 0 (w64 (Int.tdiv (p102.2.2.length : Int) 2))).length) (d108 - (0 : Int).toNat) := q3
          have e65 : sl a 65 = .tuple #[.agg #[.slice (slA (vtup (vtup (sl a 65) 0) 0)) p126.1.length (slC (vtup (vtup (sl a 65) 0) 0)), .bool p126.2.1], .int .i64 p126.2.2] := q4
          have e60 : sl a 60 = .tuple #[.agg #[.slice (slA (vtup (vtup (sl a 65) 0) 0)) p126.1.length (slC (vtup (vtup (sl a 65) 0) 0)), .bool p126.2.1], .int .i64 p126.2.2] := q5
          have e66 : sl a 66 = .agg #[.slice (slA (vtup (vtup (sl a 65) 0) 0)) p126.1.length (slC (vtup (vtup (sl a 65) 0) 0)), .bool p126.2.1] := q6
          have e67 : sl a 67 = .int .i64 p126.2.2 := q7
          have e10 : sl a 10 = .pointer (some ⟨ptB (sl a 10), 0, none⟩) := q8
          have e11 : sl a 11 = .int .i64 p126.2.2 := q10
          replace S : St w u [.row 3 1 (.slice (slA (vtup (vtup (sl a 65) 0) 0)) p126.1.length (slC (vtup (vtup (sl a 65) 0) 0))) p126.1.length (p126.1.flatMap eI), .box (ptB (sl a 10)) 25 #[.slice (slA (vtup (vtup (sl a 65) 0) 0)) p126.1.length (slC (vtup (vtup (sl a 65) 0) 0)), .bool p126.2.1], .box g119 25 #[.slice B116 p115.1.length d118, .bool p115.2.1], .row 3 1 (.slice B116 p115.1.length d118) p115.1.length (p115.1.flatMap eI), .box g114 25 #[.slice B111 p110.1.length d113, .bool p110.2.1], .row 3 1 (.slice B111 p110.1.length d113) p110.1.length (p110.1.flatMap eI), .box g109 25 #[.slice B103 p102.1.length d105, .bool p102.2.1], .row 3 1 (.slice B103 p102.1.length d105) p102.1.length (p102.1.flatMap eI), .row 3 1 (.slice B106 p102.2.2.length d108) p102.2.2.length (p102.2.2.flatMap eI)] := S
          clear q0 q1 q2 q3 q4 q5 q6 q7 q8 q9 q10
          generalize slA (vtup (vtup (sl a 65) 0) 0) = B130 at *
          generalize slC (vtup (vtup (sl a 65) 0) 0) = d131 at *
          generalize ptB (sl a 10) = g132 at *
          have hF := hF.region hB [(61, .agg #[.slice B103 p102.1.length d105, .bool p102.2.1]), (62, .slice B106 p102.2.2.length d108), (63, .int .i64 (w64 (Int.tdiv (p102.2.2.length : Int) 2))), (64, .slice (subA d108 ((0 : Int).toNat) 1 B106) ((subL p102.2.2 0 (w64 (Int.tdiv (p102.2.2.length : Int) 2))).length) (d108 - (0 : Int).toNat)), (65, .tuple #[.agg #[.slice B130 p126.1.length d131, .bool p126.2.1], .int .i64 p126.2.2]), (60, .tuple #[.agg #[.slice B130 p126.1.length d131, .bool p126.2.1], .int .i64 p126.2.2]), (66, .agg #[.slice B130 p126.1.length d131, .bool p126.2.1]), (67, .int .i64 p126.2.2), (10, .pointer (some ⟨g132, 0, none⟩)), (11, .int .i64 p126.2.2)] (allSl_mem ⟨e61, e62, e63, e64, e65, e60, e66, e67, e10, e11, trivial⟩) rfl
          clear hB e61 e62 e63 e64 e65 e60 e66 e67 e10 e11
          refine wp_seq ?_
          obtain ⟨hk133, hM⟩ := chk_ex hM
          replace hk133 := slB_t hk133
          obtain ⟨p134, h134, hM⟩ := bind_ex hM
          refine region_gw (D := [69, 70, 71, 72, 73, 68, 74, 75, 12, 13]) (Lr := [.row 3 1 (.slice B130 p126.1.length d131) p126.1.length (p126.1.flatMap eI), .box g132 25 #[.slice B130 p126.1.length d131, .bool p126.2.1], .box g119 25 #[.slice B116 p115.1.length d118, .bool p115.2.1], .row 3 1 (.slice B116 p115.1.length d118) p115.1.length (p115.1.flatMap eI), .box g114 25 #[.slice B111 p110.1.length d113, .bool p110.2.1], .row 3 1 (.slice B111 p110.1.length d113) p110.1.length (p110.1.flatMap eI), .box g109 25 #[.slice B103 p102.1.length d105, .bool p102.2.1], .row 3 1 (.slice B103 p102.1.length d105) p102.1.length (p102.1.flatMap eI), .row 3 1 (.slice B106 p102.2.2.length d108) p102.2.2.length (p102.2.2.flatMap eI)]) (deps := (fun | 0 => [69] | 1 => [70] | 2 => [71] | 3 => [72] | 4 => [73] | 5 => [68, 73] | 6 => [74, 73] | 7 => [75] | 8 => [12] | 9 => [12, 73] | 10 => [13] | _ => [])) (rd := (fun _ => [])) (zr := (fun _ => []))
            (φ := fun i vs => match i, vs with | 0, [v69] => v69 = .agg #[.slice B130 p126.1.length d131, .bool p126.2.1] | 1, [v70] => v70 = .slice B106 p102.2.2.length d108 | 2, [v71] => v71 = .int .i64 (w64 (Int.tdiv (p102.2.2.length : Int) 2)) | 3, [v72] => v72 = .slice (subA d108 ((w64 (Int.tdiv (p102.2.2.length : Int) 2)).toNat) 1 B106) ((subL p102.2.2 (w64 (Int.tdiv (p102.2.2.length : Int) 2)) (p102.2.2.length : Int)).length) (d108 - (w64 (Int.tdiv (p102.2.2.length : Int) 2)).toNat) | 4, [v73] => v73 = .tuple #[.agg #[.slice (slA (vtup (vtup v73 0) 0)) p134.1.length (slC (vtup (vtup v73 0) 0)), .bool p134.2.1], .int .i64 p134.2.2] | 5, [v68, v73] => v68 = .tuple #[.agg #[.slice (slA (vtup (vtup v73 0) 0)) p134.1.length (slC (vtup (vtup v73 0) 0)), .bool p134.2.1], .int .i64 p134.2.2] | 6, [v74, v73] => v74 = .agg #[.slice (slA (vtup (vtup v73 0) 0)) p134.1.length (slC (vtup (vtup v73 0) 0)), .bool p134.2.1] | 7, [v75] => v75 = .int .i64 p134.2.2 | 8, [v12] => v12 = .pointer (some ⟨ptB v12, 0, none⟩) | 10, [v13] => v13 = .int .i64 p134.2.2 | _, _ => True)
            (C := fun i vs => match i, vs with | 4, [v73] => [.row 3 1 (.slice (slA (vtup (vtup v73 0) 0)) p134.1.length (slC (vtup (vtup v73 0) 0))) p134.1.length (p134.1.flatMap eI)] | 8, [v12] => [.box (ptB v12) 25 #[.slice none 0 0, .bool false]] | 9, [v12, v73] => [.box (ptB v12) 25 #[.slice (slA (vtup (vtup v73 0) 0)) p134.1.length (slC (vtup (vtup v73 0) 0)), .bool p134.2.1]] | _, _ => [])
            (κ := (fun | 8 => some 9 | _ => none)) (Z := (fun _ => [])) mixed hF (by kernel_rfl) S ?_ ?_
          · refine ⟨?_, ?_, ?_, ?_, ?_, ?_, ?_, ?_, ?_, ?_, ?_, trivial⟩
            · intro a u X hB hu hp hr hz hl S
              replace S : St w u ([] ++ X) := S
              exact .inl ⟨rfl, .agg #[.slice B130 p126.1.length d131, .bool p126.2.1], u, (run_loadN rfl ag25 (hF.evB hB rfl rfl) rfl ((gr_box S hl 1 rfl).cells 0 #[.slice B130 p126.1.length d131, .bool p126.2.1] rfl)), rfl, S⟩
            · intro a u X hB hu hp hr hz hl S
              replace S : St w u ([] ++ X) := S
              exact .inl ⟨rfl, .slice B106 p102.2.2.length d108, u, (run_move rfl (hF.evB hB rfl rfl)), rfl, S⟩
            · intro a u X hB hu hp hr hz hl S
              replace S : St w u ([] ++ X) := S
              exact .inl ⟨rfl, .int .i64 (w64 (Int.tdiv (p102.2.2.length : Int) 2)), u, (run_move rfl (hF.evB hB rfl rfl)), rfl, S⟩
            · intro a u X hB hu hp hr hz hl S
              replace S : St w u ([] ++ X) := S
              have e70 : sl a 70 = .slice B106 p102.2.2.length d108 := hp 1 rfl
              have e71 : sl a 71 = .int .i64 (w64 (Int.tdiv (p102.2.2.length : Int) 2)) := hp 2 rfl
              exact .inl ⟨rfl, .slice (subA d108 ((w64 (Int.tdiv (p102.2.2.length : Int) 2)).toNat) 1 B106) ((subL p102.2.2 (w64 (Int.tdiv (p102.2.2.length : Int) 2)) (p102.2.2.length : Int)).length) (d108 - (w64 (Int.tdiv (p102.2.2.length : Int) 2)).toNat), u, (run_slicefrom (l := p102.2.2) rfl Tryd.underlying23 sz3 (ev_sl e70) (ev_sl e71) hk133 rfl (gr_rc S hl 8 rfl).cap), rfl, S⟩
            · intro a u X hB hu hp hr hz hl S
              replace S : St w u ([] ++ X) := S
              have e69 : sl a 69 = .agg #[.slice B130 p126.1.length d131, .bool p126.2.1] := hp 0 rfl
              have e72 : sl a 72 = .slice (subA d108 ((w64 (Int.tdiv (p102.2.2.length : Int) 2)).toNat) 1 B106) ((subL p102.2.2 (w64 (Int.tdiv (p102.2.2.length : Int) 2)) (p102.2.2.length : Int)).length) (d108 - (w64 (Int.tdiv (p102.2.2.length : Int) 2)).toNat) := hp 3 rfl
              refine .inr (.inr (.inl ⟨rfl, _, _, (run_call (vs := [.agg #[.slice B130 p126.1.length d131, .bool p126.2.1], .slice (subA d108 ((w64 (Int.tdiv (p102.2.2.length : Int) 2)).toNat) 1 B106) ((subL p102.2.2 (w64 (Int.tdiv (p102.2.2.length : Int) 2)) (p102.2.2.length : Int)).length) (d108 - (w64 (Int.tdiv (p102.2.2.length : Int) 2)).toNat)]) rfl rfl co17 ⟨(ev_sl e69), (ev_sl e72), trivial⟩), ?_⟩))
              refine Calls.mono (c_impl_BarsRun (x0 := p126.1) (x1 := p126.2.1) (x2 := subL p102.2.2 (w64 (Int.tdiv (p102.2.2.length : Int) 2)) (p102.2.2.length : Int)) ⟨(gr_rc S hl 0 rfl), rfl⟩ ⟨(rc_sub eI_len hk133 rfl (gr_rc S hl 8 rfl)), rfl⟩ h134) ?_
              rintro e w1 ⟨B135, n136, d137, rfl, rfl, T⟩
              exact ⟨_, rfl, rfl, S.call1 T⟩
            · intro a u X hB hu hp hr hz hl S
              replace S : St w u ([] ++ X) := S
              have e73 : sl a 73 = .tuple #[.agg #[.slice (slA (vtup (vtup (sl a 73) 0) 0)) p134.1.length (slC (vtup (vtup (sl a 73) 0) 0)), .bool p134.2.1], .int .i64 p134.2.2] := hp 4 rfl
              exact .inl ⟨rfl, .tuple #[.agg #[.slice (slA (vtup (vtup (sl a 73) 0) 0)) p134.1.length (slC (vtup (vtup (sl a 73) 0) 0)), .bool p134.2.1], .int .i64 p134.2.2], u, (run_move rfl (ev_sl e73)), rfl, S⟩
            · intro a u X hB hu hp hr hz hl S
              replace S : St w u ([] ++ X) := S
              have e68 : sl a 68 = .tuple #[.agg #[.slice (slA (vtup (vtup (sl a 73) 0) 0)) p134.1.length (slC (vtup (vtup (sl a 73) 0) 0)), .bool p134.2.1], .int .i64 p134.2.2] := hp 5 rfl
              exact .inl ⟨rfl, .agg #[.slice (slA (vtup (vtup (sl a 73) 0) 0)) p134.1.length (slC (vtup (vtup (sl a 73) 0) 0)), .bool p134.2.1], u, (run_extract rfl (ev_sl e68) rfl), rfl, S⟩
            · intro a u X hB hu hp hr hz hl S
              replace S : St w u ([] ++ X) := S
              have e68 : sl a 68 = .tuple #[.agg #[.slice (slA (vtup (vtup (sl a 73) 0) 0)) p134.1.length (slC (vtup (vtup (sl a 73) 0) 0)), .bool p134.2.1], .int .i64 p134.2.2] := hp 5 rfl
              exact .inl ⟨rfl, .int .i64 p134.2.2, u, (run_extract rfl (ev_sl e68) rfl), rfl, S⟩
            · intro a u X hB hu hp hr hz hl S
              replace S : St w u ([] ++ X) := S
              exact .inl ⟨rfl, _, _, (run_allocZ rfl zr25), rfl, S.alloc _ _⟩
            · intro a u X hB hu hp hr hz hl S
              replace S : St w u ([.box (ptB (sl a 12)) 25 #[.slice none 0 0, .bool false]] ++ X) := S
              have e12 : sl a 12 = .pointer (some ⟨ptB (sl a 12), 0, none⟩) := hp 8 rfl
              have e74 : sl a 74 = .agg #[.slice (slA (vtup (vtup (sl a 73) 0) 0)) p134.1.length (slC (vtup (vtup (sl a 73) 0) 0)), .bool p134.2.1] := hp 6 rfl
              exact .inr (.inl ⟨rfl, _, run_store (cs' := #[.slice (slA (vtup (vtup (sl a 73) 0) 0)) p134.1.length (slC (vtup (vtup (sl a 73) 0) 0)), .bool p134.2.1]) rfl sz25 (ev_sl e12) (ev_sl e74) rfl rfl rfl (S.free 0 rfl) rfl rfl, trivial, S.put 0 rfl (#[.slice (slA (vtup (vtup (sl a 73) 0) 0)) p134.1.length (slC (vtup (vtup (sl a 73) 0) 0)), .bool p134.2.1])⟩)
            · intro a u X hB hu hp hr hz hl S
              replace S : St w u ([] ++ X) := S
              have e75 : sl a 75 = .int .i64 p134.2.2 := hp 7 rfl
              exact .inl ⟨rfl, .int .i64 p134.2.2, u, (run_assign rfl (ev_sl e75)), rfl, S⟩
          · intro a u hB hp S
            obtain ⟨q0, q1, q2, q3, q4, q5, q6, q7, q8, q9, q10, _⟩ := hp
            have e69 : sl a 69 = .agg #[.slice B130 p126.1.length d131, .bool p126.2.1] := q0
            have e70 : sl a 70 = .slice B106 p102.2.2.length d108 := q1
            have e71 : sl a 71 = .int .i64 (w64 (Int.tdiv (p102.2.2.length : Int) 2)) := q2
            have e72 : sl a 72 = .slice (subA d108 ((w64 (Int.tdiv (p102.2.2.length : Int) 2)).toNat) 1 B106) ((subL p102.2.2 (w64 (Int.tdiv (p102.2.2.length : Int) 2)) (p102.2.2.length : Int)).length) (d108 - (w64 (Int.tdiv (p102.2.2.length : Int) 2)).toNat) := q3
            have e73 : sl a 73 = .tuple #[.agg #[.slice (slA (vtup (vtup (sl a 73) 0) 0)) p134.1.length (slC (vtup (vtup (sl a 73) 0) 0)), .bool p134.2.1], .int .i64 p134.2.2] := q4
            have e68 : sl a 68 = .tuple #[.agg #[.slice (slA (vtup (vtup (sl a 73) 0) 0)) p134.1.length (slC (vtup (vtup (sl a 73) 0) 0)), .bool p134.2.1], .int .i64 p134.2.2] := q5
            have e74 : sl a 74 = .agg #[.slice (slA (vtup (vtup (sl a 73) 0) 0)) p134.1.length (slC (vtup (vtup (sl a 73) 0) 0)), .bool p134.2.1] := q6
            have e75 : sl a 75 = .int .i64 p134.2.2 := q7
            have e12 : sl a 12 = .pointer (some ⟨ptB (sl a 12), 0, none⟩) := q8
            have e13 : sl a 13 = .int .i64 p134.2.2 := q10
            replace S : St w u [.row 3 1 (.slice (slA (vtup (vtup (sl a 73) 0) 0)) p134.1.length (slC (vtup (vtup (sl a 73) 0) 0))) p134.1.length (p134.1.flatMap eI), .box (ptB (sl a 12)) 25 #[.slice (slA (vtup (vtup (sl a 73) 0) 0)) p134.1.length (slC (vtup (vtup (sl a 73) 0) 0)), .bool p134.2.1], .row 3 1 (.slice B130 p126.1.length d131) p126.1.length (p126.1.flatMap eI), .box g132 25 #[.slice B130 p126.1.length d131, .bool p126.2.1], .box g119 25 #[.slice B116 p115.1.length d118, .bool p115.2.1], .row 3 1 (.slice B116 p115.1.length d118) p115.1.length (p115.1.flatMap eI), .box g114 25 #[.slice B111 p110.1.length d113, .bool p110.2.1], .row 3 1 (.slice B111 p110.1.length d113) p110.1.length (p110.1.flatMap eI), .box g109 25 #[.slice B103 p102.1.length d105, .bool p102.2.1], .row 3 1 (.slice B103 p102.1.length d105) p102.1.length (p102.1.flatMap eI), .row 3 1 (.slice B106 p102.2.2.length d108) p102.2.2.length (p102.2.2.flatMap eI)] := S
            clear q0 q1 q2 q3 q4 q5 q6 q7 q8 q9 q10
            generalize slA (vtup (vtup (sl a 73) 0) 0) = B138 at *
            generalize slC (vtup (vtup (sl a 73) 0) 0) = d139 at *
            generalize ptB (sl a 12) = g140 at *
            have hF := hF.region hB [(69, .agg #[.slice B130 p126.1.length d131, .bool p126.2.1]), (70, .slice B106 p102.2.2.length d108), (71, .int .i64 (w64 (Int.tdiv (p102.2.2.length : Int) 2))), (72, .slice (subA d108 ((w64 (Int.tdiv (p102.2.2.length : Int) 2)).toNat) 1 B106) ((subL p102.2.2 (w64 (Int.tdiv (p102.2.2.length : Int) 2)) (p102.2.2.length : Int)).length) (d108 - (w64 (Int.tdiv (p102.2.2.length : Int) 2)).toNat)), (73, .tuple #[.agg #[.slice B138 p134.1.length d139, .bool p134.2.1], .int .i64 p134.2.2]), (68, .tuple #[.agg #[.slice B138 p134.1.length d139, .bool p134.2.1], .int .i64 p134.2.2]), (74, .agg #[.slice B138 p134.1.length d139, .bool p134.2.1]), (75, .int .i64 p134.2.2), (12, .pointer (some ⟨g140, 0, none⟩)), (13, .int .i64 p134.2.2)] (allSl_mem ⟨e69, e70, e71, e72, e73, e68, e74, e75, e12, e13, trivial⟩) rfl
            clear hB e69 e70 e71 e72 e73 e68 e74 e75 e12 e13
            refine wp_seq ?_
            refine wp_region_lit ?_
            refine op_val (v := .agg #[.slice B111 p110.1.length d113, .bool p110.2.1]) rfl rfl hF rfl (run_loadN rfl ag25 (hF.ev rfl) rfl ((S.free 6 rfl).cells 0 #[.slice B111 p110.1.length d113, .bool p110.2.1] rfl)) ?_; clear hF; intro a hF
            obtain ⟨p141, h141, hM⟩ := bind_ex hM
            refine op_call rfl rfl hF rfl (run_call (vs := [.agg #[.slice B111 p110.1.length d113, .bool p110.2.1]]) rfl rfl co12 ⟨(hF.ev rfl), trivial⟩) (c_impl_BarsValid (x0 := p110.1) (x1 := p110.2.1) ⟨(S.rc 7 rfl), rfl⟩ h141) ?_
            rintro e u ⟨rfl, T⟩
            refine ⟨_, rfl, ?_⟩
            clear hF; intro a hF
            replace S := S.call0 T; clear T
            refine op_val (v := .bool p141) rfl rfl hF rfl (run_move rfl (hF.ev rfl)) ?_; clear hF; intro a hF
            refine op_gv (v := .int .i64 p110.2.2) rfl rfl hF rfl (yt (gw_yield hF rfl rfl rfl)) (fun hg => (run_move rfl (hF.ev rfl))) ?_; clear hF; intro a hF
            refine op_gv (v := .slice B106 p102.2.2.length d108) rfl rfl hF rfl (yt (gw_yield hF rfl rfl rfl)) (fun hg => (run_move rfl (hF.ev rfl))) ?_; clear hF; intro a hF
            refine op_gv (v := .int .i64 (p102.2.2.length : Int)) rfl rfl hF rfl (yt (gw_yield hF rfl rfl rfl)) (fun hg => (run_lenL rfl rfl Tryd.underlying23 ((hF.ev rfl).trans (gv_t hg)))) ?_; clear hF; intro a hF
            refine op_gv (v := .bool (leB p110.2.2 (p102.2.2.length : Int))) rfl rfl hF rfl (yt (gw_yield hF rfl rfl rfl)) (fun hg => (run_leq ((hF.ev rfl).trans (gv_t hg)) ((hF.ev rfl).trans (gv_t hg)) rfl)) ?_; clear hF; intro a hF
            refine op_val (v := .bool (p141 && (leB p110.2.2 (p102.2.2.length : Int)))) rfl rfl hF rfl (run_pick_and rfl (hF.ev rfl) (fun hp => ((hF.ev rfl).trans (gv_t hp))) rfl) ?_; clear hF; intro a hF
            refine op_val (v := .bool (p141 && (leB p110.2.2 (p102.2.2.length : Int)))) rfl rfl hF rfl (run_move rfl (hF.ev rfl)) ?_; clear hF; intro a hF
            refine op_gv (v := .agg #[.slice B138 p134.1.length d139, .bool p134.2.1]) rfl rfl hF rfl (yt (gw_yield hF rfl rfl rfl)) (fun hg => (run_loadN rfl ag25 (hF.ev rfl) rfl ((S.free 1 rfl).cells 0 #[.slice B138 p134.1.length d139, .bool p134.2.1] rfl))) ?_; clear hF; intro a hF
            refine op_gv (v := .agg #[.slice B111 p110.1.length d113, .bool p110.2.1]) rfl rfl hF rfl (yt (gw_yield hF rfl rfl rfl)) (fun hg => (run_loadN rfl ag25 (hF.ev rfl) rfl ((S.free 6 rfl).cells 0 #[.slice B111 p110.1.length d113, .bool p110.2.1] rfl))) ?_; clear hF; intro a hF
            obtain ⟨p142, h142, hM⟩ := bind_ex hM
            refine op_gcall (v := .bool p142) rfl rfl hF rfl S (yt (gw_yield hF rfl rfl rfl)) (fun hg => (run_call (vs := [.agg #[.slice B138 p134.1.length d139, .bool p134.2.1], .agg #[.slice B111 p110.1.length d113, .bool p110.2.1]]) rfl rfl co10 ⟨((hF.ev rfl).trans (gv_t hg)), ((hF.ev rfl).trans (gv_t hg)), trivial⟩)) (fun hg => c_laws_sameBars (x0 := p134.1) (x1 := p134.2.1) (x2 := p110.1) (x3 := p110.2.1) ⟨(S.rc 0 rfl), rfl⟩ ⟨(S.rc 7 rfl), rfl⟩ (gb_t h142 hg)) ?_; clear hF S; intro a u hF S
            refine op_val (v := .bool ((p141 && (leB p110.2.2 (p102.2.2.length : Int))) && p142)) rfl rfl hF rfl (run_pick_and rfl (hF.ev rfl) (fun hp => ((hF.ev rfl).trans (gv_t hp))) rfl) ?_; clear hF; intro a hF
            refine op_val (v := .bool ((p141 && (leB p110.2.2 (p102.2.2.length : Int))) && p142)) rfl rfl hF rfl (run_move rfl (hF.ev rfl)) ?_; clear hF; intro a hF
            refine op_gv (v := .int .i64 p126.2.2) rfl rfl hF rfl (yt (gw_yield hF rfl rfl rfl)) (fun hg => (run_move rfl (hF.ev rfl))) ?_; clear hF; intro a hF
            refine op_gv (v := .int .i64 p134.2.2) rfl rfl hF rfl (yt (gw_yield hF rfl rfl rfl)) (fun hg => (run_move rfl (hF.ev rfl))) ?_; clear hF; intro a hF
            refine op_gv (v := .int .i64 (w64 (p126.2.2 + p134.2.2))) rfl rfl hF rfl (yt (gw_yield hF rfl rfl rfl)) (fun hg => (run_add (z := w64 (p126.2.2 + p134.2.2)) ((hF.ev rfl).trans (gv_t hg)) ((hF.ev rfl).trans (gv_t hg)) rfl rfl)) ?_; clear hF; intro a hF
            refine op_gv (v := .int .i64 p110.2.2) rfl rfl hF rfl (yt (gw_yield hF rfl rfl rfl)) (fun hg => (run_move rfl (hF.ev rfl))) ?_; clear hF; intro a hF
            refine op_gv (v := .bool ((w64 (p126.2.2 + p134.2.2)) == p110.2.2)) rfl rfl hF rfl (yt (gw_yield hF rfl rfl rfl)) (fun hg => (run_eql ((hF.ev rfl).trans (gv_t hg)) ((hF.ev rfl).trans (gv_t hg)) rfl)) ?_; clear hF; intro a hF
            refine op_val (v := .bool (((p141 && (leB p110.2.2 (p102.2.2.length : Int))) && p142) && ((w64 (p126.2.2 + p134.2.2)) == p110.2.2))) rfl rfl hF rfl (run_pick_and rfl (hF.ev rfl) (fun hp => ((hF.ev rfl).trans (gv_t hp))) rfl) ?_; clear hF; intro a hF
            refine op_val (v := .bool (((p141 && (leB p110.2.2 (p102.2.2.length : Int))) && p142) && ((w64 (p126.2.2 + p134.2.2)) == p110.2.2))) rfl rfl hF rfl (run_assign rfl (hF.ev rfl)) ?_; clear hF; intro a hF
            refine wpList_nil ?_
            refine wp_ret ?_
            repeat with_reducible (first | refine then_ret ?_ | refine in_ret ?_ | refine in_nrm ?_)
            refine ret1_gw (.inl rfl) hF rfl (res_tmp (hF.ev rfl)) ?_
            obtain rfl := Option.some.inj hM
            exact ⟨rfl, S.sel [] rfl rfl⟩
    · replace hM := bif_t hc121 hM
      refine cond_t hF rfl hc121 ?_
      refine wp_seq ?_
      refine wp_region_lit ?_
      refine op_val (v := .bool false) rfl rfl hF rfl (run_assign rfl rfl) ?_; clear hF; intro a hF
      refine wpList_nil ?_
      refine wp_ret ?_
      repeat with_reducible (first | refine then_ret ?_ | refine in_ret ?_ | refine in_nrm ?_)
      refine ret1_gw (.inl rfl) hF rfl (res_tmp (hF.ev rfl)) ?_
      obtain rfl := Option.some.inj hM
      exact ⟨rfl, S.sel [] rfl rfl⟩
  · replace hM := bif_t hc101 hM
    refine cond_t hF rfl hc101 ?_
    refine wp_seq ?_
    refine wp_region_lit ?_
    refine op_val (v := .bool true) rfl rfl hF rfl (run_assign rfl rfl) ?_; clear hF; intro a hF
    refine wpList_nil ?_
    refine wp_ret ?_
    repeat with_reducible (first | refine then_ret ?_ | refine in_ret ?_ | refine in_nrm ?_)
    refine ret1_gw (.inl rfl) hF rfl (res_tmp (hF.ev rfl)) ?_
    obtain rfl := Option.some.inj hM
    exact ⟨rfl, S.sel [] rfl rfl⟩

set_option maxHeartbeats 4000000 in
theorem c_spec_DrawEmptyDeeds {x0 : List Int} {A0 : Option Addr} {n0 c0 : Nat} {w : World} {r : List Int × Bool × Int} (h0 : Rt w 1 eU A0 n0 c0 x0) (hM : m_spec_DrawEmptyDeeds x0 = some r) :
    Calls Tryd.prog 21 #[.slice A0 n0 c0] w (fun e w' => ∃ (B0 : Option Addr) (N0 D0 : Nat), e = .returned (.tuple #[.agg #[.slice B0 N0 D0, .bool r.2.1], .int .i64 r.2.2]) ∧ N0 = r.1.length ∧ St w w' [.row 3 1 (.slice B0 N0 D0) N0 (r.1.flatMap eI)]) := by
  obtain rfl := h0.len
  unfold m_spec_DrawEmptyDeeds at hM
  refine calls_gw Tryd.func21 Tryd.ntmps21 rfl [(0, .slice A0 x0.length c0)] ⟨rfl, trivial⟩ rfl ?_
  intro a hF
  have S := St.nil w
  refine wp_seq ?_
  refine wp_region_lit ?_
  refine op_new (cs := #[.slice none 0 0, .bool false]) rfl rfl hF rfl S (run_allocZ rfl zr25) ?_; clear hF S; intro a g101 u hF S
  refine op_val (v := .int .i64 0) rfl rfl hF rfl (run_assign rfl rfl) ?_; clear hF; intro a hF
  refine wpList_nil ?_
  refine wp_seq ?_
  refine wp_region_lit ?_
  refine op_val (v := .slice A0 x0.length c0) rfl rfl hF rfl (run_move rfl (hF.ev rfl)) ?_; clear hF; intro a hF
  refine op_call rfl rfl hF rfl (run_call (vs := [.slice A0 x0.length c0]) rfl rfl co24 ⟨(hF.ev rfl), trivial⟩) (c_spec_l20Open ⟨(S.rc0 h0.rc), rfl⟩) ?_
  rintro e u ⟨g102, rfl, T⟩
  refine ⟨_, rfl, ?_⟩
  clear hF; intro a hF
  replace S := S.call1 T; clear T
  refine op_val (v := .pointer (some ⟨g102, 0, none⟩)) rfl rfl hF rfl (run_assign rfl (hF.ev rfl)) ?_; clear hF; intro a hF
  refine wpList_nil ?_
  refine wp_seq ?_
  refine wp_region_lit ?_
  refine op_val (v := .pointer (some ⟨g102, 0, none⟩)) rfl rfl hF rfl (run_move rfl (hF.ev rfl)) ?_; clear hF; intro a hF
  obtain ⟨p103, h103, hM⟩ := bind_ex hM
  refine op_call rfl rfl hF rfl (run_call (vs := [.pointer (some ⟨g102, 0, none⟩), .int .i64 9]) rfl rfl co25 ⟨(hF.ev rfl), rfl, trivial⟩) (c_spec_l20Bars (x0 := x0.take 2000) (x1 := 0) (x2 := 9) ⟨(op_rc h0.rc rfl), rfl⟩ (show St w _ [.box g102 58 #[.slice (opA c0 x0.length A0) ((x0.take 2000).length) c0, .int .i64 0], .box g101 25 #[.slice none 0 0, .bool false]] from S.sel [0, 1] rfl rfl) h103) ?_
  rintro e u ⟨B104, n105, d106, rfl, rfl, T⟩
  refine ⟨_, rfl, ?_⟩
  clear hF; intro a hF
  clear S; have S := T; clear T
  refine op_new (cs := #[.slice none 0 0, .bool false]) rfl rfl hF rfl S (run_allocZ rfl zr25) ?_; clear hF S; intro a g107 u hF S
  refine op_do rfl rfl (run_store (cs' := #[.slice B104 p103.1.length d106, .bool p103.2.1]) rfl sz25 (hF.ev rfl) (hF.ev rfl) rfl rfl rfl (S.free 0 rfl) rfl rfl) ?_; replace S := S.put 0 rfl (#[.slice B104 p103.1.length d106, .bool p103.2.1])
  generalize World.setRow _ _ _ = u at S ⊢
  refine wpList_nil ?_
  refine wp_seq ?_
  obtain ⟨p108, h108, hM⟩ := bind_ex hM
  obtain ⟨p109, h109, hM⟩ := bind_ex hM
  refine region_gw (D := [10, 11, 12, 13, 14, 15, 16, 17, 3]) (Lr := [.box g107 25 #[.slice B104 p103.1.length d106, .bool p103.2.1], .row 3 1 (.slice B104 p103.1.length d106) p103.1.length (p103.1.flatMap eI)]) (deps := (fun | 0 => [10] | 1 => [11] | 2 => [12] | 3 => [13] | 4 => [14] | 5 => [15] | 6 => [16] | 7 => [17] | 8 => [2] | 9 => [3] | _ => [])) (rd := (fun _ => [])) (zr := (fun _ => []))
    (φ := fun i vs => match i, vs with | 0, [v10] => v10 = .agg #[.slice B104 p103.1.length d106, .bool p103.2.1] | 1, [v11] => v11 = .pointer (some ⟨g102, 0, none⟩) | 2, [v12] => v12 = .int .i64 p108.1 | 3, [v13] => v13 = .int .i64 (w64 (1 + p108.1)) | 4, [v14] => v14 = .pointer (some ⟨g102, 0, none⟩) | 5, [v15] => v15 = .int .i64 p109.1 | 6, [v16] => v16 = .int .i64 (w64 (Int.tdiv p109.1 8)) | 7, [v17] => v17 = .int .i64 (w64 ((w64 (1 + p108.1)) + (w64 (Int.tdiv p109.1 8)))) | 9, [v3] => v3 = .int .i64 (w64 ((w64 (1 + p108.1)) + (w64 (Int.tdiv p109.1 8)))) | _, _ => True)
    (C := fun i vs => match i, vs with | 2, [v12] => [.box g102 58 #[.slice (opA c0 x0.length A0) ((x0.take 2000).length) c0, .int .i64 p108.2]] | 5, [v15] => [.box g102 58 #[.slice (opA c0 x0.length A0) ((x0.take 2000).length) c0, .int .i64 p109.2]] | 8, [v2] => [.box g101 25 #[.slice B104 p103.1.length d106, .bool p103.2.1]] | _, _ => [])
    (κ := (fun | 2 => some 5 | _ => none)) (Z := (fun | 2 => [.box g102 58 #[.slice (opA c0 x0.length A0) ((x0.take 2000).length) c0, .int .i64 p103.2.2]] | 8 => [.box g101 25 #[.slice none 0 0, .bool false]] | _ => [])) mixed hF (by kernel_rfl) (show St w _ [.box g102 58 #[.slice (opA c0 x0.length A0) ((x0.take 2000).length) c0, .int .i64 p103.2.2], .box g101 25 #[.slice none 0 0, .bool false], .box g107 25 #[.slice B104 p103.1.length d106, .bool p103.2.1], .row 3 1 (.slice B104 p103.1.length d106) p103.1.length (p103.1.flatMap eI)] from S.sel [2, 3, 0, 1] rfl rfl) ?_ ?_
  · refine ⟨?_, ?_, ?_, ?_, ?_, ?_, ?_, ?_, ?_, ?_, trivial⟩
    · intro a u X hB hu hp hr hz hl S
      replace S : St w u ([] ++ X) := S
      exact .inl ⟨rfl, .agg #[.slice B104 p103.1.length d106, .bool p103.2.1], u, (run_loadN rfl ag25 (hF.evB hB rfl rfl) rfl ((gr_box S hl 0 rfl).cells 0 #[.slice B104 p103.1.length d106, .bool p103.2.1] rfl)), rfl, S⟩
    · intro a u X hB hu hp hr hz hl S
      replace S : St w u ([] ++ X) := S
      exact .inl ⟨rfl, .pointer (some ⟨g102, 0, none⟩), u, (run_move rfl (hF.evB hB rfl rfl)), rfl, S⟩
    · intro a u X hB hu hp hr hz hl S
      replace S : St w u ([.box g102 58 #[.slice (opA c0 x0.length A0) ((x0.take 2000).length) c0, .int .i64 p103.2.2]] ++ X) := S
      have e11 : sl a 11 = .pointer (some ⟨g102, 0, none⟩) := hp 1 rfl
      refine .inr (.inr (.inl ⟨rfl, _, _, (run_call (vs := [.pointer (some ⟨g102, 0, none⟩), .int .i64 2]) rfl rfl co26 ⟨(ev_sl e11), (ev_const _ _), trivial⟩), ?_⟩))
      refine Calls.mono (c_spec_l20Rd_pick (x0 := x0.take 2000) (x1 := p103.2.2) (x2 := 2) ⟨(op_rc h0.rc rfl), rfl⟩ S h108) ?_
      rintro e w1 ⟨rfl, T⟩
      exact ⟨_, rfl, rfl, T⟩
    · intro a u X hB hu hp hr hz hl S
      replace S : St w u ([] ++ X) := S
      have e12 : sl a 12 = .int .i64 p108.1 := hp 2 rfl
      exact .inl ⟨rfl, .int .i64 (w64 (1 + p108.1)), u, (run_add (z := w64 (1 + p108.1)) (ev_const _ _) (ev_sl e12) rfl rfl), rfl, S⟩
    · intro a u X hB hu hp hr hz hl S
      replace S : St w u ([] ++ X) := S
      exact .inl ⟨rfl, .pointer (some ⟨g102, 0, none⟩), u, (run_move rfl (hF.evB hB rfl rfl)), rfl, S⟩
    · intro a u X hB hu hp hr hz hl S
      replace S : St w u ([.box g102 58 #[.slice (opA c0 x0.length A0) ((x0.take 2000).length) c0, .int .i64 p108.2]] ++ X) := S
      have e14 : sl a 14 = .pointer (some ⟨g102, 0, none⟩) := hp 4 rfl
      refine .inr (.inr (.inl ⟨rfl, _, _, (run_call (vs := [.pointer (some ⟨g102, 0, none⟩), .int .i64 9]) rfl rfl co26 ⟨(ev_sl e14), (ev_const _ _), trivial⟩), ?_⟩))
      refine Calls.mono (c_spec_l20Rd_pick (x0 := x0.take 2000) (x1 := p108.2) (x2 := 9) ⟨(op_rc h0.rc rfl), rfl⟩ S h109) ?_
      rintro e w1 ⟨rfl, T⟩
      exact ⟨_, rfl, rfl, T⟩
    · intro a u X hB hu hp hr hz hl S
      replace S : St w u ([] ++ X) := S
      have e15 : sl a 15 = .int .i64 p109.1 := hp 5 rfl
      exact .inl ⟨rfl, .int .i64 (w64 (Int.tdiv p109.1 8)), u, (run_quo (z := w64 (Int.tdiv p109.1 8)) (ev_sl e15) (ev_const _ _) rfl (by decide) rfl), rfl, S⟩
    · intro a u X hB hu hp hr hz hl S
      replace S : St w u ([] ++ X) := S
      have e13 : sl a 13 = .int .i64 (w64 (1 + p108.1)) := hp 3 rfl
      have e16 : sl a 16 = .int .i64 (w64 (Int.tdiv p109.1 8)) := hp 6 rfl
      exact .inl ⟨rfl, .int .i64 (w64 ((w64 (1 + p108.1)) + (w64 (Int.tdiv p109.1 8)))), u, (run_add (z := w64 ((w64 (1 + p108.1)) + (w64 (Int.tdiv p109.1 8)))) (ev_sl e13) (ev_sl e16) rfl rfl), rfl, S⟩
    · intro a u X hB hu hp hr hz hl S
      replace S : St w u ([.box g101 25 #[.slice none 0 0, .bool false]] ++ X) := S
      have e10 : sl a 10 = .agg #[.slice B104 p103.1.length d106, .bool p103.2.1] := hp 0 rfl
      exact .inr (.inl ⟨rfl, _, run_store (cs' := #[.slice B104 p103.1.length d106, .bool p103.2.1]) rfl sz25 (hF.evB hB rfl rfl) (ev_sl e10) rfl rfl rfl (S.free 0 rfl) rfl rfl, trivial, S.put 0 rfl (#[.slice B104 p103.1.length d106, .bool p103.2.1])⟩)
    · intro a u X hB hu hp hr hz hl S
      replace S : St w u ([] ++ X) := S
      have e17 : sl a 17 = .int .i64 (w64 ((w64 (1 + p108.1)) + (w64 (Int.tdiv p109.1 8)))) := hp 7 rfl
      exact .inl ⟨rfl, .int .i64 (w64 ((w64 (1 + p108.1)) + (w64 (Int.tdiv p109.1 8)))), u, (run_assign rfl (ev_sl e17)), rfl, S⟩
  · intro a u hB hp S
    obtain ⟨q0, q1, q2, q3, q4, q5, q6, q7, q8, q9, _⟩ := hp
    have e10 : sl a 10 = .agg #[.slice B104 p103.1.length d106, .bool p103.2.1] := q0
    have e11 : sl a 11 = .pointer (some ⟨g102, 0, none⟩) := q1
    have e12 : sl a 12 = .int .i64 p108.1 := q2
    have e13 : sl a 13 = .int .i64 (w64 (1 + p108.1)) := q3
    have e14 : sl a 14 = .pointer (some ⟨g102, 0, none⟩) := q4
    have e15 : sl a 15 = .int .i64 p109.1 := q5
    have e16 : sl a 16 = .int .i64 (w64 (Int.tdiv p109.1 8)) := q6
    have e17 : sl a 17 = .int .i64 (w64 ((w64 (1 + p108.1)) + (w64 (Int.tdiv p109.1 8)))) := q7
    have e3 : sl a 3 = .int .i64 (w64 ((w64 (1 + p108.1)) + (w64 (Int.tdiv p109.1 8)))) := q9
    replace S : St w u [.box g102 58 #[.slice (opA c0 x0.length A0) ((x0.take 2000).length) c0, .int .i64 p109.2], .box g101 25 #[.slice B104 p103.1.length d106, .bool p103.2.1], .box g107 25 #[.slice B104 p103.1.length d106, .bool p103.2.1], .row 3 1 (.slice B104 p103.1.length d106) p103.1.length (p103.1.flatMap eI)] := S
    clear q0 q1 q2 q3 q4 q5 q6 q7 q8 q9
    have hF := hF.region hB [(10, .agg #[.slice B104 p103.1.length d106, .bool p103.2.1]), (11, .pointer (some ⟨g102, 0, none⟩)), (12, .int .i64 p108.1), (13, .int .i64 (w64 (1 + p108.1))), (14, .pointer (some ⟨g102, 0, none⟩)), (15, .int .i64 p109.1), (16, .int .i64 (w64 (Int.tdiv p109.1 8))), (17, .int .i64 (w64 ((w64 (1 + p108.1)) + (w64 (Int.tdiv p109.1 8))))), (3, .int .i64 (w64 ((w64 (1 + p108.1)) + (w64 (Int.tdiv p109.1 8)))))] (allSl_mem ⟨e10, e11, e12, e13, e14, e15, e16, e17, e3, trivial⟩) rfl
    clear hB e10 e11 e12 e13 e14 e15 e16 e17 e3
    refine wp_ret ?_
    repeat with_reducible (first | refine then_ret ?_ | refine in_ret ?_ | refine in_nrm ?_)
    refine ret2_gw (.inl rfl) hF rfl (res_cell (hF.ev rfl) (res_loadN ag25 rfl (S.cells 1 rfl 0 #[.slice B104 p103.1.length d106, .bool p103.2.1] rfl))) (res_tmp (hF.ev rfl)) ?_
    obtain rfl := Option.some.inj hM
    exact ⟨B104, p103.1.length, d106, rfl, rfl, S.sel [3] rfl rfl⟩

set_option maxHeartbeats 4000000 in
theorem c_impl_EmptyDeeds {x0 : List Int} {x1 : Bool} {x2 : Int} {A0 : Option Addr} {n0 c0 : Nat} {w : World} {r : List Int} (h0 : Rt w 1 eI A0 n0 c0 x0) (hM : m_impl_EmptyDeeds x0 x1 x2 = some r) :
    Calls Tryd.prog 22 #[.agg #[.slice A0 n0 c0, .bool x1], .int .i64 x2] w (fun e w' => ∃ (B0 : Option Addr) (N0 D0 : Nat), e = .returned (.slice B0 N0 D0) ∧ N0 = r.length ∧ St w w' [.row 3 1 (.slice B0 N0 D0) N0 (r.flatMap eI)]) := by
  obtain rfl := h0.len
  unfold m_impl_EmptyDeeds at hM
  refine calls_gw Tryd.func22 Tryd.ntmps22 rfl [(0, .agg #[.slice A0 x0.length c0, .bool x1]), (1, .int .i64 x2)] ⟨rfl, rfl, trivial⟩ rfl ?_
  intro a hF
  have S := St.nil w
  refine wp_seq ?_
  refine wp_region_lit ?_
  refine op_new (cs := #[.slice A0 x0.length c0, .bool x1]) rfl rfl hF rfl S (run_box rfl (hF.ev rfl) rfl) ?_; clear hF S; intro a g101 u hF S
  refine op_val (v := .slice none 0 0) rfl rfl hF rfl (run_assign rfl rfl) ?_; clear hF; intro a hF
  refine wpList_nil ?_
  refine wp_seq ?_
  refine wp_seq ?_
  refine wp_region_lit ?_
  refine op_val (v := .agg #[.slice A0 x0.length c0, .bool x1]) rfl rfl hF rfl (run_loadN rfl ag25 (hF.ev rfl) rfl ((S.free 0 rfl).cells 0 #[.slice A0 x0.length c0, .bool x1] rfl)) ?_; clear hF; intro a hF
  obtain ⟨p102, h102, hM⟩ := bind_ex hM
  refine op_call rfl rfl hF rfl (run_call (vs := [.agg #[.slice A0 x0.length c0, .bool x1]]) rfl rfl co12 ⟨(hF.ev rfl), trivial⟩) (c_impl_BarsValid (x0 := x0) (x1 := x1) ⟨(S.rc0 h0.rc), rfl⟩ h102) ?_
  rintro e u ⟨rfl, T⟩
  refine ⟨_, rfl, ?_⟩
  clear hF; intro a hF
  replace S := S.call0 T; clear T
  refine op_val (v := .bool (!p102)) rfl rfl hF rfl (run_not rfl (hF.ev rfl)) ?_; clear hF; intro a hF
  refine op_val (v := .bool (!p102)) rfl rfl hF rfl (run_move rfl (hF.ev rfl)) ?_; clear hF; intro a hF
  refine op_gv (v := .int .i64 x2) rfl rfl hF rfl (yf (gw_yield hF rfl rfl rfl)) (fun hg => (run_move rfl (hF.ev rfl))) ?_; clear hF; intro a hF
  refine op_gv (v := .bool (ltB x2 1)) rfl rfl hF rfl (yf (gw_yield hF rfl rfl rfl)) (fun hg => (run_lss ((hF.ev rfl).trans (gv_t hg)) rfl rfl)) ?_; clear hF; intro a hF
  refine op_val (v := .bool ((!p102) || (ltB x2 1))) rfl rfl hF rfl (run_pick_or rfl (hF.ev rfl) rfl (fun hp => ((hF.ev rfl).trans (gv_t (not_t hp))))) ?_; clear hF; intro a hF
  refine op_val (v := .bool ((!p102) || (ltB x2 1))) rfl rfl hF rfl (run_move rfl (hF.ev rfl)) ?_; clear hF; intro a hF
  refine op_gv (v := .int .i64 x2) rfl rfl hF rfl (yf (gw_yield hF rfl rfl rfl)) (fun hg => (run_move rfl (hF.ev rfl))) ?_; clear hF; intro a hF
  refine op_gv (v := .bool (ltB 2 x2)) rfl rfl hF rfl (yf (gw_yield hF rfl rfl rfl)) (fun hg => (run_gtr ((hF.ev rfl).trans (gv_t hg)) rfl rfl)) ?_; clear hF; intro a hF
  refine op_val (v := .bool (((!p102) || (ltB x2 1)) || (ltB 2 x2))) rfl rfl hF rfl (run_pick_or rfl (hF.ev rfl) rfl (fun hp => ((hF.ev rfl).trans (gv_t (not_t hp))))) ?_; clear hF; intro a hF
  refine wpList_nil ?_
  cases hc103 : (((!p102) || (ltB x2 1)) || (ltB 2 x2))
  · replace hM := bif_f hc103 hM
    refine cond_f hF rfl hc103 ?_
    refine wp_skip ?_
    refine wp_seq ?_
    refine wp_region_lit ?_
    refine op_val (v := .slice none 0 0) rfl rfl hF rfl (run_assign rfl rfl) ?_; clear hF; intro a hF
    refine wpList_nil ?_
    refine wp_seq ?_
    refine wp_seq ?_
    refine wp_region_lit ?_
    refine op_val (v := .pointer (some ⟨g101, 0, none⟩)) rfl rfl hF rfl (run_fieldAddr rfl fl25_0 (hF.ev rfl) rfl) ?_; clear hF; intro a hF
    refine op_val (v := .slice A0 x0.length c0) rfl rfl hF rfl (run_load1 rfl one23 (hF.ev rfl) ((S.free 0 rfl).cell rfl)) ?_; clear hF; intro a hF
    refine op_val (v := .int .i64 (x0.length : Int)) rfl rfl hF rfl (run_lenL rfl rfl Tryd.underlying23 (hF.ev rfl)) ?_; clear hF; intro a hF
    refine op_val (v := .int .i64 0) rfl rfl hF rfl (run_move rfl rfl) ?_; clear hF; intro a hF
    refine wpList_nil ?_
    obtain ⟨o105, hM108, hM⟩ := bind_ex hM
    refine wp_cut (fun a u => ∃ (p104 : List Int) (B106 : Option Addr) (d107 : Nat), p104 = o105 ∧ Fr a 48 [(4, .slice none 0 0), (5, .slice B106 p104.length d107)] ∧ St w u [.row 3 1 (.slice B106 p104.length d107) p104.length (p104.flatMap eI)]) ?_ ?_
    · have _ := trivial
      refine wp_block ?_
      replace S := S.nilrow 3 1
      replace S := S.addold h0.rc (by decide)
      refine loop_gw (fun m a u => ∃ (p109 : List Int × Int × List Int × Bool × Bool) (B110 : Option Addr) (d111 : Nat) (B112 : Option Addr) (d113 : Nat), m_impl_EmptyDeeds_l1 x0 x2 m p109 = some _ ∧ Fr a 48 [(1, .int .i64 x2), (2, .pointer (some ⟨g101, 0, none⟩)), (4, .slice none 0 0), (5, .slice B110 p109.1.length d111), (21, .slice A0 x0.length c0), (22, .int .i64 (x0.length : Int)), (23, .int .i64 p109.2.1)] ∧ St w u [.box g101 25 #[.slice B112 p109.2.2.1.length d113, .bool p109.2.2.2.2], .row 3 1 (.slice B110 p109.1.length d111) p109.1.length (p109.1.flatMap eI), mrow p109.2.2.2.1 w.heap.size 3 1 (.slice B112 p109.2.2.1.length d113) p109.2.2.1.length (p109.2.2.1.flatMap eI)]) FUEL ⟨(([] : List Int), 0, x0, false, x1), none, 0, A0, c0, hM108, hF.keep _ ⟨rfl, rfl, rfl, rfl, rfl, rfl, rfl, trivial⟩, S.sel [2, 1, 0] rfl rfl⟩ ?_
      clear hF S hM108; rintro m a u ⟨p109, B110, d111, B112, d113, hM108, hF, S⟩
      rcases m with _ | f1
      · exact none_some hM108
      rw [m_impl_EmptyDeeds_l1.eq_2] at hM108
      refine wp_seq ?_
      refine wp_region_lit ?_
      refine op_val (v := .bool (ltB p109.2.1 (x0.length : Int))) rfl rfl hF rfl (run_lss (hF.ev rfl) (hF.ev rfl) rfl) ?_; clear hF; intro a hF
      refine wpList_nil ?_
      refine wp_seq ?_
      cases hc114 : (ltB p109.2.1 (x0.length : Int))
      · replace hM108 := bif_f hc114 hM108
        refine cond_f hF rfl hc114 ?_
        refine wp_exit ?_
        repeat with_reducible (first | refine then_exit ?_ | refine in_hit ?_ | refine in_miss rfl ?_)
        obtain rfl := Option.some.inj hM108
        exact ⟨p109.1, B110, d111, rfl, hF.keep _ ⟨rfl, rfl, trivial⟩, S.sel [1] rfl rfl⟩
      · replace hM108 := bif_t hc114 hM108
        refine cond_t hF rfl hc114 ?_
        refine wp_skip ?_
        refine wp_seq ?_
        refine wp_block ?_
        refine wp_seq ?_
        refine wp_region_lit ?_
        refine op_val (v := .int .i64 p109.2.1) rfl rfl hF rfl (run_move rfl (hF.ev rfl)) ?_; clear hF; intro a hF
        obtain ⟨hk115, hM108⟩ := chk_ex hM108
        replace hk115 := ixB_t hk115
        refine op_val (v := .pointer (some ⟨adB A0, adO A0 + p109.2.1.toNat * 1, none⟩)) rfl rfl hF rfl (run_indexAddr (b := adB A0) (off := adO A0) rfl Tryd.underlying23 sz3 ((hF.ev rfl).trans (congrArg (fun A => Value.slice A x0.length c0) ((S.rc0 h0.rc).rd.ad (ix_pos hk115)))) (hF.ev rfl) hk115.1 hk115.2 (k' := adO A0 + p109.2.1.toNat * 1) rfl) ?_; clear hF; intro a hF
        refine op_val (v := .int .i64 (x0.getD p109.2.1.toNat (0 : Int))) rfl rfl hF rfl (run_load1 rfl one3 (hF.ev rfl) (rd_el0 (l := x0) (S.rc0 h0.rc).rd rfl eI_len (0 : Int) (ix_ltn hk115 rfl) rfl)) ?_; clear hF; intro a hF
        refine op_val (v := .int .i64 p109.2.1) rfl rfl hF rfl (run_assign rfl (hF.ev rfl)) ?_; clear hF; intro a hF
        refine op_val (v := .int .i64 (x0.getD p109.2.1.toNat (0 : Int))) rfl rfl hF rfl (run_assign rfl (hF.ev rfl)) ?_; clear hF; intro a hF
        refine wpList_nil ?_
        refine wp_seq ?_
        refine wp_region_lit ?_
        refine op_val (v := .int .i64 (x0.getD p109.2.1.toNat (0 : Int))) rfl rfl hF rfl (run_move rfl (hF.ev rfl)) ?_; clear hF; intro a hF
        refine op_val (v := .int .i64 x2) rfl rfl hF rfl (run_move rfl (hF.ev rfl)) ?_; clear hF; intro a hF
        refine op_val (v := .int .i64 (bitsAnd .i64 (x0.getD p109.2.1.toNat (0 : Int)) x2)) rfl rfl hF rfl (run_band (hF.ev rfl) (hF.ev rfl) rfl) ?_; clear hF; intro a hF
        refine op_val (v := .bool ((bitsAnd .i64 (x0.getD p109.2.1.toNat (0 : Int)) x2) != 0)) rfl rfl hF rfl (run_neq (hF.ev rfl) rfl rfl) ?_; clear hF; intro a hF
        refine wpList_nil ?_
        obtain ⟨o117, hM122, hM108⟩ := bind_ex hM108
        refine wp_cut (fun a u => ∃ (p116 : List Int × List Int × Bool × Bool) (B118 : Option Addr) (d119 : Nat) (B120 : Option Addr) (d121 : Nat), p116 = o117 ∧ Fr a 48 [(1, .int .i64 x2), (2, .pointer (some ⟨g101, 0, none⟩)), (4, .slice none 0 0), (5, .slice B118 p116.1.length d119), (21, .slice A0 x0.length c0), (22, .int .i64 (x0.length : Int)), (23, .int .i64 p109.2.1)] ∧ St w u [.box g101 25 #[.slice B120 p116.2.1.length d121, .bool p116.2.2.2], .row 3 1 (.slice B118 p116.1.length d119) p116.1.length (p116.1.flatMap eI), mrow p116.2.2.1 w.heap.size 3 1 (.slice B120 p116.2.1.length d121) p116.2.1.length (p116.2.1.flatMap eI)]) ?_ ?_
        · have _ := trivial
          cases hc123 : ((bitsAnd .i64 (x0.getD p109.2.1.toNat (0 : Int)) x2) != 0)
          · replace hM122 := bif_f hc123 hM122
            refine cond_f hF rfl hc123 ?_
            refine wp_skip ?_
            obtain rfl := Option.some.inj hM122
            exact ⟨(p109.1, p109.2.2.1, p109.2.2.2.1, p109.2.2.2.2), B110, d111, B112, d113, rfl, hF.keep _ ⟨rfl, rfl, rfl, rfl, rfl, rfl, rfl, trivial⟩, S.sel [0, 1, 2] rfl rfl⟩
          · replace hM122 := bif_t hc123 hM122
            refine cond_t hF rfl hc123 ?_
            refine wp_seq ?_
            refine wp_region_lit ?_
            refine op_val (v := .agg #[.slice B112 p109.2.2.1.length d113, .bool p109.2.2.2.2]) rfl rfl hF rfl (run_loadN rfl ag25 (hF.ev rfl) rfl ((S.free 0 rfl).cells 0 #[.slice B112 p109.2.2.1.length d113, .bool p109.2.2.2.2] rfl)) ?_; clear hF; intro a hF
            refine op_val (v := .int .i64 p109.2.1) rfl rfl hF rfl (run_move rfl (hF.ev rfl)) ?_; clear hF; intro a hF
            refine op_val (v := .int .i64 x2) rfl rfl hF rfl (run_move rfl (hF.ev rfl)) ?_; clear hF; intro a hF
            refine op_val (v := .int .i64 (w64 (3 - x2))) rfl rfl hF rfl (run_sub (z := w64 (3 - x2)) rfl (hF.ev rfl) rfl rfl) ?_; clear hF; intro a hF
            obtain ⟨p124, h124, hM122⟩ := bind_ex hM122
            refine op_call rfl rfl hF rfl (run_call (vs := [.agg #[.slice B112 p109.2.2.1.length d113, .bool p109.2.2.2.2], .int .i64 p109.2.1, .int .i64 (w64 (3 - x2))]) rfl rfl co14 ⟨(hF.ev rfl), (hF.ev rfl), (hF.ev rfl), trivial⟩) (c_impl_MoveDeeds (x0 := p109.2.2.1) (x1 := p109.2.2.2.2) (x2 := p109.2.1) (x3 := w64 (3 - x2)) ⟨(S.rcm 2 rfl), rfl⟩ h124) ?_
            rintro e u ⟨B125, n126, d127, rfl, rfl, T⟩
            refine ⟨_, rfl, ?_⟩
            clear hF; intro a hF
            replace S := S.call1 T; clear T
            refine op_val (v := .slice B125 p124.length d127) rfl rfl hF rfl (run_assign rfl (hF.ev rfl)) ?_; clear hF; intro a hF
            refine wpList_nil ?_
            refine wp_seq ?_
            refine wp_region_lit ?_
            refine op_val (v := .slice B110 p109.1.length d111) rfl rfl hF rfl (run_move rfl (hF.ev rfl)) ?_; clear hF; intro a hF
            refine op_val (v := .slice B125 p124.length d127) rfl rfl hF rfl (run_move rfl (hF.ev rfl)) ?_; clear hF; intro a hF
            obtain ⟨hk130, hM122⟩ := chk_ex hM122
            replace hk130 := apB_t hk130
            refine op_appendL (lx := p109.1) (ly := p124) rfl rfl hF rfl S rfl (hF.ev rfl) (hF.ev rfl) (i := 2) rfl rfl Tryd.underlying23 inf3 rfl (by decide) (S.rc 0 rfl).rd rfl eI_one hk130 (by decide) ?_; clear hF S; intro a B128 d129 u hF S
            refine op_val (v := .slice B128 ((p109.1 ++ p124).length) d129) rfl rfl hF rfl (run_assign rfl (hF.ev rfl)) ?_; clear hF; intro a hF
            refine wpList_nil ?_
            refine wp_region_lit ?_
            refine op_val (v := .agg #[.slice B112 p109.2.2.1.length d113, .bool p109.2.2.2.2]) rfl rfl hF rfl (run_loadN rfl ag25 (hF.ev rfl) rfl ((S.free 1 rfl).cells 0 #[.slice B112 p109.2.2.1.length d113, .bool p109.2.2.2.2] rfl)) ?_; clear hF; intro a hF
            refine op_val (v := .slice B125 p124.length d127) rfl rfl hF rfl (run_move rfl (hF.ev rfl)) ?_; clear hF; intro a hF
            obtain ⟨p131, h131, hM122⟩ := bind_ex hM122
            refine op_call rfl rfl hF rfl (run_call (vs := [.agg #[.slice B112 p109.2.2.1.length d113, .bool p109.2.2.2.2], .slice B125 p124.length d127]) rfl rfl co17 ⟨(hF.ev rfl), (hF.ev rfl), trivial⟩) (c_impl_BarsRun (x0 := p109.2.2.1) (x1 := p109.2.2.2.2) (x2 := p124) ⟨(S.rcm 3 rfl), rfl⟩ ⟨(S.rc 0 rfl), rfl⟩ h131) ?_
            rintro e u ⟨B132, n133, d134, rfl, rfl, T⟩
            refine ⟨_, rfl, ?_⟩
            clear hF; intro a hF
            replace S := S.call1 T; clear T
            refine op_val (v := .tuple #[.agg #[.slice B132 p131.1.length d134, .bool p131.2.1], .int .i64 p131.2.2]) rfl rfl hF rfl (run_move rfl (hF.ev rfl)) ?_; clear hF; intro a hF
            refine op_val (v := .agg #[.slice B132 p131.1.length d134, .bool p131.2.1]) rfl rfl hF rfl (run_extract rfl (hF.ev rfl) rfl) ?_; clear hF; intro a hF
            refine op_val (v := .int .i64 p131.2.2) rfl rfl hF rfl (run_extract rfl (hF.ev rfl) rfl) ?_; clear hF; intro a hF
            refine op_do rfl rfl (run_store (cs' := #[.slice B132 p131.1.length d134, .bool p131.2.1]) rfl sz25 (hF.ev rfl) (hF.ev rfl) rfl rfl rfl (S.free 2 rfl) rfl rfl) ?_; replace S := S.put 2 rfl (#[.slice B132 p131.1.length d134, .bool p131.2.1])
            generalize World.setRow _ _ _ = u at S ⊢
            refine wpList_nil ?_
            obtain rfl := Option.some.inj hM122
            exact ⟨(p109.1 ++ p124, p131.1, true, p131.2.1), B128, d129, B132, d134, rfl, hF.keep _ ⟨rfl, rfl, rfl, rfl, rfl, rfl, rfl, trivial⟩, S.sel [2, 3, 0] rfl rfl⟩
        · rintro a u ⟨p116, B118, d119, B120, d121, rfl, hF, S⟩
          refine wp_region_lit ?_
          refine op_val (v := .int .i64 (w64 (p109.2.1 + 1))) rfl rfl hF rfl (run_add (z := w64 (p109.2.1 + 1)) (hF.ev rfl) rfl rfl rfl) ?_; clear hF; intro a hF
          refine op_val (v := .int .i64 (w64 (p109.2.1 + 1))) rfl rfl hF rfl (run_move rfl (hF.ev rfl)) ?_; clear hF; intro a hF
          refine wpList_nil ?_
          exact ⟨f1, Nat.lt_succ_self _, (p116.1, w64 (p109.2.1 + 1), p116.2.1, p116.2.2.1, p116.2.2.2), B118, d119, B120, d121, hM108, hF.keep _ ⟨rfl, rfl, rfl, rfl, rfl, rfl, rfl, trivial⟩, S.sel [0, 1, 2] rfl rfl⟩
    · rintro a u ⟨p104, B106, d107, rfl, hF, S⟩
      refine wp_seq ?_
      refine wp_region_lit ?_
      refine op_val (v := .slice B106 p104.length d107) rfl rfl hF rfl (run_move rfl (hF.ev rfl)) ?_; clear hF; intro a hF
      refine op_val (v := .slice B106 p104.length d107) rfl rfl hF rfl (run_assign rfl (hF.ev rfl)) ?_; clear hF; intro a hF
      refine wpList_nil ?_
      refine wp_ret ?_
      repeat with_reducible (first | refine then_ret ?_ | refine in_ret ?_ | refine in_nrm ?_)
      refine ret1_gw (.inl rfl) hF rfl (res_tmp (hF.ev rfl)) ?_
      obtain rfl := Option.some.inj hM
      exact ⟨B106, p104.length, d107, rfl, rfl, S.sel [0] rfl rfl⟩
  · replace hM := bif_t hc103 hM
    refine cond_t hF rfl hc103 ?_
    refine wp_seq ?_
    refine wp_region_lit ?_
    refine op_val (v := .slice none 0 0) rfl rfl hF rfl (run_assign rfl rfl) ?_; clear hF; intro a hF
    refine wpList_nil ?_
    refine wp_ret ?_
    repeat with_reducible (first | refine then_ret ?_ | refine in_ret ?_ | refine in_nrm ?_)
    refine ret1_gw (.inl rfl) hF rfl (res_tmp (hF.ev rfl)) ?_
    obtain rfl := Option.some.inj hM
    replace S := S.nilrow 3 1
    exact ⟨none, 0, 0, rfl, rfl, S.sel [0] rfl rfl⟩

set_option maxHeartbeats 4000000 in
theorem c_spec_EmptyDeeds {x0 : List Int} {x1 : Bool} {x2 : Int} {A0 : Option Addr} {n0 c0 : Nat} {w : World} {r : List Int} (h0 : Rt w 1 eI A0 n0 c0 x0) (hM : m_spec_EmptyDeeds x0 x1 x2 = some r) :
    Calls Tryd.prog 23 #[.agg #[.slice A0 n0 c0, .bool x1], .int .i64 x2] w (fun e w' => ∃ (B0 : Option Addr) (N0 D0 : Nat), e = .returned (.slice B0 N0 D0) ∧ N0 = r.length ∧ St w w' [.row 3 1 (.slice B0 N0 D0) N0 (r.flatMap eI)]) := by
  obtain rfl := h0.len
  unfold m_spec_EmptyDeeds at hM
  refine calls_gw Tryd.func23 Tryd.ntmps23 rfl [(0, .agg #[.slice A0 x0.length c0, .bool x1]), (1, .int .i64 x2)] ⟨rfl, rfl, trivial⟩ rfl ?_
  intro a hF
  have S := St.nil w
  refine wp_seq ?_
  refine wp_region_lit ?_
  refine op_new (cs := #[.slice A0 x0.length c0, .bool x1]) rfl rfl hF rfl S (run_box rfl (hF.ev rfl) rfl) ?_; clear hF S; intro a g101 u hF S
  refine op_val (v := .slice none 0 0) rfl rfl hF rfl (run_assign rfl rfl) ?_; clear hF; intro a hF
  refine wpList_nil ?_
  refine wp_seq ?_
  refine wp_region_lit ?_
  refine op_newrow (cs := #[]) (size := 1) rfl rfl hF rfl S (run_buildSlice0 rfl Tryd.underlying23 (congrArg Option.isSome sz3)) rfl (Nat.zero_le _) ?_; clear hF S; intro a g102 u hF S
  refine op_val (v := .slice (some ⟨g102, 0, none⟩) 0 0) rfl rfl hF rfl (run_assign rfl (hF.ev rfl)) ?_; clear hF; intro a hF
  refine wpList_nil ?_
  refine wp_seq ?_
  refine wp_seq ?_
  refine wp_region_lit ?_
  refine op_val (v := .agg #[.slice A0 x0.length c0, .bool x1]) rfl rfl hF rfl (run_loadN rfl ag25 (hF.ev rfl) rfl ((S.free 1 rfl).cells 0 #[.slice A0 x0.length c0, .bool x1] rfl)) ?_; clear hF; intro a hF
  obtain ⟨p103, h103, hM⟩ := bind_ex hM
  refine op_call rfl rfl hF rfl (run_call (vs := [.agg #[.slice A0 x0.length c0, .bool x1]]) rfl rfl co20 ⟨(hF.ev rfl), trivial⟩) (c_spec_BarsValid (x0 := x0) (x1 := x1) ⟨(S.rc0 h0.rc), rfl⟩ h103) ?_
  rintro e u ⟨rfl, T⟩
  refine ⟨_, rfl, ?_⟩
  clear hF; intro a hF
  replace S := S.call0 T; clear T
  refine op_val (v := .bool (!p103)) rfl rfl hF rfl (run_not rfl (hF.ev rfl)) ?_; clear hF; intro a hF
  refine op_val (v := .bool (!p103)) rfl rfl hF rfl (run_move rfl (hF.ev rfl)) ?_; clear hF; intro a hF
  refine op_gv (v := .int .i64 x2) rfl rfl hF rfl (yf (gw_yield hF rfl rfl rfl)) (fun hg => (run_move rfl (hF.ev rfl))) ?_; clear hF; intro a hF
  obtain ⟨p104, h104, hM⟩ := bind_ex hM
  refine op_gcall (v := .bool p104) rfl rfl hF rfl S (yf (gw_yield hF rfl rfl rfl)) (fun hg => (run_call (vs := [.int .i64 x2, .int .i64 1, .int .i64 2]) rfl rfl co32 ⟨((hF.ev rfl).trans (gv_t hg)), rfl, rfl, trivial⟩)) (fun hg => c_spec_l1In (x0 := x2) (x1 := 1) (x2 := 2)  (gb_t h104 hg)) ?_; clear hF S; intro a u hF S
  refine op_gv (v := .bool (!p104)) rfl rfl hF rfl (yf (gw_yield hF rfl rfl rfl)) (fun hg => (run_not rfl ((hF.ev rfl).trans (gv_t hg)))) ?_; clear hF; intro a hF
  refine op_val (v := .bool ((!p103) || (!p104))) rfl rfl hF rfl (run_pick_or rfl (hF.ev rfl) rfl (fun hp => ((hF.ev rfl).trans (gv_t (not_t hp))))) ?_; clear hF; intro a hF
  refine wpList_nil ?_
  cases hc105 : ((!p103) || (!p104))
  · replace hM := bif_f hc105 hM
    refine cond_f hF rfl hc105 ?_
    refine wp_skip ?_
    refine wp_seq ?_
    refine wp_seq ?_
    refine wp_region_lit ?_
    refine op_val (v := .int .i64 0) rfl rfl hF rfl (run_assign rfl rfl) ?_; clear hF; intro a hF
    refine wpList_nil ?_
    obtain ⟨o107, hM110, hM⟩ := bind_ex hM
    refine wp_cut (fun a u => ∃ (p106 : List Int) (B108 : Option Addr) (d109 : Nat), p106 = o107 ∧ Fr a 43 [(4, .slice none 0 0), (5, .slice B108 p106.length d109)] ∧ St w u [.row 3 1 (.slice B108 p106.length d109) p106.length (p106.flatMap eI)]) ?_ ?_
    · have _ := trivial
      refine wp_block ?_
      replace S := S.addold h0.rc (by decide)
      refine loop_gw (fun m a u => ∃ (p111 : List Int × Int × List Int × Bool × Bool) (B112 : Option Addr) (d113 : Nat) (B114 : Option Addr) (d115 : Nat), m_spec_EmptyDeeds_l1 x2 m p111 = some _ ∧ Fr a 43 [(1, .int .i64 x2), (2, .pointer (some ⟨g101, 0, none⟩)), (4, .slice none 0 0), (5, .slice B112 p111.1.length d113), (6, .int .i64 p111.2.1)] ∧ St w u [.box g101 25 #[.slice B114 p111.2.2.1.length d115, .bool p111.2.2.2.2], .row 3 1 (.slice B112 p111.1.length d113) p111.1.length (p111.1.flatMap eI), mrow p111.2.2.2.1 w.heap.size 3 1 (.slice B114 p111.2.2.1.length d115) p111.2.2.1.length (p111.2.2.1.flatMap eI)]) FUEL ⟨(([] : List Int), 0, x0, false, x1), (some ⟨g102, 0, none⟩), 0, A0, c0, hM110, hF.keep _ ⟨rfl, rfl, rfl, rfl, rfl, trivial⟩, S.sel [2, 1, 0] rfl rfl⟩ ?_
      clear hF S hM110; rintro m a u ⟨p111, B112, d113, B114, d115, hM110, hF, S⟩
      rcases m with _ | f1
      · exact none_some hM110
      rw [m_spec_EmptyDeeds_l1.eq_2] at hM110
      refine wp_seq ?_
      refine wp_seq ?_
      refine wp_region_lit ?_
      refine op_val (v := .int .i64 p111.2.1) rfl rfl hF rfl (run_move rfl (hF.ev rfl)) ?_; clear hF; intro a hF
      refine op_val (v := .pointer (some ⟨g101, 0, none⟩)) rfl rfl hF rfl (run_fieldAddr rfl fl25_0 (hF.ev rfl) rfl) ?_; clear hF; intro a hF
      refine op_val (v := .slice B114 p111.2.2.1.length d115) rfl rfl hF rfl (run_load1 rfl one23 (hF.ev rfl) ((S.free 0 rfl).cell rfl)) ?_; clear hF; intro a hF
      refine op_val (v := .int .i64 (p111.2.2.1.length : Int)) rfl rfl hF rfl (run_lenL rfl rfl Tryd.underlying23 (hF.ev rfl)) ?_; clear hF; intro a hF
      refine op_val (v := .bool (ltB p111.2.1 (p111.2.2.1.length : Int))) rfl rfl hF rfl (run_lss (hF.ev rfl) (hF.ev rfl) rfl) ?_; clear hF; intro a hF
      refine wpList_nil ?_
      cases hc116 : (ltB p111.2.1 (p111.2.2.1.length : Int))
      · replace hM110 := bif_f hc116 hM110
        refine cond_f hF rfl hc116 ?_
        refine wp_exit ?_
        repeat with_reducible (first | refine then_exit ?_ | refine in_hit ?_ | refine in_miss rfl ?_)
        obtain rfl := Option.some.inj hM110
        exact ⟨p111.1, B112, d113, rfl, hF.keep _ ⟨rfl, rfl, trivial⟩, S.sel [1] rfl rfl⟩
      · replace hM110 := bif_t hc116 hM110
        refine cond_t hF rfl hc116 ?_
        refine wp_skip ?_
        refine wp_seq ?_
        refine wp_block ?_
        refine wp_seq ?_
        refine wp_region_lit ?_
        refine op_val (v := .agg #[.slice B114 p111.2.2.1.length d115, .bool p111.2.2.2.2]) rfl rfl hF rfl (run_loadN rfl ag25 (hF.ev rfl) rfl ((S.free 0 rfl).cells 0 #[.slice B114 p111.2.2.1.length d115, .bool p111.2.2.2.2] rfl)) ?_; clear hF; intro a hF
        refine op_val (v := .int .i64 p111.2.1) rfl rfl hF rfl (run_move rfl (hF.ev rfl)) ?_; clear hF; intro a hF
        refine op_val (v := .int .i64 x2) rfl rfl hF rfl (run_move rfl (hF.ev rfl)) ?_; clear hF; intro a hF
        refine op_val (v := .int .i64 (w64 (3 - x2))) rfl rfl hF rfl (run_sub (z := w64 (3 - x2)) rfl (hF.ev rfl) rfl rfl) ?_; clear hF; intro a hF
        obtain ⟨p117, h117, hM110⟩ := bind_ex hM110
        refine op_call rfl rfl hF rfl (run_call (vs := [.agg #[.slice B114 p111.2.2.1.length d115, .bool p111.2.2.2.2], .int .i64 p111.2.1, .int .i64 (w64 (3 - x2))]) rfl rfl co16 ⟨(hF.ev rfl), (hF.ev rfl), (hF.ev rfl), trivial⟩) (c_spec_MoveDeeds (x0 := p111.2.2.1) (x1 := p111.2.2.2.2) (x2 := p111.2.1) (x3 := w64 (3 - x2)) ⟨(S.rcm 2 rfl), rfl⟩ h117) ?_
        rintro e u ⟨B118, n119, d120, rfl, rfl, T⟩
        refine ⟨_, rfl, ?_⟩
        clear hF; intro a hF
        replace S := S.call1 T; clear T
        refine op_val (v := .slice B118 p117.length d120) rfl rfl hF rfl (run_assign rfl (hF.ev rfl)) ?_; clear hF; intro a hF
        refine wpList_nil ?_
        refine wp_seq ?_
        refine wp_region_lit ?_
        refine op_val (v := .agg #[.slice B114 p111.2.2.1.length d115, .bool p111.2.2.2.2]) rfl rfl hF rfl (run_loadN rfl ag25 (hF.ev rfl) rfl ((S.free 1 rfl).cells 0 #[.slice B114 p111.2.2.1.length d115, .bool p111.2.2.2.2] rfl)) ?_; clear hF; intro a hF
        refine op_val (v := .slice B118 p117.length d120) rfl rfl hF rfl (run_move rfl (hF.ev rfl)) ?_; clear hF; intro a hF
        obtain ⟨p121, h121, hM110⟩ := bind_ex hM110
        refine op_call rfl rfl hF rfl (run_call (vs := [.agg #[.slice B114 p111.2.2.1.length d115, .bool p111.2.2.2.2], .slice B118 p117.length d120]) rfl rfl co19 ⟨(hF.ev rfl), (hF.ev rfl), trivial⟩) (c_spec_BarsRun (x0 := p111.2.2.1) (x1 := p111.2.2.2.2) (x2 := p117) ⟨(S.rcm 3 rfl), rfl⟩ ⟨(S.rc 0 rfl), rfl⟩ h121) ?_
        rintro e u ⟨B122, n123, d124, rfl, rfl, T⟩
        refine ⟨_, rfl, ?_⟩
        clear hF; intro a hF
        replace S := S.call1 T; clear T
        refine op_val (v := .tuple #[.agg #[.slice B122 p121.1.length d124, .bool p121.2.1], .int .i64 p121.2.2]) rfl rfl hF rfl (run_move rfl (hF.ev rfl)) ?_; clear hF; intro a hF
        refine op_val (v := .agg #[.slice B122 p121.1.length d124, .bool p121.2.1]) rfl rfl hF rfl (run_extract rfl (hF.ev rfl) rfl) ?_; clear hF; intro a hF
        refine op_val (v := .int .i64 p121.2.2) rfl rfl hF rfl (run_extract rfl (hF.ev rfl) rfl) ?_; clear hF; intro a hF
        refine op_new (cs := #[.slice none 0 0, .bool false]) rfl rfl hF rfl S (run_allocZ rfl zr25) ?_; clear hF S; intro a g125 u hF S
        refine op_do rfl rfl (run_store (cs' := #[.slice B122 p121.1.length d124, .bool p121.2.1]) rfl sz25 (hF.ev rfl) (hF.ev rfl) rfl rfl rfl (S.free 0 rfl) rfl rfl) ?_; replace S := S.put 0 rfl (#[.slice B122 p121.1.length d124, .bool p121.2.1])
        generalize World.setRow _ _ _ = u at S ⊢
        refine op_val (v := .int .i64 p121.2.2) rfl rfl hF rfl (run_assign rfl (hF.ev rfl)) ?_; clear hF; intro a hF
        refine wpList_nil ?_
        refine wp_seq ?_
        refine wp_region_lit ?_
        refine op_val (v := .agg #[.slice B122 p121.1.length d124, .bool p121.2.1]) rfl rfl hF rfl (run_loadN rfl ag25 (hF.ev rfl) rfl ((S.free 0 rfl).cells 0 #[.slice B122 p121.1.length d124, .bool p121.2.1] rfl)) ?_; clear hF; intro a hF
        refine op_do rfl rfl (run_store (cs' := #[.slice B122 p121.1.length d124, .bool p121.2.1]) rfl sz25 (hF.ev rfl) (hF.ev rfl) rfl rfl rfl (S.free 3 rfl) rfl rfl) ?_; replace S := S.put 3 rfl (#[.slice B122 p121.1.length d124, .bool p121.2.1])
        generalize World.setRow _ _ _ = u at S ⊢
        refine wpList_nil ?_
        refine wp_region_lit ?_
        refine op_val (v := .slice B112 p111.1.length d113) rfl rfl hF rfl (run_move rfl (hF.ev rfl)) ?_; clear hF; intro a hF
        refine op_val (v := .slice B118 p117.length d120) rfl rfl hF rfl (run_move rfl (hF.ev rfl)) ?_; clear hF; intro a hF
        obtain ⟨hk128, hM110⟩ := chk_ex hM110
        replace hk128 := apB_t hk128
        refine op_appendL (lx := p111.1) (ly := p117) rfl rfl hF rfl S rfl (hF.ev rfl) (hF.ev rfl) (i := 4) rfl rfl Tryd.underlying23 inf3 rfl (by decide) (S.rc 2 rfl).rd rfl eI_one hk128 (by decide) ?_; clear hF S; intro a B126 d127 u hF S
        refine op_val (v := .slice B126 ((p111.1 ++ p117).length) d127) rfl rfl hF rfl (run_assign rfl (hF.ev rfl)) ?_; clear hF; intro a hF
        refine wpList_nil ?_
        refine wp_region_lit ?_
        refine op_val (v := .int .i64 p111.2.1) rfl rfl hF rfl (run_move rfl (hF.ev rfl)) ?_; clear hF; intro a hF
        refine op_val (v := .int .i64 (w64 (p111.2.1 + 1))) rfl rfl hF rfl (run_add (z := w64 (p111.2.1 + 1)) (hF.ev rfl) rfl rfl rfl) ?_; clear hF; intro a hF
        refine op_val (v := .int .i64 (w64 (p111.2.1 + 1))) rfl rfl hF rfl (run_assign rfl (hF.ev rfl)) ?_; clear hF; intro a hF
        refine wpList_nil ?_
        exact ⟨f1, Nat.lt_succ_self _, (p111.1 ++ p117, w64 (p111.2.1 + 1), p121.1, true, p121.2.1), B126, d127, B122, d124, hM110, hF.keep _ ⟨rfl, rfl, rfl, rfl, rfl, trivial⟩, S.sel [3, 4, 1] rfl rfl⟩
    · rintro a u ⟨p106, B108, d109, rfl, hF, S⟩
      refine wp_seq ?_
      refine wp_region_lit ?_
      refine op_val (v := .slice B108 p106.length d109) rfl rfl hF rfl (run_move rfl (hF.ev rfl)) ?_; clear hF; intro a hF
      refine op_val (v := .slice B108 p106.length d109) rfl rfl hF rfl (run_assign rfl (hF.ev rfl)) ?_; clear hF; intro a hF
      refine wpList_nil ?_
      refine wp_ret ?_
      repeat with_reducible (first | refine then_ret ?_ | refine in_ret ?_ | refine in_nrm ?_)
      refine ret1_gw (.inl rfl) hF rfl (res_tmp (hF.ev rfl)) ?_
      obtain rfl := Option.some.inj hM
      exact ⟨B108, p106.length, d109, rfl, rfl, S.sel [0] rfl rfl⟩
  · replace hM := bif_t hc105 hM
    refine cond_t hF rfl hc105 ?_
    refine wp_seq ?_
    refine wp_region_lit ?_
    refine op_val (v := .slice (some ⟨g102, 0, none⟩) 0 0) rfl rfl hF rfl (run_move rfl (hF.ev rfl)) ?_; clear hF; intro a hF
    refine op_val (v := .slice (some ⟨g102, 0, none⟩) 0 0) rfl rfl hF rfl (run_assign rfl (hF.ev rfl)) ?_; clear hF; intro a hF
    refine wpList_nil ?_
    refine wp_ret ?_
    repeat with_reducible (first | refine then_ret ?_ | refine in_ret ?_ | refine in_nrm ?_)
    refine ret1_gw (.inl rfl) hF rfl (res_tmp (hF.ev rfl)) ?_
    obtain rfl := Option.some.inj hM
    exact ⟨(some ⟨g102, 0, none⟩), 0, 0, rfl, rfl, S.sel [0] rfl rfl⟩

set_option maxHeartbeats 4000000 in
theorem c_laws_FnEmptyDeeds {x0 : List Int} {A0 : Option Addr} {n0 c0 : Nat} {w : World} {r : Bool} (h0 : Rt w 1 eU A0 n0 c0 x0) (hM : m_laws_FnEmptyDeeds x0 = some r) :
    Calls Tryd.prog 6 #[.slice A0 n0 c0] w (fun e w' => e = .returned (.bool r) ∧ St w w' []) := by
  obtain rfl := h0.len
  unfold m_laws_FnEmptyDeeds at hM
  refine calls_gw Tryd.func6 Tryd.ntmps6 rfl [(0, .slice A0 x0.length c0)] ⟨rfl, trivial⟩ rfl ?_
  intro a hF
  have S := St.nil w
  refine wp_seq ?_
  refine wp_region_lit ?_
  refine op_val (v := .bool false) rfl rfl hF rfl (run_assign rfl rfl) ?_; clear hF; intro a hF
  refine wpList_nil ?_
  refine wp_seq ?_
  refine wp_seq ?_
  refine wp_region_lit ?_
  refine op_val (v := .slice A0 x0.length c0) rfl rfl hF rfl (run_move rfl (hF.ev rfl)) ?_; clear hF; intro a hF
  refine op_val (v := .int .i64 (x0.length : Int)) rfl rfl hF rfl (run_lenL rfl rfl Tryd.underlying22 (hF.ev rfl)) ?_; clear hF; intro a hF
  refine op_val (v := .bool (ltB 1048576 (x0.length : Int))) rfl rfl hF rfl (run_gtr (hF.ev rfl) rfl rfl) ?_; clear hF; intro a hF
  refine wpList_nil ?_
  cases hc101 : (ltB 1048576 (x0.length : Int))
  · replace hM := bif_f hc101 hM
    refine cond_f hF rfl hc101 ?_
    refine wp_skip ?_
    refine wp_seq ?_
    refine wp_region_lit ?_
    refine op_val (v := .slice A0 x0.length c0) rfl rfl hF rfl (run_move rfl (hF.ev rfl)) ?_; clear hF; intro a hF
    obtain ⟨p102, h102, hM⟩ := bind_ex hM
    refine op_call rfl rfl hF rfl (run_call (vs := [.slice A0 x0.length c0]) rfl rfl co21 ⟨(hF.ev rfl), trivial⟩) (c_spec_DrawEmptyDeeds (x0 := x0) ⟨(S.rc0 h0.rc), rfl⟩ h102) ?_
    rintro e u ⟨B103, n104, d105, rfl, rfl, T⟩
    refine ⟨_, rfl, ?_⟩
    clear hF; intro a hF
    replace S := S.call1 T; clear T
    refine op_val (v := .tuple #[.agg #[.slice B103 p102.1.length d105, .bool p102.2.1], .int .i64 p102.2.2]) rfl rfl hF rfl (run_move rfl (hF.ev rfl)) ?_; clear hF; intro a hF
    refine op_val (v := .agg #[.slice B103 p102.1.length d105, .bool p102.2.1]) rfl rfl hF rfl (run_extract rfl (hF.ev rfl) rfl) ?_; clear hF; intro a hF
    refine op_val (v := .int .i64 p102.2.2) rfl rfl hF rfl (run_extract rfl (hF.ev rfl) rfl) ?_; clear hF; intro a hF
    refine op_new (cs := #[.slice none 0 0, .bool false]) rfl rfl hF rfl S (run_allocZ rfl zr25) ?_; clear hF S; intro a g106 u hF S
    refine op_do rfl rfl (run_store (cs' := #[.slice B103 p102.1.length d105, .bool p102.2.1]) rfl sz25 (hF.ev rfl) (hF.ev rfl) rfl rfl rfl (S.free 0 rfl) rfl rfl) ?_; replace S := S.put 0 rfl (#[.slice B103 p102.1.length d105, .bool p102.2.1])
    generalize World.setRow _ _ _ = u at S ⊢
    refine op_val (v := .int .i64 p102.2.2) rfl rfl hF rfl (run_assign rfl (hF.ev rfl)) ?_; clear hF; intro a hF
    refine wpList_nil ?_
    refine wp_seq ?_
    refine wp_region_lit ?_
    refine op_val (v := .agg #[.slice B103 p102.1.length d105, .bool p102.2.1]) rfl rfl hF rfl (run_loadN rfl ag25 (hF.ev rfl) rfl ((S.free 0 rfl).cells 0 #[.slice B103 p102.1.length d105, .bool p102.2.1] rfl)) ?_; clear hF; intro a hF
    refine op_val (v := .int .i64 p102.2.2) rfl rfl hF rfl (run_move rfl (hF.ev rfl)) ?_; clear hF; intro a hF
    obtain ⟨p107, h107, hM⟩ := bind_ex hM
    refine op_call rfl rfl hF rfl (run_call (vs := [.agg #[.slice B103 p102.1.length d105, .bool p102.2.1], .int .i64 p102.2.2]) rfl rfl co22 ⟨(hF.ev rfl), (hF.ev rfl), trivial⟩) (c_impl_EmptyDeeds (x0 := p102.1) (x1 := p102.2.1) (x2 := p102.2.2) ⟨(S.rc 1 rfl), rfl⟩ h107) ?_
    rintro e u ⟨B108, n109, d110, rfl, rfl, T⟩
    refine ⟨_, rfl, ?_⟩
    clear hF; intro a hF
    replace S := S.call1 T; clear T
    refine op_val (v := .slice B108 p107.length d110) rfl rfl hF rfl (run_assign rfl (hF.ev rfl)) ?_; clear hF; intro a hF
    refine wpList_nil ?_
    refine wp_seq ?_
    refine wp_seq ?_
    refine wp_region_lit ?_
    refine op_val (v := .slice B108 p107.length d110) rfl rfl hF rfl (run_move rfl (hF.ev rfl)) ?_; clear hF; intro a hF
    refine op_val (v := .agg #[.slice B103 p102.1.length d105, .bool p102.2.1]) rfl rfl hF rfl (run_loadN rfl ag25 (hF.ev rfl) rfl ((S.free 1 rfl).cells 0 #[.slice B103 p102.1.length d105, .bool p102.2.1] rfl)) ?_; clear hF; intro a hF
    refine op_val (v := .int .i64 p102.2.2) rfl rfl hF rfl (run_move rfl (hF.ev rfl)) ?_; clear hF; intro a hF
    obtain ⟨p111, h111, hM⟩ := bind_ex hM
    refine op_call rfl rfl hF rfl (run_call (vs := [.agg #[.slice B103 p102.1.length d105, .bool p102.2.1], .int .i64 p102.2.2]) rfl rfl co23 ⟨(hF.ev rfl), (hF.ev rfl), trivial⟩) (c_spec_EmptyDeeds (x0 := p102.1) (x1 := p102.2.1) (x2 := p102.2.2) ⟨(S.rc 2 rfl), rfl⟩ h111) ?_
    rintro e u ⟨B112, n113, d114, rfl, rfl, T⟩
    refine ⟨_, rfl, ?_⟩
    clear hF; intro a hF
    replace S := S.call1 T; clear T
    obtain ⟨p115, h115, hM⟩ := bind_ex hM
    refine op_call rfl rfl hF rfl (run_call (vs := [.slice B108 p107.length d110, .slice B112 p111.length d114]) rfl rfl co15 ⟨(hF.ev rfl), (hF.ev rfl), trivial⟩) (c_laws_sameInts (x0 := p107) (x1 := p111) ⟨(S.rc 1 rfl), rfl⟩ ⟨(S.rc 0 rfl), rfl⟩ h115) ?_
    rintro e u ⟨rfl, T⟩
    refine ⟨_, rfl, ?_⟩
    clear hF; intro a hF
    replace S := S.call0 T; clear T
    refine op_val (v := .bool (!p115)) rfl rfl hF rfl (run_not rfl (hF.ev rfl)) ?_; clear hF; intro a hF
    refine wpList_nil ?_
    cases hc116 : (p115)
    · replace hM := bif_f hc116 hM
      refine cond_t hF rfl (not_t hc116) ?_
      refine wp_seq ?_
      refine wp_region_lit ?_
      refine op_val (v := .bool false) rfl rfl hF rfl (run_assign rfl rfl) ?_; clear hF; intro a hF
      refine wpList_nil ?_
      refine wp_ret ?_
      repeat with_reducible (first | refine then_ret ?_ | refine in_ret ?_ | refine in_nrm ?_)
      refine ret1_gw (.inl rfl) hF rfl (res_tmp (hF.ev rfl)) ?_
      obtain rfl := Option.some.inj hM
      exact ⟨rfl, S.sel [] rfl rfl⟩
    · replace hM := bif_t hc116 hM
      refine cond_f hF rfl (not_f hc116) ?_
      refine wp_skip ?_
      refine wp_seq ?_
      refine wp_seq ?_
      refine wp_region_lit ?_
      refine op_val (v := .agg #[.slice B103 p102.1.length d105, .bool p102.2.1]) rfl rfl hF rfl (run_loadN rfl ag25 (hF.ev rfl) rfl ((S.free 2 rfl).cells 0 #[.slice B103 p102.1.length d105, .bool p102.2.1] rfl)) ?_; clear hF; intro a hF
      obtain ⟨p117, h117, hM⟩ := bind_ex hM
      refine op_call rfl rfl hF rfl (run_call (vs := [.agg #[.slice B103 p102.1.length d105, .bool p102.2.1]]) rfl rfl co20 ⟨(hF.ev rfl), trivial⟩) (c_spec_BarsValid (x0 := p102.1) (x1 := p102.2.1) ⟨(S.rc 3 rfl), rfl⟩ h117) ?_
      rintro e u ⟨rfl, T⟩
      refine ⟨_, rfl, ?_⟩
      clear hF; intro a hF
      replace S := S.call0 T; clear T
      refine op_val (v := .bool (!p117)) rfl rfl hF rfl (run_not rfl (hF.ev rfl)) ?_; clear hF; intro a hF
      refine op_val (v := .bool (!p117)) rfl rfl hF rfl (run_move rfl (hF.ev rfl)) ?_; clear hF; intro a hF
      refine op_gv (v := .int .i64 p102.2.2) rfl rfl hF rfl (yf (gw_yield hF rfl rfl rfl)) (fun hg => (run_move rfl (hF.ev rfl))) ?_; clear hF; intro a hF
      refine op_gv (v := .bool (ltB p102.2.2 1)) rfl rfl hF rfl (yf (gw_yield hF rfl rfl rfl)) (fun hg => (run_lss ((hF.ev rfl).trans (gv_t hg)) rfl rfl)) ?_; clear hF; intro a hF
      refine op_val (v := .bool ((!p117) || (ltB p102.2.2 1))) rfl rfl hF rfl (run_pick_or rfl (hF.ev rfl) rfl (fun hp => ((hF.ev rfl).trans (gv_t (not_t hp))))) ?_; clear hF; intro a hF
      refine op_val (v := .bool ((!p117) || (ltB p102.2.2 1))) rfl rfl hF rfl (run_move rfl (hF.ev rfl)) ?_; clear hF; intro a hF
      refine op_gv (v := .int .i64 p102.2.2) rfl rfl hF rfl (yf (gw_yield hF rfl rfl rfl)) (fun hg => (run_move rfl (hF.ev rfl))) ?_; clear hF; intro a hF
      refine op_gv (v := .bool (ltB 2 p102.2.2)) rfl rfl hF rfl (yf (gw_yield hF rfl rfl rfl)) (fun hg => (run_gtr ((hF.ev rfl).trans (gv_t hg)) rfl rfl)) ?_; clear hF; intro a hF
      refine op_val (v := .bool (((!p117) || (ltB p102.2.2 1)) || (ltB 2 p102.2.2))) rfl rfl hF rfl (run_pick_or rfl (hF.ev rfl) rfl (fun hp => ((hF.ev rfl).trans (gv_t (not_t hp))))) ?_; clear hF; intro a hF
      refine wpList_nil ?_
      cases hc118 : (((!p117) || (ltB p102.2.2 1)) || (ltB 2 p102.2.2))
      · replace hM := bif_f hc118 hM
        refine cond_f hF rfl hc118 ?_
        refine wp_skip ?_
        refine wp_seq ?_
        refine wp_region_lit ?_
        refine op_val (v := .agg #[.slice B103 p102.1.length d105, .bool p102.2.1]) rfl rfl hF rfl (run_loadN rfl ag25 (hF.ev rfl) rfl ((S.free 2 rfl).cells 0 #[.slice B103 p102.1.length d105, .bool p102.2.1] rfl)) ?_; clear hF; intro a hF
        refine op_val (v := .slice B108 p107.length d110) rfl rfl hF rfl (run_move rfl (hF.ev rfl)) ?_; clear hF; intro a hF
        obtain ⟨p119, h119, hM⟩ := bind_ex hM
        refine op_call rfl rfl hF rfl (run_call (vs := [.agg #[.slice B103 p102.1.length d105, .bool p102.2.1], .slice B108 p107.length d110]) rfl rfl co17 ⟨(hF.ev rfl), (hF.ev rfl), trivial⟩) (c_impl_BarsRun (x0 := p102.1) (x1 := p102.2.1) (x2 := p107) ⟨(S.rc 3 rfl), rfl⟩ ⟨(S.rc 1 rfl), rfl⟩ h119) ?_
        rintro e u ⟨B120, n121, d122, rfl, rfl, T⟩
        refine ⟨_, rfl, ?_⟩
        clear hF; intro a hF
        replace S := S.call1 T; clear T
        refine op_val (v := .tuple #[.agg #[.slice B120 p119.1.length d122, .bool p119.2.1], .int .i64 p119.2.2]) rfl rfl hF rfl (run_move rfl (hF.ev rfl)) ?_; clear hF; intro a hF
        refine op_val (v := .agg #[.slice B120 p119.1.length d122, .bool p119.2.1]) rfl rfl hF rfl (run_extract rfl (hF.ev rfl) rfl) ?_; clear hF; intro a hF
        refine op_val (v := .int .i64 p119.2.2) rfl rfl hF rfl (run_extract rfl (hF.ev rfl) rfl) ?_; clear hF; intro a hF
        refine op_new (cs := #[.slice none 0 0, .bool false]) rfl rfl hF rfl S (run_allocZ rfl zr25) ?_; clear hF S; intro a g123 u hF S
        refine op_do rfl rfl (run_store (cs' := #[.slice B120 p119.1.length d122, .bool p119.2.1]) rfl sz25 (hF.ev rfl) (hF.ev rfl) rfl rfl rfl (S.free 0 rfl) rfl rfl) ?_; replace S := S.put 0 rfl (#[.slice B120 p119.1.length d122, .bool p119.2.1])
        generalize World.setRow _ _ _ = u at S ⊢
        refine op_val (v := .int .i64 p119.2.2) rfl rfl hF rfl (run_assign rfl (hF.ev rfl)) ?_; clear hF; intro a hF
        refine wpList_nil ?_
        refine wp_seq ?_
        refine wp_seq ?_
        refine wp_region_lit ?_
        refine op_val (v := .int .i64 0) rfl rfl hF rfl (run_assign rfl rfl) ?_; clear hF; intro a hF
        refine wpList_nil ?_
        obtain ⟨o125, hM126, hM⟩ := bind_ex hM
        refine wp_cut (fun a u => ∃ (p124 : Unit), (Sum.inl p124) = o125 ∧ Fr a 84 [(2, .bool false), (3, .pointer (some ⟨g106, 0, none⟩)), (5, .slice B108 p107.length d110), (6, .pointer (some ⟨g123, 0, none⟩)), (7, .int .i64 p119.2.2)] ∧ St w u [.box g123 25 #[.slice B120 p119.1.length d122, .bool p119.2.1], .box g106 25 #[.slice B103 p102.1.length d105, .bool p102.2.1], .row 3 1 (.slice B108 p107.length d110) p107.length (p107.flatMap eI), .row 3 1 (.slice B120 p119.1.length d122) p119.1.length (p119.1.flatMap eI), .row 3 1 (.slice B103 p102.1.length d105) p102.1.length (p102.1.flatMap eI)]) ?_ ?_
        · have _ := trivial
          refine wp_block ?_
          refine loop_gw (fun m a u => ∃ (p127 : Int), m_laws_FnEmptyDeeds_l1 p102 p119 m p127 = some _ ∧ Fr a 84 [(2, .bool false), (3, .pointer (some ⟨g106, 0, none⟩)), (4, .int .i64 p102.2.2), (5, .slice B108 p107.length d110), (6, .pointer (some ⟨g123, 0, none⟩)), (7, .int .i64 p119.2.2), (8, .int .i64 p127)] ∧ St w u [.box g123 25 #[.slice B120 p119.1.length d122, .bool p119.2.1], .box g106 25 #[.slice B103 p102.1.length d105, .bool p102.2.1], .row 3 1 (.slice B108 p107.length d110) p107.length (p107.flatMap eI), .row 3 1 (.slice B120 p119.1.length d122) p119.1.length (p119.1.flatMap eI), .row 3 1 (.slice B103 p102.1.length d105) p102.1.length (p102.1.flatMap eI)]) FUEL ⟨0, hM126, hF.keep _ ⟨rfl, rfl, rfl, rfl, rfl, rfl, rfl, trivial⟩, S.sel [0, 4, 3, 1, 5] rfl rfl⟩ ?_
          clear hF S hM126; rintro m a u ⟨p127, hM126, hF, S⟩
          rcases m with _ | f1
          · exact none_some hM126
          rw [m_laws_FnEmptyDeeds_l1.eq_2] at hM126
          refine wp_seq ?_
          refine wp_seq ?_
          refine wp_region_lit ?_
          refine op_val (v := .int .i64 p127) rfl rfl hF rfl (run_move rfl (hF.ev rfl)) ?_; clear hF; intro a hF
          refine op_val (v := .pointer (some ⟨g123, 0, none⟩)) rfl rfl hF rfl (run_fieldAddr rfl fl25_0 (hF.ev rfl) rfl) ?_; clear hF; intro a hF
          refine op_val (v := .slice B120 p119.1.length d122) rfl rfl hF rfl (run_load1 rfl one23 (hF.ev rfl) ((S.free 0 rfl).cell rfl)) ?_; clear hF; intro a hF
          refine op_val (v := .int .i64 (p119.1.length : Int)) rfl rfl hF rfl (run_lenL rfl rfl Tryd.underlying23 (hF.ev rfl)) ?_; clear hF; intro a hF
          refine op_val (v := .bool (ltB p127 (p119.1.length : Int))) rfl rfl hF rfl (run_lss (hF.ev rfl) (hF.ev rfl) rfl) ?_; clear hF; intro a hF
          refine wpList_nil ?_
          cases hc128 : (ltB p127 (p119.1.length : Int))
          · replace hM126 := bif_f hc128 hM126
            refine cond_f hF rfl hc128 ?_
            refine wp_exit ?_
            repeat with_reducible (first | refine then_exit ?_ | refine in_hit ?_ | refine in_miss rfl ?_)
            obtain rfl := Option.some.inj hM126
            exact ⟨(), rfl, hF.keep _ ⟨rfl, rfl, rfl, rfl, rfl, trivial⟩, S.sel [0, 1, 2, 3, 4] rfl rfl⟩
          · replace hM126 := bif_t hc128 hM126
            refine cond_t hF rfl hc128 ?_
            refine wp_skip ?_
            refine wp_seq ?_
            refine wp_block ?_
            refine wp_seq ?_
            refine wp_region_lit ?_
            refine op_val (v := .pointer (some ⟨g123, 0, none⟩)) rfl rfl hF rfl (run_fieldAddr rfl fl25_0 (hF.ev rfl) rfl) ?_; clear hF; intro a hF
            refine op_val (v := .slice B120 p119.1.length d122) rfl rfl hF rfl (run_load1 rfl one23 (hF.ev rfl) ((S.free 0 rfl).cell rfl)) ?_; clear hF; intro a hF
            refine op_val (v := .int .i64 p127) rfl rfl hF rfl (run_move rfl (hF.ev rfl)) ?_; clear hF; intro a hF
            obtain ⟨hk129, hM126⟩ := chk_ex hM126
            replace hk129 := ixB_t hk129
            refine op_val (v := .pointer (some ⟨adB B120, adO B120 + p127.toNat * 1, none⟩)) rfl rfl hF rfl (run_indexAddr (b := adB B120) (off := adO B120) rfl Tryd.underlying23 sz3 ((hF.ev rfl).trans (congrArg (fun A => Value.slice A p119.1.length d122) ((S.rc 3 rfl).rd.ad (ix_pos hk129)))) (hF.ev rfl) hk129.1 hk129.2 (k' := adO B120 + p127.toNat * 1) rfl) ?_; clear hF; intro a hF
            refine op_val (v := .int .i64 (p119.1.getD p127.toNat (0 : Int))) rfl rfl hF rfl (run_load1 rfl one3 (hF.ev rfl) (rd_el0 (l := p119.1) (S.rc 3 rfl).rd rfl eI_len (0 : Int) (ix_ltn hk129 rfl) rfl)) ?_; clear hF; intro a hF
            refine op_val (v := .int .i64 p102.2.2) rfl rfl hF rfl (run_move rfl (hF.ev rfl)) ?_; clear hF; intro a hF
            refine op_val (v := .int .i64 (w64 (3 - p102.2.2))) rfl rfl hF rfl (run_sub (z := w64 (3 - p102.2.2)) rfl (hF.ev rfl) rfl rfl) ?_; clear hF; intro a hF
            refine op_val (v := .bool ((p119.1.getD p127.toNat (0 : Int)) != (w64 (3 - p102.2.2)))) rfl rfl hF rfl (run_neq (hF.ev rfl) (hF.ev rfl) rfl) ?_; clear hF; intro a hF
            refine wpList_nil ?_
            cases hc130 : ((p119.1.getD p127.toNat (0 : Int)) != (w64 (3 - p102.2.2)))
            · replace hM126 := bif_f hc130 hM126
              refine cond_f hF rfl hc130 ?_
              refine wp_skip ?_
              refine wp_region_lit ?_
              refine op_val (v := .int .i64 p127) rfl rfl hF rfl (run_move rfl (hF.ev rfl)) ?_; clear hF; intro a hF
              refine op_val (v := .int .i64 (w64 (p127 + 1))) rfl rfl hF rfl (run_add (z := w64 (p127 + 1)) (hF.ev rfl) rfl rfl rfl) ?_; clear hF; intro a hF
              refine op_val (v := .int .i64 (w64 (p127 + 1))) rfl rfl hF rfl (run_assign rfl (hF.ev rfl)) ?_; clear hF; intro a hF
              refine wpList_nil ?_
              exact ⟨f1, Nat.lt_succ_self _, w64 (p127 + 1), hM126, hF.keep _ ⟨rfl, rfl, rfl, rfl, rfl, rfl, rfl, trivial⟩, S.sel [0, 1, 2, 3, 4] rfl rfl⟩
            · replace hM126 := bif_t hc130 hM126
              refine cond_t hF rfl hc130 ?_
              refine wp_seq ?_
              refine wp_region_lit ?_
              refine op_val (v := .bool false) rfl rfl hF rfl (run_assign rfl rfl) ?_; clear hF; intro a hF
              refine wpList_nil ?_
              refine wp_ret ?_
              repeat with_reducible (first | refine then_ret ?_ | refine in_ret ?_ | refine in_nrm ?_)
              refine ret1_gw (.inl rfl) hF rfl (res_tmp (hF.ev rfl)) ?_
              obtain rfl := Option.some.inj hM126
              obtain rfl := Option.some.inj hM
              exact ⟨rfl, S.sel [] rfl rfl⟩
        · rintro a u ⟨p124, rfl, hF, S⟩
          replace hM := elim_l hM
          refine wp_seq ?_
          refine wp_region_lit ?_
          refine op_val (v := .int .i64 p119.2.2) rfl rfl hF rfl (run_move rfl (hF.ev rfl)) ?_; clear hF; intro a hF
          refine op_val (v := .slice B108 p107.length d110) rfl rfl hF rfl (run_move rfl (hF.ev rfl)) ?_; clear hF; intro a hF
          refine op_val (v := .int .i64 (p107.length : Int)) rfl rfl hF rfl (run_lenL rfl rfl Tryd.underlying23 (hF.ev rfl)) ?_; clear hF; intro a hF
          refine op_val (v := .bool (p119.2.2 == (p107.length : Int))) rfl rfl hF rfl (run_eql (hF.ev rfl) (hF.ev rfl) rfl) ?_; clear hF; intro a hF
          refine op_val (v := .bool (p119.2.2 == (p107.length : Int))) rfl rfl hF rfl (run_move rfl (hF.ev rfl)) ?_; clear hF; intro a hF
          refine op_gv (v := .pointer (some ⟨g123, 1, none⟩)) rfl rfl hF rfl (yt (gw_yield hF rfl rfl rfl)) (fun hg => (run_fieldAddr rfl fl25_1 (hF.ev rfl) rfl)) ?_; clear hF; intro a hF
          refine op_gv (v := .bool p119.2.1) rfl rfl hF rfl (yt (gw_yield hF rfl rfl rfl)) (fun hg => (run_load1 rfl one4 ((hF.ev rfl).trans (gv_t hg)) ((S.free 0 rfl).cell rfl))) ?_; clear hF; intro a hF
          refine op_gv (v := .pointer (some ⟨g106, 1, none⟩)) rfl rfl hF rfl (yt (gw_yield hF rfl rfl rfl)) (fun hg => (run_fieldAddr rfl fl25_1 (hF.ev rfl) rfl)) ?_; clear hF; intro a hF
          refine op_gv (v := .bool p102.2.1) rfl rfl hF rfl (yt (gw_yield hF rfl rfl rfl)) (fun hg => (run_load1 rfl one4 ((hF.ev rfl).trans (gv_t hg)) ((S.free 1 rfl).cell rfl))) ?_; clear hF; intro a hF
          refine op_gv (v := .bool (p119.2.1 == p102.2.1)) rfl rfl hF rfl (yt (gw_yield hF rfl rfl rfl)) (fun hg => (run_eqlB ((hF.ev rfl).trans (gv_t hg)) ((hF.ev rfl).trans (gv_t hg)) Tryd.underlying4 rfl)) ?_; clear hF; intro a hF
          refine op_val (v := .bool ((p119.2.2 == (p107.length : Int)) && (p119.2.1 == p102.2.1))) rfl rfl hF rfl (run_pick_and rfl (hF.ev rfl) (fun hp => ((hF.ev rfl).trans (gv_t hp))) rfl) ?_; clear hF; intro a hF
          refine op_val (v := .bool ((p119.2.2 == (p107.length : Int)) && (p119.2.1 == p102.2.1))) rfl rfl hF rfl (run_move rfl (hF.ev rfl)) ?_; clear hF; intro a hF
          refine op_gv (v := .pointer (some ⟨g123, 0, none⟩)) rfl rfl hF rfl (yt (gw_yield hF rfl rfl rfl)) (fun hg => (run_fieldAddr rfl fl25_0 (hF.ev rfl) rfl)) ?_; clear hF; intro a hF
          refine op_gv (v := .slice B120 p119.1.length d122) rfl rfl hF rfl (yt (gw_yield hF rfl rfl rfl)) (fun hg => (run_load1 rfl one23 ((hF.ev rfl).trans (gv_t hg)) ((S.free 0 rfl).cell rfl))) ?_; clear hF; intro a hF
          refine op_gv (v := .int .i64 (p119.1.length : Int)) rfl rfl hF rfl (yt (gw_yield hF rfl rfl rfl)) (fun hg => (run_lenL rfl rfl Tryd.underlying23 ((hF.ev rfl).trans (gv_t hg)))) ?_; clear hF; intro a hF
          refine op_gv (v := .pointer (some ⟨g106, 0, none⟩)) rfl rfl hF rfl (yt (gw_yield hF rfl rfl rfl)) (fun hg => (run_fieldAddr rfl fl25_0 (hF.ev rfl) rfl)) ?_; clear hF; intro a hF
          refine op_gv (v := .slice B103 p102.1.length d105) rfl rfl hF rfl (yt (gw_yield hF rfl rfl rfl)) (fun hg => (run_load1 rfl one23 ((hF.ev rfl).trans (gv_t hg)) ((S.free 1 rfl).cell rfl))) ?_; clear hF; intro a hF
          refine op_gv (v := .int .i64 (p102.1.length : Int)) rfl rfl hF rfl (yt (gw_yield hF rfl rfl rfl)) (fun hg => (run_lenL rfl rfl Tryd.underlying23 ((hF.ev rfl).trans (gv_t hg)))) ?_; clear hF; intro a hF
          refine op_gv (v := .bool ((p119.1.length : Int) == (p102.1.length : Int))) rfl rfl hF rfl (yt (gw_yield hF rfl rfl rfl)) (fun hg => (run_eql ((hF.ev rfl).trans (gv_t hg)) ((hF.ev rfl).trans (gv_t hg)) rfl)) ?_; clear hF; intro a hF
          refine op_val (v := .bool (((p119.2.2 == (p107.length : Int)) && (p119.2.1 == p102.2.1)) && ((p119.1.length : Int) == (p102.1.length : Int)))) rfl rfl hF rfl (run_pick_and rfl (hF.ev rfl) (fun hp => ((hF.ev rfl).trans (gv_t hp))) rfl) ?_; clear hF; intro a hF
          refine op_val (v := .bool (((p119.2.2 == (p107.length : Int)) && (p119.2.1 == p102.2.1)) && ((p119.1.length : Int) == (p102.1.length : Int)))) rfl rfl hF rfl (run_assign rfl (hF.ev rfl)) ?_; clear hF; intro a hF
          refine wpList_nil ?_
          refine wp_ret ?_
          repeat with_reducible (first | refine then_ret ?_ | refine in_ret ?_ | refine in_nrm ?_)
          refine ret1_gw (.inl rfl) hF rfl (res_tmp (hF.ev rfl)) ?_
          obtain rfl := Option.some.inj hM
          exact ⟨rfl, S.sel [] rfl rfl⟩
      · replace hM := bif_t hc118 hM
        refine cond_t hF rfl hc118 ?_
        refine wp_seq ?_
        refine wp_region_lit ?_
        refine op_val (v := .slice B108 p107.length d110) rfl rfl hF rfl (run_move rfl (hF.ev rfl)) ?_; clear hF; intro a hF
        refine op_val (v := .int .i64 (p107.length : Int)) rfl rfl hF rfl (run_lenL rfl rfl Tryd.underlying23 (hF.ev rfl)) ?_; clear hF; intro a hF
        refine op_val (v := .bool ((p107.length : Int) == 0)) rfl rfl hF rfl (run_eql (hF.ev rfl) rfl rfl) ?_; clear hF; intro a hF
        refine op_val (v := .bool ((p107.length : Int) == 0)) rfl rfl hF rfl (run_move rfl (hF.ev rfl)) ?_; clear hF; intro a hF
        obtain ⟨p131, h131, hM⟩ := bind_ex hM
        refine op_gcall (v := .bool p131) rfl rfl hF rfl S (yt (gw_yield hF rfl rfl rfl)) (fun hg => (run_call (vs := []) rfl rfl co11 trivial)) (fun hg => c_laws_alive   (gb_t h131 hg)) ?_; clear hF S; intro a u hF S
        refine op_val (v := .bool (((p107.length : Int) == 0) && p131)) rfl rfl hF rfl (run_pick_and rfl (hF.ev rfl) (fun hp => ((hF.ev rfl).trans (gv_t hp))) rfl) ?_; clear hF; intro a hF
        refine op_val (v := .bool (((p107.length : Int) == 0) && p131)) rfl rfl hF rfl (run_assign rfl (hF.ev rfl)) ?_; clear hF; intro a hF
        refine wpList_nil ?_
        refine wp_ret ?_
        repeat with_reducible (first | refine then_ret ?_ | refine in_ret ?_ | refine in_nrm ?_)
        refine ret1_gw (.inl rfl) hF rfl (res_tmp (hF.ev rfl)) ?_
        obtain rfl := Option.some.inj hM
        exact ⟨rfl, S.sel [] rfl rfl⟩
  · replace hM := bif_t hc101 hM
    refine cond_t hF rfl hc101 ?_
    refine wp_seq ?_
    refine wp_region_lit ?_
    refine op_val (v := .bool true) rfl rfl hF rfl (run_assign rfl rfl) ?_; clear hF; intro a hF
    refine wpList_nil ?_
    refine wp_ret ?_
    repeat with_reducible (first | refine then_ret ?_ | refine in_ret ?_ | refine in_nrm ?_)
    refine ret1_gw (.inl rfl) hF rfl (res_tmp (hF.ev rfl)) ?_
    obtain rfl := Option.some.inj hM
    exact ⟨rfl, S.sel [] rfl rfl⟩

end Go.Proofs.YtandfbpanaldcaaDoor
