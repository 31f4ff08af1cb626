/- Calls return what the models say. -/
import Derived.Test.YtjdjcfdpndhgmaaDoorDa1
namespace Go.Proofs.YtjdjcfdpndhgmaaDoor
open Go.ChangeShapes Go.WideShapes Go.ChangeAt Go.RowKit
set_option linter.unusedVariables false
set_option linter.unusedSimpArgs false

set_option maxHeartbeats 4000000 in
theorem c_laws_FnSyncTune {x0 : List Int} {A0 : Option Addr} {n0 c0 : Nat} {w : World} {r : Bool} (h0 : Rt w 1 eU A0 n0 c0 x0) (hM : m_laws_FnSyncTune x0 = some r) :
    Calls Tryd.prog 5 #[.slice A0 n0 c0] w (fun e w' => e = .returned (.bool r) ∧ St w w' []) := by
  obtain rfl := h0.len
  unfold m_laws_FnSyncTune at hM
  refine calls_gw Tryd.func5 Tryd.ntmps5 rfl [(0, .slice A0 x0.length c0)] ⟨rfl, trivial⟩ rfl ?_
  intro a hF
  have S := St.nil w
  refine wp_seq ?_
  refine wp_region_lit ?_
  refine op_val (v := .bool false) rfl rfl hF rfl (run_assign rfl rfl) ?_; clear hF; intro a hF
  refine wpList_nil ?_
  refine wp_seq ?_
  refine wp_seq ?_
  refine wp_region_lit ?_
  refine op_val (v := .slice A0 x0.length c0) rfl rfl hF rfl (run_move rfl (hF.ev rfl)) ?_; clear hF; intro a hF
  refine op_val (v := .int .i64 (x0.length : Int)) rfl rfl hF rfl (run_lenL rfl rfl Tryd.underlying22 (hF.ev rfl)) ?_; clear hF; intro a hF
  refine op_val (v := .bool (ltB 1048576 (x0.length : Int))) rfl rfl hF rfl (run_gtr (hF.ev rfl) rfl rfl) ?_; clear hF; intro a hF
  refine wpList_nil ?_
  cases hc101 : (ltB 1048576 (x0.length : Int))
  · replace hM := bif_f hc101 hM
    refine cond_f hF rfl hc101 ?_
    refine wp_skip ?_
    refine wp_seq ?_
    refine wp_region_lit ?_
    refine op_val (v := .slice A0 x0.length c0) rfl rfl hF rfl (run_move rfl (hF.ev rfl)) ?_; clear hF; intro a hF
    obtain ⟨p102, h102, hM⟩ := bind_ex hM
    refine op_call rfl rfl hF rfl (run_call (vs := [.slice A0 x0.length c0]) rfl rfl co15 ⟨(hF.ev rfl), trivial⟩) (c_spec_DrawSyncTune (x0 := x0) ⟨(S.rc0 h0.rc), rfl⟩ h102) ?_
    rintro e u ⟨rfl, T⟩
    refine ⟨_, rfl, ?_⟩
    clear hF; intro a hF
    replace S := S.call0 T; clear T
    refine op_val (v := .tuple #[.agg #[.int .i64 p102.1, .int .i64 p102.2.1], .int .i64 p102.2.2.1, .int .i64 p102.2.2.2]) rfl rfl hF rfl (run_move rfl (hF.ev rfl)) ?_; clear hF; intro a hF
    refine op_val (v := .agg #[.int .i64 p102.1, .int .i64 p102.2.1]) rfl rfl hF rfl (run_extract rfl (hF.ev rfl) rfl) ?_; clear hF; intro a hF
    refine op_val (v := .int .i64 p102.2.2.1) rfl rfl hF rfl (run_extract rfl (hF.ev rfl) rfl) ?_; clear hF; intro a hF
    refine op_val (v := .int .i64 p102.2.2.2) rfl rfl hF rfl (run_extract rfl (hF.ev rfl) rfl) ?_; clear hF; intro a hF
    refine op_new (cs := #[.int .i64 0, .int .i64 0]) rfl rfl hF rfl S (run_allocZ rfl zr24) ?_; clear hF S; intro a g103 u hF S
    refine op_do rfl rfl (run_store (cs' := #[.int .i64 p102.1, .int .i64 p102.2.1]) rfl sz24 (hF.ev rfl) (hF.ev rfl) rfl rfl rfl (S.free 0 rfl) rfl rfl) ?_; replace S := S.put 0 rfl (#[.int .i64 p102.1, .int .i64 p102.2.1])
    generalize World.setRow _ _ _ = u at S ⊢
    refine op_val (v := .int .i64 p102.2.2.1) rfl rfl hF rfl (run_assign rfl (hF.ev rfl)) ?_; clear hF; intro a hF
    refine op_val (v := .int .i64 p102.2.2.2) rfl rfl hF rfl (run_assign rfl (hF.ev rfl)) ?_; clear hF; intro a hF
    refine wpList_nil ?_
    refine wp_seq ?_
    refine wp_region_lit ?_
    refine op_val (v := .agg #[.int .i64 p102.1, .int .i64 p102.2.1]) rfl rfl hF rfl (run_loadN rfl ag24 (hF.ev rfl) rfl ((S.free 0 rfl).cells 0 #[.int .i64 p102.1, .int .i64 p102.2.1] rfl)) ?_; clear hF; intro a hF
    refine op_val (v := .int .i64 p102.2.2.1) rfl rfl hF rfl (run_move rfl (hF.ev rfl)) ?_; clear hF; intro a hF
    refine op_val (v := .int .i64 p102.2.2.2) rfl rfl hF rfl (run_move rfl (hF.ev rfl)) ?_; clear hF; intro a hF
    obtain ⟨p104, h104, hM⟩ := bind_ex hM
    refine op_call rfl rfl hF rfl (run_call (vs := [.agg #[.int .i64 p102.1, .int .i64 p102.2.1], .int .i64 p102.2.2.1, .int .i64 p102.2.2.2]) rfl rfl co16 ⟨(hF.ev rfl), (hF.ev rfl), (hF.ev rfl), trivial⟩) (c_impl_SyncTune (x0 := p102.1) (x1 := p102.2.1) (x2 := p102.2.2.1) (x3 := p102.2.2.2)  h104) ?_
    rintro e u ⟨rfl, T⟩
    refine ⟨_, rfl, ?_⟩
    clear hF; intro a hF
    replace S := S.call0 T; clear T
    refine op_new (cs := #[.int .i64 0, .int .i64 0]) rfl rfl hF rfl S (run_allocZ rfl zr24) ?_; clear hF S; intro a g105 u hF S
    refine op_do rfl rfl (run_store (cs' := #[.int .i64 p104.1, .int .i64 p104.2]) rfl sz24 (hF.ev rfl) (hF.ev rfl) rfl rfl rfl (S.free 0 rfl) rfl rfl) ?_; replace S := S.put 0 rfl (#[.int .i64 p104.1, .int .i64 p104.2])
    generalize World.setRow _ _ _ = u at S ⊢
    refine wpList_nil ?_
    refine wp_seq ?_
    refine wp_seq ?_
    obtain ⟨p106, h106, hM⟩ := bind_ex hM
    refine region_gw (D := [22, 23, 24, 25, 26, 27]) (Lr := [.box g105 24 #[.int .i64 p104.1, .int .i64 p104.2], .box g103 24 #[.int .i64 p102.1, .int .i64 p102.2.1]]) (deps := (fun | 0 => [22] | 1 => [23] | 2 => [24] | 3 => [25] | 4 => [26] | 5 => [27] | _ => [])) (rd := (fun _ => [])) (zr := (fun _ => []))
      (φ := fun i vs => match i, vs with | 0, [v22] => v22 = .agg #[.int .i64 p104.1, .int .i64 p104.2] | 1, [v23] => v23 = .agg #[.int .i64 p102.1, .int .i64 p102.2.1] | 2, [v24] => v24 = .int .i64 p102.2.2.1 | 3, [v25] => v25 = .int .i64 p102.2.2.2 | 4, [v26] => v26 = .agg #[.int .i64 p106.1, .int .i64 p106.2] | 5, [v27] => v27 = .bool (!((p104.1 == p106.1) && (p104.2 == p106.2))) | _, _ => True)
      (C := fun _ _ => [])
      (κ := (fun _ => none)) (Z := (fun _ => [])) mixed hF (by kernel_rfl) S ?_ ?_
    · refine ⟨?_, ?_, ?_, ?_, ?_, ?_, trivial⟩
      · intro a u X hB hu hp hr hz hl S
        replace S : St w u ([] ++ X) := S
        exact .inl ⟨rfl, .agg #[.int .i64 p104.1, .int .i64 p104.2], u, (run_loadN rfl ag24 (hF.evB hB rfl rfl) rfl ((gr_box S hl 0 rfl).cells 0 #[.int .i64 p104.1, .int .i64 p104.2] rfl)), rfl, S⟩
      · intro a u X hB hu hp hr hz hl S
        replace S : St w u ([] ++ X) := S
        exact .inl ⟨rfl, .agg #[.int .i64 p102.1, .int .i64 p102.2.1], u, (run_loadN rfl ag24 (hF.evB hB rfl rfl) rfl ((gr_box S hl 1 rfl).cells 0 #[.int .i64 p102.1, .int .i64 p102.2.1] rfl)), rfl, S⟩
      · intro a u X hB hu hp hr hz hl S
        replace S : St w u ([] ++ X) := S
        exact .inl ⟨rfl, .int .i64 p102.2.2.1, u, (run_move rfl (hF.evB hB rfl rfl)), rfl, S⟩
      · intro a u X hB hu hp hr hz hl S
        replace S : St w u ([] ++ X) := S
        exact .inl ⟨rfl, .int .i64 p102.2.2.2, u, (run_move rfl (hF.evB hB rfl rfl)), rfl, S⟩
      · intro a u X hB hu hp hr hz hl S
        replace S : St w u ([] ++ X) := S
        have e23 : sl a 23 = .agg #[.int .i64 p102.1, .int .i64 p102.2.1] := hp 1 rfl
        have e24 : sl a 24 = .int .i64 p102.2.2.1 := hp 2 rfl
        have e25 : sl a 25 = .int .i64 p102.2.2.2 := hp 3 rfl
        refine .inr (.inr (.inl ⟨rfl, _, _, (run_call (vs := [.agg #[.int .i64 p102.1, .int .i64 p102.2.1], .int .i64 p102.2.2.1, .int .i64 p102.2.2.2]) rfl rfl co17 ⟨(ev_sl e23), (ev_sl e24), (ev_sl e25), trivial⟩), ?_⟩))
        refine Calls.mono (c_spec_SyncTune (x0 := p102.1) (x1 := p102.2.1) (x2 := p102.2.2.1) (x3 := p102.2.2.2)  h106) ?_
        rintro e w1 ⟨rfl, T⟩
        exact ⟨_, rfl, rfl, S.call0 T⟩
      · intro a u X hB hu hp hr hz hl S
        replace S : St w u ([] ++ X) := S
        have e22 : sl a 22 = .agg #[.int .i64 p104.1, .int .i64 p104.2] := hp 0 rfl
        have e26 : sl a 26 = .agg #[.int .i64 p106.1, .int .i64 p106.2] := hp 4 rfl
        exact .inl ⟨rfl, .bool (!((p104.1 == p106.1) && (p104.2 == p106.2))), u, (run_neqA (ev_sl e22) (ev_sl e26) rfl eg24 eq24), rfl, S⟩
    · intro a u hB hp S
      obtain ⟨q0, q1, q2, q3, q4, q5, _⟩ := hp
      have e22 : sl a 22 = .agg #[.int .i64 p104.1, .int .i64 p104.2] := q0
      have e23 : sl a 23 = .agg #[.int .i64 p102.1, .int .i64 p102.2.1] := q1
      have e24 : sl a 24 = .int .i64 p102.2.2.1 := q2
      have e25 : sl a 25 = .int .i64 p102.2.2.2 := q3
      have e26 : sl a 26 = .agg #[.int .i64 p106.1, .int .i64 p106.2] := q4
      have e27 : sl a 27 = .bool (!((p104.1 == p106.1) && (p104.2 == p106.2))) := q5
      replace S : St w u [.box g105 24 #[.int .i64 p104.1, .int .i64 p104.2], .box g103 24 #[.int .i64 p102.1, .int .i64 p102.2.1]] := S
      clear q0 q1 q2 q3 q4 q5
      have hF := hF.region hB [(22, .agg #[.int .i64 p104.1, .int .i64 p104.2]), (23, .agg #[.int .i64 p102.1, .int .i64 p102.2.1]), (24, .int .i64 p102.2.2.1), (25, .int .i64 p102.2.2.2), (26, .agg #[.int .i64 p106.1, .int .i64 p106.2]), (27, .bool (!((p104.1 == p106.1) && (p104.2 == p106.2))))] (allSl_mem ⟨e22, e23, e24, e25, e26, e27, trivial⟩) rfl
      clear hB e22 e23 e24 e25 e26 e27
      cases hc107 : ((p104.1 == p106.1) && (p104.2 == p106.2))
      · replace hM := bif_f hc107 hM
        refine cond_t hF rfl (not_t hc107) ?_
        refine wp_seq ?_
        refine wp_region_lit ?_
        refine op_val (v := .bool false) rfl rfl hF rfl (run_assign rfl rfl) ?_; clear hF; intro a hF
        refine wpList_nil ?_
        refine wp_ret ?_
        repeat with_reducible (first | refine then_ret ?_ | refine in_ret ?_ | refine in_nrm ?_)
        refine ret1_gw (.inl rfl) hF rfl (res_tmp (hF.ev rfl)) ?_
        obtain rfl := Option.some.inj hM
        exact ⟨rfl, S.sel [] rfl rfl⟩
      · replace hM := bif_t hc107 hM
        refine cond_f hF rfl (not_f hc107) ?_
        refine wp_skip ?_
        refine wp_seq ?_
        refine wp_seq ?_
        refine wp_region_lit ?_
        refine op_val (v := .pointer (some ⟨g105, 1, none⟩)) rfl rfl hF rfl (run_fieldAddr rfl fl24_1 (hF.ev rfl) rfl) ?_; clear hF; intro a hF
        refine op_val (v := .int .i64 p104.2) rfl rfl hF rfl (run_load1 rfl one3 (hF.ev rfl) ((S.free 0 rfl).cell rfl)) ?_; clear hF; intro a hF
        refine op_val (v := .bool (p104.2 == 0)) rfl rfl hF rfl (run_eql (hF.ev rfl) rfl rfl) ?_; clear hF; intro a hF
        refine wpList_nil ?_
        cases hc108 : (p104.2 == 0)
        · replace hM := bif_f hc108 hM
          refine cond_f hF rfl hc108 ?_
          refine wp_skip ?_
          refine wp_seq ?_
          refine wp_region_lit ?_
          refine op_val (v := .pointer (some ⟨g103, 0, none⟩)) rfl rfl hF rfl (run_fieldAddr rfl fl24_0 (hF.ev rfl) rfl) ?_; clear hF; intro a hF
          refine op_val (v := .int .i64 p102.1) rfl rfl hF rfl (run_load1 rfl one3 (hF.ev rfl) ((S.free 1 rfl).cell rfl)) ?_; clear hF; intro a hF
          refine op_val (v := .int .i64 p102.2.2.1) rfl rfl hF rfl (run_move rfl (hF.ev rfl)) ?_; clear hF; intro a hF
          refine op_val (v := .int .i64 (w64 (p102.1 - p102.2.2.1))) rfl rfl hF rfl (run_sub (z := w64 (p102.1 - p102.2.2.1)) (hF.ev rfl) (hF.ev rfl) rfl rfl) ?_; clear hF; intro a hF
          refine op_val (v := .int .i64 p102.2.2.1) rfl rfl hF rfl (run_move rfl (hF.ev rfl)) ?_; clear hF; intro a hF
          refine op_val (v := .pointer (some ⟨g103, 0, none⟩)) rfl rfl hF rfl (run_fieldAddr rfl fl24_0 (hF.ev rfl) rfl) ?_; clear hF; intro a hF
          refine op_val (v := .int .i64 p102.1) rfl rfl hF rfl (run_load1 rfl one3 (hF.ev rfl) ((S.free 1 rfl).cell rfl)) ?_; clear hF; intro a hF
          refine op_val (v := .int .i64 (w64 (p102.2.2.1 - p102.1))) rfl rfl hF rfl (run_sub (z := w64 (p102.2.2.1 - p102.1)) (hF.ev rfl) (hF.ev rfl) rfl rfl) ?_; clear hF; intro a hF
          refine op_val (v := .int .i64 (max (w64 (p102.1 - p102.2.2.1)) (w64 (p102.2.2.1 - p102.1)))) rfl rfl hF rfl (run_max rfl (hF.ev rfl) (hF.ev rfl)) ?_; clear hF; intro a hF
          refine op_val (v := .int .i64 (max (w64 (p102.1 - p102.2.2.1)) (w64 (p102.2.2.1 - p102.1)))) rfl rfl hF rfl (run_assign rfl (hF.ev rfl)) ?_; clear hF; intro a hF
          refine wpList_nil ?_
          refine wp_seq ?_
          refine wp_region_lit ?_
          refine op_val (v := .pointer (some ⟨g105, 0, none⟩)) rfl rfl hF rfl (run_fieldAddr rfl fl24_0 (hF.ev rfl) rfl) ?_; clear hF; intro a hF
          refine op_val (v := .int .i64 p104.1) rfl rfl hF rfl (run_load1 rfl one3 (hF.ev rfl) ((S.free 0 rfl).cell rfl)) ?_; clear hF; intro a hF
          refine op_val (v := .int .i64 p102.2.2.1) rfl rfl hF rfl (run_move rfl (hF.ev rfl)) ?_; clear hF; intro a hF
          refine op_val (v := .int .i64 (w64 (p104.1 - p102.2.2.1))) rfl rfl hF rfl (run_sub (z := w64 (p104.1 - p102.2.2.1)) (hF.ev rfl) (hF.ev rfl) rfl rfl) ?_; clear hF; intro a hF
          refine op_val (v := .int .i64 p102.2.2.1) rfl rfl hF rfl (run_move rfl (hF.ev rfl)) ?_; clear hF; intro a hF
          refine op_val (v := .pointer (some ⟨g105, 0, none⟩)) rfl rfl hF rfl (run_fieldAddr rfl fl24_0 (hF.ev rfl) rfl) ?_; clear hF; intro a hF
          refine op_val (v := .int .i64 p104.1) rfl rfl hF rfl (run_load1 rfl one3 (hF.ev rfl) ((S.free 0 rfl).cell rfl)) ?_; clear hF; intro a hF
          refine op_val (v := .int .i64 (w64 (p102.2.2.1 - p104.1))) rfl rfl hF rfl (run_sub (z := w64 (p102.2.2.1 - p104.1)) (hF.ev rfl) (hF.ev rfl) rfl rfl) ?_; clear hF; intro a hF
          refine op_val (v := .int .i64 (max (w64 (p104.1 - p102.2.2.1)) (w64 (p102.2.2.1 - p104.1)))) rfl rfl hF rfl (run_max rfl (hF.ev rfl) (hF.ev rfl)) ?_; clear hF; intro a hF
          refine op_val (v := .int .i64 (max (w64 (p104.1 - p102.2.2.1)) (w64 (p102.2.2.1 - p104.1)))) rfl rfl hF rfl (run_assign rfl (hF.ev rfl)) ?_; clear hF; intro a hF
          refine wpList_nil ?_
          refine wp_seq ?_
          refine wp_region_lit ?_
          refine op_val (v := .pointer (some ⟨g105, 1, none⟩)) rfl rfl hF rfl (run_fieldAddr rfl fl24_1 (hF.ev rfl) rfl) ?_; clear hF; intro a hF
          refine op_val (v := .int .i64 p104.2) rfl rfl hF rfl (run_load1 rfl one3 (hF.ev rfl) ((S.free 0 rfl).cell rfl)) ?_; clear hF; intro a hF
          refine op_val (v := .pointer (some ⟨g103, 1, none⟩)) rfl rfl hF rfl (run_fieldAddr rfl fl24_1 (hF.ev rfl) rfl) ?_; clear hF; intro a hF
          refine op_val (v := .int .i64 p102.2.1) rfl rfl hF rfl (run_load1 rfl one3 (hF.ev rfl) ((S.free 1 rfl).cell rfl)) ?_; clear hF; intro a hF
          refine op_val (v := .bool (p104.2 == p102.2.1)) rfl rfl hF rfl (run_eql (hF.ev rfl) (hF.ev rfl) rfl) ?_; clear hF; intro a hF
          refine op_val (v := .bool (p104.2 == p102.2.1)) rfl rfl hF rfl (run_move rfl (hF.ev rfl)) ?_; clear hF; intro a hF
          refine op_gv (v := .int .i64 (max (w64 (p104.1 - p102.2.2.1)) (w64 (p102.2.2.1 - p104.1)))) rfl rfl hF rfl (yt (gw_yield hF rfl rfl rfl)) (fun hg => (run_move rfl (hF.ev rfl))) ?_; clear hF; intro a hF
          refine op_gv (v := .int .i64 (max (w64 (p102.1 - p102.2.2.1)) (w64 (p102.2.2.1 - p102.1)))) rfl rfl hF rfl (yt (gw_yield hF rfl rfl rfl)) (fun hg => (run_move rfl (hF.ev rfl))) ?_; clear hF; intro a hF
          refine op_gv (v := .int .i64 p102.2.2.2) rfl rfl hF rfl (yt (gw_yield hF rfl rfl rfl)) (fun hg => (run_move rfl (hF.ev rfl))) ?_; clear hF; intro a hF
          refine op_gv (v := .int .i64 (w64 ((max (w64 (p102.1 - p102.2.2.1)) (w64 (p102.2.2.1 - p102.1))) - p102.2.2.2))) rfl rfl hF rfl (yt (gw_yield hF rfl rfl rfl)) (fun hg => (run_sub (z := w64 ((max (w64 (p102.1 - p102.2.2.1)) (w64 (p102.2.2.1 - p102.1))) - p102.2.2.2)) ((hF.ev rfl).trans (gv_t hg)) ((hF.ev rfl).trans (gv_t hg)) rfl rfl)) ?_; clear hF; intro a hF
          refine op_gv (v := .int .i64 (max (w64 ((max (w64 (p102.1 - p102.2.2.1)) (w64 (p102.2.2.1 - p102.1))) - p102.2.2.2)) 0)) rfl rfl hF rfl (yt (gw_yield hF rfl rfl rfl)) (fun hg => (run_max rfl ((hF.ev rfl).trans (gv_t hg)) rfl)) ?_; clear hF; intro a hF
          refine op_gv (v := .bool ((max (w64 (p104.1 - p102.2.2.1)) (w64 (p102.2.2.1 - p104.1))) == (max (w64 ((max (w64 (p102.1 - p102.2.2.1)) (w64 (p102.2.2.1 - p102.1))) - p102.2.2.2)) 0))) rfl rfl hF rfl (yt (gw_yield hF rfl rfl rfl)) (fun hg => (run_eql ((hF.ev rfl).trans (gv_t hg)) ((hF.ev rfl).trans (gv_t hg)) rfl)) ?_; clear hF; intro a hF
          refine op_val (v := .bool ((p104.2 == p102.2.1) && ((max (w64 (p104.1 - p102.2.2.1)) (w64 (p102.2.2.1 - p104.1))) == (max (w64 ((max (w64 (p102.1 - p102.2.2.1)) (w64 (p102.2.2.1 - p102.1))) - p102.2.2.2)) 0)))) rfl rfl hF rfl (run_pick_and rfl (hF.ev rfl) (fun hp => ((hF.ev rfl).trans (gv_t hp))) rfl) ?_; clear hF; intro a hF
          refine op_val (v := .bool ((p104.2 == p102.2.1) && ((max (w64 (p104.1 - p102.2.2.1)) (w64 (p102.2.2.1 - p104.1))) == (max (w64 ((max (w64 (p102.1 - p102.2.2.1)) (w64 (p102.2.2.1 - p102.1))) - p102.2.2.2)) 0)))) rfl rfl hF rfl (run_move rfl (hF.ev rfl)) ?_; clear hF; intro a hF
          refine op_gv (v := .pointer (some ⟨g105, 0, none⟩)) rfl rfl hF rfl (yt (gw_yield hF rfl rfl rfl)) (fun hg => (run_fieldAddr rfl fl24_0 (hF.ev rfl) rfl)) ?_; clear hF; intro a hF
          refine op_gv (v := .int .i64 p104.1) rfl rfl hF rfl (yt (gw_yield hF rfl rfl rfl)) (fun hg => (run_load1 rfl one3 ((hF.ev rfl).trans (gv_t hg)) ((S.free 0 rfl).cell rfl))) ?_; clear hF; intro a hF
          refine op_gv (v := .int .i64 p102.2.2.1) rfl rfl hF rfl (yt (gw_yield hF rfl rfl rfl)) (fun hg => (run_move rfl (hF.ev rfl))) ?_; clear hF; intro a hF
          refine op_gv (v := .int .i64 (w64 (p104.1 - p102.2.2.1))) rfl rfl hF rfl (yt (gw_yield hF rfl rfl rfl)) (fun hg => (run_sub (z := w64 (p104.1 - p102.2.2.1)) ((hF.ev rfl).trans (gv_t hg)) ((hF.ev rfl).trans (gv_t hg)) rfl rfl)) ?_; clear hF; intro a hF
          refine op_gv (v := .pointer (some ⟨g103, 0, none⟩)) rfl rfl hF rfl (yt (gw_yield hF rfl rfl rfl)) (fun hg => (run_fieldAddr rfl fl24_0 (hF.ev rfl) rfl)) ?_; clear hF; intro a hF
          refine op_gv (v := .int .i64 p102.1) rfl rfl hF rfl (yt (gw_yield hF rfl rfl rfl)) (fun hg => (run_load1 rfl one3 ((hF.ev rfl).trans (gv_t hg)) ((S.free 1 rfl).cell rfl))) ?_; clear hF; intro a hF
          refine op_gv (v := .int .i64 p102.2.2.1) rfl rfl hF rfl (yt (gw_yield hF rfl rfl rfl)) (fun hg => (run_move rfl (hF.ev rfl))) ?_; clear hF; intro a hF
          refine op_gv (v := .int .i64 (w64 (p102.1 - p102.2.2.1))) rfl rfl hF rfl (yt (gw_yield hF rfl rfl rfl)) (fun hg => (run_sub (z := w64 (p102.1 - p102.2.2.1)) ((hF.ev rfl).trans (gv_t hg)) ((hF.ev rfl).trans (gv_t hg)) rfl rfl)) ?_; clear hF; intro a hF
          refine op_gv (v := .int .i64 (w64 ((w64 (p104.1 - p102.2.2.1)) * (w64 (p102.1 - p102.2.2.1))))) rfl rfl hF rfl (yt (gw_yield hF rfl rfl rfl)) (fun hg => (run_mul (z := w64 ((w64 (p104.1 - p102.2.2.1)) * (w64 (p102.1 - p102.2.2.1)))) ((hF.ev rfl).trans (gv_t hg)) ((hF.ev rfl).trans (gv_t hg)) rfl rfl)) ?_; clear hF; intro a hF
          refine op_gv (v := .bool (leB 0 (w64 ((w64 (p104.1 - p102.2.2.1)) * (w64 (p102.1 - p102.2.2.1)))))) rfl rfl hF rfl (yt (gw_yield hF rfl rfl rfl)) (fun hg => (run_geq ((hF.ev rfl).trans (gv_t hg)) rfl rfl)) ?_; clear hF; intro a hF
          refine op_val (v := .bool (((p104.2 == p102.2.1) && ((max (w64 (p104.1 - p102.2.2.1)) (w64 (p102.2.2.1 - p104.1))) == (max (w64 ((max (w64 (p102.1 - p102.2.2.1)) (w64 (p102.2.2.1 - p102.1))) - p102.2.2.2)) 0))) && (leB 0 (w64 ((w64 (p104.1 - p102.2.2.1)) * (w64 (p102.1 - p102.2.2.1))))))) rfl rfl hF rfl (run_pick_and rfl (hF.ev rfl) (fun hp => ((hF.ev rfl).trans (gv_t hp))) rfl) ?_; clear hF; intro a hF
          refine op_val (v := .bool (((p104.2 == p102.2.1) && ((max (w64 (p104.1 - p102.2.2.1)) (w64 (p102.2.2.1 - p104.1))) == (max (w64 ((max (w64 (p102.1 - p102.2.2.1)) (w64 (p102.2.2.1 - p102.1))) - p102.2.2.2)) 0))) && (leB 0 (w64 ((w64 (p104.1 - p102.2.2.1)) * (w64 (p102.1 - p102.2.2.1))))))) rfl rfl hF rfl (run_move rfl (hF.ev rfl)) ?_; clear hF; intro a hF
          refine op_gv (v := .agg #[.int .i64 p104.1, .int .i64 p104.2]) rfl rfl hF rfl (yt (gw_yield hF rfl rfl rfl)) (fun hg => (run_loadN rfl ag24 (hF.ev rfl) rfl ((S.free 0 rfl).cells 0 #[.int .i64 p104.1, .int .i64 p104.2] rfl))) ?_; clear hF; intro a hF
          obtain ⟨p109, h109, hM⟩ := bind_ex hM
          refine op_gcall (v := .bool p109) rfl rfl hF rfl S (yt (gw_yield hF rfl rfl rfl)) (fun hg => (run_call (vs := [.agg #[.int .i64 p104.1, .int .i64 p104.2]]) rfl rfl co9 ⟨((hF.ev rfl).trans (gv_t hg)), trivial⟩)) (fun hg => c_impl_TurningValid (x0 := p104.1) (x1 := p104.2)  (gb_t h109 hg)) ?_; clear hF S; intro a u hF S
          refine op_val (v := .bool ((((p104.2 == p102.2.1) && ((max (w64 (p104.1 - p102.2.2.1)) (w64 (p102.2.2.1 - p104.1))) == (max (w64 ((max (w64 (p102.1 - p102.2.2.1)) (w64 (p102.2.2.1 - p102.1))) - p102.2.2.2)) 0))) && (leB 0 (w64 ((w64 (p104.1 - p102.2.2.1)) * (w64 (p102.1 - p102.2.2.1)))))) && p109)) rfl rfl hF rfl (run_pick_and rfl (hF.ev rfl) (fun hp => ((hF.ev rfl).trans (gv_t hp))) rfl) ?_; clear hF; intro a hF
          refine op_val (v := .bool ((((p104.2 == p102.2.1) && ((max (w64 (p104.1 - p102.2.2.1)) (w64 (p102.2.2.1 - p104.1))) == (max (w64 ((max (w64 (p102.1 - p102.2.2.1)) (w64 (p102.2.2.1 - p102.1))) - p102.2.2.2)) 0))) && (leB 0 (w64 ((w64 (p104.1 - p102.2.2.1)) * (w64 (p102.1 - p102.2.2.1)))))) && p109)) rfl rfl hF rfl (run_assign rfl (hF.ev rfl)) ?_; clear hF; intro a hF
          refine wpList_nil ?_
          refine wp_ret ?_
          repeat with_reducible (first | refine then_ret ?_ | refine in_ret ?_ | refine in_nrm ?_)
          refine ret1_gw (.inl rfl) hF rfl (res_tmp (hF.ev rfl)) ?_
          obtain rfl := Option.some.inj hM
          exact ⟨rfl, S.sel [] rfl rfl⟩
        · replace hM := bif_t hc108 hM
          refine cond_t hF rfl hc108 ?_
          refine wp_seq ?_
          refine wp_region_lit ?_
          refine op_val (v := .agg #[.int .i64 p104.1, .int .i64 p104.2]) rfl rfl hF rfl (run_loadN rfl ag24 (hF.ev rfl) rfl ((S.free 0 rfl).cells 0 #[.int .i64 p104.1, .int .i64 p104.2] rfl)) ?_; clear hF; intro a hF
          refine op_val (v := .agg #[.int .i64 0, .int .i64 0]) rfl rfl hF rfl (run_build (vs := []) rfl trivial (bd24 )) ?_; clear hF; intro a hF
          refine op_val (v := .bool ((p104.1 == 0) && (p104.2 == 0))) rfl rfl hF rfl (run_eqlA (hF.ev rfl) (hF.ev rfl) rfl eg24 eq24) ?_; clear hF; intro a hF
          refine op_val (v := .bool ((p104.1 == 0) && (p104.2 == 0))) rfl rfl hF rfl (run_move rfl (hF.ev rfl)) ?_; clear hF; intro a hF
          obtain ⟨p110, h110, hM⟩ := bind_ex hM
          refine op_gcall (v := .bool p110) rfl rfl hF rfl S (yt (gw_yield hF rfl rfl rfl)) (fun hg => (run_call (vs := []) rfl rfl co11 trivial)) (fun hg => c_laws_alive   (gb_t h110 hg)) ?_; clear hF S; intro a u hF S
          refine op_val (v := .bool (((p104.1 == 0) && (p104.2 == 0)) && p110)) rfl rfl hF rfl (run_pick_and rfl (hF.ev rfl) (fun hp => ((hF.ev rfl).trans (gv_t hp))) rfl) ?_; clear hF; intro a hF
          refine op_val (v := .bool (((p104.1 == 0) && (p104.2 == 0)) && p110)) rfl rfl hF rfl (run_assign rfl (hF.ev rfl)) ?_; clear hF; intro a hF
          refine wpList_nil ?_
          refine wp_ret ?_
          repeat with_reducible (first | refine then_ret ?_ | refine in_ret ?_ | refine in_nrm ?_)
          refine ret1_gw (.inl rfl) hF rfl (res_tmp (hF.ev rfl)) ?_
          obtain rfl := Option.some.inj hM
          exact ⟨rfl, S.sel [] rfl rfl⟩
  · replace hM := bif_t hc101 hM
    refine cond_t hF rfl hc101 ?_
    refine wp_seq ?_
    refine wp_region_lit ?_
    refine op_val (v := .bool true) rfl rfl hF rfl (run_assign rfl rfl) ?_; clear hF; intro a hF
    refine wpList_nil ?_
    refine wp_ret ?_
    repeat with_reducible (first | refine then_ret ?_ | refine in_ret ?_ | refine in_nrm ?_)
    refine ret1_gw (.inl rfl) hF rfl (res_tmp (hF.ev rfl)) ?_
    obtain rfl := Option.some.inj hM
    exact ⟨rfl, S.sel [] rfl rfl⟩

set_option maxHeartbeats 4000000 in
theorem c_spec_DrawSyncJoin {x0 : List Int} {A0 : Option Addr} {n0 c0 : Nat} {w : World} {r : Int × Int × Int × Int × Int} (h0 : Rt w 1 eU A0 n0 c0 x0) (hM : m_spec_DrawSyncJoin x0 = some r) :
    Calls Tryd.prog 18 #[.slice A0 n0 c0] w (fun e w' => e = .returned (.tuple #[.agg #[.int .i64 r.1, .int .i64 r.2.1], .agg #[.int .i64 r.2.2.1, .int .i64 r.2.2.2.1], .int .i64 r.2.2.2.2]) ∧ St w w' []) := by
  obtain rfl := h0.len
  unfold m_spec_DrawSyncJoin at hM
  refine calls_gw Tryd.func18 Tryd.ntmps18 rfl [(0, .slice A0 x0.length c0)] ⟨rfl, trivial⟩ rfl ?_
  intro a hF
  have S := St.nil w
  refine wp_seq ?_
  refine wp_region_lit ?_
  refine op_new (cs := #[.int .i64 0, .int .i64 0]) rfl rfl hF rfl S (run_allocZ rfl zr24) ?_; clear hF S; intro a g101 u hF S
  refine op_new (cs := #[.int .i64 0, .int .i64 0]) rfl rfl hF rfl S (run_allocZ rfl zr24) ?_; clear hF S; intro a g102 u hF S
  refine op_val (v := .int .i64 0) rfl rfl hF rfl (run_assign rfl rfl) ?_; clear hF; intro a hF
  refine wpList_nil ?_
  refine wp_seq ?_
  refine wp_region_lit ?_
  refine op_val (v := .slice A0 x0.length c0) rfl rfl hF rfl (run_move rfl (hF.ev rfl)) ?_; clear hF; intro a hF
  refine op_call rfl rfl hF rfl (run_call (vs := [.slice A0 x0.length c0]) rfl rfl co25 ⟨(hF.ev rfl), trivial⟩) (c_spec_l20Open ⟨(S.rc0 h0.rc), rfl⟩) ?_
  rintro e u ⟨g103, rfl, T⟩
  refine ⟨_, rfl, ?_⟩
  clear hF; intro a hF
  replace S := S.call1 T; clear T
  obtain ⟨p104, h104, hM⟩ := bind_ex hM
  refine op_call rfl rfl hF rfl (run_call (vs := [.pointer (some ⟨g103, 0, none⟩)]) rfl rfl co30 ⟨(hF.ev rfl), trivial⟩) (c_spec_l20Turnings (x0 := x0.take 2000) (x1 := 0) ⟨(op_rc h0.rc rfl), rfl⟩ (show St w _ [.box g103 57 #[.slice (opA c0 x0.length A0) ((x0.take 2000).length) c0, .int .i64 0], .box g102 24 #[.int .i64 0, .int .i64 0], .box g101 24 #[.int .i64 0, .int .i64 0]] from S.sel [0, 1, 2] rfl rfl) h104) ?_
  rintro e u ⟨rfl, T⟩
  refine ⟨_, rfl, ?_⟩
  clear hF; intro a hF
  clear S; have S := T; clear T
  refine op_val (v := .agg #[.int .i64 p104.1, .int .i64 p104.2.1]) rfl rfl hF rfl (run_extract rfl (hF.ev rfl) rfl) ?_; clear hF; intro a hF
  refine op_val (v := .agg #[.int .i64 p104.2.2.1, .int .i64 p104.2.2.2.1]) rfl rfl hF rfl (run_extract rfl (hF.ev rfl) rfl) ?_; clear hF; intro a hF
  refine op_val (v := .int .i64 p104.2.2.2.2.1) rfl rfl hF rfl (run_extract rfl (hF.ev rfl) rfl) ?_; clear hF; intro a hF
  refine op_do rfl rfl (run_store (cs' := #[.int .i64 p104.1, .int .i64 p104.2.1]) rfl sz24 (hF.ev rfl) (hF.ev rfl) rfl rfl rfl (S.free 2 rfl) rfl rfl) ?_; replace S := S.put 2 rfl (#[.int .i64 p104.1, .int .i64 p104.2.1])
  generalize World.setRow _ _ _ = u at S ⊢
  refine op_do rfl rfl (run_store (cs' := #[.int .i64 p104.2.2.1, .int .i64 p104.2.2.2.1]) rfl sz24 (hF.ev rfl) (hF.ev rfl) rfl rfl rfl (S.free 1 rfl) rfl rfl) ?_; replace S := S.put 1 rfl (#[.int .i64 p104.2.2.1, .int .i64 p104.2.2.2.1])
  generalize World.setRow _ _ _ = u at S ⊢
  refine op_val (v := .int .i64 p104.2.2.2.2.1) rfl rfl hF rfl (run_assign rfl (hF.ev rfl)) ?_; clear hF; intro a hF
  refine wpList_nil ?_
  refine wp_ret ?_
  repeat with_reducible (first | refine then_ret ?_ | refine in_ret ?_ | refine in_nrm ?_)
  refine ret3_gw (.inl rfl) hF rfl (res_cell (hF.ev rfl) (res_loadN ag24 rfl (S.cells 2 rfl 0 #[.int .i64 p104.1, .int .i64 p104.2.1] rfl))) (res_cell (hF.ev rfl) (res_loadN ag24 rfl (S.cells 1 rfl 0 #[.int .i64 p104.2.2.1, .int .i64 p104.2.2.2.1] rfl))) (res_tmp (hF.ev rfl)) ?_
  obtain rfl := Option.some.inj hM
  exact ⟨rfl, S.sel [] rfl rfl⟩

set_option maxHeartbeats 4000000 in
theorem c_impl_SyncJoin {x0 : Int} {x1 : Int} {x2 : Int} {x3 : Int} {x4 : Int} {w : World} {r : Int × Int × Bool}  (hM : m_impl_SyncJoin x0 x1 x2 x3 x4 = some r) :
    Calls Tryd.prog 19 #[.agg #[.int .i64 x0, .int .i64 x1], .agg #[.int .i64 x2, .int .i64 x3], .int .i64 x4] w (fun e w' => e = .returned (.tuple #[.agg #[.int .i64 r.1, .int .i64 r.2.1], .bool r.2.2]) ∧ St w w' []) := by
  unfold m_impl_SyncJoin at hM
  refine calls_gw Tryd.func19 Tryd.ntmps19 rfl [(0, .agg #[.int .i64 x0, .int .i64 x1]), (1, .agg #[.int .i64 x2, .int .i64 x3]), (2, .int .i64 x4)] ⟨rfl, rfl, rfl, trivial⟩ rfl ?_
  intro a hF
  have S := St.nil w
  refine wp_seq ?_
  refine wp_region_lit ?_
  refine op_new (cs := #[.int .i64 x0, .int .i64 x1]) rfl rfl hF rfl S (run_box rfl (hF.ev rfl) rfl) ?_; clear hF S; intro a g101 u hF S
  refine op_new (cs := #[.int .i64 x2, .int .i64 x3]) rfl rfl hF rfl S (run_box rfl (hF.ev rfl) rfl) ?_; clear hF S; intro a g102 u hF S
  refine op_new (cs := #[.int .i64 0, .int .i64 0]) rfl rfl hF rfl S (run_allocZ rfl zr24) ?_; clear hF S; intro a g103 u hF S
  refine op_val (v := .bool false) rfl rfl hF rfl (run_assign rfl rfl) ?_; clear hF; intro a hF
  refine wpList_nil ?_
  refine wp_seq ?_
  refine wp_seq ?_
  refine wp_region_lit ?_
  refine op_val (v := .agg #[.int .i64 x0, .int .i64 x1]) rfl rfl hF rfl (run_loadN rfl ag24 (hF.ev rfl) rfl ((S.free 2 rfl).cells 0 #[.int .i64 x0, .int .i64 x1] rfl)) ?_; clear hF; intro a hF
  refine op_val (v := .agg #[.int .i64 x2, .int .i64 x3]) rfl rfl hF rfl (run_loadN rfl ag24 (hF.ev rfl) rfl ((S.free 1 rfl).cells 0 #[.int .i64 x2, .int .i64 x3] rfl)) ?_; clear hF; intro a hF
  refine op_val (v := .int .i64 x4) rfl rfl hF rfl (run_move rfl (hF.ev rfl)) ?_; clear hF; intro a hF
  obtain ⟨p104, h104, hM⟩ := bind_ex hM
  refine op_call rfl rfl hF rfl (run_call (vs := [.agg #[.int .i64 x0, .int .i64 x1], .agg #[.int .i64 x2, .int .i64 x3], .int .i64 x4]) rfl rfl co13 ⟨(hF.ev rfl), (hF.ev rfl), (hF.ev rfl), trivial⟩) (c_impl_SyncMay (x0 := x0) (x1 := x1) (x2 := x2) (x3 := x3) (x4 := x4)  h104) ?_
  rintro e u ⟨rfl, T⟩
  refine ⟨_, rfl, ?_⟩
  clear hF; intro a hF
  replace S := S.call0 T; clear T
  refine op_val (v := .bool (!p104)) rfl rfl hF rfl (run_not rfl (hF.ev rfl)) ?_; clear hF; intro a hF
  refine wpList_nil ?_
  cases hc105 : (p104)
  · replace hM := bif_f hc105 hM
    refine cond_t hF rfl (not_t hc105) ?_
    refine wp_seq ?_
    refine wp_region_lit ?_
    refine op_val (v := .agg #[.int .i64 0, .int .i64 0]) rfl rfl hF rfl (run_build (vs := []) rfl trivial (bd24 )) ?_; clear hF; intro a hF
    refine op_do rfl rfl (run_store (cs' := #[.int .i64 0, .int .i64 0]) rfl sz24 (hF.ev rfl) (hF.ev rfl) rfl rfl rfl (S.free 0 rfl) rfl rfl) ?_; replace S := S.put 0 rfl (#[.int .i64 0, .int .i64 0])
    generalize World.setRow _ _ _ = u at S ⊢
    refine op_val (v := .bool false) rfl rfl hF rfl (run_assign rfl rfl) ?_; clear hF; intro a hF
    refine wpList_nil ?_
    refine wp_ret ?_
    repeat with_reducible (first | refine then_ret ?_ | refine in_ret ?_ | refine in_nrm ?_)
    refine ret2_gw (.inl rfl) hF rfl (res_cell (hF.ev rfl) (res_loadN ag24 rfl (S.cells 0 rfl 0 #[.int .i64 0, .int .i64 0] rfl))) (res_tmp (hF.ev rfl)) ?_
    obtain rfl := Option.some.inj hM
    exact ⟨rfl, S.sel [] rfl rfl⟩
  · replace hM := bif_t hc105 hM
    refine cond_f hF rfl (not_f hc105) ?_
    refine wp_skip ?_
    refine wp_seq ?_
    refine wp_region_lit ?_
    refine op_val (v := .pointer (some ⟨g101, 1, none⟩)) rfl rfl hF rfl (run_fieldAddr rfl fl24_1 (hF.ev rfl) rfl) ?_; clear hF; intro a hF
    refine op_val (v := .int .i64 x1) rfl rfl hF rfl (run_load1 rfl one3 (hF.ev rfl) ((S.free 2 rfl).cell rfl)) ?_; clear hF; intro a hF
    refine op_val (v := .pointer (some ⟨g102, 1, none⟩)) rfl rfl hF rfl (run_fieldAddr rfl fl24_1 (hF.ev rfl) rfl) ?_; clear hF; intro a hF
    refine op_val (v := .int .i64 x3) rfl rfl hF rfl (run_load1 rfl one3 (hF.ev rfl) ((S.free 1 rfl).cell rfl)) ?_; clear hF; intro a hF
    refine op_val (v := .int .i64 (w64 (x1 + x3))) rfl rfl hF rfl (run_add (z := w64 (x1 + x3)) (hF.ev rfl) (hF.ev rfl) rfl rfl) ?_; clear hF; intro a hF
    refine op_val (v := .int .i64 (w64 (x1 + x3))) rfl rfl hF rfl (run_assign rfl (hF.ev rfl)) ?_; clear hF; intro a hF
    refine wpList_nil ?_
    refine wp_seq ?_
    refine wp_region_lit ?_
    refine op_val (v := .pointer (some ⟨g101, 0, none⟩)) rfl rfl hF rfl (run_fieldAddr rfl fl24_0 (hF.ev rfl) rfl) ?_; clear hF; intro a hF
    refine op_val (v := .int .i64 x0) rfl rfl hF rfl (run_load1 rfl one3 (hF.ev rfl) ((S.free 2 rfl).cell rfl)) ?_; clear hF; intro a hF
    refine op_val (v := .pointer (some ⟨g101, 1, none⟩)) rfl rfl hF rfl (run_fieldAddr rfl fl24_1 (hF.ev rfl) rfl) ?_; clear hF; intro a hF
    refine op_val (v := .int .i64 x1) rfl rfl hF rfl (run_load1 rfl one3 (hF.ev rfl) ((S.free 2 rfl).cell rfl)) ?_; clear hF; intro a hF
    refine op_val (v := .int .i64 (w64 (x0 * x1))) rfl rfl hF rfl (run_mul (z := w64 (x0 * x1)) (hF.ev rfl) (hF.ev rfl) rfl rfl) ?_; clear hF; intro a hF
    refine op_val (v := .pointer (some ⟨g102, 0, none⟩)) rfl rfl hF rfl (run_fieldAddr rfl fl24_0 (hF.ev rfl) rfl) ?_; clear hF; intro a hF
    refine op_val (v := .int .i64 x2) rfl rfl hF rfl (run_load1 rfl one3 (hF.ev rfl) ((S.free 1 rfl).cell rfl)) ?_; clear hF; intro a hF
    refine op_val (v := .pointer (some ⟨g102, 1, none⟩)) rfl rfl hF rfl (run_fieldAddr rfl fl24_1 (hF.ev rfl) rfl) ?_; clear hF; intro a hF
    refine op_val (v := .int .i64 x3) rfl rfl hF rfl (run_load1 rfl one3 (hF.ev rfl) ((S.free 1 rfl).cell rfl)) ?_; clear hF; intro a hF
    refine op_val (v := .int .i64 (w64 (x2 * x3))) rfl rfl hF rfl (run_mul (z := w64 (x2 * x3)) (hF.ev rfl) (hF.ev rfl) rfl rfl) ?_; clear hF; intro a hF
    refine op_val (v := .int .i64 (w64 ((w64 (x0 * x1)) + (w64 (x2 * x3))))) rfl rfl hF rfl (run_add (z := w64 ((w64 (x0 * x1)) + (w64 (x2 * x3)))) (hF.ev rfl) (hF.ev rfl) rfl rfl) ?_; clear hF; intro a hF
    refine op_val (v := .int .i64 (w64 (x1 + x3))) rfl rfl hF rfl (run_move rfl (hF.ev rfl)) ?_; clear hF; intro a hF
    obtain ⟨hk106, hM⟩ := chk_ex hM
    replace hk106 := nzB_t hk106
    refine op_val (v := .int .i64 (w64 (Int.tdiv (w64 ((w64 (x0 * x1)) + (w64 (x2 * x3)))) (w64 (x1 + x3))))) rfl rfl hF rfl (run_quo (z := w64 (Int.tdiv (w64 ((w64 (x0 * x1)) + (w64 (x2 * x3)))) (w64 (x1 + x3)))) (hF.ev rfl) (hF.ev rfl) rfl hk106 rfl) ?_; clear hF; intro a hF
    refine op_val (v := .int .i64 (w64 (x1 + x3))) rfl rfl hF rfl (run_move rfl (hF.ev rfl)) ?_; clear hF; intro a hF
    refine op_val (v := .agg #[.int .i64 (w64 (Int.tdiv (w64 ((w64 (x0 * x1)) + (w64 (x2 * x3)))) (w64 (x1 + x3)))), .int .i64 (w64 (x1 + x3))]) rfl rfl hF rfl (run_build (vs := [(0, .int .i64 (w64 (Int.tdiv (w64 ((w64 (x0 * x1)) + (w64 (x2 * x3)))) (w64 (x1 + x3))))), (1, .int .i64 (w64 (x1 + x3)))]) rfl ⟨⟨rfl, (hF.ev rfl)⟩, ⟨rfl, (hF.ev rfl)⟩, trivial⟩ (bd24_0_1 rfl rfl)) ?_; clear hF; intro a hF
    refine op_do rfl rfl (run_store (cs' := #[.int .i64 (w64 (Int.tdiv (w64 ((w64 (x0 * x1)) + (w64 (x2 * x3)))) (w64 (x1 + x3)))), .int .i64 (w64 (x1 + x3))]) rfl sz24 (hF.ev rfl) (hF.ev rfl) rfl rfl rfl (S.free 0 rfl) rfl rfl) ?_; replace S := S.put 0 rfl (#[.int .i64 (w64 (Int.tdiv (w64 ((w64 (x0 * x1)) + (w64 (x2 * x3)))) (w64 (x1 + x3)))), .int .i64 (w64 (x1 + x3))])
    generalize World.setRow _ _ _ = u at S ⊢
    refine op_val (v := .bool true) rfl rfl hF rfl (run_assign rfl rfl) ?_; clear hF; intro a hF
    refine wpList_nil ?_
    refine wp_ret ?_
    repeat with_reducible (first | refine then_ret ?_ | refine in_ret ?_ | refine in_nrm ?_)
    refine ret2_gw (.inl rfl) hF rfl (res_cell (hF.ev rfl) (res_loadN ag24 rfl (S.cells 0 rfl 0 #[.int .i64 (w64 (Int.tdiv (w64 ((w64 (x0 * x1)) + (w64 (x2 * x3)))) (w64 (x1 + x3)))), .int .i64 (w64 (x1 + x3))] rfl))) (res_tmp (hF.ev rfl)) ?_
    obtain rfl := Option.some.inj hM
    exact ⟨rfl, S.sel [] rfl rfl⟩

set_option maxHeartbeats 4000000 in
theorem c_spec_SyncJoin {x0 : Int} {x1 : Int} {x2 : Int} {x3 : Int} {x4 : Int} {w : World} {r : Int × Int × Bool}  (hM : m_spec_SyncJoin x0 x1 x2 x3 x4 = some r) :
    Calls Tryd.prog 20 #[.agg #[.int .i64 x0, .int .i64 x1], .agg #[.int .i64 x2, .int .i64 x3], .int .i64 x4] w (fun e w' => e = .returned (.tuple #[.agg #[.int .i64 r.1, .int .i64 r.2.1], .bool r.2.2]) ∧ St w w' []) := by
  unfold m_spec_SyncJoin at hM
  refine calls_gw Tryd.func20 Tryd.ntmps20 rfl [(0, .agg #[.int .i64 x0, .int .i64 x1]), (1, .agg #[.int .i64 x2, .int .i64 x3]), (2, .int .i64 x4)] ⟨rfl, rfl, rfl, trivial⟩ rfl ?_
  intro a hF
  have S := St.nil w
  refine wp_seq ?_
  refine wp_region_lit ?_
  refine op_new (cs := #[.int .i64 x0, .int .i64 x1]) rfl rfl hF rfl S (run_box rfl (hF.ev rfl) rfl) ?_; clear hF S; intro a g101 u hF S
  refine op_new (cs := #[.int .i64 x2, .int .i64 x3]) rfl rfl hF rfl S (run_box rfl (hF.ev rfl) rfl) ?_; clear hF S; intro a g102 u hF S
  refine op_new (cs := #[.int .i64 0, .int .i64 0]) rfl rfl hF rfl S (run_allocZ rfl zr24) ?_; clear hF S; intro a g103 u hF S
  refine op_val (v := .bool false) rfl rfl hF rfl (run_assign rfl rfl) ?_; clear hF; intro a hF
  refine wpList_nil ?_
  refine wp_seq ?_
  refine wp_seq ?_
  refine wp_region_lit ?_
  refine op_val (v := .agg #[.int .i64 x0, .int .i64 x1]) rfl rfl hF rfl (run_loadN rfl ag24 (hF.ev rfl) rfl ((S.free 2 rfl).cells 0 #[.int .i64 x0, .int .i64 x1] rfl)) ?_; clear hF; intro a hF
  refine op_val (v := .agg #[.int .i64 x2, .int .i64 x3]) rfl rfl hF rfl (run_loadN rfl ag24 (hF.ev rfl) rfl ((S.free 1 rfl).cells 0 #[.int .i64 x2, .int .i64 x3] rfl)) ?_; clear hF; intro a hF
  refine op_val (v := .int .i64 x4) rfl rfl hF rfl (run_move rfl (hF.ev rfl)) ?_; clear hF; intro a hF
  obtain ⟨p104, h104, hM⟩ := bind_ex hM
  refine op_call rfl rfl hF rfl (run_call (vs := [.agg #[.int .i64 x0, .int .i64 x1], .agg #[.int .i64 x2, .int .i64 x3], .int .i64 x4]) rfl rfl co14 ⟨(hF.ev rfl), (hF.ev rfl), (hF.ev rfl), trivial⟩) (c_spec_SyncMay (x0 := x0) (x1 := x1) (x2 := x2) (x3 := x3) (x4 := x4)  h104) ?_
  rintro e u ⟨rfl, T⟩
  refine ⟨_, rfl, ?_⟩
  clear hF; intro a hF
  replace S := S.call0 T; clear T
  refine op_val (v := .bool (!p104)) rfl rfl hF rfl (run_not rfl (hF.ev rfl)) ?_; clear hF; intro a hF
  refine wpList_nil ?_
  cases hc105 : (p104)
  · replace hM := bif_f hc105 hM
    refine cond_t hF rfl (not_t hc105) ?_
    refine wp_seq ?_
    refine wp_region_lit ?_
    refine op_val (v := .agg #[.int .i64 0, .int .i64 0]) rfl rfl hF rfl (run_build (vs := []) rfl trivial (bd24 )) ?_; clear hF; intro a hF
    refine op_do rfl rfl (run_store (cs' := #[.int .i64 0, .int .i64 0]) rfl sz24 (hF.ev rfl) (hF.ev rfl) rfl rfl rfl (S.free 0 rfl) rfl rfl) ?_; replace S := S.put 0 rfl (#[.int .i64 0, .int .i64 0])
    generalize World.setRow _ _ _ = u at S ⊢
    refine op_val (v := .bool false) rfl rfl hF rfl (run_assign rfl rfl) ?_; clear hF; intro a hF
    refine wpList_nil ?_
    refine wp_ret ?_
    repeat with_reducible (first | refine then_ret ?_ | refine in_ret ?_ | refine in_nrm ?_)
    refine ret2_gw (.inl rfl) hF rfl (res_cell (hF.ev rfl) (res_loadN ag24 rfl (S.cells 0 rfl 0 #[.int .i64 0, .int .i64 0] rfl))) (res_tmp (hF.ev rfl)) ?_
    obtain rfl := Option.some.inj hM
    exact ⟨rfl, S.sel [] rfl rfl⟩
  · replace hM := bif_t hc105 hM
    refine cond_f hF rfl (not_f hc105) ?_
    refine wp_skip ?_
    refine wp_seq ?_
    refine wp_region_lit ?_
    refine op_val (v := .pointer (some ⟨g101, 1, none⟩)) rfl rfl hF rfl (run_fieldAddr rfl fl24_1 (hF.ev rfl) rfl) ?_; clear hF; intro a hF
    refine op_val (v := .int .i64 x1) rfl rfl hF rfl (run_load1 rfl one3 (hF.ev rfl) ((S.free 2 rfl).cell rfl)) ?_; clear hF; intro a hF
    refine op_val (v := .pointer (some ⟨g102, 1, none⟩)) rfl rfl hF rfl (run_fieldAddr rfl fl24_1 (hF.ev rfl) rfl) ?_; clear hF; intro a hF
    refine op_val (v := .int .i64 x3) rfl rfl hF rfl (run_load1 rfl one3 (hF.ev rfl) ((S.free 1 rfl).cell rfl)) ?_; clear hF; intro a hF
    refine op_val (v := .int .i64 (w64 (x1 + x3))) rfl rfl hF rfl (run_add (z := w64 (x1 + x3)) (hF.ev rfl) (hF.ev rfl) rfl rfl) ?_; clear hF; intro a hF
    refine op_val (v := .int .i64 (w64 (x1 + x3))) rfl rfl hF rfl (run_assign rfl (hF.ev rfl)) ?_; clear hF; intro a hF
    refine wpList_nil ?_
    refine wp_seq ?_
    refine wp_region_lit ?_
    refine op_val (v := .pointer (some ⟨g101, 0, none⟩)) rfl rfl hF rfl (run_fieldAddr rfl fl24_0 (hF.ev rfl) rfl) ?_; clear hF; intro a hF
    refine op_val (v := .int .i64 x0) rfl rfl hF rfl (run_load1 rfl one3 (hF.ev rfl) ((S.free 2 rfl).cell rfl)) ?_; clear hF; intro a hF
    refine op_val (v := .pointer (some ⟨g101, 1, none⟩)) rfl rfl hF rfl (run_fieldAddr rfl fl24_1 (hF.ev rfl) rfl) ?_; clear hF; intro a hF
    refine op_val (v := .int .i64 x1) rfl rfl hF rfl (run_load1 rfl one3 (hF.ev rfl) ((S.free 2 rfl).cell rfl)) ?_; clear hF; intro a hF
    refine op_val (v := .int .i64 (w64 (x0 * x1))) rfl rfl hF rfl (run_mul (z := w64 (x0 * x1)) (hF.ev rfl) (hF.ev rfl) rfl rfl) ?_; clear hF; intro a hF
    refine op_val (v := .pointer (some ⟨g102, 0, none⟩)) rfl rfl hF rfl (run_fieldAddr rfl fl24_0 (hF.ev rfl) rfl) ?_; clear hF; intro a hF
    refine op_val (v := .int .i64 x2) rfl rfl hF rfl (run_load1 rfl one3 (hF.ev rfl) ((S.free 1 rfl).cell rfl)) ?_; clear hF; intro a hF
    refine op_val (v := .pointer (some ⟨g102, 1, none⟩)) rfl rfl hF rfl (run_fieldAddr rfl fl24_1 (hF.ev rfl) rfl) ?_; clear hF; intro a hF
    refine op_val (v := .int .i64 x3) rfl rfl hF rfl (run_load1 rfl one3 (hF.ev rfl) ((S.free 1 rfl).cell rfl)) ?_; clear hF; intro a hF
    refine op_val (v := .int .i64 (w64 (x2 * x3))) rfl rfl hF rfl (run_mul (z := w64 (x2 * x3)) (hF.ev rfl) (hF.ev rfl) rfl rfl) ?_; clear hF; intro a hF
    refine op_val (v := .int .i64 (w64 ((w64 (x0 * x1)) + (w64 (x2 * x3))))) rfl rfl hF rfl (run_add (z := w64 ((w64 (x0 * x1)) + (w64 (x2 * x3)))) (hF.ev rfl) (hF.ev rfl) rfl rfl) ?_; clear hF; intro a hF
    refine op_val (v := .int .i64 (w64 (x1 + x3))) rfl rfl hF rfl (run_move rfl (hF.ev rfl)) ?_; clear hF; intro a hF
    obtain ⟨hk106, hM⟩ := chk_ex hM
    replace hk106 := nzB_t hk106
    refine op_val (v := .int .i64 (w64 (Int.tdiv (w64 ((w64 (x0 * x1)) + (w64 (x2 * x3)))) (w64 (x1 + x3))))) rfl rfl hF rfl (run_quo (z := w64 (Int.tdiv (w64 ((w64 (x0 * x1)) + (w64 (x2 * x3)))) (w64 (x1 + x3)))) (hF.ev rfl) (hF.ev rfl) rfl hk106 rfl) ?_; clear hF; intro a hF
    refine op_val (v := .int .i64 (w64 (x1 + x3))) rfl rfl hF rfl (run_move rfl (hF.ev rfl)) ?_; clear hF; intro a hF
    refine op_val (v := .agg #[.int .i64 (w64 (Int.tdiv (w64 ((w64 (x0 * x1)) + (w64 (x2 * x3)))) (w64 (x1 + x3)))), .int .i64 (w64 (x1 + x3))]) rfl rfl hF rfl (run_build (vs := [(0, .int .i64 (w64 (Int.tdiv (w64 ((w64 (x0 * x1)) + (w64 (x2 * x3)))) (w64 (x1 + x3))))), (1, .int .i64 (w64 (x1 + x3)))]) rfl ⟨⟨rfl, (hF.ev rfl)⟩, ⟨rfl, (hF.ev rfl)⟩, trivial⟩ (bd24_0_1 rfl rfl)) ?_; clear hF; intro a hF
    refine op_do rfl rfl (run_store (cs' := #[.int .i64 (w64 (Int.tdiv (w64 ((w64 (x0 * x1)) + (w64 (x2 * x3)))) (w64 (x1 + x3)))), .int .i64 (w64 (x1 + x3))]) rfl sz24 (hF.ev rfl) (hF.ev rfl) rfl rfl rfl (S.free 0 rfl) rfl rfl) ?_; replace S := S.put 0 rfl (#[.int .i64 (w64 (Int.tdiv (w64 ((w64 (x0 * x1)) + (w64 (x2 * x3)))) (w64 (x1 + x3)))), .int .i64 (w64 (x1 + x3))])
    generalize World.setRow _ _ _ = u at S ⊢
    refine op_val (v := .bool true) rfl rfl hF rfl (run_assign rfl rfl) ?_; clear hF; intro a hF
    refine wpList_nil ?_
    refine wp_ret ?_
    repeat with_reducible (first | refine then_ret ?_ | refine in_ret ?_ | refine in_nrm ?_)
    refine ret2_gw (.inl rfl) hF rfl (res_cell (hF.ev rfl) (res_loadN ag24 rfl (S.cells 0 rfl 0 #[.int .i64 (w64 (Int.tdiv (w64 ((w64 (x0 * x1)) + (w64 (x2 * x3)))) (w64 (x1 + x3)))), .int .i64 (w64 (x1 + x3))] rfl))) (res_tmp (hF.ev rfl)) ?_
    obtain rfl := Option.some.inj hM
    exact ⟨rfl, S.sel [] rfl rfl⟩

set_option maxHeartbeats 4000000 in
theorem c_laws_FnSyncJoin {x0 : List Int} {A0 : Option Addr} {n0 c0 : Nat} {w : World} {r : Bool} (h0 : Rt w 1 eU A0 n0 c0 x0) (hM : m_laws_FnSyncJoin x0 = some r) :
    Calls Tryd.prog 6 #[.slice A0 n0 c0] w (fun e w' => e = .returned (.bool r) ∧ St w w' []) := by
  obtain rfl := h0.len
  unfold m_laws_FnSyncJoin at hM
  refine calls_gw Tryd.func6 Tryd.ntmps6 rfl [(0, .slice A0 x0.length c0)] ⟨rfl, trivial⟩ rfl ?_
  intro a hF
  have S := St.nil w
  refine wp_seq ?_
  refine wp_region_lit ?_
  refine op_val (v := .bool false) rfl rfl hF rfl (run_assign rfl rfl) ?_; clear hF; intro a hF
  refine wpList_nil ?_
  refine wp_seq ?_
  refine wp_seq ?_
  refine wp_region_lit ?_
  refine op_val (v := .slice A0 x0.length c0) rfl rfl hF rfl (run_move rfl (hF.ev rfl)) ?_; clear hF; intro a hF
  refine op_val (v := .int .i64 (x0.length : Int)) rfl rfl hF rfl (run_lenL rfl rfl Tryd.underlying22 (hF.ev rfl)) ?_; clear hF; intro a hF
  refine op_val (v := .bool (ltB 1048576 (x0.length : Int))) rfl rfl hF rfl (run_gtr (hF.ev rfl) rfl rfl) ?_; clear hF; intro a hF
  refine wpList_nil ?_
  cases hc101 : (ltB 1048576 (x0.length : Int))
  · replace hM := bif_f hc101 hM
    refine cond_f hF rfl hc101 ?_
    refine wp_skip ?_
    refine wp_seq ?_
    refine wp_region_lit ?_
    refine op_val (v := .slice A0 x0.length c0) rfl rfl hF rfl (run_move rfl (hF.ev rfl)) ?_; clear hF; intro a hF
    obtain ⟨p102, h102, hM⟩ := bind_ex hM
    refine op_call rfl rfl hF rfl (run_call (vs := [.slice A0 x0.length c0]) rfl rfl co18 ⟨(hF.ev rfl), trivial⟩) (c_spec_DrawSyncJoin (x0 := x0) ⟨(S.rc0 h0.rc), rfl⟩ h102) ?_
    rintro e u ⟨rfl, T⟩
    refine ⟨_, rfl, ?_⟩
    clear hF; intro a hF
    replace S := S.call0 T; clear T
    refine op_val (v := .tuple #[.agg #[.int .i64 p102.1, .int .i64 p102.2.1], .agg #[.int .i64 p102.2.2.1, .int .i64 p102.2.2.2.1], .int .i64 p102.2.2.2.2]) rfl rfl hF rfl (run_move rfl (hF.ev rfl)) ?_; clear hF; intro a hF
    refine op_val (v := .agg #[.int .i64 p102.1, .int .i64 p102.2.1]) rfl rfl hF rfl (run_extract rfl (hF.ev rfl) rfl) ?_; clear hF; intro a hF
    refine op_val (v := .agg #[.int .i64 p102.2.2.1, .int .i64 p102.2.2.2.1]) rfl rfl hF rfl (run_extract rfl (hF.ev rfl) rfl) ?_; clear hF; intro a hF
    refine op_val (v := .int .i64 p102.2.2.2.2) rfl rfl hF rfl (run_extract rfl (hF.ev rfl) rfl) ?_; clear hF; intro a hF
    refine op_new (cs := #[.int .i64 0, .int .i64 0]) rfl rfl hF rfl S (run_allocZ rfl zr24) ?_; clear hF S; intro a g103 u hF S
    refine op_new (cs := #[.int .i64 0, .int .i64 0]) rfl rfl hF rfl S (run_allocZ rfl zr24) ?_; clear hF S; intro a g104 u hF S
    refine op_do rfl rfl (run_store (cs' := #[.int .i64 p102.1, .int .i64 p102.2.1]) rfl sz24 (hF.ev rfl) (hF.ev rfl) rfl rfl rfl (S.free 1 rfl) rfl rfl) ?_; replace S := S.put 1 rfl (#[.int .i64 p102.1, .int .i64 p102.2.1])
    generalize World.setRow _ _ _ = u at S ⊢
    refine op_do rfl rfl (run_store (cs' := #[.int .i64 p102.2.2.1, .int .i64 p102.2.2.2.1]) rfl sz24 (hF.ev rfl) (hF.ev rfl) rfl rfl rfl (S.free 0 rfl) rfl rfl) ?_; replace S := S.put 0 rfl (#[.int .i64 p102.2.2.1, .int .i64 p102.2.2.2.1])
    generalize World.setRow _ _ _ = u at S ⊢
    refine op_val (v := .int .i64 p102.2.2.2.2) rfl rfl hF rfl (run_assign rfl (hF.ev rfl)) ?_; clear hF; intro a hF
    refine wpList_nil ?_
    refine wp_seq ?_
    refine wp_region_lit ?_
    refine op_val (v := .agg #[.int .i64 p102.1, .int .i64 p102.2.1]) rfl rfl hF rfl (run_loadN rfl ag24 (hF.ev rfl) rfl ((S.free 1 rfl).cells 0 #[.int .i64 p102.1, .int .i64 p102.2.1] rfl)) ?_; clear hF; intro a hF
    refine op_val (v := .agg #[.int .i64 p102.2.2.1, .int .i64 p102.2.2.2.1]) rfl rfl hF rfl (run_loadN rfl ag24 (hF.ev rfl) rfl ((S.free 0 rfl).cells 0 #[.int .i64 p102.2.2.1, .int .i64 p102.2.2.2.1] rfl)) ?_; clear hF; intro a hF
    refine op_val (v := .int .i64 p102.2.2.2.2) rfl rfl hF rfl (run_move rfl (hF.ev rfl)) ?_; clear hF; intro a hF
    obtain ⟨p105, h105, hM⟩ := bind_ex hM
    refine op_call rfl rfl hF rfl (run_call (vs := [.agg #[.int .i64 p102.1, .int .i64 p102.2.1], .agg #[.int .i64 p102.2.2.1, .int .i64 p102.2.2.2.1], .int .i64 p102.2.2.2.2]) rfl rfl co19 ⟨(hF.ev rfl), (hF.ev rfl), (hF.ev rfl), trivial⟩) (c_impl_SyncJoin (x0 := p102.1) (x1 := p102.2.1) (x2 := p102.2.2.1) (x3 := p102.2.2.2.1) (x4 := p102.2.2.2.2)  h105) ?_
    rintro e u ⟨rfl, T⟩
    refine ⟨_, rfl, ?_⟩
    clear hF; intro a hF
    replace S := S.call0 T; clear T
    refine op_val (v := .tuple #[.agg #[.int .i64 p105.1, .int .i64 p105.2.1], .bool p105.2.2]) rfl rfl hF rfl (run_move rfl (hF.ev rfl)) ?_; clear hF; intro a hF
    refine op_val (v := .agg #[.int .i64 p105.1, .int .i64 p105.2.1]) rfl rfl hF rfl (run_extract rfl (hF.ev rfl) rfl) ?_; clear hF; intro a hF
    refine op_val (v := .bool p105.2.2) rfl rfl hF rfl (run_extract rfl (hF.ev rfl) rfl) ?_; clear hF; intro a hF
    refine op_new (cs := #[.int .i64 0, .int .i64 0]) rfl rfl hF rfl S (run_allocZ rfl zr24) ?_; clear hF S; intro a g106 u hF S
    refine op_do rfl rfl (run_store (cs' := #[.int .i64 p105.1, .int .i64 p105.2.1]) rfl sz24 (hF.ev rfl) (hF.ev rfl) rfl rfl rfl (S.free 0 rfl) rfl rfl) ?_; replace S := S.put 0 rfl (#[.int .i64 p105.1, .int .i64 p105.2.1])
    generalize World.setRow _ _ _ = u at S ⊢
    refine op_val (v := .bool p105.2.2) rfl rfl hF rfl (run_assign rfl (hF.ev rfl)) ?_; clear hF; intro a hF
    refine wpList_nil ?_
    refine wp_seq ?_
    refine wp_region_lit ?_
    refine op_val (v := .agg #[.int .i64 p102.1, .int .i64 p102.2.1]) rfl rfl hF rfl (run_loadN rfl ag24 (hF.ev rfl) rfl ((S.free 2 rfl).cells 0 #[.int .i64 p102.1, .int .i64 p102.2.1] rfl)) ?_; clear hF; intro a hF
    refine op_val (v := .agg #[.int .i64 p102.2.2.1, .int .i64 p102.2.2.2.1]) rfl rfl hF rfl (run_loadN rfl ag24 (hF.ev rfl) rfl ((S.free 1 rfl).cells 0 #[.int .i64 p102.2.2.1, .int .i64 p102.2.2.2.1] rfl)) ?_; clear hF; intro a hF
    refine op_val (v := .int .i64 p102.2.2.2.2) rfl rfl hF rfl (run_move rfl (hF.ev rfl)) ?_; clear hF; intro a hF
    obtain ⟨p107, h107, hM⟩ := bind_ex hM
    refine op_call rfl rfl hF rfl (run_call (vs := [.agg #[.int .i64 p102.1, .int .i64 p102.2.1], .agg #[.int .i64 p102.2.2.1, .int .i64 p102.2.2.2.1], .int .i64 p102.2.2.2.2]) rfl rfl co20 ⟨(hF.ev rfl), (hF.ev rfl), (hF.ev rfl), trivial⟩) (c_spec_SyncJoin (x0 := p102.1) (x1 := p102.2.1) (x2 := p102.2.2.1) (x3 := p102.2.2.2.1) (x4 := p102.2.2.2.2)  h107) ?_
    rintro e u ⟨rfl, T⟩
    refine ⟨_, rfl, ?_⟩
    clear hF; intro a hF
    replace S := S.call0 T; clear T
    refine op_val (v := .tuple #[.agg #[.int .i64 p107.1, .int .i64 p107.2.1], .bool p107.2.2]) rfl rfl hF rfl (run_move rfl (hF.ev rfl)) ?_; clear hF; intro a hF
    refine op_val (v := .agg #[.int .i64 p107.1, .int .i64 p107.2.1]) rfl rfl hF rfl (run_extract rfl (hF.ev rfl) rfl) ?_; clear hF; intro a hF
    refine op_val (v := .bool p107.2.2) rfl rfl hF rfl (run_extract rfl (hF.ev rfl) rfl) ?_; clear hF; intro a hF
    refine op_new (cs := #[.int .i64 0, .int .i64 0]) rfl rfl hF rfl S (run_allocZ rfl zr24) ?_; clear hF S; intro a g108 u hF S
    refine op_do rfl rfl (run_store (cs' := #[.int .i64 p107.1, .int .i64 p107.2.1]) rfl sz24 (hF.ev rfl) (hF.ev rfl) rfl rfl rfl (S.free 0 rfl) rfl rfl) ?_; replace S := S.put 0 rfl (#[.int .i64 p107.1, .int .i64 p107.2.1])
    generalize World.setRow _ _ _ = u at S ⊢
    refine op_val (v := .bool p107.2.2) rfl rfl hF rfl (run_assign rfl (hF.ev rfl)) ?_; clear hF; intro a hF
    refine wpList_nil ?_
    refine wp_seq ?_
    refine wp_seq ?_
    refine wp_region_lit ?_
    refine op_val (v := .agg #[.int .i64 p105.1, .int .i64 p105.2.1]) rfl rfl hF rfl (run_loadN rfl ag24 (hF.ev rfl) rfl ((S.free 1 rfl).cells 0 #[.int .i64 p105.1, .int .i64 p105.2.1] rfl)) ?_; clear hF; intro a hF
    refine op_val (v := .agg #[.int .i64 p107.1, .int .i64 p107.2.1]) rfl rfl hF rfl (run_loadN rfl ag24 (hF.ev rfl) rfl ((S.free 0 rfl).cells 0 #[.int .i64 p107.1, .int .i64 p107.2.1] rfl)) ?_; clear hF; intro a hF
    refine op_val (v := .bool (!((p105.1 == p107.1) && (p105.2.1 == p107.2.1)))) rfl rfl hF rfl (run_neqA (hF.ev rfl) (hF.ev rfl) rfl eg24 eq24) ?_; clear hF; intro a hF
    refine op_val (v := .bool (!((p105.1 == p107.1) && (p105.2.1 == p107.2.1)))) rfl rfl hF rfl (run_move rfl (hF.ev rfl)) ?_; clear hF; intro a hF
    refine op_gv (v := .bool p105.2.2) rfl rfl hF rfl (yf (gw_yield hF rfl rfl rfl)) (fun hg => (run_move rfl (hF.ev rfl))) ?_; clear hF; intro a hF
    refine op_gv (v := .bool p107.2.2) rfl rfl hF rfl (yf (gw_yield hF rfl rfl rfl)) (fun hg => (run_move rfl (hF.ev rfl))) ?_; clear hF; intro a hF
    refine op_gv (v := .bool (p105.2.2 != p107.2.2)) rfl rfl hF rfl (yf (gw_yield hF rfl rfl rfl)) (fun hg => (run_neqB ((hF.ev rfl).trans (gv_t hg)) ((hF.ev rfl).trans (gv_t hg)) Tryd.underlying4 rfl)) ?_; clear hF; intro a hF
    refine op_val (v := .bool ((!((p105.1 == p107.1) && (p105.2.1 == p107.2.1))) || (p105.2.2 != p107.2.2))) rfl rfl hF rfl (run_pick_or rfl (hF.ev rfl) rfl (fun hp => ((hF.ev rfl).trans (gv_t (not_t hp))))) ?_; clear hF; intro a hF
    refine wpList_nil ?_
    cases hc109 : ((!((p105.1 == p107.1) && (p105.2.1 == p107.2.1))) || (p105.2.2 != p107.2.2))
    · replace hM := bif_f hc109 hM
      refine cond_f hF rfl hc109 ?_
      refine wp_skip ?_
      refine wp_seq ?_
      refine wp_seq ?_
      refine wp_region_lit ?_
      refine op_val (v := .bool p105.2.2) rfl rfl hF rfl (run_move rfl (hF.ev rfl)) ?_; clear hF; intro a hF
      refine op_val (v := .bool (!p105.2.2)) rfl rfl hF rfl (run_not rfl (hF.ev rfl)) ?_; clear hF; intro a hF
      refine wpList_nil ?_
      cases hc110 : (p105.2.2)
      · replace hM := bif_f hc110 hM
        refine cond_t hF rfl (not_t hc110) ?_
        refine wp_seq ?_
        refine wp_region_lit ?_
        refine op_val (v := .agg #[.int .i64 p105.1, .int .i64 p105.2.1]) rfl rfl hF rfl (run_loadN rfl ag24 (hF.ev rfl) rfl ((S.free 1 rfl).cells 0 #[.int .i64 p105.1, .int .i64 p105.2.1] rfl)) ?_; clear hF; intro a hF
        refine op_val (v := .agg #[.int .i64 0, .int .i64 0]) rfl rfl hF rfl (run_build (vs := []) rfl trivial (bd24 )) ?_; clear hF; intro a hF
        refine op_val (v := .bool ((p105.1 == 0) && (p105.2.1 == 0))) rfl rfl hF rfl (run_eqlA (hF.ev rfl) (hF.ev rfl) rfl eg24 eq24) ?_; clear hF; intro a hF
        refine op_val (v := .bool ((p105.1 == 0) && (p105.2.1 == 0))) rfl rfl hF rfl (run_move rfl (hF.ev rfl)) ?_; clear hF; intro a hF
        obtain ⟨p111, h111, hM⟩ := bind_ex hM
        refine op_gcall (v := .bool p111) rfl rfl hF rfl S (yt (gw_yield hF rfl rfl rfl)) (fun hg => (run_call (vs := []) rfl rfl co11 trivial)) (fun hg => c_laws_alive   (gb_t h111 hg)) ?_; clear hF S; intro a u hF S
        refine op_val (v := .bool (((p105.1 == 0) && (p105.2.1 == 0)) && p111)) rfl rfl hF rfl (run_pick_and rfl (hF.ev rfl) (fun hp => ((hF.ev rfl).trans (gv_t hp))) rfl) ?_; clear hF; intro a hF
        refine op_val (v := .bool (((p105.1 == 0) && (p105.2.1 == 0)) && p111)) rfl rfl hF rfl (run_assign rfl (hF.ev rfl)) ?_; clear hF; intro a hF
        refine wpList_nil ?_
        refine wp_ret ?_
        repeat with_reducible (first | refine then_ret ?_ | refine in_ret ?_ | refine in_nrm ?_)
        refine ret1_gw (.inl rfl) hF rfl (res_tmp (hF.ev rfl)) ?_
        obtain rfl := Option.some.inj hM
        exact ⟨rfl, S.sel [] rfl rfl⟩
      · replace hM := bif_t hc110 hM
        refine cond_f hF rfl (not_f hc110) ?_
        refine wp_skip ?_
        refine wp_seq ?_
        refine wp_region_lit ?_
        refine op_val (v := .agg #[.int .i64 p102.2.2.1, .int .i64 p102.2.2.2.1]) rfl rfl hF rfl (run_loadN rfl ag24 (hF.ev rfl) rfl ((S.free 2 rfl).cells 0 #[.int .i64 p102.2.2.1, .int .i64 p102.2.2.2.1] rfl)) ?_; clear hF; intro a hF
        refine op_val (v := .agg #[.int .i64 p102.1, .int .i64 p102.2.1]) rfl rfl hF rfl (run_loadN rfl ag24 (hF.ev rfl) rfl ((S.free 3 rfl).cells 0 #[.int .i64 p102.1, .int .i64 p102.2.1] rfl)) ?_; clear hF; intro a hF
        refine op_val (v := .int .i64 p102.2.2.2.2) rfl rfl hF rfl (run_move rfl (hF.ev rfl)) ?_; clear hF; intro a hF
        obtain ⟨p112, h112, hM⟩ := bind_ex hM
        refine op_call rfl rfl hF rfl (run_call (vs := [.agg #[.int .i64 p102.2.2.1, .int .i64 p102.2.2.2.1], .agg #[.int .i64 p102.1, .int .i64 p102.2.1], .int .i64 p102.2.2.2.2]) rfl rfl co19 ⟨(hF.ev rfl), (hF.ev rfl), (hF.ev rfl), trivial⟩) (c_impl_SyncJoin (x0 := p102.2.2.1) (x1 := p102.2.2.2.1) (x2 := p102.1) (x3 := p102.2.1) (x4 := p102.2.2.2.2)  h112) ?_
        rintro e u ⟨rfl, T⟩
        refine ⟨_, rfl, ?_⟩
        clear hF; intro a hF
        replace S := S.call0 T; clear T
        refine op_val (v := .tuple #[.agg #[.int .i64 p112.1, .int .i64 p112.2.1], .bool p112.2.2]) rfl rfl hF rfl (run_move rfl (hF.ev rfl)) ?_; clear hF; intro a hF
        refine op_val (v := .agg #[.int .i64 p112.1, .int .i64 p112.2.1]) rfl rfl hF rfl (run_extract rfl (hF.ev rfl) rfl) ?_; clear hF; intro a hF
        refine op_val (v := .bool p112.2.2) rfl rfl hF rfl (run_extract rfl (hF.ev rfl) rfl) ?_; clear hF; intro a hF
        refine op_new (cs := #[.int .i64 0, .int .i64 0]) rfl rfl hF rfl S (run_allocZ rfl zr24) ?_; clear hF S; intro a g113 u hF S
        refine op_do rfl rfl (run_store (cs' := #[.int .i64 p112.1, .int .i64 p112.2.1]) rfl sz24 (hF.ev rfl) (hF.ev rfl) rfl rfl rfl (S.free 0 rfl) rfl rfl) ?_; replace S := S.put 0 rfl (#[.int .i64 p112.1, .int .i64 p112.2.1])
        generalize World.setRow _ _ _ = u at S ⊢
        refine op_val (v := .bool p112.2.2) rfl rfl hF rfl (run_assign rfl (hF.ev rfl)) ?_; clear hF; intro a hF
        refine wpList_nil ?_
        refine wp_seq ?_
        refine wp_region_lit ?_
        refine op_val (v := .pointer (some ⟨g103, 0, none⟩)) rfl rfl hF rfl (run_fieldAddr rfl fl24_0 (hF.ev rfl) rfl) ?_; clear hF; intro a hF
        refine op_val (v := .int .i64 p102.1) rfl rfl hF rfl (run_load1 rfl one3 (hF.ev rfl) ((S.free 4 rfl).cell rfl)) ?_; clear hF; intro a hF
        refine op_val (v := .pointer (some ⟨g104, 0, none⟩)) rfl rfl hF rfl (run_fieldAddr rfl fl24_0 (hF.ev rfl) rfl) ?_; clear hF; intro a hF
        refine op_val (v := .int .i64 p102.2.2.1) rfl rfl hF rfl (run_load1 rfl one3 (hF.ev rfl) ((S.free 3 rfl).cell rfl)) ?_; clear hF; intro a hF
        refine op_val (v := .int .i64 (min p102.1 p102.2.2.1)) rfl rfl hF rfl (run_min rfl (hF.ev rfl) (hF.ev rfl)) ?_; clear hF; intro a hF
        refine op_val (v := .int .i64 (min p102.1 p102.2.2.1)) rfl rfl hF rfl (run_assign rfl (hF.ev rfl)) ?_; clear hF; intro a hF
        refine wpList_nil ?_
        refine wp_seq ?_
        refine wp_region_lit ?_
        refine op_val (v := .pointer (some ⟨g103, 0, none⟩)) rfl rfl hF rfl (run_fieldAddr rfl fl24_0 (hF.ev rfl) rfl) ?_; clear hF; intro a hF
        refine op_val (v := .int .i64 p102.1) rfl rfl hF rfl (run_load1 rfl one3 (hF.ev rfl) ((S.free 4 rfl).cell rfl)) ?_; clear hF; intro a hF
        refine op_val (v := .pointer (some ⟨g104, 0, none⟩)) rfl rfl hF rfl (run_fieldAddr rfl fl24_0 (hF.ev rfl) rfl) ?_; clear hF; intro a hF
        refine op_val (v := .int .i64 p102.2.2.1) rfl rfl hF rfl (run_load1 rfl one3 (hF.ev rfl) ((S.free 3 rfl).cell rfl)) ?_; clear hF; intro a hF
        refine op_val (v := .int .i64 (max p102.1 p102.2.2.1)) rfl rfl hF rfl (run_max rfl (hF.ev rfl) (hF.ev rfl)) ?_; clear hF; intro a hF
        refine op_val (v := .int .i64 (max p102.1 p102.2.2.1)) rfl rfl hF rfl (run_assign rfl (hF.ev rfl)) ?_; clear hF; intro a hF
        refine wpList_nil ?_
        refine wp_seq ?_
        refine wp_region_lit ?_
        refine op_val (v := .pointer (some ⟨g103, 0, none⟩)) rfl rfl hF rfl (run_fieldAddr rfl fl24_0 (hF.ev rfl) rfl) ?_; clear hF; intro a hF
        refine op_val (v := .int .i64 p102.1) rfl rfl hF rfl (run_load1 rfl one3 (hF.ev rfl) ((S.free 4 rfl).cell rfl)) ?_; clear hF; intro a hF
        refine op_val (v := .pointer (some ⟨g103, 1, none⟩)) rfl rfl hF rfl (run_fieldAddr rfl fl24_1 (hF.ev rfl) rfl) ?_; clear hF; intro a hF
        refine op_val (v := .int .i64 p102.2.1) rfl rfl hF rfl (run_load1 rfl one3 (hF.ev rfl) ((S.free 4 rfl).cell rfl)) ?_; clear hF; intro a hF
        refine op_val (v := .int .i64 (w64 (p102.1 * p102.2.1))) rfl rfl hF rfl (run_mul (z := w64 (p102.1 * p102.2.1)) (hF.ev rfl) (hF.ev rfl) rfl rfl) ?_; clear hF; intro a hF
        refine op_val (v := .pointer (some ⟨g104, 0, none⟩)) rfl rfl hF rfl (run_fieldAddr rfl fl24_0 (hF.ev rfl) rfl) ?_; clear hF; intro a hF
        refine op_val (v := .int .i64 p102.2.2.1) rfl rfl hF rfl (run_load1 rfl one3 (hF.ev rfl) ((S.free 3 rfl).cell rfl)) ?_; clear hF; intro a hF
        refine op_val (v := .pointer (some ⟨g104, 1, none⟩)) rfl rfl hF rfl (run_fieldAddr rfl fl24_1 (hF.ev rfl) rfl) ?_; clear hF; intro a hF
        refine op_val (v := .int .i64 p102.2.2.2.1) rfl rfl hF rfl (run_load1 rfl one3 (hF.ev rfl) ((S.free 3 rfl).cell rfl)) ?_; clear hF; intro a hF
        refine op_val (v := .int .i64 (w64 (p102.2.2.1 * p102.2.2.2.1))) rfl rfl hF rfl (run_mul (z := w64 (p102.2.2.1 * p102.2.2.2.1)) (hF.ev rfl) (hF.ev rfl) rfl rfl) ?_; clear hF; intro a hF
        refine op_val (v := .int .i64 (w64 ((w64 (p102.1 * p102.2.1)) + (w64 (p102.2.2.1 * p102.2.2.2.1))))) rfl rfl hF rfl (run_add (z := w64 ((w64 (p102.1 * p102.2.1)) + (w64 (p102.2.2.1 * p102.2.2.2.1)))) (hF.ev rfl) (hF.ev rfl) rfl rfl) ?_; clear hF; intro a hF
        refine op_val (v := .pointer (some ⟨g106, 0, none⟩)) rfl rfl hF rfl (run_fieldAddr rfl fl24_0 (hF.ev rfl) rfl) ?_; clear hF; intro a hF
        refine op_val (v := .int .i64 p105.1) rfl rfl hF rfl (run_load1 rfl one3 (hF.ev rfl) ((S.free 2 rfl).cell rfl)) ?_; clear hF; intro a hF
        refine op_val (v := .pointer (some ⟨g106, 1, none⟩)) rfl rfl hF rfl (run_fieldAddr rfl fl24_1 (hF.ev rfl) rfl) ?_; clear hF; intro a hF
        refine op_val (v := .int .i64 p105.2.1) rfl rfl hF rfl (run_load1 rfl one3 (hF.ev rfl) ((S.free 2 rfl).cell rfl)) ?_; clear hF; intro a hF
        refine op_val (v := .int .i64 (w64 (p105.1 * p105.2.1))) rfl rfl hF rfl (run_mul (z := w64 (p105.1 * p105.2.1)) (hF.ev rfl) (hF.ev rfl) rfl rfl) ?_; clear hF; intro a hF
        refine op_val (v := .int .i64 (w64 ((w64 ((w64 (p102.1 * p102.2.1)) + (w64 (p102.2.2.1 * p102.2.2.2.1)))) - (w64 (p105.1 * p105.2.1))))) rfl rfl hF rfl (run_sub (z := w64 ((w64 ((w64 (p102.1 * p102.2.1)) + (w64 (p102.2.2.1 * p102.2.2.2.1)))) - (w64 (p105.1 * p105.2.1)))) (hF.ev rfl) (hF.ev rfl) rfl rfl) ?_; clear hF; intro a hF
        refine op_val (v := .int .i64 (w64 ((w64 ((w64 (p102.1 * p102.2.1)) + (w64 (p102.2.2.1 * p102.2.2.2.1)))) - (w64 (p105.1 * p105.2.1))))) rfl rfl hF rfl (run_assign rfl (hF.ev rfl)) ?_; clear hF; intro a hF
        refine wpList_nil ?_
        refine wp_seq ?_
        refine wp_region_lit ?_
        refine op_val (v := .bool p112.2.2) rfl rfl hF rfl (run_move rfl (hF.ev rfl)) ?_; clear hF; intro a hF
        refine op_val (v := .bool p112.2.2) rfl rfl hF rfl (run_move rfl (hF.ev rfl)) ?_; clear hF; intro a hF
        refine op_gv (v := .agg #[.int .i64 p112.1, .int .i64 p112.2.1]) rfl rfl hF rfl (yt (gw_yield hF rfl rfl rfl)) (fun hg => (run_loadN rfl ag24 (hF.ev rfl) rfl ((S.free 0 rfl).cells 0 #[.int .i64 p112.1, .int .i64 p112.2.1] rfl))) ?_; clear hF; intro a hF
        refine op_gv (v := .agg #[.int .i64 p105.1, .int .i64 p105.2.1]) rfl rfl hF rfl (yt (gw_yield hF rfl rfl rfl)) (fun hg => (run_loadN rfl ag24 (hF.ev rfl) rfl ((S.free 2 rfl).cells 0 #[.int .i64 p105.1, .int .i64 p105.2.1] rfl))) ?_; clear hF; intro a hF
        refine op_gv (v := .bool ((p112.1 == p105.1) && (p112.2.1 == p105.2.1))) rfl rfl hF rfl (yt (gw_yield hF rfl rfl rfl)) (fun hg => (run_eqlA ((hF.ev rfl).trans (gv_t hg)) ((hF.ev rfl).trans (gv_t hg)) rfl eg24 eq24)) ?_; clear hF; intro a hF
        refine op_val (v := .bool (p112.2.2 && ((p112.1 == p105.1) && (p112.2.1 == p105.2.1)))) rfl rfl hF rfl (run_pick_and rfl (hF.ev rfl) (fun hp => ((hF.ev rfl).trans (gv_t hp))) rfl) ?_; clear hF; intro a hF
        refine op_val (v := .bool (p112.2.2 && ((p112.1 == p105.1) && (p112.2.1 == p105.2.1)))) rfl rfl hF rfl (run_move rfl (hF.ev rfl)) ?_; clear hF; intro a hF
        refine op_gv (v := .pointer (some ⟨g106, 0, none⟩)) rfl rfl hF rfl (yt (gw_yield hF rfl rfl rfl)) (fun hg => (run_fieldAddr rfl fl24_0 (hF.ev rfl) rfl)) ?_; clear hF; intro a hF
        refine op_gv (v := .int .i64 p105.1) rfl rfl hF rfl (yt (gw_yield hF rfl rfl rfl)) (fun hg => (run_load1 rfl one3 ((hF.ev rfl).trans (gv_t hg)) ((S.free 2 rfl).cell rfl))) ?_; clear hF; intro a hF
        refine op_gv (v := .int .i64 (min p102.1 p102.2.2.1)) rfl rfl hF rfl (yt (gw_yield hF rfl rfl rfl)) (fun hg => (run_move rfl (hF.ev rfl))) ?_; clear hF; intro a hF
        refine op_gv (v := .bool (leB (min p102.1 p102.2.2.1) p105.1)) rfl rfl hF rfl (yt (gw_yield hF rfl rfl rfl)) (fun hg => (run_geq ((hF.ev rfl).trans (gv_t hg)) ((hF.ev rfl).trans (gv_t hg)) rfl)) ?_; clear hF; intro a hF
        refine op_val (v := .bool ((p112.2.2 && ((p112.1 == p105.1) && (p112.2.1 == p105.2.1))) && (leB (min p102.1 p102.2.2.1) p105.1))) rfl rfl hF rfl (run_pick_and rfl (hF.ev rfl) (fun hp => ((hF.ev rfl).trans (gv_t hp))) rfl) ?_; clear hF; intro a hF
        refine op_val (v := .bool ((p112.2.2 && ((p112.1 == p105.1) && (p112.2.1 == p105.2.1))) && (leB (min p102.1 p102.2.2.1) p105.1))) rfl rfl hF rfl (run_move rfl (hF.ev rfl)) ?_; clear hF; intro a hF
        refine op_gv (v := .pointer (some ⟨g106, 0, none⟩)) rfl rfl hF rfl (yt (gw_yield hF rfl rfl rfl)) (fun hg => (run_fieldAddr rfl fl24_0 (hF.ev rfl) rfl)) ?_; clear hF; intro a hF
        refine op_gv (v := .int .i64 p105.1) rfl rfl hF rfl (yt (gw_yield hF rfl rfl rfl)) (fun hg => (run_load1 rfl one3 ((hF.ev rfl).trans (gv_t hg)) ((S.free 2 rfl).cell rfl))) ?_; clear hF; intro a hF
        refine op_gv (v := .int .i64 (max p102.1 p102.2.2.1)) rfl rfl hF rfl (yt (gw_yield hF rfl rfl rfl)) (fun hg => (run_move rfl (hF.ev rfl))) ?_; clear hF; intro a hF
        refine op_gv (v := .bool (leB p105.1 (max p102.1 p102.2.2.1))) rfl rfl hF rfl (yt (gw_yield hF rfl rfl rfl)) (fun hg => (run_leq ((hF.ev rfl).trans (gv_t hg)) ((hF.ev rfl).trans (gv_t hg)) rfl)) ?_; clear hF; intro a hF
        refine op_val (v := .bool (((p112.2.2 && ((p112.1 == p105.1) && (p112.2.1 == p105.2.1))) && (leB (min p102.1 p102.2.2.1) p105.1)) && (leB p105.1 (max p102.1 p102.2.2.1)))) rfl rfl hF rfl (run_pick_and rfl (hF.ev rfl) (fun hp => ((hF.ev rfl).trans (gv_t hp))) rfl) ?_; clear hF; intro a hF
        refine op_val (v := .bool (((p112.2.2 && ((p112.1 == p105.1) && (p112.2.1 == p105.2.1))) && (leB (min p102.1 p102.2.2.1) p105.1)) && (leB p105.1 (max p102.1 p102.2.2.1)))) rfl rfl hF rfl (run_move rfl (hF.ev rfl)) ?_; clear hF; intro a hF
        refine op_gv (v := .int .i64 (max p102.1 p102.2.2.1)) rfl rfl hF rfl (yt (gw_yield hF rfl rfl rfl)) (fun hg => (run_move rfl (hF.ev rfl))) ?_; clear hF; intro a hF
        refine op_gv (v := .int .i64 (min p102.1 p102.2.2.1)) rfl rfl hF rfl (yt (gw_yield hF rfl rfl rfl)) (fun hg => (run_move rfl (hF.ev rfl))) ?_; clear hF; intro a hF
        refine op_gv (v := .int .i64 (w64 ((max p102.1 p102.2.2.1) - (min p102.1 p102.2.2.1)))) rfl rfl hF rfl (yt (gw_yield hF rfl rfl rfl)) (fun hg => (run_sub (z := w64 ((max p102.1 p102.2.2.1) - (min p102.1 p102.2.2.1))) ((hF.ev rfl).trans (gv_t hg)) ((hF.ev rfl).trans (gv_t hg)) rfl rfl)) ?_; clear hF; intro a hF
        refine op_gv (v := .int .i64 p102.2.2.2.2) rfl rfl hF rfl (yt (gw_yield hF rfl rfl rfl)) (fun hg => (run_move rfl (hF.ev rfl))) ?_; clear hF; intro a hF
        refine op_gv (v := .bool (leB (w64 ((max p102.1 p102.2.2.1) - (min p102.1 p102.2.2.1))) p102.2.2.2.2)) rfl rfl hF rfl (yt (gw_yield hF rfl rfl rfl)) (fun hg => (run_leq ((hF.ev rfl).trans (gv_t hg)) ((hF.ev rfl).trans (gv_t hg)) rfl)) ?_; clear hF; intro a hF
        refine op_val (v := .bool ((((p112.2.2 && ((p112.1 == p105.1) && (p112.2.1 == p105.2.1))) && (leB (min p102.1 p102.2.2.1) p105.1)) && (leB p105.1 (max p102.1 p102.2.2.1))) && (leB (w64 ((max p102.1 p102.2.2.1) - (min p102.1 p102.2.2.1))) p102.2.2.2.2))) rfl rfl hF rfl (run_pick_and rfl (hF.ev rfl) (fun hp => ((hF.ev rfl).trans (gv_t hp))) rfl) ?_; clear hF; intro a hF
        refine op_val (v := .bool ((((p112.2.2 && ((p112.1 == p105.1) && (p112.2.1 == p105.2.1))) && (leB (min p102.1 p102.2.2.1) p105.1)) && (leB p105.1 (max p102.1 p102.2.2.1))) && (leB (w64 ((max p102.1 p102.2.2.1) - (min p102.1 p102.2.2.1))) p102.2.2.2.2))) rfl rfl hF rfl (run_move rfl (hF.ev rfl)) ?_; clear hF; intro a hF
        refine op_gv (v := .pointer (some ⟨g106, 1, none⟩)) rfl rfl hF rfl (yt (gw_yield hF rfl rfl rfl)) (fun hg => (run_fieldAddr rfl fl24_1 (hF.ev rfl) rfl)) ?_; clear hF; intro a hF
        refine op_gv (v := .int .i64 p105.2.1) rfl rfl hF rfl (yt (gw_yield hF rfl rfl rfl)) (fun hg => (run_load1 rfl one3 ((hF.ev rfl).trans (gv_t hg)) ((S.free 2 rfl).cell rfl))) ?_; clear hF; intro a hF
        refine op_gv (v := .pointer (some ⟨g103, 1, none⟩)) rfl rfl hF rfl (yt (gw_yield hF rfl rfl rfl)) (fun hg => (run_fieldAddr rfl fl24_1 (hF.ev rfl) rfl)) ?_; clear hF; intro a hF
        refine op_gv (v := .int .i64 p102.2.1) rfl rfl hF rfl (yt (gw_yield hF rfl rfl rfl)) (fun hg => (run_load1 rfl one3 ((hF.ev rfl).trans (gv_t hg)) ((S.free 4 rfl).cell rfl))) ?_; clear hF; intro a hF
        refine op_gv (v := .pointer (some ⟨g104, 1, none⟩)) rfl rfl hF rfl (yt (gw_yield hF rfl rfl rfl)) (fun hg => (run_fieldAddr rfl fl24_1 (hF.ev rfl) rfl)) ?_; clear hF; intro a hF
        refine op_gv (v := .int .i64 p102.2.2.2.1) rfl rfl hF rfl (yt (gw_yield hF rfl rfl rfl)) (fun hg => (run_load1 rfl one3 ((hF.ev rfl).trans (gv_t hg)) ((S.free 3 rfl).cell rfl))) ?_; clear hF; intro a hF
        refine op_gv (v := .int .i64 (w64 (p102.2.1 + p102.2.2.2.1))) rfl rfl hF rfl (yt (gw_yield hF rfl rfl rfl)) (fun hg => (run_add (z := w64 (p102.2.1 + p102.2.2.2.1)) ((hF.ev rfl).trans (gv_t hg)) ((hF.ev rfl).trans (gv_t hg)) rfl rfl)) ?_; clear hF; intro a hF
        refine op_gv (v := .bool (p105.2.1 == (w64 (p102.2.1 + p102.2.2.2.1)))) rfl rfl hF rfl (yt (gw_yield hF rfl rfl rfl)) (fun hg => (run_eql ((hF.ev rfl).trans (gv_t hg)) ((hF.ev rfl).trans (gv_t hg)) rfl)) ?_; clear hF; intro a hF
        refine op_val (v := .bool (((((p112.2.2 && ((p112.1 == p105.1) && (p112.2.1 == p105.2.1))) && (leB (min p102.1 p102.2.2.1) p105.1)) && (leB p105.1 (max p102.1 p102.2.2.1))) && (leB (w64 ((max p102.1 p102.2.2.1) - (min p102.1 p102.2.2.1))) p102.2.2.2.2)) && (p105.2.1 == (w64 (p102.2.1 + p102.2.2.2.1))))) rfl rfl hF rfl (run_pick_and rfl (hF.ev rfl) (fun hp => ((hF.ev rfl).trans (gv_t hp))) rfl) ?_; clear hF; intro a hF
        refine op_val (v := .bool (((((p112.2.2 && ((p112.1 == p105.1) && (p112.2.1 == p105.2.1))) && (leB (min p102.1 p102.2.2.1) p105.1)) && (leB p105.1 (max p102.1 p102.2.2.1))) && (leB (w64 ((max p102.1 p102.2.2.1) - (min p102.1 p102.2.2.1))) p102.2.2.2.2)) && (p105.2.1 == (w64 (p102.2.1 + p102.2.2.2.1))))) rfl rfl hF rfl (run_move rfl (hF.ev rfl)) ?_; clear hF; intro a hF
        refine op_gv (v := .int .i64 (w64 ((w64 ((w64 (p102.1 * p102.2.1)) + (w64 (p102.2.2.1 * p102.2.2.2.1)))) - (w64 (p105.1 * p105.2.1))))) rfl rfl hF rfl (yt (gw_yield hF rfl rfl rfl)) (fun hg => (run_move rfl (hF.ev rfl))) ?_; clear hF; intro a hF
        refine op_gv (v := .bool (leB 0 (w64 ((w64 ((w64 (p102.1 * p102.2.1)) + (w64 (p102.2.2.1 * p102.2.2.2.1)))) - (w64 (p105.1 * p105.2.1)))))) rfl rfl hF rfl (yt (gw_yield hF rfl rfl rfl)) (fun hg => (run_geq ((hF.ev rfl).trans (gv_t hg)) rfl rfl)) ?_; clear hF; intro a hF
        refine op_val (v := .bool ((((((p112.2.2 && ((p112.1 == p105.1) && (p112.2.1 == p105.2.1))) && (leB (min p102.1 p102.2.2.1) p105.1)) && (leB p105.1 (max p102.1 p102.2.2.1))) && (leB (w64 ((max p102.1 p102.2.2.1) - (min p102.1 p102.2.2.1))) p102.2.2.2.2)) && (p105.2.1 == (w64 (p102.2.1 + p102.2.2.2.1)))) && (leB 0 (w64 ((w64 ((w64 (p102.1 * p102.2.1)) + (w64 (p102.2.2.1 * p102.2.2.2.1)))) - (w64 (p105.1 * p105.2.1))))))) rfl rfl hF rfl (run_pick_and rfl (hF.ev rfl) (fun hp => ((hF.ev rfl).trans (gv_t hp))) rfl) ?_; clear hF; intro a hF
        refine op_val (v := .bool ((((((p112.2.2 && ((p112.1 == p105.1) && (p112.2.1 == p105.2.1))) && (leB (min p102.1 p102.2.2.1) p105.1)) && (leB p105.1 (max p102.1 p102.2.2.1))) && (leB (w64 ((max p102.1 p102.2.2.1) - (min p102.1 p102.2.2.1))) p102.2.2.2.2)) && (p105.2.1 == (w64 (p102.2.1 + p102.2.2.2.1)))) && (leB 0 (w64 ((w64 ((w64 (p102.1 * p102.2.1)) + (w64 (p102.2.2.1 * p102.2.2.2.1)))) - (w64 (p105.1 * p105.2.1))))))) rfl rfl hF rfl (run_move rfl (hF.ev rfl)) ?_; clear hF; intro a hF
        refine op_gv (v := .int .i64 (w64 ((w64 ((w64 (p102.1 * p102.2.1)) + (w64 (p102.2.2.1 * p102.2.2.2.1)))) - (w64 (p105.1 * p105.2.1))))) rfl rfl hF rfl (yt (gw_yield hF rfl rfl rfl)) (fun hg => (run_move rfl (hF.ev rfl))) ?_; clear hF; intro a hF
        refine op_gv (v := .pointer (some ⟨g106, 1, none⟩)) rfl rfl hF rfl (yt (gw_yield hF rfl rfl rfl)) (fun hg => (run_fieldAddr rfl fl24_1 (hF.ev rfl) rfl)) ?_; clear hF; intro a hF
        refine op_gv (v := .int .i64 p105.2.1) rfl rfl hF rfl (yt (gw_yield hF rfl rfl rfl)) (fun hg => (run_load1 rfl one3 ((hF.ev rfl).trans (gv_t hg)) ((S.free 2 rfl).cell rfl))) ?_; clear hF; intro a hF
        refine op_gv (v := .bool (ltB (w64 ((w64 ((w64 (p102.1 * p102.2.1)) + (w64 (p102.2.2.1 * p102.2.2.2.1)))) - (w64 (p105.1 * p105.2.1)))) p105.2.1)) rfl rfl hF rfl (yt (gw_yield hF rfl rfl rfl)) (fun hg => (run_lss ((hF.ev rfl).trans (gv_t hg)) ((hF.ev rfl).trans (gv_t hg)) rfl)) ?_; clear hF; intro a hF
        refine op_val (v := .bool (((((((p112.2.2 && ((p112.1 == p105.1) && (p112.2.1 == p105.2.1))) && (leB (min p102.1 p102.2.2.1) p105.1)) && (leB p105.1 (max p102.1 p102.2.2.1))) && (leB (w64 ((max p102.1 p102.2.2.1) - (min p102.1 p102.2.2.1))) p102.2.2.2.2)) && (p105.2.1 == (w64 (p102.2.1 + p102.2.2.2.1)))) && (leB 0 (w64 ((w64 ((w64 (p102.1 * p102.2.1)) + (w64 (p102.2.2.1 * p102.2.2.2.1)))) - (w64 (p105.1 * p105.2.1)))))) && (ltB (w64 ((w64 ((w64 (p102.1 * p102.2.1)) + (w64 (p102.2.2.1 * p102.2.2.2.1)))) - (w64 (p105.1 * p105.2.1)))) p105.2.1))) rfl rfl hF rfl (run_pick_and rfl (hF.ev rfl) (fun hp => ((hF.ev rfl).trans (gv_t hp))) rfl) ?_; clear hF; intro a hF
        refine op_val (v := .bool (((((((p112.2.2 && ((p112.1 == p105.1) && (p112.2.1 == p105.2.1))) && (leB (min p102.1 p102.2.2.1) p105.1)) && (leB p105.1 (max p102.1 p102.2.2.1))) && (leB (w64 ((max p102.1 p102.2.2.1) - (min p102.1 p102.2.2.1))) p102.2.2.2.2)) && (p105.2.1 == (w64 (p102.2.1 + p102.2.2.2.1)))) && (leB 0 (w64 ((w64 ((w64 (p102.1 * p102.2.1)) + (w64 (p102.2.2.1 * p102.2.2.2.1)))) - (w64 (p105.1 * p105.2.1)))))) && (ltB (w64 ((w64 ((w64 (p102.1 * p102.2.1)) + (w64 (p102.2.2.1 * p102.2.2.2.1)))) - (w64 (p105.1 * p105.2.1)))) p105.2.1))) rfl rfl hF rfl (run_assign rfl (hF.ev rfl)) ?_; clear hF; intro a hF
        refine wpList_nil ?_
        refine wp_ret ?_
        repeat with_reducible (first | refine then_ret ?_ | refine in_ret ?_ | refine in_nrm ?_)
        refine ret1_gw (.inl rfl) hF rfl (res_tmp (hF.ev rfl)) ?_
        obtain rfl := Option.some.inj hM
        exact ⟨rfl, S.sel [] rfl rfl⟩
    · replace hM := bif_t hc109 hM
      refine cond_t hF rfl hc109 ?_
      refine wp_seq ?_
      refine wp_region_lit ?_
      refine op_val (v := .bool false) rfl rfl hF rfl (run_assign rfl rfl) ?_; clear hF; intro a hF
      refine wpList_nil ?_
      refine wp_ret ?_
      repeat with_reducible (first | refine then_ret ?_ | refine in_ret ?_ | refine in_nrm ?_)
      refine ret1_gw (.inl rfl) hF rfl (res_tmp (hF.ev rfl)) ?_
      obtain rfl := Option.some.inj hM
      exact ⟨rfl, S.sel [] rfl rfl⟩
  · replace hM := bif_t hc101 hM
    refine cond_t hF rfl hc101 ?_
    refine wp_seq ?_
    refine wp_region_lit ?_
    refine op_val (v := .bool true) rfl rfl hF rfl (run_assign rfl rfl) ?_; clear hF; intro a hF
    refine wpList_nil ?_
    refine wp_ret ?_
    repeat with_reducible (first | refine then_ret ?_ | refine in_ret ?_ | refine in_nrm ?_)
    refine ret1_gw (.inl rfl) hF rfl (res_tmp (hF.ev rfl)) ?_
    obtain rfl := Option.some.inj hM
    exact ⟨rfl, S.sel [] rfl rfl⟩

set_option maxHeartbeats 4000000 in
theorem c_spec_DrawSyncTicks {x0 : List Int} {A0 : Option Addr} {n0 c0 : Nat} {w : World} {r : Int × Int × Int × Int × Int × Int} (h0 : Rt w 1 eU A0 n0 c0 x0) (hM : m_spec_DrawSyncTicks x0 = some r) :
    Calls Tryd.prog 21 #[.slice A0 n0 c0] w (fun e w' => e = .returned (.tuple #[.agg #[.int .i64 r.1, .int .i64 r.2.1], .agg #[.int .i64 r.2.2.1, .int .i64 r.2.2.2.1], .int .i64 r.2.2.2.2.1, .int .i64 r.2.2.2.2.2]) ∧ St w w' []) := by
  obtain rfl := h0.len
  unfold m_spec_DrawSyncTicks at hM
  refine calls_gw Tryd.func21 Tryd.ntmps21 rfl [(0, .slice A0 x0.length c0)] ⟨rfl, trivial⟩ rfl ?_
  intro a hF
  have S := St.nil w
  refine wp_seq ?_
  refine wp_region_lit ?_
  refine op_new (cs := #[.int .i64 0, .int .i64 0]) rfl rfl hF rfl S (run_allocZ rfl zr24) ?_; clear hF S; intro a g101 u hF S
  refine op_new (cs := #[.int .i64 0, .int .i64 0]) rfl rfl hF rfl S (run_allocZ rfl zr24) ?_; clear hF S; intro a g102 u hF S
  refine op_val (v := .int .i64 0) rfl rfl hF rfl (run_assign rfl rfl) ?_; clear hF; intro a hF
  refine op_val (v := .int .i64 0) rfl rfl hF rfl (run_assign rfl rfl) ?_; clear hF; intro a hF
  refine wpList_nil ?_
  refine wp_seq ?_
  refine wp_region_lit ?_
  refine op_val (v := .slice A0 x0.length c0) rfl rfl hF rfl (run_move rfl (hF.ev rfl)) ?_; clear hF; intro a hF
  refine op_call rfl rfl hF rfl (run_call (vs := [.slice A0 x0.length c0]) rfl rfl co25 ⟨(hF.ev rfl), trivial⟩) (c_spec_l20Open ⟨(S.rc0 h0.rc), rfl⟩) ?_
  rintro e u ⟨g103, rfl, T⟩
  refine ⟨_, rfl, ?_⟩
  clear hF; intro a hF
  replace S := S.call1 T; clear T
  refine op_val (v := .pointer (some ⟨g103, 0, none⟩)) rfl rfl hF rfl (run_assign rfl (hF.ev rfl)) ?_; clear hF; intro a hF
  refine wpList_nil ?_
  refine wp_seq ?_
  refine wp_region_lit ?_
  refine op_val (v := .pointer (some ⟨g103, 0, none⟩)) rfl rfl hF rfl (run_move rfl (hF.ev rfl)) ?_; clear hF; intro a hF
  obtain ⟨p104, h104, hM⟩ := bind_ex hM
  refine op_call rfl rfl hF rfl (run_call (vs := [.pointer (some ⟨g103, 0, none⟩)]) rfl rfl co30 ⟨(hF.ev rfl), trivial⟩) (c_spec_l20Turnings (x0 := x0.take 2000) (x1 := 0) ⟨(op_rc h0.rc rfl), rfl⟩ (show St w _ [.box g103 57 #[.slice (opA c0 x0.length A0) ((x0.take 2000).length) c0, .int .i64 0], .box g102 24 #[.int .i64 0, .int .i64 0], .box g101 24 #[.int .i64 0, .int .i64 0]] from S.sel [0, 1, 2] rfl rfl) h104) ?_
  rintro e u ⟨rfl, T⟩
  refine ⟨_, rfl, ?_⟩
  clear hF; intro a hF
  clear S; have S := T; clear T
  refine op_val (v := .tuple #[.agg #[.int .i64 p104.1, .int .i64 p104.2.1], .agg #[.int .i64 p104.2.2.1, .int .i64 p104.2.2.2.1], .int .i64 p104.2.2.2.2.1]) rfl rfl hF rfl (run_move rfl (hF.ev rfl)) ?_; clear hF; intro a hF
  refine op_val (v := .agg #[.int .i64 p104.1, .int .i64 p104.2.1]) rfl rfl hF rfl (run_extract rfl (hF.ev rfl) rfl) ?_; clear hF; intro a hF
  refine op_val (v := .agg #[.int .i64 p104.2.2.1, .int .i64 p104.2.2.2.1]) rfl rfl hF rfl (run_extract rfl (hF.ev rfl) rfl) ?_; clear hF; intro a hF
  refine op_val (v := .int .i64 p104.2.2.2.2.1) rfl rfl hF rfl (run_extract rfl (hF.ev rfl) rfl) ?_; clear hF; intro a hF
  refine op_new (cs := #[.int .i64 0, .int .i64 0]) rfl rfl hF rfl S (run_allocZ rfl zr24) ?_; clear hF S; intro a g105 u hF S
  refine op_new (cs := #[.int .i64 0, .int .i64 0]) rfl rfl hF rfl S (run_allocZ rfl zr24) ?_; clear hF S; intro a g106 u hF S
  refine op_do rfl rfl (run_store (cs' := #[.int .i64 p104.1, .int .i64 p104.2.1]) rfl sz24 (hF.ev rfl) (hF.ev rfl) rfl rfl rfl (S.free 1 rfl) rfl rfl) ?_; replace S := S.put 1 rfl (#[.int .i64 p104.1, .int .i64 p104.2.1])
  generalize World.setRow _ _ _ = u at S ⊢
  refine op_do rfl rfl (run_store (cs' := #[.int .i64 p104.2.2.1, .int .i64 p104.2.2.2.1]) rfl sz24 (hF.ev rfl) (hF.ev rfl) rfl rfl rfl (S.free 0 rfl) rfl rfl) ?_; replace S := S.put 0 rfl (#[.int .i64 p104.2.2.1, .int .i64 p104.2.2.2.1])
  generalize World.setRow _ _ _ = u at S ⊢
  refine op_val (v := .int .i64 p104.2.2.2.2.1) rfl rfl hF rfl (run_assign rfl (hF.ev rfl)) ?_; clear hF; intro a hF
  refine wpList_nil ?_
  refine wp_seq ?_
  obtain ⟨p107, h107, hM⟩ := bind_ex hM
  refine region_gw (D := [18, 19, 20, 21, 22, 4, 5]) (Lr := [.box g106 24 #[.int .i64 p104.2.2.1, .int .i64 p104.2.2.2.1], .box g105 24 #[.int .i64 p104.1, .int .i64 p104.2.1]]) (deps := (fun | 0 => [18] | 1 => [19] | 2 => [20] | 3 => [21] | 4 => [22] | 5 => [2] | 6 => [3] | 7 => [4] | 8 => [5] | _ => [])) (rd := (fun _ => [])) (zr := (fun _ => []))
    (φ := fun i vs => match i, vs with | 0, [v18] => v18 = .agg #[.int .i64 p104.1, .int .i64 p104.2.1] | 1, [v19] => v19 = .agg #[.int .i64 p104.2.2.1, .int .i64 p104.2.2.2.1] | 2, [v20] => v20 = .pointer (some ⟨g103, 0, none⟩) | 3, [v21] => v21 = .int .i64 p107.1 | 4, [v22] => v22 = .int .i64 p104.2.2.2.2.1 | 7, [v4] => v4 = .int .i64 p107.1 | 8, [v5] => v5 = .int .i64 p104.2.2.2.2.1 | _, _ => True)
    (C := fun i vs => match i, vs with | 3, [v21] => [.box g103 57 #[.slice (opA c0 x0.length A0) ((x0.take 2000).length) c0, .int .i64 p107.2]] | 5, [v2] => [.box g101 24 #[.int .i64 p104.1, .int .i64 p104.2.1]] | 6, [v3] => [.box g102 24 #[.int .i64 p104.2.2.1, .int .i64 p104.2.2.2.1]] | _, _ => [])
    (κ := (fun _ => none)) (Z := (fun | 3 => [.box g103 57 #[.slice (opA c0 x0.length A0) ((x0.take 2000).length) c0, .int .i64 p104.2.2.2.2.2]] | 5 => [.box g101 24 #[.int .i64 0, .int .i64 0]] | 6 => [.box g102 24 #[.int .i64 0, .int .i64 0]] | _ => [])) mixed hF (by kernel_rfl) (show St w _ [.box g103 57 #[.slice (opA c0 x0.length A0) ((x0.take 2000).length) c0, .int .i64 p104.2.2.2.2.2], .box g101 24 #[.int .i64 0, .int .i64 0], .box g102 24 #[.int .i64 0, .int .i64 0], .box g106 24 #[.int .i64 p104.2.2.1, .int .i64 p104.2.2.2.1], .box g105 24 #[.int .i64 p104.1, .int .i64 p104.2.1]] from S.sel [2, 4, 3, 0, 1] rfl rfl) ?_ ?_
  · refine ⟨?_, ?_, ?_, ?_, ?_, ?_, ?_, ?_, ?_, trivial⟩
    · intro a u X hB hu hp hr hz hl S
      replace S : St w u ([] ++ X) := S
      exact .inl ⟨rfl, .agg #[.int .i64 p104.1, .int .i64 p104.2.1], u, (run_loadN rfl ag24 (hF.evB hB rfl rfl) rfl ((gr_box S hl 1 rfl).cells 0 #[.int .i64 p104.1, .int .i64 p104.2.1] rfl)), rfl, S⟩
    · intro a u X hB hu hp hr hz hl S
      replace S : St w u ([] ++ X) := S
      exact .inl ⟨rfl, .agg #[.int .i64 p104.2.2.1, .int .i64 p104.2.2.2.1], u, (run_loadN rfl ag24 (hF.evB hB rfl rfl) rfl ((gr_box S hl 0 rfl).cells 0 #[.int .i64 p104.2.2.1, .int .i64 p104.2.2.2.1] rfl)), rfl, S⟩
    · intro a u X hB hu hp hr hz hl S
      replace S : St w u ([] ++ X) := S
      exact .inl ⟨rfl, .pointer (some ⟨g103, 0, none⟩), u, (run_move rfl (hF.evB hB rfl rfl)), rfl, S⟩
    · intro a u X hB hu hp hr hz hl S
      replace S : St w u ([.box g103 57 #[.slice (opA c0 x0.length A0) ((x0.take 2000).length) c0, .int .i64 p104.2.2.2.2.2]] ++ X) := S
      have e20 : sl a 20 = .pointer (some ⟨g103, 0, none⟩) := hp 2 rfl
      refine .inr (.inr (.inl ⟨rfl, _, _, (run_call (vs := [.pointer (some ⟨g103, 0, none⟩), .int .i64 12]) rfl rfl co32 ⟨(ev_sl e20), (ev_const _ _), trivial⟩), ?_⟩))
      refine Calls.mono (c_spec_l20Rd_pick (x0 := x0.take 2000) (x1 := p104.2.2.2.2.2) (x2 := 12) ⟨(op_rc h0.rc rfl), rfl⟩ S h107) ?_
      rintro e w1 ⟨rfl, T⟩
      exact ⟨_, rfl, rfl, T⟩
    · intro a u X hB hu hp hr hz hl S
      replace S : St w u ([] ++ X) := S
      exact .inl ⟨rfl, .int .i64 p104.2.2.2.2.1, u, (run_move rfl (hF.evB hB rfl rfl)), rfl, S⟩
    · intro a u X hB hu hp hr hz hl S
      replace S : St w u ([.box g101 24 #[.int .i64 0, .int .i64 0]] ++ X) := S
      have e18 : sl a 18 = .agg #[.int .i64 p104.1, .int .i64 p104.2.1] := hp 0 rfl
      exact .inr (.inl ⟨rfl, _, run_store (cs' := #[.int .i64 p104.1, .int .i64 p104.2.1]) rfl sz24 (hF.evB hB rfl rfl) (ev_sl e18) rfl rfl rfl (S.free 0 rfl) rfl rfl, trivial, S.put 0 rfl (#[.int .i64 p104.1, .int .i64 p104.2.1])⟩)
    · intro a u X hB hu hp hr hz hl S
      replace S : St w u ([.box g102 24 #[.int .i64 0, .int .i64 0]] ++ X) := S
      have e19 : sl a 19 = .agg #[.int .i64 p104.2.2.1, .int .i64 p104.2.2.2.1] := hp 1 rfl
      exact .inr (.inl ⟨rfl, _, run_store (cs' := #[.int .i64 p104.2.2.1, .int .i64 p104.2.2.2.1]) rfl sz24 (hF.evB hB rfl rfl) (ev_sl e19) rfl rfl rfl (S.free 0 rfl) rfl rfl, trivial, S.put 0 rfl (#[.int .i64 p104.2.2.1, .int .i64 p104.2.2.2.1])⟩)
    · intro a u X hB hu hp hr hz hl S
      replace S : St w u ([] ++ X) := S
      have e21 : sl a 21 = .int .i64 p107.1 := hp 3 rfl
      exact .inl ⟨rfl, .int .i64 p107.1, u, (run_assign rfl (ev_sl e21)), rfl, S⟩
    · intro a u X hB hu hp hr hz hl S
      replace S : St w u ([] ++ X) := S
      have e22 : sl a 22 = .int .i64 p104.2.2.2.2.1 := hp 4 rfl
      exact .inl ⟨rfl, .int .i64 p104.2.2.2.2.1, u, (run_assign rfl (ev_sl e22)), rfl, S⟩
  · intro a u hB hp S
    obtain ⟨q0, q1, q2, q3, q4, q5, q6, q7, q8, _⟩ := hp
    have e18 : sl a 18 = .agg #[.int .i64 p104.1, .int .i64 p104.2.1] := q0
    have e19 : sl a 19 = .agg #[.int .i64 p104.2.2.1, .int .i64 p104.2.2.2.1] := q1
    have e20 : sl a 20 = .pointer (some ⟨g103, 0, none⟩) := q2
    have e21 : sl a 21 = .int .i64 p107.1 := q3
    have e22 : sl a 22 = .int .i64 p104.2.2.2.2.1 := q4
    have e4 : sl a 4 = .int .i64 p107.1 := q7
    have e5 : sl a 5 = .int .i64 p104.2.2.2.2.1 := q8
    replace S : St w u [.box g103 57 #[.slice (opA c0 x0.length A0) ((x0.take 2000).length) c0, .int .i64 p107.2], .box g101 24 #[.int .i64 p104.1, .int .i64 p104.2.1], .box g102 24 #[.int .i64 p104.2.2.1, .int .i64 p104.2.2.2.1], .box g106 24 #[.int .i64 p104.2.2.1, .int .i64 p104.2.2.2.1], .box g105 24 #[.int .i64 p104.1, .int .i64 p104.2.1]] := S
    clear q0 q1 q2 q3 q4 q5 q6 q7 q8
    have hF := hF.region hB [(18, .agg #[.int .i64 p104.1, .int .i64 p104.2.1]), (19, .agg #[.int .i64 p104.2.2.1, .int .i64 p104.2.2.2.1]), (20, .pointer (some ⟨g103, 0, none⟩)), (21, .int .i64 p107.1), (22, .int .i64 p104.2.2.2.2.1), (4, .int .i64 p107.1), (5, .int .i64 p104.2.2.2.2.1)] (allSl_mem ⟨e18, e19, e20, e21, e22, e4, e5, trivial⟩) rfl
    clear hB e18 e19 e20 e21 e22 e4 e5
    refine wp_ret ?_
    repeat with_reducible (first | refine then_ret ?_ | refine in_ret ?_ | refine in_nrm ?_)
    refine ret4_gw (.inl rfl) hF rfl (res_cell (hF.ev rfl) (res_loadN ag24 rfl (S.cells 1 rfl 0 #[.int .i64 p104.1, .int .i64 p104.2.1] rfl))) (res_cell (hF.ev rfl) (res_loadN ag24 rfl (S.cells 2 rfl 0 #[.int .i64 p104.2.2.1, .int .i64 p104.2.2.2.1] rfl))) (res_tmp (hF.ev rfl)) (res_tmp (hF.ev rfl)) ?_
    obtain rfl := Option.some.inj hM
    exact ⟨rfl, S.sel [] rfl rfl⟩

set_option maxHeartbeats 4000000 in
theorem c_impl_SyncTicks {x0 : Int} {x1 : Int} {x2 : Int} {x3 : Int} {x4 : Int} {x5 : Int} {w : World} {r : Int}  (hM : m_impl_SyncTicks x0 x1 x2 x3 x4 x5 = some r) :
    Calls Tryd.prog 22 #[.agg #[.int .i64 x0, .int .i64 x1], .agg #[.int .i64 x2, .int .i64 x3], .int .i64 x4, .int .i64 x5] w (fun e w' => e = .returned (.int .i64 r) ∧ St w w' []) := by
  unfold m_impl_SyncTicks at hM
  refine calls_gw Tryd.func22 Tryd.ntmps22 rfl [(0, .agg #[.int .i64 x0, .int .i64 x1]), (1, .agg #[.int .i64 x2, .int .i64 x3]), (2, .int .i64 x4), (3, .int .i64 x5)] ⟨rfl, rfl, rfl, rfl, trivial⟩ rfl ?_
  intro a hF
  have S := St.nil w
  refine wp_seq ?_
  refine wp_region_lit ?_
  refine op_new (cs := #[.int .i64 x0, .int .i64 x1]) rfl rfl hF rfl S (run_box rfl (hF.ev rfl) rfl) ?_; clear hF S; intro a g101 u hF S
  refine op_new (cs := #[.int .i64 x2, .int .i64 x3]) rfl rfl hF rfl S (run_box rfl (hF.ev rfl) rfl) ?_; clear hF S; intro a g102 u hF S
  refine op_val (v := .int .i64 0) rfl rfl hF rfl (run_assign rfl rfl) ?_; clear hF; intro a hF
  refine wpList_nil ?_
  refine wp_seq ?_
  refine wp_seq ?_
  refine wp_region_lit ?_
  refine op_val (v := .agg #[.int .i64 x0, .int .i64 x1]) rfl rfl hF rfl (run_loadN rfl ag24 (hF.ev rfl) rfl ((S.free 1 rfl).cells 0 #[.int .i64 x0, .int .i64 x1] rfl)) ?_; clear hF; intro a hF
  obtain ⟨p103, h103, hM⟩ := bind_ex hM
  refine op_call rfl rfl hF rfl (run_call (vs := [.agg #[.int .i64 x0, .int .i64 x1]]) rfl rfl co9 ⟨(hF.ev rfl), trivial⟩) (c_impl_TurningValid (x0 := x0) (x1 := x1)  h103) ?_
  rintro e u ⟨rfl, T⟩
  refine ⟨_, rfl, ?_⟩
  clear hF; intro a hF
  replace S := S.call0 T; clear T
  refine op_val (v := .bool (!p103)) rfl rfl hF rfl (run_not rfl (hF.ev rfl)) ?_; clear hF; intro a hF
  refine op_val (v := .bool (!p103)) rfl rfl hF rfl (run_move rfl (hF.ev rfl)) ?_; clear hF; intro a hF
  refine op_gv (v := .agg #[.int .i64 x2, .int .i64 x3]) rfl rfl hF rfl (yf (gw_yield hF rfl rfl rfl)) (fun hg => (run_loadN rfl ag24 (hF.ev rfl) rfl ((S.free 0 rfl).cells 0 #[.int .i64 x2, .int .i64 x3] rfl))) ?_; clear hF; intro a hF
  obtain ⟨p104, h104, hM⟩ := bind_ex hM
  refine op_gcall (v := .bool p104) rfl rfl hF rfl S (yf (gw_yield hF rfl rfl rfl)) (fun hg => (run_call (vs := [.agg #[.int .i64 x2, .int .i64 x3]]) rfl rfl co9 ⟨((hF.ev rfl).trans (gv_t hg)), trivial⟩)) (fun hg => c_impl_TurningValid (x0 := x2) (x1 := x3)  (gb_t h104 hg)) ?_; clear hF S; intro a u hF S
  refine op_gv (v := .bool (!p104)) rfl rfl hF rfl (yf (gw_yield hF rfl rfl rfl)) (fun hg => (run_not rfl ((hF.ev rfl).trans (gv_t hg)))) ?_; clear hF; intro a hF
  refine op_val (v := .bool ((!p103) || (!p104))) rfl rfl hF rfl (run_pick_or rfl (hF.ev rfl) rfl (fun hp => ((hF.ev rfl).trans (gv_t (not_t hp))))) ?_; clear hF; intro a hF
  refine op_val (v := .bool ((!p103) || (!p104))) rfl rfl hF rfl (run_move rfl (hF.ev rfl)) ?_; clear hF; intro a hF
  refine op_gv (v := .int .i64 x4) rfl rfl hF rfl (yf (gw_yield hF rfl rfl rfl)) (fun hg => (run_move rfl (hF.ev rfl))) ?_; clear hF; intro a hF
  refine op_gv (v := .bool (ltB x4 1)) rfl rfl hF rfl (yf (gw_yield hF rfl rfl rfl)) (fun hg => (run_lss ((hF.ev rfl).trans (gv_t hg)) rfl rfl)) ?_; clear hF; intro a hF
  refine op_val (v := .bool (((!p103) || (!p104)) || (ltB x4 1))) rfl rfl hF rfl (run_pick_or rfl (hF.ev rfl) rfl (fun hp => ((hF.ev rfl).trans (gv_t (not_t hp))))) ?_; clear hF; intro a hF
  refine op_val (v := .bool (((!p103) || (!p104)) || (ltB x4 1))) rfl rfl hF rfl (run_move rfl (hF.ev rfl)) ?_; clear hF; intro a hF
  refine op_gv (v := .int .i64 x4) rfl rfl hF rfl (yf (gw_yield hF rfl rfl rfl)) (fun hg => (run_move rfl (hF.ev rfl))) ?_; clear hF; intro a hF
  refine op_gv (v := .bool (ltB 999 x4)) rfl rfl hF rfl (yf (gw_yield hF rfl rfl rfl)) (fun hg => (run_gtr ((hF.ev rfl).trans (gv_t hg)) rfl rfl)) ?_; clear hF; intro a hF
  refine op_val (v := .bool ((((!p103) || (!p104)) || (ltB x4 1)) || (ltB 999 x4))) rfl rfl hF rfl (run_pick_or rfl (hF.ev rfl) rfl (fun hp => ((hF.ev rfl).trans (gv_t (not_t hp))))) ?_; clear hF; intro a hF
  refine op_val (v := .bool ((((!p103) || (!p104)) || (ltB x4 1)) || (ltB 999 x4))) rfl rfl hF rfl (run_move rfl (hF.ev rfl)) ?_; clear hF; intro a hF
  refine op_gv (v := .int .i64 x5) rfl rfl hF rfl (yf (gw_yield hF rfl rfl rfl)) (fun hg => (run_move rfl (hF.ev rfl))) ?_; clear hF; intro a hF
  refine op_gv (v := .bool (ltB x5 0)) rfl rfl hF rfl (yf (gw_yield hF rfl rfl rfl)) (fun hg => (run_lss ((hF.ev rfl).trans (gv_t hg)) rfl rfl)) ?_; clear hF; intro a hF
  refine op_val (v := .bool (((((!p103) || (!p104)) || (ltB x4 1)) || (ltB 999 x4)) || (ltB x5 0))) rfl rfl hF rfl (run_pick_or rfl (hF.ev rfl) rfl (fun hp => ((hF.ev rfl).trans (gv_t (not_t hp))))) ?_; clear hF; intro a hF
  refine op_val (v := .bool (((((!p103) || (!p104)) || (ltB x4 1)) || (ltB 999 x4)) || (ltB x5 0))) rfl rfl hF rfl (run_move rfl (hF.ev rfl)) ?_; clear hF; intro a hF
  refine op_gv (v := .pointer (some ⟨g101, 1, none⟩)) rfl rfl hF rfl (yf (gw_yield hF rfl rfl rfl)) (fun hg => (run_fieldAddr rfl fl24_1 (hF.ev rfl) rfl)) ?_; clear hF; intro a hF
  refine op_gv (v := .int .i64 x1) rfl rfl hF rfl (yf (gw_yield hF rfl rfl rfl)) (fun hg => (run_load1 rfl one3 ((hF.ev rfl).trans (gv_t hg)) ((S.free 1 rfl).cell rfl))) ?_; clear hF; intro a hF
  refine op_gv (v := .pointer (some ⟨g102, 1, none⟩)) rfl rfl hF rfl (yf (gw_yield hF rfl rfl rfl)) (fun hg => (run_fieldAddr rfl fl24_1 (hF.ev rfl) rfl)) ?_; clear hF; intro a hF
  refine op_gv (v := .int .i64 x3) rfl rfl hF rfl (yf (gw_yield hF rfl rfl rfl)) (fun hg => (run_load1 rfl one3 ((hF.ev rfl).trans (gv_t hg)) ((S.free 0 rfl).cell rfl))) ?_; clear hF; intro a hF
  refine op_gv (v := .int .i64 (w64 (x1 + x3))) rfl rfl hF rfl (yf (gw_yield hF rfl rfl rfl)) (fun hg => (run_add (z := w64 (x1 + x3)) ((hF.ev rfl).trans (gv_t hg)) ((hF.ev rfl).trans (gv_t hg)) rfl rfl)) ?_; clear hF; intro a hF
  refine op_gv (v := .bool (ltB 99 (w64 (x1 + x3)))) rfl rfl hF rfl (yf (gw_yield hF rfl rfl rfl)) (fun hg => (run_gtr ((hF.ev rfl).trans (gv_t hg)) rfl rfl)) ?_; clear hF; intro a hF
  refine op_val (v := .bool ((((((!p103) || (!p104)) || (ltB x4 1)) || (ltB 999 x4)) || (ltB x5 0)) || (ltB 99 (w64 (x1 + x3))))) rfl rfl hF rfl (run_pick_or rfl (hF.ev rfl) rfl (fun hp => ((hF.ev rfl).trans (gv_t (not_t hp))))) ?_; clear hF; intro a hF
  refine wpList_nil ?_
  cases hc105 : ((((((!p103) || (!p104)) || (ltB x4 1)) || (ltB 999 x4)) || (ltB x5 0)) || (ltB 99 (w64 (x1 + x3))))
  · replace hM := bif_f hc105 hM
    refine cond_f hF rfl hc105 ?_
    refine wp_skip ?_
    refine wp_seq ?_
    refine wp_region_lit ?_
    refine op_val (v := .int .i64 0) rfl rfl hF rfl (run_assign rfl rfl) ?_; clear hF; intro a hF
    refine wpList_nil ?_
    refine wp_seq ?_
    obtain ⟨o107, hM108, hM⟩ := bind_ex hM
    refine wp_cut (fun a u => ∃ (p106 : Int × Int × Int), p106 = o107 ∧ Fr a 51 [(8, .int .i64 0), (9, .int .i64 p106.1)] ∧ St w u [.box g102 24 #[.int .i64 x2, .int .i64 x3], .box g101 24 #[.int .i64 p106.2.1, .int .i64 p106.2.2]]) ?_ ?_
    · have _ := trivial
      refine wp_block ?_
      refine loop_gw (fun m a u => ∃ (p109 : Int × Int × Int), m_impl_SyncTicks_l1 x2 x3 x4 x5 m p109 = some _ ∧ Fr a 51 [(2, .int .i64 x4), (3, .int .i64 x5), (4, .pointer (some ⟨g101, 0, none⟩)), (5, .pointer (some ⟨g102, 0, none⟩)), (8, .int .i64 0), (9, .int .i64 p109.1)] ∧ St w u [.box g102 24 #[.int .i64 x2, .int .i64 x3], .box g101 24 #[.int .i64 p109.2.1, .int .i64 p109.2.2]]) FUEL ⟨(0, x0, x1), hM108, hF.keep _ ⟨rfl, rfl, rfl, rfl, rfl, rfl, trivial⟩, S.sel [0, 1] rfl rfl⟩ ?_
      clear hF S hM108; rintro m a u ⟨p109, hM108, hF, S⟩
      rcases m with _ | f1
      · exact none_some hM108
      rw [m_impl_SyncTicks_l1.eq_2] at hM108
      refine wp_seq ?_
      refine wp_seq ?_
      refine wp_region_lit ?_
      refine op_val (v := .agg #[.int .i64 p109.2.1, .int .i64 p109.2.2]) rfl rfl hF rfl (run_loadN rfl ag24 (hF.ev rfl) rfl ((S.free 1 rfl).cells 0 #[.int .i64 p109.2.1, .int .i64 p109.2.2] rfl)) ?_; clear hF; intro a hF
      refine op_val (v := .agg #[.int .i64 x2, .int .i64 x3]) rfl rfl hF rfl (run_loadN rfl ag24 (hF.ev rfl) rfl ((S.free 0 rfl).cells 0 #[.int .i64 x2, .int .i64 x3] rfl)) ?_; clear hF; intro a hF
      refine op_val (v := .int .i64 x5) rfl rfl hF rfl (run_move rfl (hF.ev rfl)) ?_; clear hF; intro a hF
      obtain ⟨p110, h110, hM108⟩ := bind_ex hM108
      refine op_call rfl rfl hF rfl (run_call (vs := [.agg #[.int .i64 p109.2.1, .int .i64 p109.2.2], .agg #[.int .i64 x2, .int .i64 x3], .int .i64 x5]) rfl rfl co13 ⟨(hF.ev rfl), (hF.ev rfl), (hF.ev rfl), trivial⟩) (c_impl_SyncMay (x0 := p109.2.1) (x1 := p109.2.2) (x2 := x2) (x3 := x3) (x4 := x5)  h110) ?_
      rintro e u ⟨rfl, T⟩
      refine ⟨_, rfl, ?_⟩
      clear hF; intro a hF
      replace S := S.call0 T; clear T
      refine op_val (v := .bool (!p110)) rfl rfl hF rfl (run_not rfl (hF.ev rfl)) ?_; clear hF; intro a hF
      refine wpList_nil ?_
      cases hc111 : (p110)
      · replace hM108 := bif_f hc111 hM108
        refine cond_t hF rfl (not_t hc111) ?_
        refine wp_skip ?_
        refine wp_seq ?_
        refine wp_block ?_
        refine wp_region_lit ?_
        refine op_val (v := .agg #[.int .i64 p109.2.1, .int .i64 p109.2.2]) rfl rfl hF rfl (run_loadN rfl ag24 (hF.ev rfl) rfl ((S.free 1 rfl).cells 0 #[.int .i64 p109.2.1, .int .i64 p109.2.2] rfl)) ?_; clear hF; intro a hF
        refine op_val (v := .pointer (some ⟨g102, 0, none⟩)) rfl rfl hF rfl (run_fieldAddr rfl fl24_0 (hF.ev rfl) rfl) ?_; clear hF; intro a hF
        refine op_val (v := .int .i64 x2) rfl rfl hF rfl (run_load1 rfl one3 (hF.ev rfl) ((S.free 0 rfl).cell rfl)) ?_; clear hF; intro a hF
        refine op_val (v := .int .i64 x4) rfl rfl hF rfl (run_move rfl (hF.ev rfl)) ?_; clear hF; intro a hF
        obtain ⟨p112, h112, hM108⟩ := bind_ex hM108
        refine op_call rfl rfl hF rfl (run_call (vs := [.agg #[.int .i64 p109.2.1, .int .i64 p109.2.2], .int .i64 x2, .int .i64 x4]) rfl rfl co16 ⟨(hF.ev rfl), (hF.ev rfl), (hF.ev rfl), trivial⟩) (c_impl_SyncTune (x0 := p109.2.1) (x1 := p109.2.2) (x2 := x2) (x3 := x4)  h112) ?_
        rintro e u ⟨rfl, T⟩
        refine ⟨_, rfl, ?_⟩
        clear hF; intro a hF
        replace S := S.call0 T; clear T
        refine op_do rfl rfl (run_store (cs' := #[.int .i64 p112.1, .int .i64 p112.2]) rfl sz24 (hF.ev rfl) (hF.ev rfl) rfl rfl rfl (S.free 1 rfl) rfl rfl) ?_; replace S := S.put 1 rfl (#[.int .i64 p112.1, .int .i64 p112.2])
        generalize World.setRow _ _ _ = u at S ⊢
        refine wpList_nil ?_
        refine wp_region_lit ?_
        refine op_val (v := .int .i64 p109.1) rfl rfl hF rfl (run_move rfl (hF.ev rfl)) ?_; clear hF; intro a hF
        refine op_val (v := .int .i64 (w64 (p109.1 + 1))) rfl rfl hF rfl (run_add (z := w64 (p109.1 + 1)) (hF.ev rfl) rfl rfl rfl) ?_; clear hF; intro a hF
        refine op_val (v := .int .i64 (w64 (p109.1 + 1))) rfl rfl hF rfl (run_assign rfl (hF.ev rfl)) ?_; clear hF; intro a hF
        refine wpList_nil ?_
        exact ⟨f1, Nat.lt_succ_self _, (w64 (p109.1 + 1), p112.1, p112.2), hM108, hF.keep _ ⟨rfl, rfl, rfl, rfl, rfl, rfl, trivial⟩, S.sel [0, 1] rfl rfl⟩
      · replace hM108 := bif_t hc111 hM108
        refine cond_f hF rfl (not_f hc111) ?_
        refine wp_exit ?_
        repeat with_reducible (first | refine then_exit ?_ | refine in_hit ?_ | refine in_miss rfl ?_)
        obtain rfl := Option.some.inj hM108
        exact ⟨(p109.1, p109.2.1, p109.2.2), rfl, hF.keep _ ⟨rfl, rfl, trivial⟩, S.sel [0, 1] rfl rfl⟩
    · rintro a u ⟨p106, rfl, hF, S⟩
      refine wp_seq ?_
      refine wp_region_lit ?_
      refine op_val (v := .int .i64 p106.1) rfl rfl hF rfl (run_move rfl (hF.ev rfl)) ?_; clear hF; intro a hF
      refine op_val (v := .int .i64 p106.1) rfl rfl hF rfl (run_assign rfl (hF.ev rfl)) ?_; clear hF; intro a hF
      refine wpList_nil ?_
      refine wp_ret ?_
      repeat with_reducible (first | refine then_ret ?_ | refine in_ret ?_ | refine in_nrm ?_)
      refine ret1_gw (.inl rfl) hF rfl (res_tmp (hF.ev rfl)) ?_
      obtain rfl := Option.some.inj hM
      exact ⟨rfl, S.sel [] rfl rfl⟩
  · replace hM := bif_t hc105 hM
    refine cond_t hF rfl hc105 ?_
    refine wp_seq ?_
    refine wp_region_lit ?_
    refine op_val (v := .int .i64 (-1)) rfl rfl hF rfl (run_assign rfl rfl) ?_; clear hF; intro a hF
    refine wpList_nil ?_
    refine wp_ret ?_
    repeat with_reducible (first | refine then_ret ?_ | refine in_ret ?_ | refine in_nrm ?_)
    refine ret1_gw (.inl rfl) hF rfl (res_tmp (hF.ev rfl)) ?_
    obtain rfl := Option.some.inj hM
    exact ⟨rfl, S.sel [] rfl rfl⟩

set_option maxHeartbeats 4000000 in
theorem c_spec_SyncTicks {x0 : Int} {x1 : Int} {x2 : Int} {x3 : Int} {x4 : Int} {x5 : Int} {w : World} {r : Int}  (hM : m_spec_SyncTicks x0 x1 x2 x3 x4 x5 = some r) :
    Calls Tryd.prog 23 #[.agg #[.int .i64 x0, .int .i64 x1], .agg #[.int .i64 x2, .int .i64 x3], .int .i64 x4, .int .i64 x5] w (fun e w' => e = .returned (.int .i64 r) ∧ St w w' []) := by
  unfold m_spec_SyncTicks at hM
  refine calls_gw Tryd.func23 Tryd.ntmps23 rfl [(0, .agg #[.int .i64 x0, .int .i64 x1]), (1, .agg #[.int .i64 x2, .int .i64 x3]), (2, .int .i64 x4), (3, .int .i64 x5)] ⟨rfl, rfl, rfl, rfl, trivial⟩ rfl ?_
  intro a hF
  have S := St.nil w
  refine wp_seq ?_
  refine wp_region_lit ?_
  refine op_new (cs := #[.int .i64 x0, .int .i64 x1]) rfl rfl hF rfl S (run_box rfl (hF.ev rfl) rfl) ?_; clear hF S; intro a g101 u hF S
  refine op_new (cs := #[.int .i64 x2, .int .i64 x3]) rfl rfl hF rfl S (run_box rfl (hF.ev rfl) rfl) ?_; clear hF S; intro a g102 u hF S
  refine op_val (v := .int .i64 0) rfl rfl hF rfl (run_assign rfl rfl) ?_; clear hF; intro a hF
  refine wpList_nil ?_
  refine wp_seq ?_
  refine wp_seq ?_
  refine wp_region_lit ?_
  refine op_val (v := .agg #[.int .i64 x0, .int .i64 x1]) rfl rfl hF rfl (run_loadN rfl ag24 (hF.ev rfl) rfl ((S.free 1 rfl).cells 0 #[.int .i64 x0, .int .i64 x1] rfl)) ?_; clear hF; intro a hF
  obtain ⟨p103, h103, hM⟩ := bind_ex hM
  refine op_call rfl rfl hF rfl (run_call (vs := [.agg #[.int .i64 x0, .int .i64 x1]]) rfl rfl co10 ⟨(hF.ev rfl), trivial⟩) (c_spec_TurningValid (x0 := x0) (x1 := x1)  h103) ?_
  rintro e u ⟨rfl, T⟩
  refine ⟨_, rfl, ?_⟩
  clear hF; intro a hF
  replace S := S.call0 T; clear T
  refine op_val (v := .bool (!p103)) rfl rfl hF rfl (run_not rfl (hF.ev rfl)) ?_; clear hF; intro a hF
  refine op_val (v := .bool (!p103)) rfl rfl hF rfl (run_move rfl (hF.ev rfl)) ?_; clear hF; intro a hF
  refine op_gv (v := .agg #[.int .i64 x2, .int .i64 x3]) rfl rfl hF rfl (yf (gw_yield hF rfl rfl rfl)) (fun hg => (run_loadN rfl ag24 (hF.ev rfl) rfl ((S.free 0 rfl).cells 0 #[.int .i64 x2, .int .i64 x3] rfl))) ?_; clear hF; intro a hF
  obtain ⟨p104, h104, hM⟩ := bind_ex hM
  refine op_gcall (v := .bool p104) rfl rfl hF rfl S (yf (gw_yield hF rfl rfl rfl)) (fun hg => (run_call (vs := [.agg #[.int .i64 x2, .int .i64 x3]]) rfl rfl co10 ⟨((hF.ev rfl).trans (gv_t hg)), trivial⟩)) (fun hg => c_spec_TurningValid (x0 := x2) (x1 := x3)  (gb_t h104 hg)) ?_; clear hF S; intro a u hF S
  refine op_gv (v := .bool (!p104)) rfl rfl hF rfl (yf (gw_yield hF rfl rfl rfl)) (fun hg => (run_not rfl ((hF.ev rfl).trans (gv_t hg)))) ?_; clear hF; intro a hF
  refine op_val (v := .bool ((!p103) || (!p104))) rfl rfl hF rfl (run_pick_or rfl (hF.ev rfl) rfl (fun hp => ((hF.ev rfl).trans (gv_t (not_t hp))))) ?_; clear hF; intro a hF
  refine op_val (v := .bool ((!p103) || (!p104))) rfl rfl hF rfl (run_move rfl (hF.ev rfl)) ?_; clear hF; intro a hF
  refine op_gv (v := .pointer (some ⟨g101, 1, none⟩)) rfl rfl hF rfl (yf (gw_yield hF rfl rfl rfl)) (fun hg => (run_fieldAddr rfl fl24_1 (hF.ev rfl) rfl)) ?_; clear hF; intro a hF
  refine op_gv (v := .int .i64 x1) rfl rfl hF rfl (yf (gw_yield hF rfl rfl rfl)) (fun hg => (run_load1 rfl one3 ((hF.ev rfl).trans (gv_t hg)) ((S.free 1 rfl).cell rfl))) ?_; clear hF; intro a hF
  refine op_gv (v := .pointer (some ⟨g102, 1, none⟩)) rfl rfl hF rfl (yf (gw_yield hF rfl rfl rfl)) (fun hg => (run_fieldAddr rfl fl24_1 (hF.ev rfl) rfl)) ?_; clear hF; intro a hF
  refine op_gv (v := .int .i64 x3) rfl rfl hF rfl (yf (gw_yield hF rfl rfl rfl)) (fun hg => (run_load1 rfl one3 ((hF.ev rfl).trans (gv_t hg)) ((S.free 0 rfl).cell rfl))) ?_; clear hF; intro a hF
  refine op_gv (v := .int .i64 (w64 (x1 + x3))) rfl rfl hF rfl (yf (gw_yield hF rfl rfl rfl)) (fun hg => (run_add (z := w64 (x1 + x3)) ((hF.ev rfl).trans (gv_t hg)) ((hF.ev rfl).trans (gv_t hg)) rfl rfl)) ?_; clear hF; intro a hF
  refine op_gv (v := .bool (ltB 99 (w64 (x1 + x3)))) rfl rfl hF rfl (yf (gw_yield hF rfl rfl rfl)) (fun hg => (run_gtr ((hF.ev rfl).trans (gv_t hg)) rfl rfl)) ?_; clear hF; intro a hF
  refine op_val (v := .bool (((!p103) || (!p104)) || (ltB 99 (w64 (x1 + x3))))) rfl rfl hF rfl (run_pick_or rfl (hF.ev rfl) rfl (fun hp => ((hF.ev rfl).trans (gv_t (not_t hp))))) ?_; clear hF; intro a hF
  refine op_val (v := .bool (((!p103) || (!p104)) || (ltB 99 (w64 (x1 + x3))))) rfl rfl hF rfl (run_move rfl (hF.ev rfl)) ?_; clear hF; intro a hF
  refine op_gv (v := .int .i64 x4) rfl rfl hF rfl (yf (gw_yield hF rfl rfl rfl)) (fun hg => (run_move rfl (hF.ev rfl))) ?_; clear hF; intro a hF
  obtain ⟨p105, h105, hM⟩ := bind_ex hM
  refine op_gcall (v := .bool p105) rfl rfl hF rfl S (yf (gw_yield hF rfl rfl rfl)) (fun hg => (run_call (vs := [.int .i64 x4, .int .i64 1, .int .i64 999]) rfl rfl co27 ⟨((hF.ev rfl).trans (gv_t hg)), rfl, rfl, trivial⟩)) (fun hg => c_spec_l1In (x0 := x4) (x1 := 1) (x2 := 999)  (gb_t h105 hg)) ?_; clear hF S; intro a u hF S
  refine op_gv (v := .bool (!p105)) rfl rfl hF rfl (yf (gw_yield hF rfl rfl rfl)) (fun hg => (run_not rfl ((hF.ev rfl).trans (gv_t hg)))) ?_; clear hF; intro a hF
  refine op_val (v := .bool ((((!p103) || (!p104)) || (ltB 99 (w64 (x1 + x3)))) || (!p105))) rfl rfl hF rfl (run_pick_or rfl (hF.ev rfl) rfl (fun hp => ((hF.ev rfl).trans (gv_t (not_t hp))))) ?_; clear hF; intro a hF
  refine op_val (v := .bool ((((!p103) || (!p104)) || (ltB 99 (w64 (x1 + x3)))) || (!p105))) rfl rfl hF rfl (run_move rfl (hF.ev rfl)) ?_; clear hF; intro a hF
  refine op_gv (v := .int .i64 x5) rfl rfl hF rfl (yf (gw_yield hF rfl rfl rfl)) (fun hg => (run_move rfl (hF.ev rfl))) ?_; clear hF; intro a hF
  refine op_gv (v := .bool (ltB x5 0)) rfl rfl hF rfl (yf (gw_yield hF rfl rfl rfl)) (fun hg => (run_lss ((hF.ev rfl).trans (gv_t hg)) rfl rfl)) ?_; clear hF; intro a hF
  refine op_val (v := .bool (((((!p103) || (!p104)) || (ltB 99 (w64 (x1 + x3)))) || (!p105)) || (ltB x5 0))) rfl rfl hF rfl (run_pick_or rfl (hF.ev rfl) rfl (fun hp => ((hF.ev rfl).trans (gv_t (not_t hp))))) ?_; clear hF; intro a hF
  refine wpList_nil ?_
  cases hc106 : (((((!p103) || (!p104)) || (ltB 99 (w64 (x1 + x3)))) || (!p105)) || (ltB x5 0))
  · replace hM := bif_f hc106 hM
    refine cond_f hF rfl hc106 ?_
    refine wp_skip ?_
    refine wp_seq ?_
    refine wp_region_lit ?_
    refine op_val (v := .int .i64 0) rfl rfl hF rfl (run_assign rfl rfl) ?_; clear hF; intro a hF
    refine wpList_nil ?_
    refine wp_seq ?_
    obtain ⟨o108, hM109, hM⟩ := bind_ex hM
    refine wp_cut (fun a u => ∃ (p107 : Int × Int × Int), p107 = o108 ∧ Fr a 48 [(8, .int .i64 0), (9, .int .i64 p107.1)] ∧ St w u [.box g102 24 #[.int .i64 x2, .int .i64 x3], .box g101 24 #[.int .i64 p107.2.1, .int .i64 p107.2.2]]) ?_ ?_
    · have _ := trivial
      refine wp_block ?_
      refine loop_gw (fun m a u => ∃ (p110 : Int × Int × Int), m_spec_SyncTicks_l1 x2 x3 x4 x5 m p110 = some _ ∧ Fr a 48 [(2, .int .i64 x4), (3, .int .i64 x5), (4, .pointer (some ⟨g101, 0, none⟩)), (5, .pointer (some ⟨g102, 0, none⟩)), (8, .int .i64 0), (9, .int .i64 p110.1)] ∧ St w u [.box g102 24 #[.int .i64 x2, .int .i64 x3], .box g101 24 #[.int .i64 p110.2.1, .int .i64 p110.2.2]]) FUEL ⟨(0, x0, x1), hM109, hF.keep _ ⟨rfl, rfl, rfl, rfl, rfl, rfl, trivial⟩, S.sel [0, 1] rfl rfl⟩ ?_
      clear hF S hM109; rintro m a u ⟨p110, hM109, hF, S⟩
      rcases m with _ | f1
      · exact none_some hM109
      rw [m_spec_SyncTicks_l1.eq_2] at hM109
      refine wp_seq ?_
      refine wp_seq ?_
      refine wp_region_lit ?_
      refine op_val (v := .agg #[.int .i64 p110.2.1, .int .i64 p110.2.2]) rfl rfl hF rfl (run_loadN rfl ag24 (hF.ev rfl) rfl ((S.free 1 rfl).cells 0 #[.int .i64 p110.2.1, .int .i64 p110.2.2] rfl)) ?_; clear hF; intro a hF
      refine op_val (v := .agg #[.int .i64 x2, .int .i64 x3]) rfl rfl hF rfl (run_loadN rfl ag24 (hF.ev rfl) rfl ((S.free 0 rfl).cells 0 #[.int .i64 x2, .int .i64 x3] rfl)) ?_; clear hF; intro a hF
      refine op_val (v := .int .i64 x5) rfl rfl hF rfl (run_move rfl (hF.ev rfl)) ?_; clear hF; intro a hF
      obtain ⟨p111, h111, hM109⟩ := bind_ex hM109
      refine op_call rfl rfl hF rfl (run_call (vs := [.agg #[.int .i64 p110.2.1, .int .i64 p110.2.2], .agg #[.int .i64 x2, .int .i64 x3], .int .i64 x5]) rfl rfl co14 ⟨(hF.ev rfl), (hF.ev rfl), (hF.ev rfl), trivial⟩) (c_spec_SyncMay (x0 := p110.2.1) (x1 := p110.2.2) (x2 := x2) (x3 := x3) (x4 := x5)  h111) ?_
      rintro e u ⟨rfl, T⟩
      refine ⟨_, rfl, ?_⟩
      clear hF; intro a hF
      replace S := S.call0 T; clear T
      refine op_val (v := .bool (!p111)) rfl rfl hF rfl (run_not rfl (hF.ev rfl)) ?_; clear hF; intro a hF
      refine wpList_nil ?_
      cases hc112 : (p111)
      · replace hM109 := bif_f hc112 hM109
        refine cond_t hF rfl (not_t hc112) ?_
        refine wp_skip ?_
        refine wp_block ?_
        refine wp_seq ?_
        refine wp_region_lit ?_
        refine op_val (v := .agg #[.int .i64 p110.2.1, .int .i64 p110.2.2]) rfl rfl hF rfl (run_loadN rfl ag24 (hF.ev rfl) rfl ((S.free 1 rfl).cells 0 #[.int .i64 p110.2.1, .int .i64 p110.2.2] rfl)) ?_; clear hF; intro a hF
        refine op_val (v := .pointer (some ⟨g102, 0, none⟩)) rfl rfl hF rfl (run_fieldAddr rfl fl24_0 (hF.ev rfl) rfl) ?_; clear hF; intro a hF
        refine op_val (v := .int .i64 x2) rfl rfl hF rfl (run_load1 rfl one3 (hF.ev rfl) ((S.free 0 rfl).cell rfl)) ?_; clear hF; intro a hF
        refine op_val (v := .int .i64 x4) rfl rfl hF rfl (run_move rfl (hF.ev rfl)) ?_; clear hF; intro a hF
        obtain ⟨p113, h113, hM109⟩ := bind_ex hM109
        refine op_call rfl rfl hF rfl (run_call (vs := [.agg #[.int .i64 p110.2.1, .int .i64 p110.2.2], .int .i64 x2, .int .i64 x4]) rfl rfl co17 ⟨(hF.ev rfl), (hF.ev rfl), (hF.ev rfl), trivial⟩) (c_spec_SyncTune (x0 := p110.2.1) (x1 := p110.2.2) (x2 := x2) (x3 := x4)  h113) ?_
        rintro e u ⟨rfl, T⟩
        refine ⟨_, rfl, ?_⟩
        clear hF; intro a hF
        replace S := S.call0 T; clear T
        refine op_do rfl rfl (run_store (cs' := #[.int .i64 p113.1, .int .i64 p113.2]) rfl sz24 (hF.ev rfl) (hF.ev rfl) rfl rfl rfl (S.free 1 rfl) rfl rfl) ?_; replace S := S.put 1 rfl (#[.int .i64 p113.1, .int .i64 p113.2])
        generalize World.setRow _ _ _ = u at S ⊢
        refine wpList_nil ?_
        refine wp_region_lit ?_
        refine op_val (v := .int .i64 p110.1) rfl rfl hF rfl (run_move rfl (hF.ev rfl)) ?_; clear hF; intro a hF
        refine op_val (v := .int .i64 (w64 (p110.1 + 1))) rfl rfl hF rfl (run_add (z := w64 (p110.1 + 1)) (hF.ev rfl) rfl rfl rfl) ?_; clear hF; intro a hF
        refine op_val (v := .int .i64 (w64 (p110.1 + 1))) rfl rfl hF rfl (run_assign rfl (hF.ev rfl)) ?_; clear hF; intro a hF
        refine wpList_nil ?_
        exact ⟨f1, Nat.lt_succ_self _, (w64 (p110.1 + 1), p113.1, p113.2), hM109, hF.keep _ ⟨rfl, rfl, rfl, rfl, rfl, rfl, trivial⟩, S.sel [0, 1] rfl rfl⟩
      · replace hM109 := bif_t hc112 hM109
        refine cond_f hF rfl (not_f hc112) ?_
        refine wp_exit ?_
        repeat with_reducible (first | refine then_exit ?_ | refine in_hit ?_ | refine in_miss rfl ?_)
        obtain rfl := Option.some.inj hM109
        exact ⟨(p110.1, p110.2.1, p110.2.2), rfl, hF.keep _ ⟨rfl, rfl, trivial⟩, S.sel [0, 1] rfl rfl⟩
    · rintro a u ⟨p107, rfl, hF, S⟩
      refine wp_seq ?_
      refine wp_region_lit ?_
      refine op_val (v := .int .i64 p107.1) rfl rfl hF rfl (run_move rfl (hF.ev rfl)) ?_; clear hF; intro a hF
      refine op_val (v := .int .i64 p107.1) rfl rfl hF rfl (run_assign rfl (hF.ev rfl)) ?_; clear hF; intro a hF
      refine wpList_nil ?_
      refine wp_ret ?_
      repeat with_reducible (first | refine then_ret ?_ | refine in_ret ?_ | refine in_nrm ?_)
      refine ret1_gw (.inl rfl) hF rfl (res_tmp (hF.ev rfl)) ?_
      obtain rfl := Option.some.inj hM
      exact ⟨rfl, S.sel [] rfl rfl⟩
  · replace hM := bif_t hc106 hM
    refine cond_t hF rfl hc106 ?_
    refine wp_seq ?_
    refine wp_region_lit ?_
    refine op_val (v := .int .i64 (-1)) rfl rfl hF rfl (run_assign rfl rfl) ?_; clear hF; intro a hF
    refine wpList_nil ?_
    refine wp_ret ?_
    repeat with_reducible (first | refine then_ret ?_ | refine in_ret ?_ | refine in_nrm ?_)
    refine ret1_gw (.inl rfl) hF rfl (res_tmp (hF.ev rfl)) ?_
    obtain rfl := Option.some.inj hM
    exact ⟨rfl, S.sel [] rfl rfl⟩

set_option maxHeartbeats 4000000 in
theorem c_laws_FnSyncTicks {x0 : List Int} {A0 : Option Addr} {n0 c0 : Nat} {w : World} {r : Bool} (h0 : Rt w 1 eU A0 n0 c0 x0) (hM : m_laws_FnSyncTicks x0 = some r) :
    Calls Tryd.prog 7 #[.slice A0 n0 c0] w (fun e w' => e = .returned (.bool r) ∧ St w w' []) := by
  obtain rfl := h0.len
  unfold m_laws_FnSyncTicks at hM
  refine calls_gw Tryd.func7 Tryd.ntmps7 rfl [(0, .slice A0 x0.length c0)] ⟨rfl, trivial⟩ rfl ?_
  intro a hF
  have S := St.nil w
  refine wp_seq ?_
  refine wp_region_lit ?_
  refine op_val (v := .bool false) rfl rfl hF rfl (run_assign rfl rfl) ?_; clear hF; intro a hF
  refine wpList_nil ?_
  refine wp_seq ?_
  refine wp_seq ?_
  refine wp_region_lit ?_
  refine op_val (v := .slice A0 x0.length c0) rfl rfl hF rfl (run_move rfl (hF.ev rfl)) ?_; clear hF; intro a hF
  refine op_val (v := .int .i64 (x0.length : Int)) rfl rfl hF rfl (run_lenL rfl rfl Tryd.underlying22 (hF.ev rfl)) ?_; clear hF; intro a hF
  refine op_val (v := .bool (ltB 1048576 (x0.length : Int))) rfl rfl hF rfl (run_gtr (hF.ev rfl) rfl rfl) ?_; clear hF; intro a hF
  refine wpList_nil ?_
  cases hc101 : (ltB 1048576 (x0.length : Int))
  · replace hM := bif_f hc101 hM
    refine cond_f hF rfl hc101 ?_
    refine wp_skip ?_
    refine wp_seq ?_
    refine wp_region_lit ?_
    refine op_val (v := .slice A0 x0.length c0) rfl rfl hF rfl (run_move rfl (hF.ev rfl)) ?_; clear hF; intro a hF
    obtain ⟨p102, h102, hM⟩ := bind_ex hM
    refine op_call rfl rfl hF rfl (run_call (vs := [.slice A0 x0.length c0]) rfl rfl co21 ⟨(hF.ev rfl), trivial⟩) (c_spec_DrawSyncTicks (x0 := x0) ⟨(S.rc0 h0.rc), rfl⟩ h102) ?_
    rintro e u ⟨rfl, T⟩
    refine ⟨_, rfl, ?_⟩
    clear hF; intro a hF
    replace S := S.call0 T; clear T
    refine op_val (v := .tuple #[.agg #[.int .i64 p102.1, .int .i64 p102.2.1], .agg #[.int .i64 p102.2.2.1, .int .i64 p102.2.2.2.1], .int .i64 p102.2.2.2.2.1, .int .i64 p102.2.2.2.2.2]) rfl rfl hF rfl (run_move rfl (hF.ev rfl)) ?_; clear hF; intro a hF
    refine op_val (v := .agg #[.int .i64 p102.1, .int .i64 p102.2.1]) rfl rfl hF rfl (run_extract rfl (hF.ev rfl) rfl) ?_; clear hF; intro a hF
    refine op_val (v := .agg #[.int .i64 p102.2.2.1, .int .i64 p102.2.2.2.1]) rfl rfl hF rfl (run_extract rfl (hF.ev rfl) rfl) ?_; clear hF; intro a hF
    refine op_val (v := .int .i64 p102.2.2.2.2.1) rfl rfl hF rfl (run_extract rfl (hF.ev rfl) rfl) ?_; clear hF; intro a hF
    refine op_val (v := .int .i64 p102.2.2.2.2.2) rfl rfl hF rfl (run_extract rfl (hF.ev rfl) rfl) ?_; clear hF; intro a hF
    refine op_new (cs := #[.int .i64 0, .int .i64 0]) rfl rfl hF rfl S (run_allocZ rfl zr24) ?_; clear hF S; intro a g103 u hF S
    refine op_new (cs := #[.int .i64 0, .int .i64 0]) rfl rfl hF rfl S (run_allocZ rfl zr24) ?_; clear hF S; intro a g104 u hF S
    refine op_do rfl rfl (run_store (cs' := #[.int .i64 p102.1, .int .i64 p102.2.1]) rfl sz24 (hF.ev rfl) (hF.ev rfl) rfl rfl rfl (S.free 1 rfl) rfl rfl) ?_; replace S := S.put 1 rfl (#[.int .i64 p102.1, .int .i64 p102.2.1])
    generalize World.setRow _ _ _ = u at S ⊢
    refine op_do rfl rfl (run_store (cs' := #[.int .i64 p102.2.2.1, .int .i64 p102.2.2.2.1]) rfl sz24 (hF.ev rfl) (hF.ev rfl) rfl rfl rfl (S.free 0 rfl) rfl rfl) ?_; replace S := S.put 0 rfl (#[.int .i64 p102.2.2.1, .int .i64 p102.2.2.2.1])
    generalize World.setRow _ _ _ = u at S ⊢
    refine op_val (v := .int .i64 p102.2.2.2.2.1) rfl rfl hF rfl (run_assign rfl (hF.ev rfl)) ?_; clear hF; intro a hF
    refine op_val (v := .int .i64 p102.2.2.2.2.2) rfl rfl hF rfl (run_assign rfl (hF.ev rfl)) ?_; clear hF; intro a hF
    refine wpList_nil ?_
    refine wp_seq ?_
    refine wp_region_lit ?_
    refine op_val (v := .agg #[.int .i64 p102.1, .int .i64 p102.2.1]) rfl rfl hF rfl (run_loadN rfl ag24 (hF.ev rfl) rfl ((S.free 1 rfl).cells 0 #[.int .i64 p102.1, .int .i64 p102.2.1] rfl)) ?_; clear hF; intro a hF
    refine op_val (v := .agg #[.int .i64 p102.2.2.1, .int .i64 p102.2.2.2.1]) rfl rfl hF rfl (run_loadN rfl ag24 (hF.ev rfl) rfl ((S.free 0 rfl).cells 0 #[.int .i64 p102.2.2.1, .int .i64 p102.2.2.2.1] rfl)) ?_; clear hF; intro a hF
    refine op_val (v := .int .i64 p102.2.2.2.2.1) rfl rfl hF rfl (run_move rfl (hF.ev rfl)) ?_; clear hF; intro a hF
    refine op_val (v := .int .i64 p102.2.2.2.2.2) rfl rfl hF rfl (run_move rfl (hF.ev rfl)) ?_; clear hF; intro a hF
    obtain ⟨p105, h105, hM⟩ := bind_ex hM
    refine op_call rfl rfl hF rfl (run_call (vs := [.agg #[.int .i64 p102.1, .int .i64 p102.2.1], .agg #[.int .i64 p102.2.2.1, .int .i64 p102.2.2.2.1], .int .i64 p102.2.2.2.2.1, .int .i64 p102.2.2.2.2.2]) rfl rfl co22 ⟨(hF.ev rfl), (hF.ev rfl), (hF.ev rfl), (hF.ev rfl), trivial⟩) (c_impl_SyncTicks (x0 := p102.1) (x1 := p102.2.1) (x2 := p102.2.2.1) (x3 := p102.2.2.2.1) (x4 := p102.2.2.2.2.1) (x5 := p102.2.2.2.2.2)  h105) ?_
    rintro e u ⟨rfl, T⟩
    refine ⟨_, rfl, ?_⟩
    clear hF; intro a hF
    replace S := S.call0 T; clear T
    refine op_val (v := .int .i64 p105) rfl rfl hF rfl (run_assign rfl (hF.ev rfl)) ?_; clear hF; intro a hF
    refine wpList_nil ?_
    refine wp_seq ?_
    refine wp_seq ?_
    refine wp_region_lit ?_
    refine op_val (v := .int .i64 p105) rfl rfl hF rfl (run_move rfl (hF.ev rfl)) ?_; clear hF; intro a hF
    refine op_val (v := .agg #[.int .i64 p102.1, .int .i64 p102.2.1]) rfl rfl hF rfl (run_loadN rfl ag24 (hF.ev rfl) rfl ((S.free 1 rfl).cells 0 #[.int .i64 p102.1, .int .i64 p102.2.1] rfl)) ?_; clear hF; intro a hF
    refine op_val (v := .agg #[.int .i64 p102.2.2.1, .int .i64 p102.2.2.2.1]) rfl rfl hF rfl (run_loadN rfl ag24 (hF.ev rfl) rfl ((S.free 0 rfl).cells 0 #[.int .i64 p102.2.2.1, .int .i64 p102.2.2.2.1] rfl)) ?_; clear hF; intro a hF
    refine op_val (v := .int .i64 p102.2.2.2.2.1) rfl rfl hF rfl (run_move rfl (hF.ev rfl)) ?_; clear hF; intro a hF
    refine op_val (v := .int .i64 p102.2.2.2.2.2) rfl rfl hF rfl (run_move rfl (hF.ev rfl)) ?_; clear hF; intro a hF
    obtain ⟨p106, h106, hM⟩ := bind_ex hM
    refine op_call rfl rfl hF rfl (run_call (vs := [.agg #[.int .i64 p102.1, .int .i64 p102.2.1], .agg #[.int .i64 p102.2.2.1, .int .i64 p102.2.2.2.1], .int .i64 p102.2.2.2.2.1, .int .i64 p102.2.2.2.2.2]) rfl rfl co23 ⟨(hF.ev rfl), (hF.ev rfl), (hF.ev rfl), (hF.ev rfl), trivial⟩) (c_spec_SyncTicks (x0 := p102.1) (x1 := p102.2.1) (x2 := p102.2.2.1) (x3 := p102.2.2.2.1) (x4 := p102.2.2.2.2.1) (x5 := p102.2.2.2.2.2)  h106) ?_
    rintro e u ⟨rfl, T⟩
    refine ⟨_, rfl, ?_⟩
    clear hF; intro a hF
    replace S := S.call0 T; clear T
    refine op_val (v := .bool (p105 != p106)) rfl rfl hF rfl (run_neq (hF.ev rfl) (hF.ev rfl) rfl) ?_; clear hF; intro a hF
    refine wpList_nil ?_
    cases hc107 : (p105 != p106)
    · replace hM := bif_f hc107 hM
      refine cond_f hF rfl hc107 ?_
      refine wp_skip ?_
      refine wp_seq ?_
      refine wp_seq ?_
      refine wp_region_lit ?_
      refine op_val (v := .int .i64 p105) rfl rfl hF rfl (run_move rfl (hF.ev rfl)) ?_; clear hF; intro a hF
      refine op_val (v := .bool (ltB p105 0)) rfl rfl hF rfl (run_lss (hF.ev rfl) rfl rfl) ?_; clear hF; intro a hF
      refine wpList_nil ?_
      cases hc108 : (ltB p105 0)
      · replace hM := bif_f hc108 hM
        refine cond_f hF rfl hc108 ?_
        refine wp_skip ?_
        refine wp_seq ?_
        refine wp_seq ?_
        refine wp_region_lit ?_
        refine op_val (v := .int .i64 0) rfl rfl hF rfl (run_assign rfl rfl) ?_; clear hF; intro a hF
        refine wpList_nil ?_
        obtain ⟨o110, hM111, hM⟩ := bind_ex hM
        refine wp_cut (fun a u => ∃ (p109 : Int × Int), (Sum.inl p109) = o110 ∧ Fr a 56 [(2, .bool false), (3, .pointer (some ⟨g103, 0, none⟩)), (4, .pointer (some ⟨g104, 0, none⟩)), (6, .int .i64 p102.2.2.2.2.2)] ∧ St w u [.box g104 24 #[.int .i64 p102.2.2.1, .int .i64 p102.2.2.2.1], .box g103 24 #[.int .i64 p109.1, .int .i64 p109.2]]) ?_ ?_
        · have _ := trivial
          refine wp_block ?_
          refine loop_gw (fun m a u => ∃ (p112 : Int × Int × Int), m_laws_FnSyncTicks_l1 p102 p105 m p112 = some _ ∧ Fr a 56 [(2, .bool false), (3, .pointer (some ⟨g103, 0, none⟩)), (4, .pointer (some ⟨g104, 0, none⟩)), (5, .int .i64 p102.2.2.2.2.1), (6, .int .i64 p102.2.2.2.2.2), (7, .int .i64 p105), (8, .int .i64 p112.1)] ∧ St w u [.box g104 24 #[.int .i64 p102.2.2.1, .int .i64 p102.2.2.2.1], .box g103 24 #[.int .i64 p112.2.1, .int .i64 p112.2.2]]) FUEL ⟨(0, p102.1, p102.2.1), hM111, hF.keep _ ⟨rfl, rfl, rfl, rfl, rfl, rfl, rfl, trivial⟩, S.sel [0, 1] rfl rfl⟩ ?_
          clear hF S hM111; rintro m a u ⟨p112, hM111, hF, S⟩
          rcases m with _ | f1
          · exact none_some hM111
          rw [m_laws_FnSyncTicks_l1.eq_2] at hM111
          refine wp_seq ?_
          refine wp_seq ?_
          refine wp_region_lit ?_
          refine op_val (v := .int .i64 p112.1) rfl rfl hF rfl (run_move rfl (hF.ev rfl)) ?_; clear hF; intro a hF
          refine op_val (v := .int .i64 p105) rfl rfl hF rfl (run_move rfl (hF.ev rfl)) ?_; clear hF; intro a hF
          refine op_val (v := .bool (ltB p112.1 p105)) rfl rfl hF rfl (run_lss (hF.ev rfl) (hF.ev rfl) rfl) ?_; clear hF; intro a hF
          refine wpList_nil ?_
          cases hc113 : (ltB p112.1 p105)
          · replace hM111 := bif_f hc113 hM111
            refine cond_f hF rfl hc113 ?_
            refine wp_exit ?_
            repeat with_reducible (first | refine then_exit ?_ | refine in_hit ?_ | refine in_miss rfl ?_)
            obtain rfl := Option.some.inj hM111
            exact ⟨(p112.2.1, p112.2.2), rfl, hF.keep _ ⟨rfl, rfl, rfl, rfl, trivial⟩, S.sel [0, 1] rfl rfl⟩
          · replace hM111 := bif_t hc113 hM111
            refine cond_t hF rfl hc113 ?_
            refine wp_skip ?_
            refine wp_seq ?_
            refine wp_block ?_
            refine wp_seq ?_
            refine wp_seq ?_
            refine wp_region_lit ?_
            refine op_val (v := .agg #[.int .i64 p112.2.1, .int .i64 p112.2.2]) rfl rfl hF rfl (run_loadN rfl ag24 (hF.ev rfl) rfl ((S.free 1 rfl).cells 0 #[.int .i64 p112.2.1, .int .i64 p112.2.2] rfl)) ?_; clear hF; intro a hF
            refine op_val (v := .agg #[.int .i64 p102.2.2.1, .int .i64 p102.2.2.2.1]) rfl rfl hF rfl (run_loadN rfl ag24 (hF.ev rfl) rfl ((S.free 0 rfl).cells 0 #[.int .i64 p102.2.2.1, .int .i64 p102.2.2.2.1] rfl)) ?_; clear hF; intro a hF
            refine op_val (v := .int .i64 p102.2.2.2.2.2) rfl rfl hF rfl (run_move rfl (hF.ev rfl)) ?_; clear hF; intro a hF
            obtain ⟨p114, h114, hM111⟩ := bind_ex hM111
            refine op_call rfl rfl hF rfl (run_call (vs := [.agg #[.int .i64 p112.2.1, .int .i64 p112.2.2], .agg #[.int .i64 p102.2.2.1, .int .i64 p102.2.2.2.1], .int .i64 p102.2.2.2.2.2]) rfl rfl co13 ⟨(hF.ev rfl), (hF.ev rfl), (hF.ev rfl), trivial⟩) (c_impl_SyncMay (x0 := p112.2.1) (x1 := p112.2.2) (x2 := p102.2.2.1) (x3 := p102.2.2.2.1) (x4 := p102.2.2.2.2.2)  h114) ?_
            rintro e u ⟨rfl, T⟩
            refine ⟨_, rfl, ?_⟩
            clear hF; intro a hF
            replace S := S.call0 T; clear T
            refine wpList_nil ?_
            cases hc115 : (p114)
            · replace hM111 := bif_f hc115 hM111
              refine cond_f hF rfl hc115 ?_
              refine wp_skip ?_
              refine wp_region_lit ?_
              refine op_val (v := .agg #[.int .i64 p112.2.1, .int .i64 p112.2.2]) rfl rfl hF rfl (run_loadN rfl ag24 (hF.ev rfl) rfl ((S.free 1 rfl).cells 0 #[.int .i64 p112.2.1, .int .i64 p112.2.2] rfl)) ?_; clear hF; intro a hF
              refine op_val (v := .pointer (some ⟨g104, 0, none⟩)) rfl rfl hF rfl (run_fieldAddr rfl fl24_0 (hF.ev rfl) rfl) ?_; clear hF; intro a hF
              refine op_val (v := .int .i64 p102.2.2.1) rfl rfl hF rfl (run_load1 rfl one3 (hF.ev rfl) ((S.free 0 rfl).cell rfl)) ?_; clear hF; intro a hF
              refine op_val (v := .int .i64 p102.2.2.2.2.1) rfl rfl hF rfl (run_move rfl (hF.ev rfl)) ?_; clear hF; intro a hF
              obtain ⟨p116, h116, hM111⟩ := bind_ex hM111
              refine op_call rfl rfl hF rfl (run_call (vs := [.agg #[.int .i64 p112.2.1, .int .i64 p112.2.2], .int .i64 p102.2.2.1, .int .i64 p102.2.2.2.2.1]) rfl rfl co16 ⟨(hF.ev rfl), (hF.ev rfl), (hF.ev rfl), trivial⟩) (c_impl_SyncTune (x0 := p112.2.1) (x1 := p112.2.2) (x2 := p102.2.2.1) (x3 := p102.2.2.2.2.1)  h116) ?_
              rintro e u ⟨rfl, T⟩
              refine ⟨_, rfl, ?_⟩
              clear hF; intro a hF
              replace S := S.call0 T; clear T
              refine op_do rfl rfl (run_store (cs' := #[.int .i64 p116.1, .int .i64 p116.2]) rfl sz24 (hF.ev rfl) (hF.ev rfl) rfl rfl rfl (S.free 1 rfl) rfl rfl) ?_; replace S := S.put 1 rfl (#[.int .i64 p116.1, .int .i64 p116.2])
              generalize World.setRow _ _ _ = u at S ⊢
              refine wpList_nil ?_
              refine wp_region_lit ?_
              refine op_val (v := .int .i64 p112.1) rfl rfl hF rfl (run_move rfl (hF.ev rfl)) ?_; clear hF; intro a hF
              refine op_val (v := .int .i64 (w64 (p112.1 + 1))) rfl rfl hF rfl (run_add (z := w64 (p112.1 + 1)) (hF.ev rfl) rfl rfl rfl) ?_; clear hF; intro a hF
              refine op_val (v := .int .i64 (w64 (p112.1 + 1))) rfl rfl hF rfl (run_assign rfl (hF.ev rfl)) ?_; clear hF; intro a hF
              refine wpList_nil ?_
              exact ⟨f1, Nat.lt_succ_self _, (w64 (p112.1 + 1), p116.1, p116.2), hM111, hF.keep _ ⟨rfl, rfl, rfl, rfl, rfl, rfl, rfl, trivial⟩, S.sel [0, 1] rfl rfl⟩
            · replace hM111 := bif_t hc115 hM111
              refine cond_t hF rfl hc115 ?_
              refine wp_seq ?_
              refine wp_region_lit ?_
              refine op_val (v := .bool false) rfl rfl hF rfl (run_assign rfl rfl) ?_; clear hF; intro a hF
              refine wpList_nil ?_
              refine wp_ret ?_
              repeat with_reducible (first | refine then_ret ?_ | refine in_ret ?_ | refine in_nrm ?_)
              refine ret1_gw (.inl rfl) hF rfl (res_tmp (hF.ev rfl)) ?_
              obtain rfl := Option.some.inj hM111
              obtain rfl := Option.some.inj hM
              exact ⟨rfl, S.sel [] rfl rfl⟩
        · rintro a u ⟨p109, rfl, hF, S⟩
          replace hM := elim_l hM
          refine wp_seq ?_
          refine wp_region_lit ?_
          refine op_val (v := .agg #[.int .i64 p109.1, .int .i64 p109.2]) rfl rfl hF rfl (run_loadN rfl ag24 (hF.ev rfl) rfl ((S.free 1 rfl).cells 0 #[.int .i64 p109.1, .int .i64 p109.2] rfl)) ?_; clear hF; intro a hF
          refine op_val (v := .agg #[.int .i64 p102.2.2.1, .int .i64 p102.2.2.2.1]) rfl rfl hF rfl (run_loadN rfl ag24 (hF.ev rfl) rfl ((S.free 0 rfl).cells 0 #[.int .i64 p102.2.2.1, .int .i64 p102.2.2.2.1] rfl)) ?_; clear hF; intro a hF
          refine op_val (v := .int .i64 p102.2.2.2.2.2) rfl rfl hF rfl (run_move rfl (hF.ev rfl)) ?_; clear hF; intro a hF
          obtain ⟨p117, h117, hM⟩ := bind_ex hM
          refine op_call rfl rfl hF rfl (run_call (vs := [.agg #[.int .i64 p109.1, .int .i64 p109.2], .agg #[.int .i64 p102.2.2.1, .int .i64 p102.2.2.2.1], .int .i64 p102.2.2.2.2.2]) rfl rfl co13 ⟨(hF.ev rfl), (hF.ev rfl), (hF.ev rfl), trivial⟩) (c_impl_SyncMay (x0 := p109.1) (x1 := p109.2) (x2 := p102.2.2.1) (x3 := p102.2.2.2.1) (x4 := p102.2.2.2.2.2)  h117) ?_
          rintro e u ⟨rfl, T⟩
          refine ⟨_, rfl, ?_⟩
          clear hF; intro a hF
          replace S := S.call0 T; clear T
          refine op_val (v := .bool p117) rfl rfl hF rfl (run_assign rfl (hF.ev rfl)) ?_; clear hF; intro a hF
          refine wpList_nil ?_
          refine wp_ret ?_
          repeat with_reducible (first | refine then_ret ?_ | refine in_ret ?_ | refine in_nrm ?_)
          refine ret1_gw (.inl rfl) hF rfl (res_tmp (hF.ev rfl)) ?_
          obtain rfl := Option.some.inj hM
          exact ⟨rfl, S.sel [] rfl rfl⟩
      · replace hM := bif_t hc108 hM
        refine cond_t hF rfl hc108 ?_
        refine wp_seq ?_
        refine wp_region_lit ?_
        refine op_val (v := .int .i64 p105) rfl rfl hF rfl (run_move rfl (hF.ev rfl)) ?_; clear hF; intro a hF
        refine op_val (v := .bool (p105 == (-1))) rfl rfl hF rfl (run_eql (hF.ev rfl) rfl rfl) ?_; clear hF; intro a hF
        refine op_val (v := .bool (p105 == (-1))) rfl rfl hF rfl (run_move rfl (hF.ev rfl)) ?_; clear hF; intro a hF
        obtain ⟨p118, h118, hM⟩ := bind_ex hM
        refine op_gcall (v := .bool p118) rfl rfl hF rfl S (yt (gw_yield hF rfl rfl rfl)) (fun hg => (run_call (vs := []) rfl rfl co11 trivial)) (fun hg => c_laws_alive   (gb_t h118 hg)) ?_; clear hF S; intro a u hF S
        refine op_val (v := .bool ((p105 == (-1)) && p118)) rfl rfl hF rfl (run_pick_and rfl (hF.ev rfl) (fun hp => ((hF.ev rfl).trans (gv_t hp))) rfl) ?_; clear hF; intro a hF
        refine op_val (v := .bool ((p105 == (-1)) && p118)) rfl rfl hF rfl (run_assign rfl (hF.ev rfl)) ?_; clear hF; intro a hF
        refine wpList_nil ?_
        refine wp_ret ?_
        repeat with_reducible (first | refine then_ret ?_ | refine in_ret ?_ | refine in_nrm ?_)
        refine ret1_gw (.inl rfl) hF rfl (res_tmp (hF.ev rfl)) ?_
        obtain rfl := Option.some.inj hM
        exact ⟨rfl, S.sel [] rfl rfl⟩
    · replace hM := bif_t hc107 hM
      refine cond_t hF rfl hc107 ?_
      refine wp_seq ?_
      refine wp_region_lit ?_
      refine op_val (v := .bool false) rfl rfl hF rfl (run_assign rfl rfl) ?_; clear hF; intro a hF
      refine wpList_nil ?_
      refine wp_ret ?_
      repeat with_reducible (first | refine then_ret ?_ | refine in_ret ?_ | refine in_nrm ?_)
      refine ret1_gw (.inl rfl) hF rfl (res_tmp (hF.ev rfl)) ?_
      obtain rfl := Option.some.inj hM
      exact ⟨rfl, S.sel [] rfl rfl⟩
  · replace hM := bif_t hc101 hM
    refine cond_t hF rfl hc101 ?_
    refine wp_seq ?_
    refine wp_region_lit ?_
    refine op_val (v := .bool true) rfl rfl hF rfl (run_assign rfl rfl) ?_; clear hF; intro a hF
    refine wpList_nil ?_
    refine wp_ret ?_
    repeat with_reducible (first | refine then_ret ?_ | refine in_ret ?_ | refine in_nrm ?_)
    refine ret1_gw (.inl rfl) hF rfl (res_tmp (hF.ev rfl)) ?_
    obtain rfl := Option.some.inj hM
    exact ⟨rfl, S.sel [] rfl rfl⟩

end Go.Proofs.YtjdjcfdpndhgmaaDoor
