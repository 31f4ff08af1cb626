/- Calls return what the models say. -/
import Derived.Test.YthpmmfbnclfbmaaDa2
namespace Go.Proofs.Ythpmmfbnclfbmaa
open Go.ChangeShapes Go.WideShapes Go.ChangeAt Go.RowKit
set_option linter.unusedVariables false
set_option linter.unusedSimpArgs false

set_option maxHeartbeats 4000000 in
theorem c_laws_FnExactRoomsRun {x0 : Int} {x1 : Int} {x2 : List Int} {x3 : List (Int × Int × Int)} {A2 : Option Addr} {n2 c2 : Nat} {A3 : Option Addr} {n3 c3 : Nat} {w : World} {r : Bool} (h2 : Rt w 1 eI A2 n2 c2 x2) (h3 : Rt w 3 eLRoomDeed A3 n3 c3 x3) (hM : m_laws_FnExactRoomsRun x0 x1 x2 x3 = some r) :
    Calls Try.prog 5 #[.agg #[.int .i64 x0, .int .i64 x1, .slice A2 n2 c2], .slice A3 n3 c3] w (fun e w' => e = .returned (.bool r) ∧ St w w' []) := by
  obtain rfl := h2.len
  obtain rfl := h3.len
  unfold m_laws_FnExactRoomsRun at hM
  refine calls_gw Try.func5 Try.ntmps5 rfl [(0, .agg #[.int .i64 x0, .int .i64 x1, .slice A2 x2.length c2]), (1, .slice A3 x3.length c3)] ⟨rfl, rfl, trivial⟩ rfl ?_
  intro a hF
  have S := St.nil w
  refine wp_seq ?_
  refine wp_region_lit ?_
  refine op_new (cs := #[.int .i64 x0, .int .i64 x1, .slice A2 x2.length c2]) rfl rfl hF rfl S (run_box rfl (hF.ev rfl) rfl) ?_; clear hF S; intro a g101 u hF S
  refine op_val (v := .bool false) rfl rfl hF rfl (run_assign rfl rfl) ?_; clear hF; intro a hF
  refine wpList_nil ?_
  refine wp_seq ?_
  refine wp_region_lit ?_
  refine op_val (v := .int .i64 1048576) rfl rfl hF rfl (run_assign rfl rfl) ?_; clear hF; intro a hF
  refine wpList_nil ?_
  refine wp_seq ?_
  refine wp_region_lit ?_
  refine op_val (v := .agg #[.int .i64 x0, .int .i64 x1, .slice A2 x2.length c2]) rfl rfl hF rfl (run_loadN rfl ag24 (hF.ev rfl) rfl ((S.free 0 rfl).cells 0 #[.int .i64 x0, .int .i64 x1, .slice A2 x2.length c2] rfl)) ?_; clear hF; intro a hF
  refine op_val (v := .int .i64 1048576) rfl rfl hF rfl (run_move rfl (hF.ev rfl)) ?_; clear hF; intro a hF
  obtain ⟨p102, h102, hM⟩ := bind_ex hM
  refine op_call rfl rfl hF rfl (run_call (vs := [.agg #[.int .i64 x0, .int .i64 x1, .slice A2 x2.length c2], .int .i64 1048576]) rfl rfl co6 ⟨(hF.ev rfl), (hF.ev rfl), trivial⟩) (c_laws_szRooms (x0 := x0) (x1 := x1) (x2 := x2) (x3 := 1048576) ⟨(S.rc0 h2.rc), rfl⟩ h102) ?_
  rintro e u ⟨rfl, T⟩
  refine ⟨_, rfl, ?_⟩
  clear hF; intro a hF
  replace S := S.call0 T; clear T
  refine op_val (v := .int .i64 p102) rfl rfl hF rfl (run_assign rfl (hF.ev rfl)) ?_; clear hF; intro a hF
  refine wpList_nil ?_
  refine wp_seq ?_
  refine wp_seq ?_
  refine wp_region_lit ?_
  refine op_val (v := .int .i64 p102) rfl rfl hF rfl (run_move rfl (hF.ev rfl)) ?_; clear hF; intro a hF
  refine op_val (v := .bool (ltB p102 0)) rfl rfl hF rfl (run_lss (hF.ev rfl) rfl rfl) ?_; clear hF; intro a hF
  refine wpList_nil ?_
  cases hc103 : (ltB p102 0)
  · replace hM := bif_f hc103 hM
    refine cond_f hF rfl hc103 ?_
    refine wp_skip ?_
    refine wp_seq ?_
    refine wp_region_lit ?_
    refine op_val (v := .slice A3 x3.length c3) rfl rfl hF rfl (run_move rfl (hF.ev rfl)) ?_; clear hF; intro a hF
    refine op_val (v := .int .i64 p102) rfl rfl hF rfl (run_move rfl (hF.ev rfl)) ?_; clear hF; intro a hF
    obtain ⟨p104, h104, hM⟩ := bind_ex hM
    refine op_call rfl rfl hF rfl (run_call (vs := [.slice A3 x3.length c3, .int .i64 p102]) rfl rfl co16 ⟨(hF.ev rfl), (hF.ev rfl), trivial⟩) (c_laws_szRoomDeedS (x0 := x3) (x1 := p102) ⟨(S.rc0 h3.rc), rfl⟩ h104) ?_
    rintro e u ⟨rfl, T⟩
    refine ⟨_, rfl, ?_⟩
    clear hF; intro a hF
    replace S := S.call0 T; clear T
    refine op_val (v := .int .i64 p104) rfl rfl hF rfl (run_assign rfl (hF.ev rfl)) ?_; clear hF; intro a hF
    refine wpList_nil ?_
    refine wp_seq ?_
    refine wp_seq ?_
    refine wp_region_lit ?_
    refine op_val (v := .int .i64 p104) rfl rfl hF rfl (run_move rfl (hF.ev rfl)) ?_; clear hF; intro a hF
    refine op_val (v := .bool (ltB p104 0)) rfl rfl hF rfl (run_lss (hF.ev rfl) rfl rfl) ?_; clear hF; intro a hF
    refine wpList_nil ?_
    cases hc105 : (ltB p104 0)
    · replace hM := bif_f hc105 hM
      refine cond_f hF rfl hc105 ?_
      refine wp_skip ?_
      refine wp_seq ?_
      refine wp_region_lit ?_
      refine op_val (v := .agg #[.int .i64 x0, .int .i64 x1, .slice A2 x2.length c2]) rfl rfl hF rfl (run_loadN rfl ag24 (hF.ev rfl) rfl ((S.free 0 rfl).cells 0 #[.int .i64 x0, .int .i64 x1, .slice A2 x2.length c2] rfl)) ?_; clear hF; intro a hF
      obtain ⟨p106, h106, hM⟩ := bind_ex hM
      refine op_call rfl rfl hF rfl (run_call (vs := [.agg #[.int .i64 x0, .int .i64 x1, .slice A2 x2.length c2]]) rfl rfl co8 ⟨(hF.ev rfl), trivial⟩) (c_laws_toRooms (x0 := x0) (x1 := x1) (x2 := x2) ⟨(S.rc0 h2.rc), rfl⟩ h106) ?_
      rintro e u ⟨B107, n108, d109, rfl, rfl, T⟩
      refine ⟨_, rfl, ?_⟩
      clear hF; intro a hF
      replace S := S.call1 T; clear T
      refine op_val (v := .slice A3 x3.length c3) rfl rfl hF rfl (run_move rfl (hF.ev rfl)) ?_; clear hF; intro a hF
      obtain ⟨p110, h110, hM⟩ := bind_ex hM
      refine op_call rfl rfl hF rfl (run_call (vs := [.slice A3 x3.length c3]) rfl rfl co18 ⟨(hF.ev rfl), trivial⟩) (c_laws_toRoomDeedS (x0 := x3) ⟨(S.rc0 h3.rc), rfl⟩ h110) ?_
      rintro e u ⟨B111, n112, d113, rfl, rfl, T⟩
      refine ⟨_, rfl, ?_⟩
      clear hF; intro a hF
      replace S := S.call1 T; clear T
      obtain ⟨p114, h114, hM⟩ := bind_ex hM
      refine op_call rfl rfl hF rfl (run_call (vs := [.agg #[.int .i64 p106.1, .int .i64 p106.2.1, .slice B107 p106.2.2.length d109], .slice B111 p110.length d113]) rfl rfl co17 ⟨(hF.ev rfl), (hF.ev rfl), trivial⟩) (c_spec_RoomsRun (x0 := p106.1) (x1 := p106.2.1) (x2 := p106.2.2) (x3 := p110) ⟨(S.rc 1 rfl), rfl⟩ ⟨(S.rc 0 rfl), rfl⟩ h114) ?_
      rintro e u ⟨B115, n116, d117, rfl, rfl, T⟩
      refine ⟨_, rfl, ?_⟩
      clear hF; intro a hF
      replace S := S.call1 T; clear T
      refine op_new (cs := #[.int .i64 0, .int .i64 0, .slice none 0 0]) rfl rfl hF rfl S (run_allocZ rfl zr28) ?_; clear hF S; intro a g118 u hF S
      refine op_do rfl rfl (run_store (cs' := #[.int .i64 p114.1, .int .i64 p114.2.1, .slice B115 p114.2.2.length d117]) rfl sz28 (hF.ev rfl) (hF.ev rfl) rfl rfl rfl (S.free 0 rfl) rfl rfl) ?_; replace S := S.put 0 rfl (#[.int .i64 p114.1, .int .i64 p114.2.1, .slice B115 p114.2.2.length d117])
      generalize World.setRow _ _ _ = u at S ⊢
      refine wpList_nil ?_
      refine wp_seq ?_
      refine wp_region_lit ?_
      refine op_val (v := .agg #[.int .i64 x0, .int .i64 x1, .slice A2 x2.length c2]) rfl rfl hF rfl (run_loadN rfl ag24 (hF.ev rfl) rfl ((S.free 4 rfl).cells 0 #[.int .i64 x0, .int .i64 x1, .slice A2 x2.length c2] rfl)) ?_; clear hF; intro a hF
      obtain ⟨p119, h119, hM⟩ := bind_ex hM
      refine op_call rfl rfl hF rfl (run_call (vs := [.agg #[.int .i64 x0, .int .i64 x1, .slice A2 x2.length c2]]) rfl rfl co8 ⟨(hF.ev rfl), trivial⟩) (c_laws_toRooms (x0 := x0) (x1 := x1) (x2 := x2) ⟨(S.rc0 h2.rc), rfl⟩ h119) ?_
      rintro e u ⟨B120, n121, d122, rfl, rfl, T⟩
      refine ⟨_, rfl, ?_⟩
      clear hF; intro a hF
      replace S := S.call1 T; clear T
      refine op_new (cs := #[.int .i64 0, .int .i64 0, .slice none 0 0]) rfl rfl hF rfl S (run_allocZ rfl zr28) ?_; clear hF S; intro a g123 u hF S
      refine op_do rfl rfl (run_store (cs' := #[.int .i64 p119.1, .int .i64 p119.2.1, .slice B120 p119.2.2.length d122]) rfl sz28 (hF.ev rfl) (hF.ev rfl) rfl rfl rfl (S.free 0 rfl) rfl rfl) ?_; replace S := S.put 0 rfl (#[.int .i64 p119.1, .int .i64 p119.2.1, .slice B120 p119.2.2.length d122])
      generalize World.setRow _ _ _ = u at S ⊢
      refine wpList_nil ?_
      refine wp_seq ?_
      refine wp_region_lit ?_
      refine op_val (v := .slice A3 x3.length c3) rfl rfl hF rfl (run_move rfl (hF.ev rfl)) ?_; clear hF; intro a hF
      obtain ⟨p124, h124, hM⟩ := bind_ex hM
      refine op_call rfl rfl hF rfl (run_call (vs := [.slice A3 x3.length c3]) rfl rfl co18 ⟨(hF.ev rfl), trivial⟩) (c_laws_toRoomDeedS (x0 := x3) ⟨(S.rc0 h3.rc), rfl⟩ h124) ?_
      rintro e u ⟨B125, n126, d127, rfl, rfl, T⟩
      refine ⟨_, rfl, ?_⟩
      clear hF; intro a hF
      replace S := S.call1 T; clear T
      refine op_val (v := .slice B125 p124.length d127) rfl rfl hF rfl (run_assign rfl (hF.ev rfl)) ?_; clear hF; intro a hF
      refine wpList_nil ?_
      refine wp_seq ?_
      refine wp_region_lit ?_
      refine op_val (v := .agg #[.int .i64 p119.1, .int .i64 p119.2.1, .slice B120 p119.2.2.length d122]) rfl rfl hF rfl (run_loadN rfl ag28 (hF.ev rfl) rfl ((S.free 1 rfl).cells 0 #[.int .i64 p119.1, .int .i64 p119.2.1, .slice B120 p119.2.2.length d122] rfl)) ?_; clear hF; intro a hF
      refine op_val (v := .slice B125 p124.length d127) rfl rfl hF rfl (run_move rfl (hF.ev rfl)) ?_; clear hF; intro a hF
      obtain ⟨p128, h128, hM⟩ := bind_ex hM
      refine op_call rfl rfl hF rfl (run_call (vs := [.agg #[.int .i64 p119.1, .int .i64 p119.2.1, .slice B120 p119.2.2.length d122], .slice B125 p124.length d127]) rfl rfl co19 ⟨(hF.ev rfl), (hF.ev rfl), trivial⟩) (c_impl_RoomsRun (x0 := p119.1) (x1 := p119.2.1) (x2 := p119.2.2) (x3 := p124) ⟨(S.rc 2 rfl), rfl⟩ ⟨(S.rc 0 rfl), rfl⟩ h128) ?_
      rintro e u ⟨B129, n130, d131, rfl, rfl, T⟩
      refine ⟨_, rfl, ?_⟩
      clear hF; intro a hF
      replace S := S.call1 T; clear T
      refine op_new (cs := #[.int .i64 0, .int .i64 0, .slice none 0 0]) rfl rfl hF rfl S (run_allocZ rfl zr28) ?_; clear hF S; intro a g132 u hF S
      refine op_do rfl rfl (run_store (cs' := #[.int .i64 p128.1, .int .i64 p128.2.1, .slice B129 p128.2.2.length d131]) rfl sz28 (hF.ev rfl) (hF.ev rfl) rfl rfl rfl (S.free 0 rfl) rfl rfl) ?_; replace S := S.put 0 rfl (#[.int .i64 p128.1, .int .i64 p128.2.1, .slice B129 p128.2.2.length d131])
      generalize World.setRow _ _ _ = u at S ⊢
      refine wpList_nil ?_
      refine wp_seq ?_
      refine wp_seq ?_
      refine wp_region_lit ?_
      refine op_val (v := .agg #[.int .i64 p128.1, .int .i64 p128.2.1, .slice B129 p128.2.2.length d131]) rfl rfl hF rfl (run_loadN rfl ag28 (hF.ev rfl) rfl ((S.free 0 rfl).cells 0 #[.int .i64 p128.1, .int .i64 p128.2.1, .slice B129 p128.2.2.length d131] rfl)) ?_; clear hF; intro a hF
      refine op_val (v := .agg #[.int .i64 p114.1, .int .i64 p114.2.1, .slice B115 p114.2.2.length d117]) rfl rfl hF rfl (run_loadN rfl ag28 (hF.ev rfl) rfl ((S.free 5 rfl).cells 0 #[.int .i64 p114.1, .int .i64 p114.2.1, .slice B115 p114.2.2.length d117] rfl)) ?_; clear hF; intro a hF
      obtain ⟨p133, h133, hM⟩ := bind_ex hM
      refine op_call rfl rfl hF rfl (run_call (vs := [.agg #[.int .i64 p128.1, .int .i64 p128.2.1, .slice B129 p128.2.2.length d131], .agg #[.int .i64 p114.1, .int .i64 p114.2.1, .slice B115 p114.2.2.length d117]]) rfl rfl co11 ⟨(hF.ev rfl), (hF.ev rfl), trivial⟩) (c_laws_eqRooms (x0 := p128.1) (x1 := p128.2.1) (x2 := p128.2.2) (x3 := p114.1) (x4 := p114.2.1) (x5 := p114.2.2) ⟨(S.rc 1 rfl), rfl⟩ ⟨(S.rc 6 rfl), rfl⟩ h133) ?_
      rintro e u ⟨rfl, T⟩
      refine ⟨_, rfl, ?_⟩
      clear hF; intro a hF
      replace S := S.call0 T; clear T
      refine op_val (v := .bool (!p133)) rfl rfl hF rfl (run_not rfl (hF.ev rfl)) ?_; clear hF; intro a hF
      refine wpList_nil ?_
      cases hc134 : (p133)
      · replace hM := bif_f hc134 hM
        refine cond_t hF rfl (not_t hc134) ?_
        refine wp_seq ?_
        refine wp_region_lit ?_
        refine op_val (v := .bool false) rfl rfl hF rfl (run_assign rfl rfl) ?_; clear hF; intro a hF
        refine wpList_nil ?_
        refine wp_ret ?_
        repeat with_reducible (first | refine then_ret ?_ | refine in_ret ?_ | refine in_nrm ?_)
        refine ret1_gw (.inl rfl) hF rfl (res_tmp (hF.ev rfl)) ?_
        obtain rfl := Option.some.inj hM
        exact ⟨rfl, S.sel [] rfl rfl⟩
      · replace hM := bif_t hc134 hM
        refine cond_f hF rfl (not_f hc134) ?_
        refine wp_skip ?_
        refine wp_seq ?_
        refine wp_seq ?_
        obtain ⟨p135, h135, hM⟩ := bind_ex hM
        obtain ⟨p139, h139, hM⟩ := bind_ex hM
        refine region_gw (D := [40, 41, 42, 43, 44]) (Lr := [.box g132 28 #[.int .i64 p128.1, .int .i64 p128.2.1, .slice B129 p128.2.2.length d131], .row 3 1 (.slice B129 p128.2.2.length d131) p128.2.2.length (p128.2.2.flatMap eI), .row 32 3 (.slice B125 p124.length d127) p124.length (p124.flatMap eRoomDeed), .box g123 28 #[.int .i64 p119.1, .int .i64 p119.2.1, .slice B120 p119.2.2.length d122], .row 3 1 (.slice B120 p119.2.2.length d122) p119.2.2.length (p119.2.2.flatMap eI), .box g118 28 #[.int .i64 p114.1, .int .i64 p114.2.1, .slice B115 p114.2.2.length d117], .row 3 1 (.slice B115 p114.2.2.length d117) p114.2.2.length (p114.2.2.flatMap eI), .row 32 3 (.slice B111 p110.length d113) p110.length (p110.flatMap eRoomDeed), .row 3 1 (.slice B107 p106.2.2.length d109) p106.2.2.length (p106.2.2.flatMap eI), .box g101 24 #[.int .i64 x0, .int .i64 x1, .slice A2 x2.length c2]]) (deps := (fun | 0 => [40] | 1 => [41] | 2 => [42] | 3 => [43] | 4 => [44] | _ => [])) (rd := (fun | 3 => [2] | _ => [])) (zr := (fun _ => []))
          (φ := fun i vs => match i, vs with | 0, [v40] => v40 = .agg #[.int .i64 p119.1, .int .i64 p119.2.1, .slice B120 p119.2.2.length d122] | 1, [v41] => v41 = .agg #[.int .i64 x0, .int .i64 x1, .slice A2 x2.length c2] | 2, [v42] => v42 = .agg #[.int .i64 p135.1, .int .i64 p135.2.1, .slice (slA (vtup v42 2)) p135.2.2.length (slC (vtup v42 2))] | 3, [v43] => v43 = .bool p139 | 4, [v44] => v44 = .bool (!p139) | _, _ => True)
          (C := fun i vs => match i, vs with | 2, [v42] => [.row 3 1 (.slice (slA (vtup v42 2)) p135.2.2.length (slC (vtup v42 2))) p135.2.2.length (p135.2.2.flatMap eI)] | _, _ => [])
          (κ := (fun _ => none)) (Z := (fun _ => [])) mixed hF (by kernel_rfl) S ?_ ?_
        · refine ⟨?_, ?_, ?_, ?_, ?_, trivial⟩
          · intro a u X hB hp hr hz hl S
            replace S : St w u ([] ++ X) := S
            exact .inl ⟨rfl, .agg #[.int .i64 p119.1, .int .i64 p119.2.1, .slice B120 p119.2.2.length d122], u, (run_loadN rfl ag28 (hF.evB hB rfl rfl) rfl ((gr_box S hl 3 rfl).cells 0 #[.int .i64 p119.1, .int .i64 p119.2.1, .slice B120 p119.2.2.length d122] rfl)), rfl, S⟩
          · intro a u X hB hp hr hz hl S
            replace S : St w u ([] ++ X) := S
            exact .inl ⟨rfl, .agg #[.int .i64 x0, .int .i64 x1, .slice A2 x2.length c2], u, (run_loadN rfl ag24 (hF.evB hB rfl rfl) rfl ((gr_box S hl 9 rfl).cells 0 #[.int .i64 x0, .int .i64 x1, .slice A2 x2.length c2] rfl)), rfl, S⟩
          · intro a u X hB hp hr hz hl S
            replace S : St w u ([] ++ X) := S
            have e41 : sl a 41 = .agg #[.int .i64 x0, .int .i64 x1, .slice A2 x2.length c2] := hp 1 rfl
            refine .inr (.inr (.inl ⟨rfl, _, _, (run_call (vs := [.agg #[.int .i64 x0, .int .i64 x1, .slice A2 x2.length c2]]) rfl rfl co8 ⟨(ev_sl e41), trivial⟩), ?_⟩))
            refine Calls.mono (c_laws_toRooms (x0 := x0) (x1 := x1) (x2 := x2) ⟨(S.rc0 h2.rc), rfl⟩ h135) ?_
            rintro e w1 ⟨B136, n137, d138, rfl, rfl, T⟩
            exact ⟨_, rfl, rfl, S.call1 T⟩
          · intro a u X hB hp hr hz hl S
            replace S : St w u ([] ++ X) := S
            have e40 : sl a 40 = .agg #[.int .i64 p119.1, .int .i64 p119.2.1, .slice B120 p119.2.2.length d122] := hp 0 rfl
            have e42 : sl a 42 = .agg #[.int .i64 p135.1, .int .i64 p135.2.1, .slice (slA (vtup (sl a 42) 2)) p135.2.2.length (slC (vtup (sl a 42) 2))] := hp 2 rfl
            refine .inr (.inr (.inl ⟨rfl, _, _, (run_call (vs := [.agg #[.int .i64 p119.1, .int .i64 p119.2.1, .slice B120 p119.2.2.length d122], .agg #[.int .i64 p135.1, .int .i64 p135.2.1, .slice (slA (vtup (sl a 42) 2)) p135.2.2.length (slC (vtup (sl a 42) 2))]]) rfl rfl co11 ⟨(ev_sl e40), (ev_sl e42), trivial⟩), ?_⟩))
            refine Calls.mono (c_laws_eqRooms (x0 := p119.1) (x1 := p119.2.1) (x2 := p119.2.2) (x3 := p135.1) (x4 := p135.2.1) (x5 := p135.2.2) ⟨(gr_rc S hl 4 rfl), rfl⟩ ⟨(own_rc (show World.ownsRow _ 0 _ _ _ _ _ from S.mem (List.mem_append_right _ (hr 2 (List.mem_of_getElem? (i := 0) rfl) _ (List.mem_of_getElem? (i := 0) rfl))))), rfl⟩ h139) ?_
            rintro e w1 ⟨rfl, T⟩
            exact ⟨_, rfl, rfl, S.call0 T⟩
          · intro a u X hB hp hr hz hl S
            replace S : St w u ([] ++ X) := S
            have e43 : sl a 43 = .bool p139 := hp 3 rfl
            exact .inl ⟨rfl, .bool (!p139), u, (run_not rfl (ev_sl e43)), rfl, S⟩
        · intro a u hB hp S
          obtain ⟨q0, q1, q2, q3, q4, _⟩ := hp
          have e40 : sl a 40 = .agg #[.int .i64 p119.1, .int .i64 p119.2.1, .slice B120 p119.2.2.length d122] := q0
          have e41 : sl a 41 = .agg #[.int .i64 x0, .int .i64 x1, .slice A2 x2.length c2] := q1
          have e42 : sl a 42 = .agg #[.int .i64 p135.1, .int .i64 p135.2.1, .slice (slA (vtup (sl a 42) 2)) p135.2.2.length (slC (vtup (sl a 42) 2))] := q2
          have e43 : sl a 43 = .bool p139 := q3
          have e44 : sl a 44 = .bool (!p139) := q4
          replace S : St w u [.row 3 1 (.slice (slA (vtup (sl a 42) 2)) p135.2.2.length (slC (vtup (sl a 42) 2))) p135.2.2.length (p135.2.2.flatMap eI), .box g132 28 #[.int .i64 p128.1, .int .i64 p128.2.1, .slice B129 p128.2.2.length d131], .row 3 1 (.slice B129 p128.2.2.length d131) p128.2.2.length (p128.2.2.flatMap eI), .row 32 3 (.slice B125 p124.length d127) p124.length (p124.flatMap eRoomDeed), .box g123 28 #[.int .i64 p119.1, .int .i64 p119.2.1, .slice B120 p119.2.2.length d122], .row 3 1 (.slice B120 p119.2.2.length d122) p119.2.2.length (p119.2.2.flatMap eI), .box g118 28 #[.int .i64 p114.1, .int .i64 p114.2.1, .slice B115 p114.2.2.length d117], .row 3 1 (.slice B115 p114.2.2.length d117) p114.2.2.length (p114.2.2.flatMap eI), .row 32 3 (.slice B111 p110.length d113) p110.length (p110.flatMap eRoomDeed), .row 3 1 (.slice B107 p106.2.2.length d109) p106.2.2.length (p106.2.2.flatMap eI), .box g101 24 #[.int .i64 x0, .int .i64 x1, .slice A2 x2.length c2]] := S
          clear q0 q1 q2 q3 q4
          generalize slA (vtup (sl a 42) 2) = B140 at *
          generalize slC (vtup (sl a 42) 2) = d141 at *
          have hF := hF.region hB [(40, .agg #[.int .i64 p119.1, .int .i64 p119.2.1, .slice B120 p119.2.2.length d122]), (41, .agg #[.int .i64 x0, .int .i64 x1, .slice A2 x2.length c2]), (42, .agg #[.int .i64 p135.1, .int .i64 p135.2.1, .slice B140 p135.2.2.length d141]), (43, .bool p139), (44, .bool (!p139))] (allSl_mem ⟨e40, e41, e42, e43, e44, trivial⟩) rfl
          clear hB e40 e41 e42 e43 e44
          cases hc142 : (p139)
          · replace hM := bif_f hc142 hM
            refine cond_t hF rfl (not_t hc142) ?_
            refine wp_seq ?_
            refine wp_region_lit ?_
            refine op_val (v := .bool false) rfl rfl hF rfl (run_assign rfl rfl) ?_; clear hF; intro a hF
            refine wpList_nil ?_
            refine wp_ret ?_
            repeat with_reducible (first | refine then_ret ?_ | refine in_ret ?_ | refine in_nrm ?_)
            refine ret1_gw (.inl rfl) hF rfl (res_tmp (hF.ev rfl)) ?_
            obtain rfl := Option.some.inj hM
            exact ⟨rfl, S.sel [] rfl rfl⟩
          · replace hM := bif_t hc142 hM
            refine cond_f hF rfl (not_f hc142) ?_
            refine wp_skip ?_
            refine wp_seq ?_
            refine wp_seq ?_
            refine wp_region_lit ?_
            refine op_val (v := .slice B125 p124.length d127) rfl rfl hF rfl (run_move rfl (hF.ev rfl)) ?_; clear hF; intro a hF
            refine op_val (v := .slice A3 x3.length c3) rfl rfl hF rfl (run_move rfl (hF.ev rfl)) ?_; clear hF; intro a hF
            obtain ⟨p143, h143, hM⟩ := bind_ex hM
            refine op_call rfl rfl hF rfl (run_call (vs := [.slice A3 x3.length c3]) rfl rfl co18 ⟨(hF.ev rfl), trivial⟩) (c_laws_toRoomDeedS (x0 := x3) ⟨(S.rc0 h3.rc), rfl⟩ h143) ?_
            rintro e u ⟨B144, n145, d146, rfl, rfl, T⟩
            refine ⟨_, rfl, ?_⟩
            clear hF; intro a hF
            replace S := S.call1 T; clear T
            obtain ⟨p147, h147, hM⟩ := bind_ex hM
            refine op_call rfl rfl hF rfl (run_call (vs := [.slice B125 p124.length d127, .slice B144 p143.length d146]) rfl rfl co20 ⟨(hF.ev rfl), (hF.ev rfl), trivial⟩) (c_laws_eqRoomDeedS (x0 := p124) (x1 := p143) ⟨(S.rc 4 rfl), rfl⟩ ⟨(S.rc 0 rfl), rfl⟩ h147) ?_
            rintro e u ⟨rfl, T⟩
            refine ⟨_, rfl, ?_⟩
            clear hF; intro a hF
            replace S := S.call0 T; clear T
            refine op_val (v := .bool (!p147)) rfl rfl hF rfl (run_not rfl (hF.ev rfl)) ?_; clear hF; intro a hF
            refine wpList_nil ?_
            cases hc148 : (p147)
            · replace hM := bif_f hc148 hM
              refine cond_t hF rfl (not_t hc148) ?_
              refine wp_seq ?_
              refine wp_region_lit ?_
              refine op_val (v := .bool false) rfl rfl hF rfl (run_assign rfl rfl) ?_; clear hF; intro a hF
              refine wpList_nil ?_
              refine wp_ret ?_
              repeat with_reducible (first | refine then_ret ?_ | refine in_ret ?_ | refine in_nrm ?_)
              refine ret1_gw (.inl rfl) hF rfl (res_tmp (hF.ev rfl)) ?_
              obtain rfl := Option.some.inj hM
              exact ⟨rfl, S.sel [] rfl rfl⟩
            · replace hM := bif_t hc148 hM
              refine cond_f hF rfl (not_f hc148) ?_
              refine wp_skip ?_
              refine wp_seq ?_
              refine wp_region_lit ?_
              refine op_val (v := .int .i64 1) rfl rfl hF rfl (run_assign rfl rfl) ?_; clear hF; intro a hF
              refine wpList_nil ?_
              refine wp_seq ?_
              refine wp_region_lit ?_
              refine op_val (v := .agg #[.int .i64 p119.1, .int .i64 p119.2.1, .slice B120 p119.2.2.length d122]) rfl rfl hF rfl (run_loadN rfl ag28 (hF.ev rfl) rfl ((S.free 5 rfl).cells 0 #[.int .i64 p119.1, .int .i64 p119.2.1, .slice B120 p119.2.2.length d122] rfl)) ?_; clear hF; intro a hF
              refine op_val (v := .int .i64 1) rfl rfl hF rfl (run_move rfl (hF.ev rfl)) ?_; clear hF; intro a hF
              obtain ⟨p149, h149, hM⟩ := bind_ex hM
              refine op_call rfl rfl hF rfl (run_call (vs := [.agg #[.int .i64 p119.1, .int .i64 p119.2.1, .slice B120 p119.2.2.length d122], .int .i64 1]) rfl rfl co12 ⟨(hF.ev rfl), (hF.ev rfl), trivial⟩) (c_laws_markRooms (x0 := p119.1) (x1 := p119.2.1) (x2 := p119.2.2) (x3 := 1) rfl (show St w _ [.row 3 1 (.slice B120 p119.2.2.length d122) p119.2.2.length (p119.2.2.flatMap eI), .row 32 3 (.slice B144 p143.length d146) p143.length (p143.flatMap eRoomDeed), .row 3 1 (.slice B140 p135.2.2.length d141) p135.2.2.length (p135.2.2.flatMap eI), .box g132 28 #[.int .i64 p128.1, .int .i64 p128.2.1, .slice B129 p128.2.2.length d131], .row 3 1 (.slice B129 p128.2.2.length d131) p128.2.2.length (p128.2.2.flatMap eI), .row 32 3 (.slice B125 p124.length d127) p124.length (p124.flatMap eRoomDeed), .box g123 28 #[.int .i64 p119.1, .int .i64 p119.2.1, .slice B120 p119.2.2.length d122], .box g118 28 #[.int .i64 p114.1, .int .i64 p114.2.1, .slice B115 p114.2.2.length d117], .row 3 1 (.slice B115 p114.2.2.length d117) p114.2.2.length (p114.2.2.flatMap eI), .row 32 3 (.slice B111 p110.length d113) p110.length (p110.flatMap eRoomDeed), .row 3 1 (.slice B107 p106.2.2.length d109) p106.2.2.length (p106.2.2.flatMap eI), .box g101 24 #[.int .i64 x0, .int .i64 x1, .slice A2 x2.length c2]] from S.sel [6, 0, 1, 2, 3, 4, 5, 7, 8, 9, 10, 11] rfl rfl) h149) ?_
              rintro e u ⟨rfl, hn150, T⟩
              refine ⟨_, rfl, ?_⟩
              clear hF; intro a hF
              clear S; have S := T; clear T
              refine op_val (v := .int .i64 p149.1) rfl rfl hF rfl (run_assign rfl (hF.ev rfl)) ?_; clear hF; intro a hF
              refine wpList_nil ?_
              refine wp_seq ?_
              refine wp_region_lit ?_
              refine op_val (v := .slice B125 p124.length d127) rfl rfl hF rfl (run_move rfl (hF.ev rfl)) ?_; clear hF; intro a hF
              refine op_val (v := .int .i64 p149.1) rfl rfl hF rfl (run_move rfl (hF.ev rfl)) ?_; clear hF; intro a hF
              obtain ⟨p151, h151, hM⟩ := bind_ex hM
              refine op_call rfl rfl hF rfl (run_call (vs := [.slice B125 p124.length d127, .int .i64 p149.1]) rfl rfl co21 ⟨(hF.ev rfl), (hF.ev rfl), trivial⟩) (c_laws_markRoomDeedS (x0 := p124) (x1 := p149.1) rfl (show St w _ [.row 32 3 (.slice B125 p124.length d127) p124.length (p124.flatMap eRoomDeed), .row 3 1 (.slice B120 p119.2.2.length d122) p119.2.2.length (p149.2.flatMap eI), .row 32 3 (.slice B144 p143.length d146) p143.length (p143.flatMap eRoomDeed), .row 3 1 (.slice B140 p135.2.2.length d141) p135.2.2.length (p135.2.2.flatMap eI), .box g132 28 #[.int .i64 p128.1, .int .i64 p128.2.1, .slice B129 p128.2.2.length d131], .row 3 1 (.slice B129 p128.2.2.length d131) p128.2.2.length (p128.2.2.flatMap eI), .box g123 28 #[.int .i64 p119.1, .int .i64 p119.2.1, .slice B120 p119.2.2.length d122], .box g118 28 #[.int .i64 p114.1, .int .i64 p114.2.1, .slice B115 p114.2.2.length d117], .row 3 1 (.slice B115 p114.2.2.length d117) p114.2.2.length (p114.2.2.flatMap eI), .row 32 3 (.slice B111 p110.length d113) p110.length (p110.flatMap eRoomDeed), .row 3 1 (.slice B107 p106.2.2.length d109) p106.2.2.length (p106.2.2.flatMap eI), .box g101 24 #[.int .i64 x0, .int .i64 x1, .slice A2 x2.length c2]] from S.sel [5, 0, 1, 2, 3, 4, 6, 7, 8, 9, 10, 11] rfl rfl) h151) ?_
              rintro e u ⟨rfl, hn152, T⟩
              refine ⟨_, rfl, ?_⟩
              clear hF; intro a hF
              clear S; have S := T; clear T
              refine op_val (v := .int .i64 p151.1) rfl rfl hF rfl (run_assign rfl (hF.ev rfl)) ?_; clear hF; intro a hF
              refine wpList_nil ?_
              refine wp_seq ?_
              refine wp_seq ?_
              refine wp_region_lit ?_
              refine op_val (v := .int .i64 p151.1) rfl rfl hF rfl (run_move rfl (hF.ev rfl)) ?_; clear hF; intro a hF
              refine op_val (v := .bool (ltB p151.1 0)) rfl rfl hF rfl (run_lss (hF.ev rfl) rfl rfl) ?_; clear hF; intro a hF
              refine op_val (v := .bool (ltB p151.1 0)) rfl rfl hF rfl (run_move rfl (hF.ev rfl)) ?_; clear hF; intro a hF
              refine op_gv (v := .agg #[.int .i64 p128.1, .int .i64 p128.2.1, .slice B129 p128.2.2.length d131]) rfl rfl hF rfl (yf (gw_yield hF rfl rfl rfl)) (fun hg => (run_loadN rfl ag28 (hF.ev rfl) rfl ((S.free 4 rfl).cells 0 #[.int .i64 p128.1, .int .i64 p128.2.1, .slice B129 p128.2.2.length d131] rfl))) ?_; clear hF; intro a hF
              refine op_gv (v := .agg #[.int .i64 p114.1, .int .i64 p114.2.1, .slice B115 p114.2.2.length d117]) rfl rfl hF rfl (yf (gw_yield hF rfl rfl rfl)) (fun hg => (run_loadN rfl ag28 (hF.ev rfl) rfl ((S.free 7 rfl).cells 0 #[.int .i64 p114.1, .int .i64 p114.2.1, .slice B115 p114.2.2.length d117] rfl))) ?_; clear hF; intro a hF
              obtain ⟨p153, h153, hM⟩ := bind_ex hM
              refine op_gcall (v := .bool p153) rfl rfl hF rfl S (yf (gw_yield hF rfl rfl rfl)) (fun hg => (run_call (vs := [.agg #[.int .i64 p128.1, .int .i64 p128.2.1, .slice B129 p128.2.2.length d131], .agg #[.int .i64 p114.1, .int .i64 p114.2.1, .slice B115 p114.2.2.length d117]]) rfl rfl co11 ⟨((hF.ev rfl).trans (gv_t hg)), ((hF.ev rfl).trans (gv_t hg)), trivial⟩)) (fun hg => c_laws_eqRooms (x0 := p128.1) (x1 := p128.2.1) (x2 := p128.2.2) (x3 := p114.1) (x4 := p114.2.1) (x5 := p114.2.2) ⟨(S.rc 5 rfl), rfl⟩ ⟨(S.rc 8 rfl), rfl⟩ (gb_t h153 hg)) ?_; clear hF S; intro a u hF S
              refine op_gv (v := .bool (!p153)) rfl rfl hF rfl (yf (gw_yield hF rfl rfl rfl)) (fun hg => (run_not rfl ((hF.ev rfl).trans (gv_t hg)))) ?_; clear hF; intro a hF
              refine op_val (v := .bool ((ltB p151.1 0) || (!p153))) rfl rfl hF rfl (run_pick_or rfl (hF.ev rfl) rfl (fun hp => ((hF.ev rfl).trans (gv_t (not_t hp))))) ?_; clear hF; intro a hF
              refine wpList_nil ?_
              cases hc154 : ((ltB p151.1 0) || (!p153))
              · replace hM := bif_f hc154 hM
                refine cond_f hF rfl hc154 ?_
                refine wp_skip ?_
                refine wp_seq ?_
                refine wp_region_lit ?_
                refine op_val (v := .int .i64 1) rfl rfl hF rfl (run_assign rfl rfl) ?_; clear hF; intro a hF
                refine wpList_nil ?_
                refine wp_seq ?_
                refine wp_region_lit ?_
                refine op_val (v := .agg #[.int .i64 p128.1, .int .i64 p128.2.1, .slice B129 p128.2.2.length d131]) rfl rfl hF rfl (run_loadN rfl ag28 (hF.ev rfl) rfl ((S.free 4 rfl).cells 0 #[.int .i64 p128.1, .int .i64 p128.2.1, .slice B129 p128.2.2.length d131] rfl)) ?_; clear hF; intro a hF
                refine op_val (v := .int .i64 1) rfl rfl hF rfl (run_move rfl (hF.ev rfl)) ?_; clear hF; intro a hF
                obtain ⟨p155, h155, hM⟩ := bind_ex hM
                refine op_call rfl rfl hF rfl (run_call (vs := [.agg #[.int .i64 p128.1, .int .i64 p128.2.1, .slice B129 p128.2.2.length d131], .int .i64 1]) rfl rfl co12 ⟨(hF.ev rfl), (hF.ev rfl), trivial⟩) (c_laws_markRooms (x0 := p128.1) (x1 := p128.2.1) (x2 := p128.2.2) (x3 := 1) rfl (show St w _ [.row 3 1 (.slice B129 p128.2.2.length d131) p128.2.2.length (p128.2.2.flatMap eI), .row 32 3 (.slice B125 p124.length d127) p124.length (p151.2.flatMap eRoomDeed), .row 3 1 (.slice B120 p119.2.2.length d122) p119.2.2.length (p149.2.flatMap eI), .row 32 3 (.slice B144 p143.length d146) p143.length (p143.flatMap eRoomDeed), .row 3 1 (.slice B140 p135.2.2.length d141) p135.2.2.length (p135.2.2.flatMap eI), .box g132 28 #[.int .i64 p128.1, .int .i64 p128.2.1, .slice B129 p128.2.2.length d131], .box g123 28 #[.int .i64 p119.1, .int .i64 p119.2.1, .slice B120 p119.2.2.length d122], .box g118 28 #[.int .i64 p114.1, .int .i64 p114.2.1, .slice B115 p114.2.2.length d117], .row 3 1 (.slice B115 p114.2.2.length d117) p114.2.2.length (p114.2.2.flatMap eI), .row 32 3 (.slice B111 p110.length d113) p110.length (p110.flatMap eRoomDeed), .row 3 1 (.slice B107 p106.2.2.length d109) p106.2.2.length (p106.2.2.flatMap eI), .box g101 24 #[.int .i64 x0, .int .i64 x1, .slice A2 x2.length c2]] from S.sel [5, 0, 1, 2, 3, 4, 6, 7, 8, 9, 10, 11] rfl rfl) h155) ?_
                rintro e u ⟨rfl, hn156, T⟩
                refine ⟨_, rfl, ?_⟩
                clear hF; intro a hF
                clear S; have S := T; clear T
                refine op_val (v := .int .i64 p155.1) rfl rfl hF rfl (run_assign rfl (hF.ev rfl)) ?_; clear hF; intro a hF
                refine wpList_nil ?_
                refine wp_seq ?_
                refine wp_region_lit ?_
                refine op_val (v := .int .i64 1) rfl rfl hF rfl (run_assign rfl rfl) ?_; clear hF; intro a hF
                refine wpList_nil ?_
                refine wp_seq ?_
                refine wp_region_lit ?_
                refine op_val (v := .agg #[.int .i64 p128.1, .int .i64 p128.2.1, .slice B129 p128.2.2.length d131]) rfl rfl hF rfl (run_loadN rfl ag28 (hF.ev rfl) rfl ((S.free 5 rfl).cells 0 #[.int .i64 p128.1, .int .i64 p128.2.1, .slice B129 p128.2.2.length d131] rfl)) ?_; clear hF; intro a hF
                refine op_val (v := .int .i64 1) rfl rfl hF rfl (run_move rfl (hF.ev rfl)) ?_; clear hF; intro a hF
                obtain ⟨p157, h157, hM⟩ := bind_ex hM
                refine op_call rfl rfl hF rfl (run_call (vs := [.agg #[.int .i64 p128.1, .int .i64 p128.2.1, .slice B129 p128.2.2.length d131], .int .i64 1]) rfl rfl co13 ⟨(hF.ev rfl), (hF.ev rfl), trivial⟩) (c_laws_heldRooms (x0 := p128.1) (x1 := p128.2.1) (x2 := p155.2) (x3 := 1) ⟨(S.rc 0 rfl), hn156⟩ h157) ?_
                rintro e u ⟨rfl, T⟩
                refine ⟨_, rfl, ?_⟩
                clear hF; intro a hF
                replace S := S.call0 T; clear T
                refine op_val (v := .int .i64 p157) rfl rfl hF rfl (run_assign rfl (hF.ev rfl)) ?_; clear hF; intro a hF
                refine wpList_nil ?_
                refine wp_seq ?_
                refine wp_seq ?_
                refine wp_region_lit ?_
                refine op_val (v := .int .i64 p157) rfl rfl hF rfl (run_move rfl (hF.ev rfl)) ?_; clear hF; intro a hF
                refine op_val (v := .bool (ltB p157 0)) rfl rfl hF rfl (run_lss (hF.ev rfl) rfl rfl) ?_; clear hF; intro a hF
                refine wpList_nil ?_
                cases hc158 : (ltB p157 0)
                · replace hM := bif_f hc158 hM
                  refine cond_f hF rfl hc158 ?_
                  refine wp_skip ?_
                  refine wp_seq ?_
                  refine wp_seq ?_
                  refine wp_region_lit ?_
                  refine op_val (v := .int .i64 p157) rfl rfl hF rfl (run_move rfl (hF.ev rfl)) ?_; clear hF; intro a hF
                  refine op_val (v := .int .i64 p155.1) rfl rfl hF rfl (run_move rfl (hF.ev rfl)) ?_; clear hF; intro a hF
                  refine op_val (v := .bool (p157 != p155.1)) rfl rfl hF rfl (run_neq (hF.ev rfl) (hF.ev rfl) rfl) ?_; clear hF; intro a hF
                  refine wpList_nil ?_
                  cases hc159 : (p157 != p155.1)
                  · replace hM := bif_f hc159 hM
                    refine cond_f hF rfl hc159 ?_
                    refine wp_skip ?_
                    refine wp_seq ?_
                    refine wp_region_lit ?_
                    refine op_val (v := .agg #[.int .i64 x0, .int .i64 x1, .slice A2 x2.length c2]) rfl rfl hF rfl (run_loadN rfl ag24 (hF.ev rfl) rfl ((S.free 11 rfl).cells 0 #[.int .i64 x0, .int .i64 x1, .slice A2 x2.length c2] rfl)) ?_; clear hF; intro a hF
                    obtain ⟨p160, h160, hM⟩ := bind_ex hM
                    refine op_call rfl rfl hF rfl (run_call (vs := [.agg #[.int .i64 x0, .int .i64 x1, .slice A2 x2.length c2]]) rfl rfl co8 ⟨(hF.ev rfl), trivial⟩) (c_laws_toRooms (x0 := x0) (x1 := x1) (x2 := x2) ⟨(S.rc0 h2.rc), rfl⟩ h160) ?_
                    rintro e u ⟨B161, n162, d163, rfl, rfl, T⟩
                    refine ⟨_, rfl, ?_⟩
                    clear hF; intro a hF
                    replace S := S.call1 T; clear T
                    refine op_val (v := .slice A3 x3.length c3) rfl rfl hF rfl (run_move rfl (hF.ev rfl)) ?_; clear hF; intro a hF
                    obtain ⟨p164, h164, hM⟩ := bind_ex hM
                    refine op_call rfl rfl hF rfl (run_call (vs := [.slice A3 x3.length c3]) rfl rfl co18 ⟨(hF.ev rfl), trivial⟩) (c_laws_toRoomDeedS (x0 := x3) ⟨(S.rc0 h3.rc), rfl⟩ h164) ?_
                    rintro e u ⟨B165, n166, d167, rfl, rfl, T⟩
                    refine ⟨_, rfl, ?_⟩
                    clear hF; intro a hF
                    replace S := S.call1 T; clear T
                    obtain ⟨p168, h168, hM⟩ := bind_ex hM
                    refine op_call rfl rfl hF rfl (run_call (vs := [.agg #[.int .i64 p160.1, .int .i64 p160.2.1, .slice B161 p160.2.2.length d163], .slice B165 p164.length d167]) rfl rfl co19 ⟨(hF.ev rfl), (hF.ev rfl), trivial⟩) (c_impl_RoomsRun (x0 := p160.1) (x1 := p160.2.1) (x2 := p160.2.2) (x3 := p164) ⟨(S.rc 1 rfl), rfl⟩ ⟨(S.rc 0 rfl), rfl⟩ h168) ?_
                    rintro e u ⟨B169, n170, d171, rfl, rfl, T⟩
                    refine ⟨_, rfl, ?_⟩
                    clear hF; intro a hF
                    replace S := S.call1 T; clear T
                    refine op_new (cs := #[.int .i64 0, .int .i64 0, .slice none 0 0]) rfl rfl hF rfl S (run_allocZ rfl zr28) ?_; clear hF S; intro a g172 u hF S
                    refine op_do rfl rfl (run_store (cs' := #[.int .i64 p168.1, .int .i64 p168.2.1, .slice B169 p168.2.2.length d171]) rfl sz28 (hF.ev rfl) (hF.ev rfl) rfl rfl rfl (S.free 0 rfl) rfl rfl) ?_; replace S := S.put 0 rfl (#[.int .i64 p168.1, .int .i64 p168.2.1, .slice B169 p168.2.2.length d171])
                    generalize World.setRow _ _ _ = u at S ⊢
                    refine wpList_nil ?_
                    refine wp_seq ?_
                    refine wp_seq ?_
                    refine wp_region_lit ?_
                    refine op_val (v := .agg #[.int .i64 p168.1, .int .i64 p168.2.1, .slice B169 p168.2.2.length d171]) rfl rfl hF rfl (run_loadN rfl ag28 (hF.ev rfl) rfl ((S.free 0 rfl).cells 0 #[.int .i64 p168.1, .int .i64 p168.2.1, .slice B169 p168.2.2.length d171] rfl)) ?_; clear hF; intro a hF
                    refine op_val (v := .agg #[.int .i64 p114.1, .int .i64 p114.2.1, .slice B115 p114.2.2.length d117]) rfl rfl hF rfl (run_loadN rfl ag28 (hF.ev rfl) rfl ((S.free 11 rfl).cells 0 #[.int .i64 p114.1, .int .i64 p114.2.1, .slice B115 p114.2.2.length d117] rfl)) ?_; clear hF; intro a hF
                    obtain ⟨p173, h173, hM⟩ := bind_ex hM
                    refine op_call rfl rfl hF rfl (run_call (vs := [.agg #[.int .i64 p168.1, .int .i64 p168.2.1, .slice B169 p168.2.2.length d171], .agg #[.int .i64 p114.1, .int .i64 p114.2.1, .slice B115 p114.2.2.length d117]]) rfl rfl co11 ⟨(hF.ev rfl), (hF.ev rfl), trivial⟩) (c_laws_eqRooms (x0 := p168.1) (x1 := p168.2.1) (x2 := p168.2.2) (x3 := p114.1) (x4 := p114.2.1) (x5 := p114.2.2) ⟨(S.rc 1 rfl), rfl⟩ ⟨(S.rc 12 rfl), rfl⟩ h173) ?_
                    rintro e u ⟨rfl, T⟩
                    refine ⟨_, rfl, ?_⟩
                    clear hF; intro a hF
                    replace S := S.call0 T; clear T
                    refine op_val (v := .bool (!p173)) rfl rfl hF rfl (run_not rfl (hF.ev rfl)) ?_; clear hF; intro a hF
                    refine wpList_nil ?_
                    cases hc174 : (p173)
                    · replace hM := bif_f hc174 hM
                      refine cond_t hF rfl (not_t hc174) ?_
                      refine wp_seq ?_
                      refine wp_region_lit ?_
                      refine op_val (v := .bool false) rfl rfl hF rfl (run_assign rfl rfl) ?_; clear hF; intro a hF
                      refine wpList_nil ?_
                      refine wp_ret ?_
                      repeat with_reducible (first | refine then_ret ?_ | refine in_ret ?_ | refine in_nrm ?_)
                      refine ret1_gw (.inl rfl) hF rfl (res_tmp (hF.ev rfl)) ?_
                      obtain rfl := Option.some.inj hM
                      exact ⟨rfl, S.sel [] rfl rfl⟩
                    · replace hM := bif_t hc174 hM
                      refine cond_f hF rfl (not_f hc174) ?_
                      refine wp_skip ?_
                      refine wp_seq ?_
                      refine wp_region_lit ?_
                      refine op_val (v := .int .i64 1) rfl rfl hF rfl (run_assign rfl rfl) ?_; clear hF; intro a hF
                      refine wpList_nil ?_
                      refine wp_seq ?_
                      refine wp_region_lit ?_
                      refine op_val (v := .agg #[.int .i64 p128.1, .int .i64 p128.2.1, .slice B129 p128.2.2.length d131]) rfl rfl hF rfl (run_loadN rfl ag28 (hF.ev rfl) rfl ((S.free 9 rfl).cells 0 #[.int .i64 p128.1, .int .i64 p128.2.1, .slice B129 p128.2.2.length d131] rfl)) ?_; clear hF; intro a hF
                      refine op_val (v := .int .i64 1) rfl rfl hF rfl (run_move rfl (hF.ev rfl)) ?_; clear hF; intro a hF
                      obtain ⟨p175, h175, hM⟩ := bind_ex hM
                      refine op_call rfl rfl hF rfl (run_call (vs := [.agg #[.int .i64 p128.1, .int .i64 p128.2.1, .slice B129 p128.2.2.length d131], .int .i64 1]) rfl rfl co13 ⟨(hF.ev rfl), (hF.ev rfl), trivial⟩) (c_laws_heldRooms (x0 := p128.1) (x1 := p128.2.1) (x2 := p155.2) (x3 := 1) ⟨(S.rc 4 rfl), hn156⟩ h175) ?_
                      rintro e u ⟨rfl, T⟩
                      refine ⟨_, rfl, ?_⟩
                      clear hF; intro a hF
                      replace S := S.call0 T; clear T
                      refine op_val (v := .int .i64 p175) rfl rfl hF rfl (run_assign rfl (hF.ev rfl)) ?_; clear hF; intro a hF
                      refine wpList_nil ?_
                      refine wp_seq ?_
                      refine wp_seq ?_
                      refine wp_region_lit ?_
                      refine op_val (v := .int .i64 p175) rfl rfl hF rfl (run_move rfl (hF.ev rfl)) ?_; clear hF; intro a hF
                      refine op_val (v := .bool (ltB p175 0)) rfl rfl hF rfl (run_lss (hF.ev rfl) rfl rfl) ?_; clear hF; intro a hF
                      refine wpList_nil ?_
                      cases hc176 : (ltB p175 0)
                      · replace hM := bif_f hc176 hM
                        refine cond_f hF rfl hc176 ?_
                        refine wp_skip ?_
                        refine wp_seq ?_
                        refine wp_seq ?_
                        refine wp_region_lit ?_
                        refine op_val (v := .int .i64 p175) rfl rfl hF rfl (run_move rfl (hF.ev rfl)) ?_; clear hF; intro a hF
                        refine op_val (v := .int .i64 p155.1) rfl rfl hF rfl (run_move rfl (hF.ev rfl)) ?_; clear hF; intro a hF
                        refine op_val (v := .bool (p175 != p155.1)) rfl rfl hF rfl (run_neq (hF.ev rfl) (hF.ev rfl) rfl) ?_; clear hF; intro a hF
                        refine wpList_nil ?_
                        cases hc177 : (p175 != p155.1)
                        · replace hM := bif_f hc177 hM
                          refine cond_f hF rfl hc177 ?_
                          refine wp_skip ?_
                          refine wp_seq ?_
                          refine wp_region_lit ?_
                          refine op_val (v := .bool true) rfl rfl hF rfl (run_assign rfl rfl) ?_; clear hF; intro a hF
                          refine wpList_nil ?_
                          refine wp_ret ?_
                          repeat with_reducible (first | refine then_ret ?_ | refine in_ret ?_ | refine in_nrm ?_)
                          refine ret1_gw (.inl rfl) hF rfl (res_tmp (hF.ev rfl)) ?_
                          obtain rfl := Option.some.inj hM
                          exact ⟨rfl, S.sel [] rfl rfl⟩
                        · replace hM := bif_t hc177 hM
                          refine cond_t hF rfl hc177 ?_
                          refine wp_seq ?_
                          refine wp_region_lit ?_
                          refine op_val (v := .bool false) rfl rfl hF rfl (run_assign rfl rfl) ?_; clear hF; intro a hF
                          refine wpList_nil ?_
                          refine wp_ret ?_
                          repeat with_reducible (first | refine then_ret ?_ | refine in_ret ?_ | refine in_nrm ?_)
                          refine ret1_gw (.inl rfl) hF rfl (res_tmp (hF.ev rfl)) ?_
                          obtain rfl := Option.some.inj hM
                          exact ⟨rfl, S.sel [] rfl rfl⟩
                      · replace hM := bif_t hc176 hM
                        refine cond_t hF rfl hc176 ?_
                        refine wp_seq ?_
                        refine wp_region_lit ?_
                        refine op_val (v := .bool false) rfl rfl hF rfl (run_assign rfl rfl) ?_; clear hF; intro a hF
                        refine wpList_nil ?_
                        refine wp_ret ?_
                        repeat with_reducible (first | refine then_ret ?_ | refine in_ret ?_ | refine in_nrm ?_)
                        refine ret1_gw (.inl rfl) hF rfl (res_tmp (hF.ev rfl)) ?_
                        obtain rfl := Option.some.inj hM
                        exact ⟨rfl, S.sel [] rfl rfl⟩
                  · replace hM := bif_t hc159 hM
                    refine cond_t hF rfl hc159 ?_
                    refine wp_seq ?_
                    refine wp_region_lit ?_
                    refine op_val (v := .bool false) rfl rfl hF rfl (run_assign rfl rfl) ?_; clear hF; intro a hF
                    refine wpList_nil ?_
                    refine wp_ret ?_
                    repeat with_reducible (first | refine then_ret ?_ | refine in_ret ?_ | refine in_nrm ?_)
                    refine ret1_gw (.inl rfl) hF rfl (res_tmp (hF.ev rfl)) ?_
                    obtain rfl := Option.some.inj hM
                    exact ⟨rfl, S.sel [] rfl rfl⟩
                · replace hM := bif_t hc158 hM
                  refine cond_t hF rfl hc158 ?_
                  refine wp_seq ?_
                  refine wp_region_lit ?_
                  refine op_val (v := .bool false) rfl rfl hF rfl (run_assign rfl rfl) ?_; clear hF; intro a hF
                  refine wpList_nil ?_
                  refine wp_ret ?_
                  repeat with_reducible (first | refine then_ret ?_ | refine in_ret ?_ | refine in_nrm ?_)
                  refine ret1_gw (.inl rfl) hF rfl (res_tmp (hF.ev rfl)) ?_
                  obtain rfl := Option.some.inj hM
                  exact ⟨rfl, S.sel [] rfl rfl⟩
              · replace hM := bif_t hc154 hM
                refine cond_t hF rfl hc154 ?_
                refine wp_seq ?_
                refine wp_region_lit ?_
                refine op_val (v := .bool false) rfl rfl hF rfl (run_assign rfl rfl) ?_; clear hF; intro a hF
                refine wpList_nil ?_
                refine wp_ret ?_
                repeat with_reducible (first | refine then_ret ?_ | refine in_ret ?_ | refine in_nrm ?_)
                refine ret1_gw (.inl rfl) hF rfl (res_tmp (hF.ev rfl)) ?_
                obtain rfl := Option.some.inj hM
                exact ⟨rfl, S.sel [] rfl rfl⟩
    · replace hM := bif_t hc105 hM
      refine cond_t hF rfl hc105 ?_
      refine wp_seq ?_
      refine wp_region_lit ?_
      refine op_val (v := .bool true) rfl rfl hF rfl (run_assign rfl rfl) ?_; clear hF; intro a hF
      refine wpList_nil ?_
      refine wp_ret ?_
      repeat with_reducible (first | refine then_ret ?_ | refine in_ret ?_ | refine in_nrm ?_)
      refine ret1_gw (.inl rfl) hF rfl (res_tmp (hF.ev rfl)) ?_
      obtain rfl := Option.some.inj hM
      exact ⟨rfl, S.sel [] rfl rfl⟩
  · replace hM := bif_t hc103 hM
    refine cond_t hF rfl hc103 ?_
    refine wp_seq ?_
    refine wp_region_lit ?_
    refine op_val (v := .bool true) rfl rfl hF rfl (run_assign rfl rfl) ?_; clear hF; intro a hF
    refine wpList_nil ?_
    refine wp_ret ?_
    repeat with_reducible (first | refine then_ret ?_ | refine in_ret ?_ | refine in_nrm ?_)
    refine ret1_gw (.inl rfl) hF rfl (res_tmp (hF.ev rfl)) ?_
    obtain rfl := Option.some.inj hM
    exact ⟨rfl, S.sel [] rfl rfl⟩

set_option maxHeartbeats 4000000 in
theorem c_spec_RoomTake {x0 : Int} {x1 : Int} {x2 : List Int} {x3 : Int} {A2 : Option Addr} {n2 c2 : Nat} {w : World} {r : Int × Int × List Int × Bool} (h2 : Rt w 1 eI A2 n2 c2 x2) (hM : m_spec_RoomTake x0 x1 x2 x3 = some r) :
    Calls Try.prog 14 #[.agg #[.int .i64 x0, .int .i64 x1, .slice A2 n2 c2], .int .i64 x3] w (fun e w' => ∃ (B0 : Option Addr) (N0 D0 : Nat), e = .returned (.tuple #[.agg #[.int .i64 r.1, .int .i64 r.2.1, .slice B0 N0 D0], .bool r.2.2.2]) ∧ N0 = r.2.2.1.length ∧ St w w' [.row 3 1 (.slice B0 N0 D0) N0 (r.2.2.1.flatMap eI)]) := by
  obtain rfl := h2.len
  unfold m_spec_RoomTake at hM
  refine calls_gw Try.func14 Try.ntmps14 rfl [(0, .agg #[.int .i64 x0, .int .i64 x1, .slice A2 x2.length c2]), (1, .int .i64 x3)] ⟨rfl, rfl, trivial⟩ rfl ?_
  intro a hF
  have S := St.nil w
  refine wp_seq ?_
  refine wp_region_lit ?_
  refine op_new (cs := #[.int .i64 x0, .int .i64 x1, .slice A2 x2.length c2]) rfl rfl hF rfl S (run_box rfl (hF.ev rfl) rfl) ?_; clear hF S; intro a g101 u hF S
  refine op_new (cs := #[.int .i64 0, .int .i64 0, .slice none 0 0]) rfl rfl hF rfl S (run_allocZ rfl zr28) ?_; clear hF S; intro a g102 u hF S
  refine op_val (v := .bool false) rfl rfl hF rfl (run_assign rfl rfl) ?_; clear hF; intro a hF
  refine wpList_nil ?_
  refine wp_seq ?_
  refine wp_seq ?_
  refine wp_region_lit ?_
  refine op_val (v := .agg #[.int .i64 x0, .int .i64 x1, .slice A2 x2.length c2]) rfl rfl hF rfl (run_loadN rfl ag28 (hF.ev rfl) rfl ((S.free 1 rfl).cells 0 #[.int .i64 x0, .int .i64 x1, .slice A2 x2.length c2] rfl)) ?_; clear hF; intro a hF
  obtain ⟨p103, h103, hM⟩ := bind_ex hM
  refine op_call rfl rfl hF rfl (run_call (vs := [.agg #[.int .i64 x0, .int .i64 x1, .slice A2 x2.length c2]]) rfl rfl co23 ⟨(hF.ev rfl), trivial⟩) (c_spec_RoomsValid (x0 := x0) (x1 := x1) (x2 := x2) ⟨(S.rc0 h2.rc), rfl⟩ h103) ?_
  rintro e u ⟨rfl, T⟩
  refine ⟨_, rfl, ?_⟩
  clear hF; intro a hF
  replace S := S.call0 T; clear T
  refine op_val (v := .bool (!p103)) rfl rfl hF rfl (run_not rfl (hF.ev rfl)) ?_; clear hF; intro a hF
  refine wpList_nil ?_
  cases hc104 : (p103)
  · replace hM := bif_f hc104 hM
    refine cond_t hF rfl (not_t hc104) ?_
    refine wp_seq ?_
    refine wp_region_lit ?_
    refine op_val (v := .agg #[.int .i64 0, .int .i64 0, .slice none 0 0]) rfl rfl hF rfl (run_build (vs := []) rfl trivial (bd28 )) ?_; clear hF; intro a hF
    refine op_do rfl rfl (run_store (cs' := #[.int .i64 0, .int .i64 0, .slice none 0 0]) rfl sz28 (hF.ev rfl) (hF.ev rfl) rfl rfl rfl (S.free 0 rfl) rfl rfl) ?_; replace S := S.put 0 rfl (#[.int .i64 0, .int .i64 0, .slice none 0 0])
    generalize World.setRow _ _ _ = u at S ⊢
    refine op_val (v := .bool false) rfl rfl hF rfl (run_assign rfl rfl) ?_; clear hF; intro a hF
    refine wpList_nil ?_
    refine wp_ret ?_
    repeat with_reducible (first | refine then_ret ?_ | refine in_ret ?_ | refine in_nrm ?_)
    refine ret2_gw (.inl rfl) hF rfl (res_cell (hF.ev rfl) (res_loadN ag28 rfl (S.cells 0 rfl 0 #[.int .i64 0, .int .i64 0, .slice none 0 0] rfl))) (res_tmp (hF.ev rfl)) ?_
    obtain rfl := Option.some.inj hM
    replace S := S.nilrow 3 1
    exact ⟨none, 0, 0, rfl, rfl, S.sel [0] rfl rfl⟩
  · replace hM := bif_t hc104 hM
    refine cond_f hF rfl (not_f hc104) ?_
    refine wp_skip ?_
    refine wp_seq ?_
    refine wp_region_lit ?_
    refine op_val (v := .agg #[.int .i64 x0, .int .i64 x1, .slice A2 x2.length c2]) rfl rfl hF rfl (run_loadN rfl ag28 (hF.ev rfl) rfl ((S.free 1 rfl).cells 0 #[.int .i64 x0, .int .i64 x1, .slice A2 x2.length c2] rfl)) ?_; clear hF; intro a hF
    refine op_val (v := .pointer (some ⟨g101, 0, none⟩)) rfl rfl hF rfl (run_fieldAddr rfl fl28_0 (hF.ev rfl) rfl) ?_; clear hF; intro a hF
    refine op_val (v := .int .i64 x0) rfl rfl hF rfl (run_load1 rfl one3 (hF.ev rfl) ((S.free 1 rfl).cell rfl)) ?_; clear hF; intro a hF
    obtain ⟨p105, h105, hM⟩ := bind_ex hM
    refine op_call rfl rfl hF rfl (run_call (vs := [.agg #[.int .i64 x0, .int .i64 x1, .slice A2 x2.length c2], .int .i64 0, .int .i64 x0]) rfl rfl co24 ⟨(hF.ev rfl), rfl, (hF.ev rfl), trivial⟩) (c_spec_l32Set (x0 := x0) (x1 := x1) (x2 := x2) (x3 := 0) (x4 := x0) ⟨(S.rc0 h2.rc), rfl⟩ h105) ?_
    rintro e u ⟨B106, n107, d108, rfl, rfl, T⟩
    refine ⟨_, rfl, ?_⟩
    clear hF; intro a hF
    replace S := S.call1 T; clear T
    refine op_new (cs := #[.int .i64 0, .int .i64 0, .slice none 0 0]) rfl rfl hF rfl S (run_allocZ rfl zr28) ?_; clear hF S; intro a g109 u hF S
    refine op_do rfl rfl (run_store (cs' := #[.int .i64 p105.1, .int .i64 p105.2.1, .slice B106 p105.2.2.length d108]) rfl sz28 (hF.ev rfl) (hF.ev rfl) rfl rfl rfl (S.free 0 rfl) rfl rfl) ?_; replace S := S.put 0 rfl (#[.int .i64 p105.1, .int .i64 p105.2.1, .slice B106 p105.2.2.length d108])
    generalize World.setRow _ _ _ = u at S ⊢
    refine wpList_nil ?_
    refine wp_seq ?_
    refine wp_seq ?_
    refine wp_region_lit ?_
    refine op_val (v := .int .i64 1) rfl rfl hF rfl (run_assign rfl rfl) ?_; clear hF; intro a hF
    refine wpList_nil ?_
    obtain ⟨o111, hM114, hM⟩ := bind_ex hM
    refine wp_cut (fun a u => ∃ (p110 : Int × Int × List Int) (B112 : Option Addr) (d113 : Nat), (Sum.inl p110) = o111 ∧ Fr a 47 [(4, .pointer (some ⟨g102, 0, none⟩)), (5, .bool false), (6, .pointer (some ⟨g109, 0, none⟩))] ∧ St w u [.box g109 28 #[.int .i64 p110.1, .int .i64 p110.2.1, .slice B112 p110.2.2.length d113], .box g102 28 #[.int .i64 0, .int .i64 0, .slice none 0 0], .box g101 28 #[.int .i64 x0, .int .i64 x1, .slice A2 x2.length c2], .row 3 1 (.slice B112 p110.2.2.length d113) p110.2.2.length (p110.2.2.flatMap eI)]) ?_ ?_
    · have _ := trivial
      refine wp_block ?_
      refine loop_gw (fun m a u => ∃ (p115 : Int × Int × Int × List Int) (B116 : Option Addr) (d117 : Nat), m_spec_RoomTake_l1 x0 x1 x2 x3 m p115 = some _ ∧ Fr a 47 [(1, .int .i64 x3), (2, .pointer (some ⟨g101, 0, none⟩)), (4, .pointer (some ⟨g102, 0, none⟩)), (5, .bool false), (6, .pointer (some ⟨g109, 0, none⟩)), (7, .int .i64 p115.1)] ∧ St w u [.box g109 28 #[.int .i64 p115.2.1, .int .i64 p115.2.2.1, .slice B116 p115.2.2.2.length d117], .box g102 28 #[.int .i64 0, .int .i64 0, .slice none 0 0], .box g101 28 #[.int .i64 x0, .int .i64 x1, .slice A2 x2.length c2], .row 3 1 (.slice B116 p115.2.2.2.length d117) p115.2.2.2.length (p115.2.2.2.flatMap eI)]) FUEL ⟨(1, p105.1, p105.2.1, p105.2.2), B106, d108, hM114, hF.keep _ ⟨rfl, rfl, rfl, rfl, rfl, rfl, trivial⟩, S.sel [0, 2, 3, 1] rfl rfl⟩ ?_
      clear hF S hM114; rintro m a u ⟨p115, B116, d117, hM114, hF, S⟩
      rcases m with _ | f1
      · exact none_some hM114
      rw [m_spec_RoomTake_l1.eq_2] at hM114
      refine wp_seq ?_
      refine wp_seq ?_
      refine wp_region_lit ?_
      refine op_val (v := .int .i64 p115.1) rfl rfl hF rfl (run_move rfl (hF.ev rfl)) ?_; clear hF; intro a hF
      refine op_val (v := .bool (leB p115.1 2)) rfl rfl hF rfl (run_leq (hF.ev rfl) rfl rfl) ?_; clear hF; intro a hF
      refine wpList_nil ?_
      cases hc118 : (leB p115.1 2)
      · replace hM114 := bif_f hc118 hM114
        refine cond_f hF rfl hc118 ?_
        refine wp_exit ?_
        repeat with_reducible (first | refine then_exit ?_ | refine in_hit ?_ | refine in_miss rfl ?_)
        obtain rfl := Option.some.inj hM114
        exact ⟨(p115.2.1, p115.2.2.1, p115.2.2.2), B116, d117, rfl, hF.keep _ ⟨rfl, rfl, rfl, trivial⟩, S.sel [0, 1, 2, 3] rfl rfl⟩
      · replace hM114 := bif_t hc118 hM114
        refine cond_t hF rfl hc118 ?_
        refine wp_skip ?_
        refine wp_seq ?_
        refine wp_block ?_
        refine wp_seq ?_
        refine wp_region_lit ?_
        refine op_val (v := .int .i64 0) rfl rfl hF rfl (run_assign rfl rfl) ?_; clear hF; intro a hF
        refine wpList_nil ?_
        obtain ⟨o120, hM123, hM114⟩ := bind_ex hM114
        refine wp_cut (fun a u => ∃ (p119 : Int × Int × List Int) (B121 : Option Addr) (d122 : Nat), (Sum.inl p119) = o120 ∧ Fr a 47 [(1, .int .i64 x3), (2, .pointer (some ⟨g101, 0, none⟩)), (4, .pointer (some ⟨g102, 0, none⟩)), (5, .bool false), (6, .pointer (some ⟨g109, 0, none⟩)), (7, .int .i64 p115.1)] ∧ St w u [.box g109 28 #[.int .i64 p119.1, .int .i64 p119.2.1, .slice B121 p119.2.2.length d122], .box g102 28 #[.int .i64 0, .int .i64 0, .slice none 0 0], .box g101 28 #[.int .i64 x0, .int .i64 x1, .slice A2 x2.length c2], .row 3 1 (.slice B121 p119.2.2.length d122) p119.2.2.length (p119.2.2.flatMap eI)]) ?_ ?_
        · have _ := trivial
          refine wp_block ?_
          refine loop_gw (fun m a u => ∃ (p124 : Int × Int × Int × List Int) (B125 : Option Addr) (d126 : Nat), m_spec_RoomTake_l2 x0 x1 x2 x3 p115 m p124 = some _ ∧ Fr a 47 [(1, .int .i64 x3), (2, .pointer (some ⟨g101, 0, none⟩)), (4, .pointer (some ⟨g102, 0, none⟩)), (5, .bool false), (6, .pointer (some ⟨g109, 0, none⟩)), (7, .int .i64 p115.1), (8, .int .i64 p124.1)] ∧ St w u [.box g109 28 #[.int .i64 p124.2.1, .int .i64 p124.2.2.1, .slice B125 p124.2.2.2.length d126], .box g102 28 #[.int .i64 0, .int .i64 0, .slice none 0 0], .box g101 28 #[.int .i64 x0, .int .i64 x1, .slice A2 x2.length c2], .row 3 1 (.slice B125 p124.2.2.2.length d126) p124.2.2.2.length (p124.2.2.2.flatMap eI)]) FUEL ⟨(0, p115.2.1, p115.2.2.1, p115.2.2.2), B116, d117, hM123, hF.keep _ ⟨rfl, rfl, rfl, rfl, rfl, rfl, rfl, trivial⟩, S.sel [0, 1, 2, 3] rfl rfl⟩ ?_
          clear hF S hM123; rintro m a u ⟨p124, B125, d126, hM123, hF, S⟩
          rcases m with _ | f2
          · exact none_some hM123
          rw [m_spec_RoomTake_l2.eq_2] at hM123
          refine wp_seq ?_
          refine wp_seq ?_
          refine wp_region_lit ?_
          refine op_val (v := .int .i64 p124.1) rfl rfl hF rfl (run_move rfl (hF.ev rfl)) ?_; clear hF; intro a hF
          refine op_val (v := .pointer (some ⟨g101, 2, none⟩)) rfl rfl hF rfl (run_fieldAddr rfl fl28_2 (hF.ev rfl) rfl) ?_; clear hF; intro a hF
          refine op_val (v := .slice A2 x2.length c2) rfl rfl hF rfl (run_load1 rfl one22 (hF.ev rfl) ((S.free 2 rfl).cell rfl)) ?_; clear hF; intro a hF
          refine op_val (v := .int .i64 (x2.length : Int)) rfl rfl hF rfl (run_lenL rfl rfl Try.underlying22 (hF.ev rfl)) ?_; clear hF; intro a hF
          refine op_val (v := .bool (ltB p124.1 (x2.length : Int))) rfl rfl hF rfl (run_lss (hF.ev rfl) (hF.ev rfl) rfl) ?_; clear hF; intro a hF
          refine wpList_nil ?_
          cases hc127 : (ltB p124.1 (x2.length : Int))
          · replace hM123 := bif_f hc127 hM123
            refine cond_f hF rfl hc127 ?_
            refine wp_exit ?_
            repeat with_reducible (first | refine then_exit ?_ | refine in_hit ?_ | refine in_miss rfl ?_)
            obtain rfl := Option.some.inj hM123
            exact ⟨(p124.2.1, p124.2.2.1, p124.2.2.2), B125, d126, rfl, hF.keep _ ⟨rfl, rfl, rfl, rfl, rfl, rfl, trivial⟩, S.sel [0, 1, 2, 3] rfl rfl⟩
          · replace hM123 := bif_t hc127 hM123
            refine cond_t hF rfl hc127 ?_
            refine wp_skip ?_
            refine wp_seq ?_
            refine wp_block ?_
            refine wp_seq ?_
            refine wp_region_lit ?_
            refine op_val (v := .agg #[.int .i64 p124.2.1, .int .i64 p124.2.2.1, .slice B125 p124.2.2.2.length d126]) rfl rfl hF rfl (run_loadN rfl ag28 (hF.ev rfl) rfl ((S.free 0 rfl).cells 0 #[.int .i64 p124.2.1, .int .i64 p124.2.2.1, .slice B125 p124.2.2.2.length d126] rfl)) ?_; clear hF; intro a hF
            refine op_val (v := .int .i64 p115.1) rfl rfl hF rfl (run_move rfl (hF.ev rfl)) ?_; clear hF; intro a hF
            refine op_val (v := .int .i64 x3) rfl rfl hF rfl (run_move rfl (hF.ev rfl)) ?_; clear hF; intro a hF
            refine op_val (v := .int .i64 p124.1) rfl rfl hF rfl (run_move rfl (hF.ev rfl)) ?_; clear hF; intro a hF
            refine op_val (v := .agg #[.int .i64 p115.1, .int .i64 x3, .int .i64 p124.1]) rfl rfl hF rfl (run_build (vs := [(0, .int .i64 p115.1), (1, .int .i64 x3), (2, .int .i64 p124.1)]) rfl ⟨⟨rfl, (hF.ev rfl)⟩, ⟨rfl, (hF.ev rfl)⟩, ⟨rfl, (hF.ev rfl)⟩, trivial⟩ (bd32_0_1_2 rfl rfl rfl)) ?_; clear hF; intro a hF
            obtain ⟨p128, h128, hM123⟩ := bind_ex hM123
            refine op_call rfl rfl hF rfl (run_call (vs := [.agg #[.int .i64 p124.2.1, .int .i64 p124.2.2.1, .slice B125 p124.2.2.2.length d126], .agg #[.int .i64 p115.1, .int .i64 x3, .int .i64 p124.1]]) rfl rfl co7 ⟨(hF.ev rfl), (hF.ev rfl), trivial⟩) (c_spec_RoomsDo (x0 := p124.2.1) (x1 := p124.2.2.1) (x2 := p124.2.2.2) (x3 := p115.1) (x4 := x3) (x5 := p124.1) ⟨(S.rc 3 rfl), rfl⟩ h128) ?_
            rintro e u ⟨B129, n130, d131, rfl, rfl, T⟩
            refine ⟨_, rfl, ?_⟩
            clear hF; intro a hF
            replace S := S.call1 T; clear T
            refine op_val (v := .tuple #[.agg #[.int .i64 p128.1, .int .i64 p128.2.1, .slice B129 p128.2.2.1.length d131], .bool p128.2.2.2]) rfl rfl hF rfl (run_move rfl (hF.ev rfl)) ?_; clear hF; intro a hF
            refine op_val (v := .agg #[.int .i64 p128.1, .int .i64 p128.2.1, .slice B129 p128.2.2.1.length d131]) rfl rfl hF rfl (run_extract rfl (hF.ev rfl) rfl) ?_; clear hF; intro a hF
            refine op_val (v := .bool p128.2.2.2) rfl rfl hF rfl (run_extract rfl (hF.ev rfl) rfl) ?_; clear hF; intro a hF
            refine op_new (cs := #[.int .i64 0, .int .i64 0, .slice none 0 0]) rfl rfl hF rfl S (run_allocZ rfl zr28) ?_; clear hF S; intro a g132 u hF S
            refine op_do rfl rfl (run_store (cs' := #[.int .i64 p128.1, .int .i64 p128.2.1, .slice B129 p128.2.2.1.length d131]) rfl sz28 (hF.ev rfl) (hF.ev rfl) rfl rfl rfl (S.free 0 rfl) rfl rfl) ?_; replace S := S.put 0 rfl (#[.int .i64 p128.1, .int .i64 p128.2.1, .slice B129 p128.2.2.1.length d131])
            generalize World.setRow _ _ _ = u at S ⊢
            refine op_val (v := .bool p128.2.2.2) rfl rfl hF rfl (run_assign rfl (hF.ev rfl)) ?_; clear hF; intro a hF
            refine wpList_nil ?_
            refine wp_seq ?_
            refine wp_seq ?_
            refine wp_region_lit ?_
            refine op_val (v := .bool p128.2.2.2) rfl rfl hF rfl (run_move rfl (hF.ev rfl)) ?_; clear hF; intro a hF
            refine op_val (v := .bool (!p128.2.2.2)) rfl rfl hF rfl (run_not rfl (hF.ev rfl)) ?_; clear hF; intro a hF
            refine wpList_nil ?_
            cases hc133 : (p128.2.2.2)
            · replace hM123 := bif_f hc133 hM123
              refine cond_t hF rfl (not_t hc133) ?_
              refine wp_seq ?_
              refine wp_region_lit ?_
              refine op_val (v := .agg #[.int .i64 x0, .int .i64 x1, .slice A2 x2.length c2]) rfl rfl hF rfl (run_loadN rfl ag28 (hF.ev rfl) rfl ((S.free 4 rfl).cells 0 #[.int .i64 x0, .int .i64 x1, .slice A2 x2.length c2] rfl)) ?_; clear hF; intro a hF
              refine op_val (v := .pointer (some ⟨g101, 0, none⟩)) rfl rfl hF rfl (run_fieldAddr rfl fl28_0 (hF.ev rfl) rfl) ?_; clear hF; intro a hF
              refine op_val (v := .int .i64 x0) rfl rfl hF rfl (run_load1 rfl one3 (hF.ev rfl) ((S.free 4 rfl).cell rfl)) ?_; clear hF; intro a hF
              obtain ⟨p134, h134, hM123⟩ := bind_ex hM123
              refine op_call rfl rfl hF rfl (run_call (vs := [.agg #[.int .i64 x0, .int .i64 x1, .slice A2 x2.length c2], .int .i64 0, .int .i64 x0]) rfl rfl co24 ⟨(hF.ev rfl), rfl, (hF.ev rfl), trivial⟩) (c_spec_l32Set (x0 := x0) (x1 := x1) (x2 := x2) (x3 := 0) (x4 := x0) ⟨(S.rc0 h2.rc), rfl⟩ h134) ?_
              rintro e u ⟨B135, n136, d137, rfl, rfl, T⟩
              refine ⟨_, rfl, ?_⟩
              clear hF; intro a hF
              replace S := S.call1 T; clear T
              refine op_do rfl rfl (run_store (cs' := #[.int .i64 p134.1, .int .i64 p134.2.1, .slice B135 p134.2.2.length d137]) rfl sz28 (hF.ev rfl) (hF.ev rfl) rfl rfl rfl (S.free 4 rfl) rfl rfl) ?_; replace S := S.put 4 rfl (#[.int .i64 p134.1, .int .i64 p134.2.1, .slice B135 p134.2.2.length d137])
              generalize World.setRow _ _ _ = u at S ⊢
              refine op_val (v := .bool false) rfl rfl hF rfl (run_assign rfl rfl) ?_; clear hF; intro a hF
              refine wpList_nil ?_
              refine wp_ret ?_
              repeat with_reducible (first | refine then_ret ?_ | refine in_ret ?_ | refine in_nrm ?_)
              refine ret2_gw (.inl rfl) hF rfl (res_cell (hF.ev rfl) (res_loadN ag28 rfl (S.cells 4 rfl 0 #[.int .i64 p134.1, .int .i64 p134.2.1, .slice B135 p134.2.2.length d137] rfl))) (res_tmp (hF.ev rfl)) ?_
              obtain rfl := Option.some.inj hM123
              obtain rfl := Option.some.inj hM114
              obtain rfl := Option.some.inj hM
              exact ⟨B135, p134.2.2.length, d137, rfl, rfl, S.sel [0] rfl rfl⟩
            · replace hM123 := bif_t hc133 hM123
              refine cond_f hF rfl (not_f hc133) ?_
              refine wp_skip ?_
              refine wp_region_lit ?_
              refine op_val (v := .agg #[.int .i64 p128.1, .int .i64 p128.2.1, .slice B129 p128.2.2.1.length d131]) rfl rfl hF rfl (run_loadN rfl ag28 (hF.ev rfl) rfl ((S.free 0 rfl).cells 0 #[.int .i64 p128.1, .int .i64 p128.2.1, .slice B129 p128.2.2.1.length d131] rfl)) ?_; clear hF; intro a hF
              refine op_do rfl rfl (run_store (cs' := #[.int .i64 p128.1, .int .i64 p128.2.1, .slice B129 p128.2.2.1.length d131]) rfl sz28 (hF.ev rfl) (hF.ev rfl) rfl rfl rfl (S.free 2 rfl) rfl rfl) ?_; replace S := S.put 2 rfl (#[.int .i64 p128.1, .int .i64 p128.2.1, .slice B129 p128.2.2.1.length d131])
              generalize World.setRow _ _ _ = u at S ⊢
              refine wpList_nil ?_
              refine wp_region_lit ?_
              refine op_val (v := .int .i64 p124.1) rfl rfl hF rfl (run_move rfl (hF.ev rfl)) ?_; clear hF; intro a hF
              refine op_val (v := .int .i64 (w64 (p124.1 + 1))) rfl rfl hF rfl (run_add (z := w64 (p124.1 + 1)) (hF.ev rfl) rfl rfl rfl) ?_; clear hF; intro a hF
              refine op_val (v := .int .i64 (w64 (p124.1 + 1))) rfl rfl hF rfl (run_assign rfl (hF.ev rfl)) ?_; clear hF; intro a hF
              refine wpList_nil ?_
              exact ⟨f2, Nat.lt_succ_self _, (w64 (p124.1 + 1), p128.1, p128.2.1, p128.2.2.1), B129, d131, hM123, hF.keep _ ⟨rfl, rfl, rfl, rfl, rfl, rfl, rfl, trivial⟩, S.sel [2, 3, 4, 1] rfl rfl⟩
        · rintro a u ⟨p119, B121, d122, rfl, hF, S⟩
          replace hM114 := elim_l hM114
          refine wp_region_lit ?_
          refine op_val (v := .int .i64 p115.1) rfl rfl hF rfl (run_move rfl (hF.ev rfl)) ?_; clear hF; intro a hF
          refine op_val (v := .int .i64 (w64 (p115.1 + 1))) rfl rfl hF rfl (run_add (z := w64 (p115.1 + 1)) (hF.ev rfl) rfl rfl rfl) ?_; clear hF; intro a hF
          refine op_val (v := .int .i64 (w64 (p115.1 + 1))) rfl rfl hF rfl (run_assign rfl (hF.ev rfl)) ?_; clear hF; intro a hF
          refine wpList_nil ?_
          exact ⟨f1, Nat.lt_succ_self _, (w64 (p115.1 + 1), p119.1, p119.2.1, p119.2.2), B121, d122, hM114, hF.keep _ ⟨rfl, rfl, rfl, rfl, rfl, rfl, trivial⟩, S.sel [0, 1, 2, 3] rfl rfl⟩
    · rintro a u ⟨p110, B112, d113, rfl, hF, S⟩
      replace hM := elim_l hM
      refine wp_seq ?_
      refine wp_region_lit ?_
      refine op_val (v := .agg #[.int .i64 p110.1, .int .i64 p110.2.1, .slice B112 p110.2.2.length d113]) rfl rfl hF rfl (run_loadN rfl ag28 (hF.ev rfl) rfl ((S.free 0 rfl).cells 0 #[.int .i64 p110.1, .int .i64 p110.2.1, .slice B112 p110.2.2.length d113] rfl)) ?_; clear hF; intro a hF
      refine op_do rfl rfl (run_store (cs' := #[.int .i64 p110.1, .int .i64 p110.2.1, .slice B112 p110.2.2.length d113]) rfl sz28 (hF.ev rfl) (hF.ev rfl) rfl rfl rfl (S.free 1 rfl) rfl rfl) ?_; replace S := S.put 1 rfl (#[.int .i64 p110.1, .int .i64 p110.2.1, .slice B112 p110.2.2.length d113])
      generalize World.setRow _ _ _ = u at S ⊢
      refine op_val (v := .bool true) rfl rfl hF rfl (run_assign rfl rfl) ?_; clear hF; intro a hF
      refine wpList_nil ?_
      refine wp_ret ?_
      repeat with_reducible (first | refine then_ret ?_ | refine in_ret ?_ | refine in_nrm ?_)
      refine ret2_gw (.inl rfl) hF rfl (res_cell (hF.ev rfl) (res_loadN ag28 rfl (S.cells 1 rfl 0 #[.int .i64 p110.1, .int .i64 p110.2.1, .slice B112 p110.2.2.length d113] rfl))) (res_tmp (hF.ev rfl)) ?_
      obtain rfl := Option.some.inj hM
      exact ⟨B112, p110.2.2.length, d113, rfl, rfl, S.sel [3] rfl rfl⟩

set_option maxHeartbeats 4000000 in
theorem c_impl_RoomTake {x0 : Int} {x1 : Int} {x2 : List Int} {x3 : Int} {A2 : Option Addr} {n2 c2 : Nat} {w : World} {r : Int × Int × List Int × Bool} (h2 : Rt w 1 eI A2 n2 c2 x2) (hM : m_impl_RoomTake x0 x1 x2 x3 = some r) :
    Calls Try.prog 15 #[.agg #[.int .i64 x0, .int .i64 x1, .slice A2 n2 c2], .int .i64 x3] w (fun e w' => ∃ (B0 : Option Addr) (N0 D0 : Nat), e = .returned (.tuple #[.agg #[.int .i64 r.1, .int .i64 r.2.1, .slice B0 N0 D0], .bool r.2.2.2]) ∧ N0 = r.2.2.1.length ∧ St w w' [.row 3 1 (.slice B0 N0 D0) N0 (r.2.2.1.flatMap eI)]) := by
  obtain rfl := h2.len
  unfold m_impl_RoomTake at hM
  refine calls_gw Try.func15 Try.ntmps15 rfl [(0, .agg #[.int .i64 x0, .int .i64 x1, .slice A2 x2.length c2]), (1, .int .i64 x3)] ⟨rfl, rfl, trivial⟩ rfl ?_
  intro a hF
  have S := St.nil w
  refine wp_seq ?_
  refine wp_region_lit ?_
  refine op_new (cs := #[.int .i64 x0, .int .i64 x1, .slice A2 x2.length c2]) rfl rfl hF rfl S (run_box rfl (hF.ev rfl) rfl) ?_; clear hF S; intro a g101 u hF S
  refine op_new (cs := #[.int .i64 0, .int .i64 0, .slice none 0 0]) rfl rfl hF rfl S (run_allocZ rfl zr28) ?_; clear hF S; intro a g102 u hF S
  refine op_val (v := .bool false) rfl rfl hF rfl (run_assign rfl rfl) ?_; clear hF; intro a hF
  refine wpList_nil ?_
  refine wp_seq ?_
  refine wp_seq ?_
  refine wp_region_lit ?_
  refine op_val (v := .agg #[.int .i64 x0, .int .i64 x1, .slice A2 x2.length c2]) rfl rfl hF rfl (run_loadN rfl ag28 (hF.ev rfl) rfl ((S.free 1 rfl).cells 0 #[.int .i64 x0, .int .i64 x1, .slice A2 x2.length c2] rfl)) ?_; clear hF; intro a hF
  obtain ⟨p103, h103, hM⟩ := bind_ex hM
  refine op_call rfl rfl hF rfl (run_call (vs := [.agg #[.int .i64 x0, .int .i64 x1, .slice A2 x2.length c2]]) rfl rfl co28 ⟨(hF.ev rfl), trivial⟩) (c_impl_RoomsValid (x0 := x0) (x1 := x1) (x2 := x2) ⟨(S.rc0 h2.rc), rfl⟩ h103) ?_
  rintro e u ⟨rfl, T⟩
  refine ⟨_, rfl, ?_⟩
  clear hF; intro a hF
  replace S := S.call0 T; clear T
  refine op_val (v := .bool (!p103)) rfl rfl hF rfl (run_not rfl (hF.ev rfl)) ?_; clear hF; intro a hF
  refine wpList_nil ?_
  cases hc104 : (p103)
  · replace hM := bif_f hc104 hM
    refine cond_t hF rfl (not_t hc104) ?_
    refine wp_seq ?_
    refine wp_region_lit ?_
    refine op_val (v := .agg #[.int .i64 0, .int .i64 0, .slice none 0 0]) rfl rfl hF rfl (run_build (vs := []) rfl trivial (bd28 )) ?_; clear hF; intro a hF
    refine op_do rfl rfl (run_store (cs' := #[.int .i64 0, .int .i64 0, .slice none 0 0]) rfl sz28 (hF.ev rfl) (hF.ev rfl) rfl rfl rfl (S.free 0 rfl) rfl rfl) ?_; replace S := S.put 0 rfl (#[.int .i64 0, .int .i64 0, .slice none 0 0])
    generalize World.setRow _ _ _ = u at S ⊢
    refine op_val (v := .bool false) rfl rfl hF rfl (run_assign rfl rfl) ?_; clear hF; intro a hF
    refine wpList_nil ?_
    refine wp_ret ?_
    repeat with_reducible (first | refine then_ret ?_ | refine in_ret ?_ | refine in_nrm ?_)
    refine ret2_gw (.inl rfl) hF rfl (res_cell (hF.ev rfl) (res_loadN ag28 rfl (S.cells 0 rfl 0 #[.int .i64 0, .int .i64 0, .slice none 0 0] rfl))) (res_tmp (hF.ev rfl)) ?_
    obtain rfl := Option.some.inj hM
    replace S := S.nilrow 3 1
    exact ⟨none, 0, 0, rfl, rfl, S.sel [0] rfl rfl⟩
  · replace hM := bif_t hc104 hM
    refine cond_f hF rfl (not_f hc104) ?_
    refine wp_skip ?_
    refine wp_seq ?_
    refine wp_region_lit ?_
    refine op_val (v := .agg #[.int .i64 x0, .int .i64 x1, .slice A2 x2.length c2]) rfl rfl hF rfl (run_loadN rfl ag28 (hF.ev rfl) rfl ((S.free 1 rfl).cells 0 #[.int .i64 x0, .int .i64 x1, .slice A2 x2.length c2] rfl)) ?_; clear hF; intro a hF
    refine op_new (cs := #[.int .i64 0, .int .i64 0, .slice none 0 0]) rfl rfl hF rfl S (run_allocZ rfl zr28) ?_; clear hF S; intro a g105 u hF S
    refine op_do rfl rfl (run_store (cs' := #[.int .i64 x0, .int .i64 x1, .slice A2 x2.length c2]) rfl sz28 (hF.ev rfl) (hF.ev rfl) rfl rfl rfl (S.free 0 rfl) rfl rfl) ?_; replace S := S.put 0 rfl (#[.int .i64 x0, .int .i64 x1, .slice A2 x2.length c2])
    generalize World.setRow _ _ _ = u at S ⊢
    refine wpList_nil ?_
    refine wp_seq ?_
    refine wp_seq ?_
    refine wp_region_lit ?_
    refine op_val (v := .agg #[.int .i64 1, .int .i64 2]) rfl rfl hF rfl (run_build (vs := [(0, .int .i64 1), (1, .int .i64 2)]) rfl ⟨⟨rfl, rfl⟩, ⟨rfl, rfl⟩, trivial⟩ (ba56_0_1 rfl rfl)) ?_; clear hF; intro a hF
    refine op_val (v := .int .i64 0) rfl rfl hF rfl (run_move rfl rfl) ?_; clear hF; intro a hF
    refine wpList_nil ?_
    obtain ⟨o107, hM110, hM⟩ := bind_ex hM
    refine wp_cut (fun a u => ∃ (p106 : Int × Int × List Int × Bool) (B108 : Option Addr) (d109 : Nat), (Sum.inl p106) = o107 ∧ Fr a 44 [(4, .pointer (some ⟨g102, 0, none⟩)), (5, .bool false), (6, .pointer (some ⟨g105, 0, none⟩))] ∧ St w u [.box g105 28 #[.int .i64 p106.1, .int .i64 p106.2.1, .slice B108 p106.2.2.1.length d109], .box g102 28 #[.int .i64 0, .int .i64 0, .slice none 0 0], .box g101 28 #[.int .i64 x0, .int .i64 x1, .slice A2 x2.length c2], mrow p106.2.2.2 w.heap.size 3 1 (.slice B108 p106.2.2.1.length d109) p106.2.2.1.length (p106.2.2.1.flatMap eI)]) ?_ ?_
    · have _ := trivial
      refine wp_block ?_
      replace S := S.addold h2.rc (by decide)
      refine loop_gw (fun m a u => ∃ (p111 : Int × Int × Int × List Int × Bool) (B112 : Option Addr) (d113 : Nat), m_impl_RoomTake_l1 x0 x1 x2 x3 m p111 = some _ ∧ Fr a 44 [(1, .int .i64 x3), (2, .pointer (some ⟨g101, 0, none⟩)), (4, .pointer (some ⟨g102, 0, none⟩)), (5, .bool false), (6, .pointer (some ⟨g105, 0, none⟩)), (17, .agg #[.int .i64 1, .int .i64 2]), (18, .int .i64 p111.1)] ∧ St w u [.box g105 28 #[.int .i64 p111.2.1, .int .i64 p111.2.2.1, .slice B112 p111.2.2.2.1.length d113], .box g102 28 #[.int .i64 0, .int .i64 0, .slice none 0 0], .box g101 28 #[.int .i64 x0, .int .i64 x1, .slice A2 x2.length c2], mrow p111.2.2.2.2 w.heap.size 3 1 (.slice B112 p111.2.2.2.1.length d113) p111.2.2.2.1.length (p111.2.2.2.1.flatMap eI)]) FUEL ⟨(0, x0, x1, x2, false), A2, c2, hM110, hF.keep _ ⟨rfl, rfl, rfl, rfl, rfl, rfl, rfl, trivial⟩, S.sel [1, 2, 3, 0] rfl rfl⟩ ?_
      clear hF S hM110; rintro m a u ⟨p111, B112, d113, hM110, hF, S⟩
      rcases m with _ | f1
      · exact none_some hM110
      rw [m_impl_RoomTake_l1.eq_2] at hM110
      refine wp_seq ?_
      refine wp_region_lit ?_
      refine op_val (v := .bool (ltB p111.1 2)) rfl rfl hF rfl (run_lss (hF.ev rfl) rfl rfl) ?_; clear hF; intro a hF
      refine wpList_nil ?_
      refine wp_seq ?_
      cases hc114 : (ltB p111.1 2)
      · replace hM110 := bif_f hc114 hM110
        refine cond_f hF rfl hc114 ?_
        refine wp_exit ?_
        repeat with_reducible (first | refine then_exit ?_ | refine in_hit ?_ | refine in_miss rfl ?_)
        obtain rfl := Option.some.inj hM110
        exact ⟨(p111.2.1, p111.2.2.1, p111.2.2.2.1, p111.2.2.2.2), B112, d113, rfl, hF.keep _ ⟨rfl, rfl, rfl, trivial⟩, S.sel [0, 1, 2, 3] rfl rfl⟩
      · replace hM110 := bif_t hc114 hM110
        refine cond_t hF rfl hc114 ?_
        refine wp_skip ?_
        refine wp_seq ?_
        refine wp_block ?_
        refine wp_seq ?_
        refine wp_region_lit ?_
        obtain ⟨hk115, hM110⟩ := chk_ex hM110
        replace hk115 := ixB_t hk115
        refine op_val (v := .int .i64 (([1, 2] : List Int).getD p111.1.toNat (0 : Int))) rfl rfl hF rfl (run_indexArr rfl Try.underlying56 one3 (hF.ev rfl) (hF.ev rfl) hk115 (arr_el eI_len (l := [1, 2]) rfl (0 : Int) (ix_lt hk115) rfl)) ?_; clear hF; intro a hF
        refine op_val (v := .int .i64 (([1, 2] : List Int).getD p111.1.toNat (0 : Int))) rfl rfl hF rfl (run_assign rfl (hF.ev rfl)) ?_; clear hF; intro a hF
        refine wpList_nil ?_
        refine wp_seq ?_
        refine wp_region_lit ?_
        refine op_val (v := .pointer (some ⟨g101, 2, none⟩)) rfl rfl hF rfl (run_fieldAddr rfl fl28_2 (hF.ev rfl) rfl) ?_; clear hF; intro a hF
        refine op_val (v := .slice A2 x2.length c2) rfl rfl hF rfl (run_load1 rfl one22 (hF.ev rfl) ((S.free 2 rfl).cell rfl)) ?_; clear hF; intro a hF
        refine op_val (v := .int .i64 (x2.length : Int)) rfl rfl hF rfl (run_lenL rfl rfl Try.underlying22 (hF.ev rfl)) ?_; clear hF; intro a hF
        refine op_val (v := .int .i64 0) rfl rfl hF rfl (run_move rfl rfl) ?_; clear hF; intro a hF
        refine wpList_nil ?_
        obtain ⟨o117, hM120, hM110⟩ := bind_ex hM110
        refine wp_cut (fun a u => ∃ (p116 : Int × Int × List Int × Bool) (B118 : Option Addr) (d119 : Nat), (Sum.inl p116) = o117 ∧ Fr a 44 [(1, .int .i64 x3), (2, .pointer (some ⟨g101, 0, none⟩)), (4, .pointer (some ⟨g102, 0, none⟩)), (5, .bool false), (6, .pointer (some ⟨g105, 0, none⟩)), (17, .agg #[.int .i64 1, .int .i64 2]), (18, .int .i64 p111.1)] ∧ St w u [.box g105 28 #[.int .i64 p116.1, .int .i64 p116.2.1, .slice B118 p116.2.2.1.length d119], .box g102 28 #[.int .i64 0, .int .i64 0, .slice none 0 0], .box g101 28 #[.int .i64 x0, .int .i64 x1, .slice A2 x2.length c2], mrow p116.2.2.2 w.heap.size 3 1 (.slice B118 p116.2.2.1.length d119) p116.2.2.1.length (p116.2.2.1.flatMap eI)]) ?_ ?_
        · have _ := trivial
          refine wp_block ?_
          refine loop_gw (fun m a u => ∃ (p121 : Int × Int × Int × List Int × Bool) (B122 : Option Addr) (d123 : Nat), m_impl_RoomTake_l2 x0 x1 x2 x3 p111 m p121 = some _ ∧ Fr a 44 [(1, .int .i64 x3), (2, .pointer (some ⟨g101, 0, none⟩)), (4, .pointer (some ⟨g102, 0, none⟩)), (5, .bool false), (6, .pointer (some ⟨g105, 0, none⟩)), (8, .int .i64 (([1, 2] : List Int).getD p111.1.toNat (0 : Int))), (17, .agg #[.int .i64 1, .int .i64 2]), (18, .int .i64 p111.1), (23, .int .i64 (x2.length : Int)), (24, .int .i64 p121.1)] ∧ St w u [.box g105 28 #[.int .i64 p121.2.1, .int .i64 p121.2.2.1, .slice B122 p121.2.2.2.1.length d123], .box g102 28 #[.int .i64 0, .int .i64 0, .slice none 0 0], .box g101 28 #[.int .i64 x0, .int .i64 x1, .slice A2 x2.length c2], mrow p121.2.2.2.2 w.heap.size 3 1 (.slice B122 p121.2.2.2.1.length d123) p121.2.2.2.1.length (p121.2.2.2.1.flatMap eI)]) FUEL ⟨(0, p111.2.1, p111.2.2.1, p111.2.2.2.1, p111.2.2.2.2), B112, d113, hM120, hF.keep _ ⟨rfl, rfl, rfl, rfl, rfl, rfl, rfl, rfl, rfl, rfl, trivial⟩, S.sel [0, 1, 2, 3] rfl rfl⟩ ?_
          clear hF S hM120; rintro m a u ⟨p121, B122, d123, hM120, hF, S⟩
          rcases m with _ | f2
          · exact none_some hM120
          rw [m_impl_RoomTake_l2.eq_2] at hM120
          refine wp_seq ?_
          refine wp_region_lit ?_
          refine op_val (v := .bool (ltB p121.1 (x2.length : Int))) rfl rfl hF rfl (run_lss (hF.ev rfl) (hF.ev rfl) rfl) ?_; clear hF; intro a hF
          refine wpList_nil ?_
          refine wp_seq ?_
          cases hc124 : (ltB p121.1 (x2.length : Int))
          · replace hM120 := bif_f hc124 hM120
            refine cond_f hF rfl hc124 ?_
            refine wp_exit ?_
            repeat with_reducible (first | refine then_exit ?_ | refine in_hit ?_ | refine in_miss rfl ?_)
            obtain rfl := Option.some.inj hM120
            exact ⟨(p121.2.1, p121.2.2.1, p121.2.2.2.1, p121.2.2.2.2), B122, d123, rfl, hF.keep _ ⟨rfl, rfl, rfl, rfl, rfl, rfl, rfl, trivial⟩, S.sel [0, 1, 2, 3] rfl rfl⟩
          · replace hM120 := bif_t hc124 hM120
            refine cond_t hF rfl hc124 ?_
            refine wp_skip ?_
            refine wp_seq ?_
            refine wp_block ?_
            refine wp_seq ?_
            refine wp_region_lit ?_
            refine op_val (v := .int .i64 p121.1) rfl rfl hF rfl (run_move rfl (hF.ev rfl)) ?_; clear hF; intro a hF
            refine op_val (v := .int .i64 p121.1) rfl rfl hF rfl (run_assign rfl (hF.ev rfl)) ?_; clear hF; intro a hF
            refine wpList_nil ?_
            refine wp_seq ?_
            refine wp_region_lit ?_
            refine op_val (v := .agg #[.int .i64 p121.2.1, .int .i64 p121.2.2.1, .slice B122 p121.2.2.2.1.length d123]) rfl rfl hF rfl (run_loadN rfl ag28 (hF.ev rfl) rfl ((S.free 0 rfl).cells 0 #[.int .i64 p121.2.1, .int .i64 p121.2.2.1, .slice B122 p121.2.2.2.1.length d123] rfl)) ?_; clear hF; intro a hF
            refine op_val (v := .int .i64 (([1, 2] : List Int).getD p111.1.toNat (0 : Int))) rfl rfl hF rfl (run_move rfl (hF.ev rfl)) ?_; clear hF; intro a hF
            refine op_val (v := .int .i64 x3) rfl rfl hF rfl (run_move rfl (hF.ev rfl)) ?_; clear hF; intro a hF
            refine op_val (v := .int .i64 p121.1) rfl rfl hF rfl (run_move rfl (hF.ev rfl)) ?_; clear hF; intro a hF
            refine op_val (v := .agg #[.int .i64 (([1, 2] : List Int).getD p111.1.toNat (0 : Int)), .int .i64 x3, .int .i64 p121.1]) rfl rfl hF rfl (run_build (vs := [(0, .int .i64 (([1, 2] : List Int).getD p111.1.toNat (0 : Int))), (1, .int .i64 x3), (2, .int .i64 p121.1)]) rfl ⟨⟨rfl, (hF.ev rfl)⟩, ⟨rfl, (hF.ev rfl)⟩, ⟨rfl, (hF.ev rfl)⟩, trivial⟩ (bd32_0_1_2 rfl rfl rfl)) ?_; clear hF; intro a hF
            obtain ⟨p125, h125, hM120⟩ := bind_ex hM120
            refine op_call rfl rfl hF rfl (run_call (vs := [.agg #[.int .i64 p121.2.1, .int .i64 p121.2.2.1, .slice B122 p121.2.2.2.1.length d123], .agg #[.int .i64 (([1, 2] : List Int).getD p111.1.toNat (0 : Int)), .int .i64 x3, .int .i64 p121.1]]) rfl rfl co10 ⟨(hF.ev rfl), (hF.ev rfl), trivial⟩) (c_impl_RoomsDo (x0 := p121.2.1) (x1 := p121.2.2.1) (x2 := p121.2.2.2.1) (x3 := (([1, 2] : List Int).getD p111.1.toNat (0 : Int))) (x4 := x3) (x5 := p121.1) ⟨(S.rcm 3 rfl), rfl⟩ h125) ?_
            rintro e u ⟨B126, n127, d128, rfl, rfl, T⟩
            refine ⟨_, rfl, ?_⟩
            clear hF; intro a hF
            replace S := S.call1 T; clear T
            refine op_val (v := .tuple #[.agg #[.int .i64 p125.1, .int .i64 p125.2.1, .slice B126 p125.2.2.1.length d128], .bool p125.2.2.2]) rfl rfl hF rfl (run_move rfl (hF.ev rfl)) ?_; clear hF; intro a hF
            refine op_val (v := .agg #[.int .i64 p125.1, .int .i64 p125.2.1, .slice B126 p125.2.2.1.length d128]) rfl rfl hF rfl (run_extract rfl (hF.ev rfl) rfl) ?_; clear hF; intro a hF
            refine op_val (v := .bool p125.2.2.2) rfl rfl hF rfl (run_extract rfl (hF.ev rfl) rfl) ?_; clear hF; intro a hF
            refine op_new (cs := #[.int .i64 0, .int .i64 0, .slice none 0 0]) rfl rfl hF rfl S (run_allocZ rfl zr28) ?_; clear hF S; intro a g129 u hF S
            refine op_do rfl rfl (run_store (cs' := #[.int .i64 p125.1, .int .i64 p125.2.1, .slice B126 p125.2.2.1.length d128]) rfl sz28 (hF.ev rfl) (hF.ev rfl) rfl rfl rfl (S.free 0 rfl) rfl rfl) ?_; replace S := S.put 0 rfl (#[.int .i64 p125.1, .int .i64 p125.2.1, .slice B126 p125.2.2.1.length d128])
            generalize World.setRow _ _ _ = u at S ⊢
            refine op_val (v := .bool p125.2.2.2) rfl rfl hF rfl (run_assign rfl (hF.ev rfl)) ?_; clear hF; intro a hF
            refine wpList_nil ?_
            refine wp_seq ?_
            refine wp_seq ?_
            refine wp_region_lit ?_
            refine op_val (v := .bool p125.2.2.2) rfl rfl hF rfl (run_move rfl (hF.ev rfl)) ?_; clear hF; intro a hF
            refine op_val (v := .bool (!p125.2.2.2)) rfl rfl hF rfl (run_not rfl (hF.ev rfl)) ?_; clear hF; intro a hF
            refine wpList_nil ?_
            cases hc130 : (p125.2.2.2)
            · replace hM120 := bif_f hc130 hM120
              refine cond_t hF rfl (not_t hc130) ?_
              refine wp_seq ?_
              refine wp_region_lit ?_
              refine op_val (v := .agg #[.int .i64 x0, .int .i64 x1, .slice A2 x2.length c2]) rfl rfl hF rfl (run_loadN rfl ag28 (hF.ev rfl) rfl ((S.free 4 rfl).cells 0 #[.int .i64 x0, .int .i64 x1, .slice A2 x2.length c2] rfl)) ?_; clear hF; intro a hF
              obtain ⟨p131, h131, hM120⟩ := bind_ex hM120
              refine op_call rfl rfl hF rfl (run_call (vs := [.agg #[.int .i64 x0, .int .i64 x1, .slice A2 x2.length c2]]) rfl rfl co29 ⟨(hF.ev rfl), trivial⟩) (c_impl_Rooms_clone (x0 := x0) (x1 := x1) (x2 := x2) ⟨(S.rc0 h2.rc), rfl⟩ h131) ?_
              rintro e u ⟨B132, n133, d134, rfl, rfl, T⟩
              refine ⟨_, rfl, ?_⟩
              clear hF; intro a hF
              replace S := S.call1 T; clear T
              refine op_do rfl rfl (run_store (cs' := #[.int .i64 p131.1, .int .i64 p131.2.1, .slice B132 p131.2.2.length d134]) rfl sz28 (hF.ev rfl) (hF.ev rfl) rfl rfl rfl (S.free 4 rfl) rfl rfl) ?_; replace S := S.put 4 rfl (#[.int .i64 p131.1, .int .i64 p131.2.1, .slice B132 p131.2.2.length d134])
              generalize World.setRow _ _ _ = u at S ⊢
              refine op_val (v := .bool false) rfl rfl hF rfl (run_assign rfl rfl) ?_; clear hF; intro a hF
              refine wpList_nil ?_
              refine wp_ret ?_
              repeat with_reducible (first | refine then_ret ?_ | refine in_ret ?_ | refine in_nrm ?_)
              refine ret2_gw (.inl rfl) hF rfl (res_cell (hF.ev rfl) (res_loadN ag28 rfl (S.cells 4 rfl 0 #[.int .i64 p131.1, .int .i64 p131.2.1, .slice B132 p131.2.2.length d134] rfl))) (res_tmp (hF.ev rfl)) ?_
              obtain rfl := Option.some.inj hM120
              obtain rfl := Option.some.inj hM110
              obtain rfl := Option.some.inj hM
              exact ⟨B132, p131.2.2.length, d134, rfl, rfl, S.sel [0] rfl rfl⟩
            · replace hM120 := bif_t hc130 hM120
              refine cond_f hF rfl (not_f hc130) ?_
              refine wp_skip ?_
              refine wp_region_lit ?_
              refine op_val (v := .agg #[.int .i64 p125.1, .int .i64 p125.2.1, .slice B126 p125.2.2.1.length d128]) rfl rfl hF rfl (run_loadN rfl ag28 (hF.ev rfl) rfl ((S.free 0 rfl).cells 0 #[.int .i64 p125.1, .int .i64 p125.2.1, .slice B126 p125.2.2.1.length d128] rfl)) ?_; clear hF; intro a hF
              refine op_do rfl rfl (run_store (cs' := #[.int .i64 p125.1, .int .i64 p125.2.1, .slice B126 p125.2.2.1.length d128]) rfl sz28 (hF.ev rfl) (hF.ev rfl) rfl rfl rfl (S.free 2 rfl) rfl rfl) ?_; replace S := S.put 2 rfl (#[.int .i64 p125.1, .int .i64 p125.2.1, .slice B126 p125.2.2.1.length d128])
              generalize World.setRow _ _ _ = u at S ⊢
              refine wpList_nil ?_
              refine wp_region_lit ?_
              refine op_val (v := .int .i64 (w64 (p121.1 + 1))) rfl rfl hF rfl (run_add (z := w64 (p121.1 + 1)) (hF.ev rfl) rfl rfl rfl) ?_; clear hF; intro a hF
              refine op_val (v := .int .i64 (w64 (p121.1 + 1))) rfl rfl hF rfl (run_move rfl (hF.ev rfl)) ?_; clear hF; intro a hF
              refine wpList_nil ?_
              exact ⟨f2, Nat.lt_succ_self _, (w64 (p121.1 + 1), p125.1, p125.2.1, p125.2.2.1, true), B126, d128, hM120, hF.keep _ ⟨rfl, rfl, rfl, rfl, rfl, rfl, rfl, rfl, rfl, rfl, trivial⟩, S.sel [2, 3, 4, 1] rfl rfl⟩
        · rintro a u ⟨p116, B118, d119, rfl, hF, S⟩
          replace hM110 := elim_l hM110
          refine wp_region_lit ?_
          refine op_val (v := .int .i64 (w64 (p111.1 + 1))) rfl rfl hF rfl (run_add (z := w64 (p111.1 + 1)) (hF.ev rfl) rfl rfl rfl) ?_; clear hF; intro a hF
          refine op_val (v := .int .i64 (w64 (p111.1 + 1))) rfl rfl hF rfl (run_move rfl (hF.ev rfl)) ?_; clear hF; intro a hF
          refine wpList_nil ?_
          exact ⟨f1, Nat.lt_succ_self _, (w64 (p111.1 + 1), p116.1, p116.2.1, p116.2.2.1, p116.2.2.2), B118, d119, hM110, hF.keep _ ⟨rfl, rfl, rfl, rfl, rfl, rfl, rfl, trivial⟩, S.sel [0, 1, 2, 3] rfl rfl⟩
    · rintro a u ⟨p106, B108, d109, rfl, hF, S⟩
      replace hM := elim_l hM
      refine wp_seq ?_
      refine wp_region_lit ?_
      refine op_val (v := .agg #[.int .i64 p106.1, .int .i64 p106.2.1, .slice B108 p106.2.2.1.length d109]) rfl rfl hF rfl (run_loadN rfl ag28 (hF.ev rfl) rfl ((S.free 0 rfl).cells 0 #[.int .i64 p106.1, .int .i64 p106.2.1, .slice B108 p106.2.2.1.length d109] rfl)) ?_; clear hF; intro a hF
      refine op_do rfl rfl (run_store (cs' := #[.int .i64 p106.1, .int .i64 p106.2.1, .slice B108 p106.2.2.1.length d109]) rfl sz28 (hF.ev rfl) (hF.ev rfl) rfl rfl rfl (S.free 1 rfl) rfl rfl) ?_; replace S := S.put 1 rfl (#[.int .i64 p106.1, .int .i64 p106.2.1, .slice B108 p106.2.2.1.length d109])
      generalize World.setRow _ _ _ = u at S ⊢
      refine op_val (v := .bool true) rfl rfl hF rfl (run_assign rfl rfl) ?_; clear hF; intro a hF
      refine wpList_nil ?_
      refine wp_ret ?_
      repeat with_reducible (first | refine then_ret ?_ | refine in_ret ?_ | refine in_nrm ?_)
      refine ret2_gw (.inl rfl) hF rfl (res_cell (hF.ev rfl) (res_loadN ag28 rfl (S.cells 1 rfl 0 #[.int .i64 p106.1, .int .i64 p106.2.1, .slice B108 p106.2.2.1.length d109] rfl))) (res_tmp (hF.ev rfl)) ?_
      obtain ⟨hk135, hM⟩ := chk_ex hM
      obtain rfl := Option.some.inj hM
      replace S := S.mrow_t 3 rfl hk135
      exact ⟨B108, p106.2.2.1.length, d109, rfl, rfl, S.sel [3] rfl rfl⟩

set_option maxHeartbeats 4000000 in
theorem c_laws_FnExactRoomTake {x0 : Int} {x1 : Int} {x2 : List Int} {x3 : Int} {A2 : Option Addr} {n2 c2 : Nat} {w : World} {r : Bool} (h2 : Rt w 1 eI A2 n2 c2 x2) (hM : m_laws_FnExactRoomTake x0 x1 x2 x3 = some r) :
    Calls Try.prog 4 #[.agg #[.int .i64 x0, .int .i64 x1, .slice A2 n2 c2], .int .i64 x3] w (fun e w' => e = .returned (.bool r) ∧ St w w' []) := by
  obtain rfl := h2.len
  unfold m_laws_FnExactRoomTake at hM
  refine calls_gw Try.func4 Try.ntmps4 rfl [(0, .agg #[.int .i64 x0, .int .i64 x1, .slice A2 x2.length c2]), (1, .int .i64 x3)] ⟨rfl, rfl, trivial⟩ rfl ?_
  intro a hF
  have S := St.nil w
  refine wp_seq ?_
  refine wp_region_lit ?_
  refine op_new (cs := #[.int .i64 x0, .int .i64 x1, .slice A2 x2.length c2]) rfl rfl hF rfl S (run_box rfl (hF.ev rfl) rfl) ?_; clear hF S; intro a g101 u hF S
  refine op_val (v := .bool false) rfl rfl hF rfl (run_assign rfl rfl) ?_; clear hF; intro a hF
  refine wpList_nil ?_
  refine wp_seq ?_
  refine wp_region_lit ?_
  refine op_val (v := .int .i64 1048576) rfl rfl hF rfl (run_assign rfl rfl) ?_; clear hF; intro a hF
  refine wpList_nil ?_
  refine wp_seq ?_
  refine wp_region_lit ?_
  refine op_val (v := .agg #[.int .i64 x0, .int .i64 x1, .slice A2 x2.length c2]) rfl rfl hF rfl (run_loadN rfl ag24 (hF.ev rfl) rfl ((S.free 0 rfl).cells 0 #[.int .i64 x0, .int .i64 x1, .slice A2 x2.length c2] rfl)) ?_; clear hF; intro a hF
  refine op_val (v := .int .i64 1048576) rfl rfl hF rfl (run_move rfl (hF.ev rfl)) ?_; clear hF; intro a hF
  obtain ⟨p102, h102, hM⟩ := bind_ex hM
  refine op_call rfl rfl hF rfl (run_call (vs := [.agg #[.int .i64 x0, .int .i64 x1, .slice A2 x2.length c2], .int .i64 1048576]) rfl rfl co6 ⟨(hF.ev rfl), (hF.ev rfl), trivial⟩) (c_laws_szRooms (x0 := x0) (x1 := x1) (x2 := x2) (x3 := 1048576) ⟨(S.rc0 h2.rc), rfl⟩ h102) ?_
  rintro e u ⟨rfl, T⟩
  refine ⟨_, rfl, ?_⟩
  clear hF; intro a hF
  replace S := S.call0 T; clear T
  refine op_val (v := .int .i64 p102) rfl rfl hF rfl (run_assign rfl (hF.ev rfl)) ?_; clear hF; intro a hF
  refine wpList_nil ?_
  refine wp_seq ?_
  refine wp_seq ?_
  refine wp_region_lit ?_
  refine op_val (v := .int .i64 p102) rfl rfl hF rfl (run_move rfl (hF.ev rfl)) ?_; clear hF; intro a hF
  refine op_val (v := .bool (ltB p102 0)) rfl rfl hF rfl (run_lss (hF.ev rfl) rfl rfl) ?_; clear hF; intro a hF
  refine wpList_nil ?_
  cases hc103 : (ltB p102 0)
  · replace hM := bif_f hc103 hM
    refine cond_f hF rfl hc103 ?_
    refine wp_skip ?_
    refine wp_seq ?_
    refine wp_region_lit ?_
    refine op_val (v := .agg #[.int .i64 x0, .int .i64 x1, .slice A2 x2.length c2]) rfl rfl hF rfl (run_loadN rfl ag24 (hF.ev rfl) rfl ((S.free 0 rfl).cells 0 #[.int .i64 x0, .int .i64 x1, .slice A2 x2.length c2] rfl)) ?_; clear hF; intro a hF
    obtain ⟨p104, h104, hM⟩ := bind_ex hM
    refine op_call rfl rfl hF rfl (run_call (vs := [.agg #[.int .i64 x0, .int .i64 x1, .slice A2 x2.length c2]]) rfl rfl co8 ⟨(hF.ev rfl), trivial⟩) (c_laws_toRooms (x0 := x0) (x1 := x1) (x2 := x2) ⟨(S.rc0 h2.rc), rfl⟩ h104) ?_
    rintro e u ⟨B105, n106, d107, rfl, rfl, T⟩
    refine ⟨_, rfl, ?_⟩
    clear hF; intro a hF
    replace S := S.call1 T; clear T
    refine op_val (v := .int .i64 x3) rfl rfl hF rfl (run_move rfl (hF.ev rfl)) ?_; clear hF; intro a hF
    obtain ⟨p108, h108, hM⟩ := bind_ex hM
    refine op_call rfl rfl hF rfl (run_call (vs := [.agg #[.int .i64 p104.1, .int .i64 p104.2.1, .slice B105 p104.2.2.length d107], .int .i64 x3]) rfl rfl co14 ⟨(hF.ev rfl), (hF.ev rfl), trivial⟩) (c_spec_RoomTake (x0 := p104.1) (x1 := p104.2.1) (x2 := p104.2.2) (x3 := x3) ⟨(S.rc 0 rfl), rfl⟩ h108) ?_
    rintro e u ⟨B109, n110, d111, rfl, rfl, T⟩
    refine ⟨_, rfl, ?_⟩
    clear hF; intro a hF
    replace S := S.call1 T; clear T
    refine op_val (v := .tuple #[.agg #[.int .i64 p108.1, .int .i64 p108.2.1, .slice B109 p108.2.2.1.length d111], .bool p108.2.2.2]) rfl rfl hF rfl (run_move rfl (hF.ev rfl)) ?_; clear hF; intro a hF
    refine op_val (v := .agg #[.int .i64 p108.1, .int .i64 p108.2.1, .slice B109 p108.2.2.1.length d111]) rfl rfl hF rfl (run_extract rfl (hF.ev rfl) rfl) ?_; clear hF; intro a hF
    refine op_val (v := .bool p108.2.2.2) rfl rfl hF rfl (run_extract rfl (hF.ev rfl) rfl) ?_; clear hF; intro a hF
    refine op_new (cs := #[.int .i64 0, .int .i64 0, .slice none 0 0]) rfl rfl hF rfl S (run_allocZ rfl zr28) ?_; clear hF S; intro a g112 u hF S
    refine op_do rfl rfl (run_store (cs' := #[.int .i64 p108.1, .int .i64 p108.2.1, .slice B109 p108.2.2.1.length d111]) rfl sz28 (hF.ev rfl) (hF.ev rfl) rfl rfl rfl (S.free 0 rfl) rfl rfl) ?_; replace S := S.put 0 rfl (#[.int .i64 p108.1, .int .i64 p108.2.1, .slice B109 p108.2.2.1.length d111])
    generalize World.setRow _ _ _ = u at S ⊢
    refine op_val (v := .bool p108.2.2.2) rfl rfl hF rfl (run_assign rfl (hF.ev rfl)) ?_; clear hF; intro a hF
    refine wpList_nil ?_
    refine wp_seq ?_
    refine wp_region_lit ?_
    refine op_val (v := .agg #[.int .i64 x0, .int .i64 x1, .slice A2 x2.length c2]) rfl rfl hF rfl (run_loadN rfl ag24 (hF.ev rfl) rfl ((S.free 3 rfl).cells 0 #[.int .i64 x0, .int .i64 x1, .slice A2 x2.length c2] rfl)) ?_; clear hF; intro a hF
    obtain ⟨p113, h113, hM⟩ := bind_ex hM
    refine op_call rfl rfl hF rfl (run_call (vs := [.agg #[.int .i64 x0, .int .i64 x1, .slice A2 x2.length c2]]) rfl rfl co8 ⟨(hF.ev rfl), trivial⟩) (c_laws_toRooms (x0 := x0) (x1 := x1) (x2 := x2) ⟨(S.rc0 h2.rc), rfl⟩ h113) ?_
    rintro e u ⟨B114, n115, d116, rfl, rfl, T⟩
    refine ⟨_, rfl, ?_⟩
    clear hF; intro a hF
    replace S := S.call1 T; clear T
    refine op_new (cs := #[.int .i64 0, .int .i64 0, .slice none 0 0]) rfl rfl hF rfl S (run_allocZ rfl zr28) ?_; clear hF S; intro a g117 u hF S
    refine op_do rfl rfl (run_store (cs' := #[.int .i64 p113.1, .int .i64 p113.2.1, .slice B114 p113.2.2.length d116]) rfl sz28 (hF.ev rfl) (hF.ev rfl) rfl rfl rfl (S.free 0 rfl) rfl rfl) ?_; replace S := S.put 0 rfl (#[.int .i64 p113.1, .int .i64 p113.2.1, .slice B114 p113.2.2.length d116])
    generalize World.setRow _ _ _ = u at S ⊢
    refine wpList_nil ?_
    refine wp_seq ?_
    refine wp_region_lit ?_
    refine op_val (v := .agg #[.int .i64 p113.1, .int .i64 p113.2.1, .slice B114 p113.2.2.length d116]) rfl rfl hF rfl (run_loadN rfl ag28 (hF.ev rfl) rfl ((S.free 0 rfl).cells 0 #[.int .i64 p113.1, .int .i64 p113.2.1, .slice B114 p113.2.2.length d116] rfl)) ?_; clear hF; intro a hF
    refine op_val (v := .int .i64 x3) rfl rfl hF rfl (run_move rfl (hF.ev rfl)) ?_; clear hF; intro a hF
    obtain ⟨p118, h118, hM⟩ := bind_ex hM
    refine op_call rfl rfl hF rfl (run_call (vs := [.agg #[.int .i64 p113.1, .int .i64 p113.2.1, .slice B114 p113.2.2.length d116], .int .i64 x3]) rfl rfl co15 ⟨(hF.ev rfl), (hF.ev rfl), trivial⟩) (c_impl_RoomTake (x0 := p113.1) (x1 := p113.2.1) (x2 := p113.2.2) (x3 := x3) ⟨(S.rc 1 rfl), rfl⟩ h118) ?_
    rintro e u ⟨B119, n120, d121, rfl, rfl, T⟩
    refine ⟨_, rfl, ?_⟩
    clear hF; intro a hF
    replace S := S.call1 T; clear T
    refine op_val (v := .tuple #[.agg #[.int .i64 p118.1, .int .i64 p118.2.1, .slice B119 p118.2.2.1.length d121], .bool p118.2.2.2]) rfl rfl hF rfl (run_move rfl (hF.ev rfl)) ?_; clear hF; intro a hF
    refine op_val (v := .agg #[.int .i64 p118.1, .int .i64 p118.2.1, .slice B119 p118.2.2.1.length d121]) rfl rfl hF rfl (run_extract rfl (hF.ev rfl) rfl) ?_; clear hF; intro a hF
    refine op_val (v := .bool p118.2.2.2) rfl rfl hF rfl (run_extract rfl (hF.ev rfl) rfl) ?_; clear hF; intro a hF
    refine op_new (cs := #[.int .i64 0, .int .i64 0, .slice none 0 0]) rfl rfl hF rfl S (run_allocZ rfl zr28) ?_; clear hF S; intro a g122 u hF S
    refine op_do rfl rfl (run_store (cs' := #[.int .i64 p118.1, .int .i64 p118.2.1, .slice B119 p118.2.2.1.length d121]) rfl sz28 (hF.ev rfl) (hF.ev rfl) rfl rfl rfl (S.free 0 rfl) rfl rfl) ?_; replace S := S.put 0 rfl (#[.int .i64 p118.1, .int .i64 p118.2.1, .slice B119 p118.2.2.1.length d121])
    generalize World.setRow _ _ _ = u at S ⊢
    refine op_val (v := .bool p118.2.2.2) rfl rfl hF rfl (run_assign rfl (hF.ev rfl)) ?_; clear hF; intro a hF
    refine wpList_nil ?_
    refine wp_seq ?_
    refine wp_seq ?_
    refine wp_region_lit ?_
    refine op_val (v := .agg #[.int .i64 p118.1, .int .i64 p118.2.1, .slice B119 p118.2.2.1.length d121]) rfl rfl hF rfl (run_loadN rfl ag28 (hF.ev rfl) rfl ((S.free 0 rfl).cells 0 #[.int .i64 p118.1, .int .i64 p118.2.1, .slice B119 p118.2.2.1.length d121] rfl)) ?_; clear hF; intro a hF
    refine op_val (v := .agg #[.int .i64 p108.1, .int .i64 p108.2.1, .slice B109 p108.2.2.1.length d111]) rfl rfl hF rfl (run_loadN rfl ag28 (hF.ev rfl) rfl ((S.free 4 rfl).cells 0 #[.int .i64 p108.1, .int .i64 p108.2.1, .slice B109 p108.2.2.1.length d111] rfl)) ?_; clear hF; intro a hF
    obtain ⟨p123, h123, hM⟩ := bind_ex hM
    refine op_call rfl rfl hF rfl (run_call (vs := [.agg #[.int .i64 p118.1, .int .i64 p118.2.1, .slice B119 p118.2.2.1.length d121], .agg #[.int .i64 p108.1, .int .i64 p108.2.1, .slice B109 p108.2.2.1.length d111]]) rfl rfl co11 ⟨(hF.ev rfl), (hF.ev rfl), trivial⟩) (c_laws_eqRooms (x0 := p118.1) (x1 := p118.2.1) (x2 := p118.2.2.1) (x3 := p108.1) (x4 := p108.2.1) (x5 := p108.2.2.1) ⟨(S.rc 1 rfl), rfl⟩ ⟨(S.rc 5 rfl), rfl⟩ h123) ?_
    rintro e u ⟨rfl, T⟩
    refine ⟨_, rfl, ?_⟩
    clear hF; intro a hF
    replace S := S.call0 T; clear T
    refine op_val (v := .bool (!p123)) rfl rfl hF rfl (run_not rfl (hF.ev rfl)) ?_; clear hF; intro a hF
    refine op_val (v := .bool (!p123)) rfl rfl hF rfl (run_move rfl (hF.ev rfl)) ?_; clear hF; intro a hF
    refine op_gv (v := .bool p118.2.2.2) rfl rfl hF rfl (yf (gw_yield hF rfl rfl rfl)) (fun hg => (run_move rfl (hF.ev rfl))) ?_; clear hF; intro a hF
    refine op_gv (v := .bool p108.2.2.2) rfl rfl hF rfl (yf (gw_yield hF rfl rfl rfl)) (fun hg => (run_move rfl (hF.ev rfl))) ?_; clear hF; intro a hF
    refine op_gv (v := .bool (p118.2.2.2 != p108.2.2.2)) rfl rfl hF rfl (yf (gw_yield hF rfl rfl rfl)) (fun hg => (run_neqB ((hF.ev rfl).trans (gv_t hg)) ((hF.ev rfl).trans (gv_t hg)) Try.underlying4 rfl)) ?_; clear hF; intro a hF
    refine op_val (v := .bool ((!p123) || (p118.2.2.2 != p108.2.2.2))) rfl rfl hF rfl (run_pick_or rfl (hF.ev rfl) rfl (fun hp => ((hF.ev rfl).trans (gv_t (not_t hp))))) ?_; clear hF; intro a hF
    refine wpList_nil ?_
    cases hc124 : ((!p123) || (p118.2.2.2 != p108.2.2.2))
    · replace hM := bif_f hc124 hM
      refine cond_f hF rfl hc124 ?_
      refine wp_skip ?_
      refine wp_seq ?_
      refine wp_seq ?_
      obtain ⟨p125, h125, hM⟩ := bind_ex hM
      obtain ⟨p129, h129, hM⟩ := bind_ex hM
      refine region_gw (D := [45, 46, 47, 48, 49]) (Lr := [.box g122 28 #[.int .i64 p118.1, .int .i64 p118.2.1, .slice B119 p118.2.2.1.length d121], .row 3 1 (.slice B119 p118.2.2.1.length d121) p118.2.2.1.length (p118.2.2.1.flatMap eI), .box g117 28 #[.int .i64 p113.1, .int .i64 p113.2.1, .slice B114 p113.2.2.length d116], .row 3 1 (.slice B114 p113.2.2.length d116) p113.2.2.length (p113.2.2.flatMap eI), .box g112 28 #[.int .i64 p108.1, .int .i64 p108.2.1, .slice B109 p108.2.2.1.length d111], .row 3 1 (.slice B109 p108.2.2.1.length d111) p108.2.2.1.length (p108.2.2.1.flatMap eI), .row 3 1 (.slice B105 p104.2.2.length d107) p104.2.2.length (p104.2.2.flatMap eI), .box g101 24 #[.int .i64 x0, .int .i64 x1, .slice A2 x2.length c2]]) (deps := (fun | 0 => [45] | 1 => [46] | 2 => [47] | 3 => [48] | 4 => [49] | _ => [])) (rd := (fun | 3 => [2] | _ => [])) (zr := (fun _ => []))
        (φ := fun i vs => match i, vs with | 0, [v45] => v45 = .agg #[.int .i64 p113.1, .int .i64 p113.2.1, .slice B114 p113.2.2.length d116] | 1, [v46] => v46 = .agg #[.int .i64 x0, .int .i64 x1, .slice A2 x2.length c2] | 2, [v47] => v47 = .agg #[.int .i64 p125.1, .int .i64 p125.2.1, .slice (slA (vtup v47 2)) p125.2.2.length (slC (vtup v47 2))] | 3, [v48] => v48 = .bool p129 | 4, [v49] => v49 = .bool (!p129) | _, _ => True)
        (C := fun i vs => match i, vs with | 2, [v47] => [.row 3 1 (.slice (slA (vtup v47 2)) p125.2.2.length (slC (vtup v47 2))) p125.2.2.length (p125.2.2.flatMap eI)] | _, _ => [])
        (κ := (fun _ => none)) (Z := (fun _ => [])) mixed hF (by kernel_rfl) S ?_ ?_
      · refine ⟨?_, ?_, ?_, ?_, ?_, trivial⟩
        · intro a u X hB hp hr hz hl S
          replace S : St w u ([] ++ X) := S
          exact .inl ⟨rfl, .agg #[.int .i64 p113.1, .int .i64 p113.2.1, .slice B114 p113.2.2.length d116], u, (run_loadN rfl ag28 (hF.evB hB rfl rfl) rfl ((gr_box S hl 2 rfl).cells 0 #[.int .i64 p113.1, .int .i64 p113.2.1, .slice B114 p113.2.2.length d116] rfl)), rfl, S⟩
        · intro a u X hB hp hr hz hl S
          replace S : St w u ([] ++ X) := S
          exact .inl ⟨rfl, .agg #[.int .i64 x0, .int .i64 x1, .slice A2 x2.length c2], u, (run_loadN rfl ag24 (hF.evB hB rfl rfl) rfl ((gr_box S hl 7 rfl).cells 0 #[.int .i64 x0, .int .i64 x1, .slice A2 x2.length c2] rfl)), rfl, S⟩
        · intro a u X hB hp hr hz hl S
          replace S : St w u ([] ++ X) := S
          have e46 : sl a 46 = .agg #[.int .i64 x0, .int .i64 x1, .slice A2 x2.length c2] := hp 1 rfl
          refine .inr (.inr (.inl ⟨rfl, _, _, (run_call (vs := [.agg #[.int .i64 x0, .int .i64 x1, .slice A2 x2.length c2]]) rfl rfl co8 ⟨(ev_sl e46), trivial⟩), ?_⟩))
          refine Calls.mono (c_laws_toRooms (x0 := x0) (x1 := x1) (x2 := x2) ⟨(S.rc0 h2.rc), rfl⟩ h125) ?_
          rintro e w1 ⟨B126, n127, d128, rfl, rfl, T⟩
          exact ⟨_, rfl, rfl, S.call1 T⟩
        · intro a u X hB hp hr hz hl S
          replace S : St w u ([] ++ X) := S
          have e45 : sl a 45 = .agg #[.int .i64 p113.1, .int .i64 p113.2.1, .slice B114 p113.2.2.length d116] := hp 0 rfl
          have e47 : sl a 47 = .agg #[.int .i64 p125.1, .int .i64 p125.2.1, .slice (slA (vtup (sl a 47) 2)) p125.2.2.length (slC (vtup (sl a 47) 2))] := hp 2 rfl
          refine .inr (.inr (.inl ⟨rfl, _, _, (run_call (vs := [.agg #[.int .i64 p113.1, .int .i64 p113.2.1, .slice B114 p113.2.2.length d116], .agg #[.int .i64 p125.1, .int .i64 p125.2.1, .slice (slA (vtup (sl a 47) 2)) p125.2.2.length (slC (vtup (sl a 47) 2))]]) rfl rfl co11 ⟨(ev_sl e45), (ev_sl e47), trivial⟩), ?_⟩))
          refine Calls.mono (c_laws_eqRooms (x0 := p113.1) (x1 := p113.2.1) (x2 := p113.2.2) (x3 := p125.1) (x4 := p125.2.1) (x5 := p125.2.2) ⟨(gr_rc S hl 3 rfl), rfl⟩ ⟨(own_rc (show World.ownsRow _ 0 _ _ _ _ _ from S.mem (List.mem_append_right _ (hr 2 (List.mem_of_getElem? (i := 0) rfl) _ (List.mem_of_getElem? (i := 0) rfl))))), rfl⟩ h129) ?_
          rintro e w1 ⟨rfl, T⟩
          exact ⟨_, rfl, rfl, S.call0 T⟩
        · intro a u X hB hp hr hz hl S
          replace S : St w u ([] ++ X) := S
          have e48 : sl a 48 = .bool p129 := hp 3 rfl
          exact .inl ⟨rfl, .bool (!p129), u, (run_not rfl (ev_sl e48)), rfl, S⟩
      · intro a u hB hp S
        obtain ⟨q0, q1, q2, q3, q4, _⟩ := hp
        have e45 : sl a 45 = .agg #[.int .i64 p113.1, .int .i64 p113.2.1, .slice B114 p113.2.2.length d116] := q0
        have e46 : sl a 46 = .agg #[.int .i64 x0, .int .i64 x1, .slice A2 x2.length c2] := q1
        have e47 : sl a 47 = .agg #[.int .i64 p125.1, .int .i64 p125.2.1, .slice (slA (vtup (sl a 47) 2)) p125.2.2.length (slC (vtup (sl a 47) 2))] := q2
        have e48 : sl a 48 = .bool p129 := q3
        have e49 : sl a 49 = .bool (!p129) := q4
        replace S : St w u [.row 3 1 (.slice (slA (vtup (sl a 47) 2)) p125.2.2.length (slC (vtup (sl a 47) 2))) p125.2.2.length (p125.2.2.flatMap eI), .box g122 28 #[.int .i64 p118.1, .int .i64 p118.2.1, .slice B119 p118.2.2.1.length d121], .row 3 1 (.slice B119 p118.2.2.1.length d121) p118.2.2.1.length (p118.2.2.1.flatMap eI), .box g117 28 #[.int .i64 p113.1, .int .i64 p113.2.1, .slice B114 p113.2.2.length d116], .row 3 1 (.slice B114 p113.2.2.length d116) p113.2.2.length (p113.2.2.flatMap eI), .box g112 28 #[.int .i64 p108.1, .int .i64 p108.2.1, .slice B109 p108.2.2.1.length d111], .row 3 1 (.slice B109 p108.2.2.1.length d111) p108.2.2.1.length (p108.2.2.1.flatMap eI), .row 3 1 (.slice B105 p104.2.2.length d107) p104.2.2.length (p104.2.2.flatMap eI), .box g101 24 #[.int .i64 x0, .int .i64 x1, .slice A2 x2.length c2]] := S
        clear q0 q1 q2 q3 q4
        generalize slA (vtup (sl a 47) 2) = B130 at *
        generalize slC (vtup (sl a 47) 2) = d131 at *
        have hF := hF.region hB [(45, .agg #[.int .i64 p113.1, .int .i64 p113.2.1, .slice B114 p113.2.2.length d116]), (46, .agg #[.int .i64 x0, .int .i64 x1, .slice A2 x2.length c2]), (47, .agg #[.int .i64 p125.1, .int .i64 p125.2.1, .slice B130 p125.2.2.length d131]), (48, .bool p129), (49, .bool (!p129))] (allSl_mem ⟨e45, e46, e47, e48, e49, trivial⟩) rfl
        clear hB e45 e46 e47 e48 e49
        cases hc132 : (p129)
        · replace hM := bif_f hc132 hM
          refine cond_t hF rfl (not_t hc132) ?_
          refine wp_seq ?_
          refine wp_region_lit ?_
          refine op_val (v := .bool false) rfl rfl hF rfl (run_assign rfl rfl) ?_; clear hF; intro a hF
          refine wpList_nil ?_
          refine wp_ret ?_
          repeat with_reducible (first | refine then_ret ?_ | refine in_ret ?_ | refine in_nrm ?_)
          refine ret1_gw (.inl rfl) hF rfl (res_tmp (hF.ev rfl)) ?_
          obtain rfl := Option.some.inj hM
          exact ⟨rfl, S.sel [] rfl rfl⟩
        · replace hM := bif_t hc132 hM
          refine cond_f hF rfl (not_f hc132) ?_
          refine wp_skip ?_
          refine wp_seq ?_
          refine wp_region_lit ?_
          refine op_val (v := .int .i64 1) rfl rfl hF rfl (run_assign rfl rfl) ?_; clear hF; intro a hF
          refine wpList_nil ?_
          refine wp_seq ?_
          refine wp_region_lit ?_
          refine op_val (v := .agg #[.int .i64 p113.1, .int .i64 p113.2.1, .slice B114 p113.2.2.length d116]) rfl rfl hF rfl (run_loadN rfl ag28 (hF.ev rfl) rfl ((S.free 3 rfl).cells 0 #[.int .i64 p113.1, .int .i64 p113.2.1, .slice B114 p113.2.2.length d116] rfl)) ?_; clear hF; intro a hF
          refine op_val (v := .int .i64 1) rfl rfl hF rfl (run_move rfl (hF.ev rfl)) ?_; clear hF; intro a hF
          obtain ⟨p133, h133, hM⟩ := bind_ex hM
          refine op_call rfl rfl hF rfl (run_call (vs := [.agg #[.int .i64 p113.1, .int .i64 p113.2.1, .slice B114 p113.2.2.length d116], .int .i64 1]) rfl rfl co12 ⟨(hF.ev rfl), (hF.ev rfl), trivial⟩) (c_laws_markRooms (x0 := p113.1) (x1 := p113.2.1) (x2 := p113.2.2) (x3 := 1) rfl (show St w _ [.row 3 1 (.slice B114 p113.2.2.length d116) p113.2.2.length (p113.2.2.flatMap eI), .row 3 1 (.slice B130 p125.2.2.length d131) p125.2.2.length (p125.2.2.flatMap eI), .box g122 28 #[.int .i64 p118.1, .int .i64 p118.2.1, .slice B119 p118.2.2.1.length d121], .row 3 1 (.slice B119 p118.2.2.1.length d121) p118.2.2.1.length (p118.2.2.1.flatMap eI), .box g117 28 #[.int .i64 p113.1, .int .i64 p113.2.1, .slice B114 p113.2.2.length d116], .box g112 28 #[.int .i64 p108.1, .int .i64 p108.2.1, .slice B109 p108.2.2.1.length d111], .row 3 1 (.slice B109 p108.2.2.1.length d111) p108.2.2.1.length (p108.2.2.1.flatMap eI), .row 3 1 (.slice B105 p104.2.2.length d107) p104.2.2.length (p104.2.2.flatMap eI), .box g101 24 #[.int .i64 x0, .int .i64 x1, .slice A2 x2.length c2]] from S.sel [4, 0, 1, 2, 3, 5, 6, 7, 8] rfl rfl) h133) ?_
          rintro e u ⟨rfl, hn134, T⟩
          refine ⟨_, rfl, ?_⟩
          clear hF; intro a hF
          clear S; have S := T; clear T
          refine op_val (v := .int .i64 p133.1) rfl rfl hF rfl (run_assign rfl (hF.ev rfl)) ?_; clear hF; intro a hF
          refine wpList_nil ?_
          refine wp_seq ?_
          refine wp_seq ?_
          refine wp_region_lit ?_
          refine op_val (v := .int .i64 p133.1) rfl rfl hF rfl (run_move rfl (hF.ev rfl)) ?_; clear hF; intro a hF
          refine op_val (v := .bool (ltB p133.1 0)) rfl rfl hF rfl (run_lss (hF.ev rfl) rfl rfl) ?_; clear hF; intro a hF
          refine op_val (v := .bool (ltB p133.1 0)) rfl rfl hF rfl (run_move rfl (hF.ev rfl)) ?_; clear hF; intro a hF
          refine op_gv (v := .agg #[.int .i64 p118.1, .int .i64 p118.2.1, .slice B119 p118.2.2.1.length d121]) rfl rfl hF rfl (yf (gw_yield hF rfl rfl rfl)) (fun hg => (run_loadN rfl ag28 (hF.ev rfl) rfl ((S.free 2 rfl).cells 0 #[.int .i64 p118.1, .int .i64 p118.2.1, .slice B119 p118.2.2.1.length d121] rfl))) ?_; clear hF; intro a hF
          refine op_gv (v := .agg #[.int .i64 p108.1, .int .i64 p108.2.1, .slice B109 p108.2.2.1.length d111]) rfl rfl hF rfl (yf (gw_yield hF rfl rfl rfl)) (fun hg => (run_loadN rfl ag28 (hF.ev rfl) rfl ((S.free 5 rfl).cells 0 #[.int .i64 p108.1, .int .i64 p108.2.1, .slice B109 p108.2.2.1.length d111] rfl))) ?_; clear hF; intro a hF
          obtain ⟨p135, h135, hM⟩ := bind_ex hM
          refine op_gcall (v := .bool p135) rfl rfl hF rfl S (yf (gw_yield hF rfl rfl rfl)) (fun hg => (run_call (vs := [.agg #[.int .i64 p118.1, .int .i64 p118.2.1, .slice B119 p118.2.2.1.length d121], .agg #[.int .i64 p108.1, .int .i64 p108.2.1, .slice B109 p108.2.2.1.length d111]]) rfl rfl co11 ⟨((hF.ev rfl).trans (gv_t hg)), ((hF.ev rfl).trans (gv_t hg)), trivial⟩)) (fun hg => c_laws_eqRooms (x0 := p118.1) (x1 := p118.2.1) (x2 := p118.2.2.1) (x3 := p108.1) (x4 := p108.2.1) (x5 := p108.2.2.1) ⟨(S.rc 3 rfl), rfl⟩ ⟨(S.rc 6 rfl), rfl⟩ (gb_t h135 hg)) ?_; clear hF S; intro a u hF S
          refine op_gv (v := .bool (!p135)) rfl rfl hF rfl (yf (gw_yield hF rfl rfl rfl)) (fun hg => (run_not rfl ((hF.ev rfl).trans (gv_t hg)))) ?_; clear hF; intro a hF
          refine op_val (v := .bool ((ltB p133.1 0) || (!p135))) rfl rfl hF rfl (run_pick_or rfl (hF.ev rfl) rfl (fun hp => ((hF.ev rfl).trans (gv_t (not_t hp))))) ?_; clear hF; intro a hF
          refine op_val (v := .bool ((ltB p133.1 0) || (!p135))) rfl rfl hF rfl (run_move rfl (hF.ev rfl)) ?_; clear hF; intro a hF
          refine op_gv (v := .bool p118.2.2.2) rfl rfl hF rfl (yf (gw_yield hF rfl rfl rfl)) (fun hg => (run_move rfl (hF.ev rfl))) ?_; clear hF; intro a hF
          refine op_gv (v := .bool p108.2.2.2) rfl rfl hF rfl (yf (gw_yield hF rfl rfl rfl)) (fun hg => (run_move rfl (hF.ev rfl))) ?_; clear hF; intro a hF
          refine op_gv (v := .bool (p118.2.2.2 != p108.2.2.2)) rfl rfl hF rfl (yf (gw_yield hF rfl rfl rfl)) (fun hg => (run_neqB ((hF.ev rfl).trans (gv_t hg)) ((hF.ev rfl).trans (gv_t hg)) Try.underlying4 rfl)) ?_; clear hF; intro a hF
          refine op_val (v := .bool (((ltB p133.1 0) || (!p135)) || (p118.2.2.2 != p108.2.2.2))) rfl rfl hF rfl (run_pick_or rfl (hF.ev rfl) rfl (fun hp => ((hF.ev rfl).trans (gv_t (not_t hp))))) ?_; clear hF; intro a hF
          refine wpList_nil ?_
          cases hc136 : (((ltB p133.1 0) || (!p135)) || (p118.2.2.2 != p108.2.2.2))
          · replace hM := bif_f hc136 hM
            refine cond_f hF rfl hc136 ?_
            refine wp_skip ?_
            refine wp_seq ?_
            refine wp_region_lit ?_
            refine op_val (v := .int .i64 1) rfl rfl hF rfl (run_assign rfl rfl) ?_; clear hF; intro a hF
            refine wpList_nil ?_
            refine wp_seq ?_
            refine wp_region_lit ?_
            refine op_val (v := .agg #[.int .i64 p118.1, .int .i64 p118.2.1, .slice B119 p118.2.2.1.length d121]) rfl rfl hF rfl (run_loadN rfl ag28 (hF.ev rfl) rfl ((S.free 2 rfl).cells 0 #[.int .i64 p118.1, .int .i64 p118.2.1, .slice B119 p118.2.2.1.length d121] rfl)) ?_; clear hF; intro a hF
            refine op_val (v := .int .i64 1) rfl rfl hF rfl (run_move rfl (hF.ev rfl)) ?_; clear hF; intro a hF
            obtain ⟨p137, h137, hM⟩ := bind_ex hM
            refine op_call rfl rfl hF rfl (run_call (vs := [.agg #[.int .i64 p118.1, .int .i64 p118.2.1, .slice B119 p118.2.2.1.length d121], .int .i64 1]) rfl rfl co12 ⟨(hF.ev rfl), (hF.ev rfl), trivial⟩) (c_laws_markRooms (x0 := p118.1) (x1 := p118.2.1) (x2 := p118.2.2.1) (x3 := 1) rfl (show St w _ [.row 3 1 (.slice B119 p118.2.2.1.length d121) p118.2.2.1.length (p118.2.2.1.flatMap eI), .row 3 1 (.slice B114 p113.2.2.length d116) p113.2.2.length (p133.2.flatMap eI), .row 3 1 (.slice B130 p125.2.2.length d131) p125.2.2.length (p125.2.2.flatMap eI), .box g122 28 #[.int .i64 p118.1, .int .i64 p118.2.1, .slice B119 p118.2.2.1.length d121], .box g117 28 #[.int .i64 p113.1, .int .i64 p113.2.1, .slice B114 p113.2.2.length d116], .box g112 28 #[.int .i64 p108.1, .int .i64 p108.2.1, .slice B109 p108.2.2.1.length d111], .row 3 1 (.slice B109 p108.2.2.1.length d111) p108.2.2.1.length (p108.2.2.1.flatMap eI), .row 3 1 (.slice B105 p104.2.2.length d107) p104.2.2.length (p104.2.2.flatMap eI), .box g101 24 #[.int .i64 x0, .int .i64 x1, .slice A2 x2.length c2]] from S.sel [3, 0, 1, 2, 4, 5, 6, 7, 8] rfl rfl) h137) ?_
            rintro e u ⟨rfl, hn138, T⟩
            refine ⟨_, rfl, ?_⟩
            clear hF; intro a hF
            clear S; have S := T; clear T
            refine op_val (v := .int .i64 p137.1) rfl rfl hF rfl (run_assign rfl (hF.ev rfl)) ?_; clear hF; intro a hF
            refine wpList_nil ?_
            refine wp_seq ?_
            refine wp_region_lit ?_
            refine op_val (v := .int .i64 1) rfl rfl hF rfl (run_assign rfl rfl) ?_; clear hF; intro a hF
            refine wpList_nil ?_
            refine wp_seq ?_
            refine wp_region_lit ?_
            refine op_val (v := .agg #[.int .i64 p118.1, .int .i64 p118.2.1, .slice B119 p118.2.2.1.length d121]) rfl rfl hF rfl (run_loadN rfl ag28 (hF.ev rfl) rfl ((S.free 3 rfl).cells 0 #[.int .i64 p118.1, .int .i64 p118.2.1, .slice B119 p118.2.2.1.length d121] rfl)) ?_; clear hF; intro a hF
            refine op_val (v := .int .i64 1) rfl rfl hF rfl (run_move rfl (hF.ev rfl)) ?_; clear hF; intro a hF
            obtain ⟨p139, h139, hM⟩ := bind_ex hM
            refine op_call rfl rfl hF rfl (run_call (vs := [.agg #[.int .i64 p118.1, .int .i64 p118.2.1, .slice B119 p118.2.2.1.length d121], .int .i64 1]) rfl rfl co13 ⟨(hF.ev rfl), (hF.ev rfl), trivial⟩) (c_laws_heldRooms (x0 := p118.1) (x1 := p118.2.1) (x2 := p137.2) (x3 := 1) ⟨(S.rc 0 rfl), hn138⟩ h139) ?_
            rintro e u ⟨rfl, T⟩
            refine ⟨_, rfl, ?_⟩
            clear hF; intro a hF
            replace S := S.call0 T; clear T
            refine op_val (v := .int .i64 p139) rfl rfl hF rfl (run_assign rfl (hF.ev rfl)) ?_; clear hF; intro a hF
            refine wpList_nil ?_
            refine wp_seq ?_
            refine wp_seq ?_
            refine wp_region_lit ?_
            refine op_val (v := .int .i64 p139) rfl rfl hF rfl (run_move rfl (hF.ev rfl)) ?_; clear hF; intro a hF
            refine op_val (v := .bool (ltB p139 0)) rfl rfl hF rfl (run_lss (hF.ev rfl) rfl rfl) ?_; clear hF; intro a hF
            refine wpList_nil ?_
            cases hc140 : (ltB p139 0)
            · replace hM := bif_f hc140 hM
              refine cond_f hF rfl hc140 ?_
              refine wp_skip ?_
              refine wp_seq ?_
              refine wp_seq ?_
              refine wp_region_lit ?_
              refine op_val (v := .int .i64 p139) rfl rfl hF rfl (run_move rfl (hF.ev rfl)) ?_; clear hF; intro a hF
              refine op_val (v := .int .i64 p137.1) rfl rfl hF rfl (run_move rfl (hF.ev rfl)) ?_; clear hF; intro a hF
              refine op_val (v := .bool (p139 != p137.1)) rfl rfl hF rfl (run_neq (hF.ev rfl) (hF.ev rfl) rfl) ?_; clear hF; intro a hF
              refine wpList_nil ?_
              cases hc141 : (p139 != p137.1)
              · replace hM := bif_f hc141 hM
                refine cond_f hF rfl hc141 ?_
                refine wp_skip ?_
                refine wp_seq ?_
                refine wp_region_lit ?_
                refine op_val (v := .agg #[.int .i64 x0, .int .i64 x1, .slice A2 x2.length c2]) rfl rfl hF rfl (run_loadN rfl ag24 (hF.ev rfl) rfl ((S.free 8 rfl).cells 0 #[.int .i64 x0, .int .i64 x1, .slice A2 x2.length c2] rfl)) ?_; clear hF; intro a hF
                obtain ⟨p142, h142, hM⟩ := bind_ex hM
                refine op_call rfl rfl hF rfl (run_call (vs := [.agg #[.int .i64 x0, .int .i64 x1, .slice A2 x2.length c2]]) rfl rfl co8 ⟨(hF.ev rfl), trivial⟩) (c_laws_toRooms (x0 := x0) (x1 := x1) (x2 := x2) ⟨(S.rc0 h2.rc), rfl⟩ h142) ?_
                rintro e u ⟨B143, n144, d145, rfl, rfl, T⟩
                refine ⟨_, rfl, ?_⟩
                clear hF; intro a hF
                replace S := S.call1 T; clear T
                refine op_val (v := .int .i64 x3) rfl rfl hF rfl (run_move rfl (hF.ev rfl)) ?_; clear hF; intro a hF
                obtain ⟨p146, h146, hM⟩ := bind_ex hM
                refine op_call rfl rfl hF rfl (run_call (vs := [.agg #[.int .i64 p142.1, .int .i64 p142.2.1, .slice B143 p142.2.2.length d145], .int .i64 x3]) rfl rfl co15 ⟨(hF.ev rfl), (hF.ev rfl), trivial⟩) (c_impl_RoomTake (x0 := p142.1) (x1 := p142.2.1) (x2 := p142.2.2) (x3 := x3) ⟨(S.rc 0 rfl), rfl⟩ h146) ?_
                rintro e u ⟨B147, n148, d149, rfl, rfl, T⟩
                refine ⟨_, rfl, ?_⟩
                clear hF; intro a hF
                replace S := S.call1 T; clear T
                refine op_val (v := .tuple #[.agg #[.int .i64 p146.1, .int .i64 p146.2.1, .slice B147 p146.2.2.1.length d149], .bool p146.2.2.2]) rfl rfl hF rfl (run_move rfl (hF.ev rfl)) ?_; clear hF; intro a hF
                refine op_val (v := .agg #[.int .i64 p146.1, .int .i64 p146.2.1, .slice B147 p146.2.2.1.length d149]) rfl rfl hF rfl (run_extract rfl (hF.ev rfl) rfl) ?_; clear hF; intro a hF
                refine op_val (v := .bool p146.2.2.2) rfl rfl hF rfl (run_extract rfl (hF.ev rfl) rfl) ?_; clear hF; intro a hF
                refine op_new (cs := #[.int .i64 0, .int .i64 0, .slice none 0 0]) rfl rfl hF rfl S (run_allocZ rfl zr28) ?_; clear hF S; intro a g150 u hF S
                refine op_do rfl rfl (run_store (cs' := #[.int .i64 p146.1, .int .i64 p146.2.1, .slice B147 p146.2.2.1.length d149]) rfl sz28 (hF.ev rfl) (hF.ev rfl) rfl rfl rfl (S.free 0 rfl) rfl rfl) ?_; replace S := S.put 0 rfl (#[.int .i64 p146.1, .int .i64 p146.2.1, .slice B147 p146.2.2.1.length d149])
                generalize World.setRow _ _ _ = u at S ⊢
                refine op_val (v := .bool p146.2.2.2) rfl rfl hF rfl (run_assign rfl (hF.ev rfl)) ?_; clear hF; intro a hF
                refine wpList_nil ?_
                refine wp_seq ?_
                refine wp_seq ?_
                refine wp_region_lit ?_
                refine op_val (v := .agg #[.int .i64 p146.1, .int .i64 p146.2.1, .slice B147 p146.2.2.1.length d149]) rfl rfl hF rfl (run_loadN rfl ag28 (hF.ev rfl) rfl ((S.free 0 rfl).cells 0 #[.int .i64 p146.1, .int .i64 p146.2.1, .slice B147 p146.2.2.1.length d149] rfl)) ?_; clear hF; intro a hF
                refine op_val (v := .agg #[.int .i64 p108.1, .int .i64 p108.2.1, .slice B109 p108.2.2.1.length d111]) rfl rfl hF rfl (run_loadN rfl ag28 (hF.ev rfl) rfl ((S.free 8 rfl).cells 0 #[.int .i64 p108.1, .int .i64 p108.2.1, .slice B109 p108.2.2.1.length d111] rfl)) ?_; clear hF; intro a hF
                obtain ⟨p151, h151, hM⟩ := bind_ex hM
                refine op_call rfl rfl hF rfl (run_call (vs := [.agg #[.int .i64 p146.1, .int .i64 p146.2.1, .slice B147 p146.2.2.1.length d149], .agg #[.int .i64 p108.1, .int .i64 p108.2.1, .slice B109 p108.2.2.1.length d111]]) rfl rfl co11 ⟨(hF.ev rfl), (hF.ev rfl), trivial⟩) (c_laws_eqRooms (x0 := p146.1) (x1 := p146.2.1) (x2 := p146.2.2.1) (x3 := p108.1) (x4 := p108.2.1) (x5 := p108.2.2.1) ⟨(S.rc 1 rfl), rfl⟩ ⟨(S.rc 9 rfl), rfl⟩ h151) ?_
                rintro e u ⟨rfl, T⟩
                refine ⟨_, rfl, ?_⟩
                clear hF; intro a hF
                replace S := S.call0 T; clear T
                refine op_val (v := .bool (!p151)) rfl rfl hF rfl (run_not rfl (hF.ev rfl)) ?_; clear hF; intro a hF
                refine op_val (v := .bool (!p151)) rfl rfl hF rfl (run_move rfl (hF.ev rfl)) ?_; clear hF; intro a hF
                refine op_gv (v := .bool p146.2.2.2) rfl rfl hF rfl (yf (gw_yield hF rfl rfl rfl)) (fun hg => (run_move rfl (hF.ev rfl))) ?_; clear hF; intro a hF
                refine op_gv (v := .bool p108.2.2.2) rfl rfl hF rfl (yf (gw_yield hF rfl rfl rfl)) (fun hg => (run_move rfl (hF.ev rfl))) ?_; clear hF; intro a hF
                refine op_gv (v := .bool (p146.2.2.2 != p108.2.2.2)) rfl rfl hF rfl (yf (gw_yield hF rfl rfl rfl)) (fun hg => (run_neqB ((hF.ev rfl).trans (gv_t hg)) ((hF.ev rfl).trans (gv_t hg)) Try.underlying4 rfl)) ?_; clear hF; intro a hF
                refine op_val (v := .bool ((!p151) || (p146.2.2.2 != p108.2.2.2))) rfl rfl hF rfl (run_pick_or rfl (hF.ev rfl) rfl (fun hp => ((hF.ev rfl).trans (gv_t (not_t hp))))) ?_; clear hF; intro a hF
                refine wpList_nil ?_
                cases hc152 : ((!p151) || (p146.2.2.2 != p108.2.2.2))
                · replace hM := bif_f hc152 hM
                  refine cond_f hF rfl hc152 ?_
                  refine wp_skip ?_
                  refine wp_seq ?_
                  refine wp_region_lit ?_
                  refine op_val (v := .int .i64 1) rfl rfl hF rfl (run_assign rfl rfl) ?_; clear hF; intro a hF
                  refine wpList_nil ?_
                  refine wp_seq ?_
                  refine wp_region_lit ?_
                  refine op_val (v := .agg #[.int .i64 p118.1, .int .i64 p118.2.1, .slice B119 p118.2.2.1.length d121]) rfl rfl hF rfl (run_loadN rfl ag28 (hF.ev rfl) rfl ((S.free 6 rfl).cells 0 #[.int .i64 p118.1, .int .i64 p118.2.1, .slice B119 p118.2.2.1.length d121] rfl)) ?_; clear hF; intro a hF
                  refine op_val (v := .int .i64 1) rfl rfl hF rfl (run_move rfl (hF.ev rfl)) ?_; clear hF; intro a hF
                  obtain ⟨p153, h153, hM⟩ := bind_ex hM
                  refine op_call rfl rfl hF rfl (run_call (vs := [.agg #[.int .i64 p118.1, .int .i64 p118.2.1, .slice B119 p118.2.2.1.length d121], .int .i64 1]) rfl rfl co13 ⟨(hF.ev rfl), (hF.ev rfl), trivial⟩) (c_laws_heldRooms (x0 := p118.1) (x1 := p118.2.1) (x2 := p137.2) (x3 := 1) ⟨(S.rc 3 rfl), hn138⟩ h153) ?_
                  rintro e u ⟨rfl, T⟩
                  refine ⟨_, rfl, ?_⟩
                  clear hF; intro a hF
                  replace S := S.call0 T; clear T
                  refine op_val (v := .int .i64 p153) rfl rfl hF rfl (run_assign rfl (hF.ev rfl)) ?_; clear hF; intro a hF
                  refine wpList_nil ?_
                  refine wp_seq ?_
                  refine wp_seq ?_
                  refine wp_region_lit ?_
                  refine op_val (v := .int .i64 p153) rfl rfl hF rfl (run_move rfl (hF.ev rfl)) ?_; clear hF; intro a hF
                  refine op_val (v := .bool (ltB p153 0)) rfl rfl hF rfl (run_lss (hF.ev rfl) rfl rfl) ?_; clear hF; intro a hF
                  refine wpList_nil ?_
                  cases hc154 : (ltB p153 0)
                  · replace hM := bif_f hc154 hM
                    refine cond_f hF rfl hc154 ?_
                    refine wp_skip ?_
                    refine wp_seq ?_
                    refine wp_seq ?_
                    refine wp_region_lit ?_
                    refine op_val (v := .int .i64 p153) rfl rfl hF rfl (run_move rfl (hF.ev rfl)) ?_; clear hF; intro a hF
                    refine op_val (v := .int .i64 p137.1) rfl rfl hF rfl (run_move rfl (hF.ev rfl)) ?_; clear hF; intro a hF
                    refine op_val (v := .bool (p153 != p137.1)) rfl rfl hF rfl (run_neq (hF.ev rfl) (hF.ev rfl) rfl) ?_; clear hF; intro a hF
                    refine wpList_nil ?_
                    cases hc155 : (p153 != p137.1)
                    · replace hM := bif_f hc155 hM
                      refine cond_f hF rfl hc155 ?_
                      refine wp_skip ?_
                      refine wp_seq ?_
                      refine wp_region_lit ?_
                      refine op_val (v := .bool true) rfl rfl hF rfl (run_assign rfl rfl) ?_; clear hF; intro a hF
                      refine wpList_nil ?_
                      refine wp_ret ?_
                      repeat with_reducible (first | refine then_ret ?_ | refine in_ret ?_ | refine in_nrm ?_)
                      refine ret1_gw (.inl rfl) hF rfl (res_tmp (hF.ev rfl)) ?_
                      obtain rfl := Option.some.inj hM
                      exact ⟨rfl, S.sel [] rfl rfl⟩
                    · replace hM := bif_t hc155 hM
                      refine cond_t hF rfl hc155 ?_
                      refine wp_seq ?_
                      refine wp_region_lit ?_
                      refine op_val (v := .bool false) rfl rfl hF rfl (run_assign rfl rfl) ?_; clear hF; intro a hF
                      refine wpList_nil ?_
                      refine wp_ret ?_
                      repeat with_reducible (first | refine then_ret ?_ | refine in_ret ?_ | refine in_nrm ?_)
                      refine ret1_gw (.inl rfl) hF rfl (res_tmp (hF.ev rfl)) ?_
                      obtain rfl := Option.some.inj hM
                      exact ⟨rfl, S.sel [] rfl rfl⟩
                  · replace hM := bif_t hc154 hM
                    refine cond_t hF rfl hc154 ?_
                    refine wp_seq ?_
                    refine wp_region_lit ?_
                    refine op_val (v := .bool false) rfl rfl hF rfl (run_assign rfl rfl) ?_; clear hF; intro a hF
                    refine wpList_nil ?_
                    refine wp_ret ?_
                    repeat with_reducible (first | refine then_ret ?_ | refine in_ret ?_ | refine in_nrm ?_)
                    refine ret1_gw (.inl rfl) hF rfl (res_tmp (hF.ev rfl)) ?_
                    obtain rfl := Option.some.inj hM
                    exact ⟨rfl, S.sel [] rfl rfl⟩
                · replace hM := bif_t hc152 hM
                  refine cond_t hF rfl hc152 ?_
                  refine wp_seq ?_
                  refine wp_region_lit ?_
                  refine op_val (v := .bool false) rfl rfl hF rfl (run_assign rfl rfl) ?_; clear hF; intro a hF
                  refine wpList_nil ?_
                  refine wp_ret ?_
                  repeat with_reducible (first | refine then_ret ?_ | refine in_ret ?_ | refine in_nrm ?_)
                  refine ret1_gw (.inl rfl) hF rfl (res_tmp (hF.ev rfl)) ?_
                  obtain rfl := Option.some.inj hM
                  exact ⟨rfl, S.sel [] rfl rfl⟩
              · replace hM := bif_t hc141 hM
                refine cond_t hF rfl hc141 ?_
                refine wp_seq ?_
                refine wp_region_lit ?_
                refine op_val (v := .bool false) rfl rfl hF rfl (run_assign rfl rfl) ?_; clear hF; intro a hF
                refine wpList_nil ?_
                refine wp_ret ?_
                repeat with_reducible (first | refine then_ret ?_ | refine in_ret ?_ | refine in_nrm ?_)
                refine ret1_gw (.inl rfl) hF rfl (res_tmp (hF.ev rfl)) ?_
                obtain rfl := Option.some.inj hM
                exact ⟨rfl, S.sel [] rfl rfl⟩
            · replace hM := bif_t hc140 hM
              refine cond_t hF rfl hc140 ?_
              refine wp_seq ?_
              refine wp_region_lit ?_
              refine op_val (v := .bool false) rfl rfl hF rfl (run_assign rfl rfl) ?_; clear hF; intro a hF
              refine wpList_nil ?_
              refine wp_ret ?_
              repeat with_reducible (first | refine then_ret ?_ | refine in_ret ?_ | refine in_nrm ?_)
              refine ret1_gw (.inl rfl) hF rfl (res_tmp (hF.ev rfl)) ?_
              obtain rfl := Option.some.inj hM
              exact ⟨rfl, S.sel [] rfl rfl⟩
          · replace hM := bif_t hc136 hM
            refine cond_t hF rfl hc136 ?_
            refine wp_seq ?_
            refine wp_region_lit ?_
            refine op_val (v := .bool false) rfl rfl hF rfl (run_assign rfl rfl) ?_; clear hF; intro a hF
            refine wpList_nil ?_
            refine wp_ret ?_
            repeat with_reducible (first | refine then_ret ?_ | refine in_ret ?_ | refine in_nrm ?_)
            refine ret1_gw (.inl rfl) hF rfl (res_tmp (hF.ev rfl)) ?_
            obtain rfl := Option.some.inj hM
            exact ⟨rfl, S.sel [] rfl rfl⟩
    · replace hM := bif_t hc124 hM
      refine cond_t hF rfl hc124 ?_
      refine wp_seq ?_
      refine wp_region_lit ?_
      refine op_val (v := .bool false) rfl rfl hF rfl (run_assign rfl rfl) ?_; clear hF; intro a hF
      refine wpList_nil ?_
      refine wp_ret ?_
      repeat with_reducible (first | refine then_ret ?_ | refine in_ret ?_ | refine in_nrm ?_)
      refine ret1_gw (.inl rfl) hF rfl (res_tmp (hF.ev rfl)) ?_
      obtain rfl := Option.some.inj hM
      exact ⟨rfl, S.sel [] rfl rfl⟩
  · replace hM := bif_t hc103 hM
    refine cond_t hF rfl hc103 ?_
    refine wp_seq ?_
    refine wp_region_lit ?_
    refine op_val (v := .bool true) rfl rfl hF rfl (run_assign rfl rfl) ?_; clear hF; intro a hF
    refine wpList_nil ?_
    refine wp_ret ?_
    repeat with_reducible (first | refine then_ret ?_ | refine in_ret ?_ | refine in_nrm ?_)
    refine ret1_gw (.inl rfl) hF rfl (res_tmp (hF.ev rfl)) ?_
    obtain rfl := Option.some.inj hM
    exact ⟨rfl, S.sel [] rfl rfl⟩

end Go.Proofs.Ythpmmfbnclfbmaa
