/- Calls return what the models say. -/
import Derived.Test.YtapkaobelejkkaaDoorDa3
namespace Go.Proofs.YtapkaobelejkkaaDoor
open Go.ChangeShapes Go.WideShapes Go.ChangeAt Go.RowKit
set_option linter.unusedVariables false
set_option linter.unusedSimpArgs false

set_option maxHeartbeats 4000000 in
theorem c_spec_PanelRun {x0 : List Bool} {x1 : Int} {x2 : Int} {x3 : Bool} {x4 : Int} {x5 : List (Int × Int × Int × Bool)} {A0 : Option Addr} {n0 c0 : Nat} {A5 : Option Addr} {n5 c5 : Nat} {w : World} {r : List Bool × Int × Int × Bool × Int × List Bool} (h0 : Rt w 1 eB A0 n0 c0 x0) (h5 : Rt w 4 eCommand A5 n5 c5 x5) (hM : m_spec_PanelRun x0 x1 x2 x3 x4 x5 = some r) :
    Calls Tryd.prog 16 #[.agg #[.slice A0 n0 c0, .int .i64 x1, .int .i64 x2, .bool x3, .int .i64 x4], .slice A5 n5 c5] w (fun e w' => ∃ (B0 : Option Addr) (N0 D0 : Nat) (B1 : Option Addr) (N1 D1 : Nat), e = .returned (.tuple #[.agg #[.slice B0 N0 D0, .int .i64 r.2.1, .int .i64 r.2.2.1, .bool r.2.2.2.1, .int .i64 r.2.2.2.2.1], .slice B1 N1 D1]) ∧ N0 = r.1.length ∧ N1 = r.2.2.2.2.2.length ∧ St w w' [.row 4 1 (.slice B0 N0 D0) N0 (r.1.flatMap eB), .row 4 1 (.slice B1 N1 D1) N1 (r.2.2.2.2.2.flatMap eB)]) := by
  obtain rfl := h0.len
  obtain rfl := h5.len
  unfold m_spec_PanelRun at hM
  refine calls_gw Tryd.func16 Tryd.ntmps16 rfl [(0, .agg #[.slice A0 x0.length c0, .int .i64 x1, .int .i64 x2, .bool x3, .int .i64 x4]), (1, .slice A5 x5.length c5)] ⟨rfl, rfl, trivial⟩ rfl ?_
  intro a hF
  have S := St.nil w
  refine wp_seq ?_
  refine wp_region_lit ?_
  refine op_new (cs := #[.slice A0 x0.length c0, .int .i64 x1, .int .i64 x2, .bool x3, .int .i64 x4]) rfl rfl hF rfl S (run_box rfl (hF.ev rfl) rfl) ?_; clear hF S; intro a g101 u hF S
  refine op_new (cs := #[.slice none 0 0, .int .i64 0, .int .i64 0, .bool false, .int .i64 0]) rfl rfl hF rfl S (run_allocZ rfl zr25) ?_; clear hF S; intro a g102 u hF S
  refine op_val (v := .slice none 0 0) rfl rfl hF rfl (run_assign rfl rfl) ?_; clear hF; intro a hF
  refine wpList_nil ?_
  refine wp_seq ?_
  refine wp_region_lit ?_
  refine op_newrow (cs := #[]) (size := 1) rfl rfl hF rfl S (run_buildSlice0 rfl Tryd.underlying23 rfl) rfl (Nat.zero_le _) ?_; clear hF S; intro a g103 u hF S
  refine op_val (v := .slice (some ⟨g103, 0, none⟩) 0 0) rfl rfl hF rfl (run_assign rfl (hF.ev rfl)) ?_; clear hF; intro a hF
  refine wpList_nil ?_
  refine wp_seq ?_
  refine wp_seq ?_
  refine wp_region_lit ?_
  refine op_val (v := .agg #[.slice A0 x0.length c0, .int .i64 x1, .int .i64 x2, .bool x3, .int .i64 x4]) rfl rfl hF rfl (run_loadN rfl ag25 (hF.ev rfl) rfl ((S.free 2 rfl).cells 0 #[.slice A0 x0.length c0, .int .i64 x1, .int .i64 x2, .bool x3, .int .i64 x4] rfl)) ?_; clear hF; intro a hF
  obtain ⟨p104, h104, hM⟩ := bind_ex hM
  refine op_call rfl rfl hF rfl (run_call (vs := [.agg #[.slice A0 x0.length c0, .int .i64 x1, .int .i64 x2, .bool x3, .int .i64 x4]]) rfl rfl co18 ⟨(hF.ev rfl), trivial⟩) (c_spec_PanelValid (x0 := x0) (x1 := x1) (x2 := x2) (x3 := x3) (x4 := x4) ⟨(S.rc0 h0.rc), rfl⟩ h104) ?_
  rintro e u ⟨rfl, T⟩
  refine ⟨_, rfl, ?_⟩
  clear hF; intro a hF
  replace S := S.call0 T; clear T
  refine op_val (v := .bool (!p104)) rfl rfl hF rfl (run_not rfl (hF.ev rfl)) ?_; clear hF; intro a hF
  refine wpList_nil ?_
  cases hc105 : (p104)
  · replace hM := bif_f hc105 hM
    refine cond_t hF rfl (not_t hc105) ?_
    refine wp_seq ?_
    refine wp_region_lit ?_
    refine op_val (v := .agg #[.slice none 0 0, .int .i64 0, .int .i64 0, .bool false, .int .i64 0]) rfl rfl hF rfl (run_build (vs := []) rfl trivial (bd25 )) ?_; clear hF; intro a hF
    refine op_val (v := .slice (some ⟨g103, 0, none⟩) 0 0) rfl rfl hF rfl (run_move rfl (hF.ev rfl)) ?_; clear hF; intro a hF
    refine op_do rfl rfl (run_store (cs' := #[.slice none 0 0, .int .i64 0, .int .i64 0, .bool false, .int .i64 0]) rfl sz25 (hF.ev rfl) (hF.ev rfl) rfl rfl rfl (S.free 1 rfl) rfl rfl) ?_; replace S := S.put 1 rfl (#[.slice none 0 0, .int .i64 0, .int .i64 0, .bool false, .int .i64 0])
    generalize World.setRow _ _ _ = u at S ⊢
    refine op_val (v := .slice (some ⟨g103, 0, none⟩) 0 0) rfl rfl hF rfl (run_assign rfl (hF.ev rfl)) ?_; clear hF; intro a hF
    refine wpList_nil ?_
    refine wp_ret ?_
    repeat with_reducible (first | refine then_ret ?_ | refine in_ret ?_ | refine in_nrm ?_)
    refine ret2_gw (.inl rfl) hF rfl (res_cell (hF.ev rfl) (res_loadN ag25 rfl (S.cells 1 rfl 0 #[.slice none 0 0, .int .i64 0, .int .i64 0, .bool false, .int .i64 0] rfl))) (res_tmp (hF.ev rfl)) ?_
    obtain rfl := Option.some.inj hM
    replace S := S.nilrow 4 1
    exact ⟨none, 0, 0, (some ⟨g103, 0, none⟩), 0, 0, rfl, rfl, rfl, S.sel [0, 1] rfl rfl⟩
  · replace hM := bif_t hc105 hM
    refine cond_f hF rfl (not_f hc105) ?_
    refine wp_skip ?_
    refine wp_seq ?_
    refine wp_region_lit ?_
    refine op_val (v := .agg #[.slice A0 x0.length c0, .int .i64 x1, .int .i64 x2, .bool x3, .int .i64 x4]) rfl rfl hF rfl (run_loadN rfl ag25 (hF.ev rfl) rfl ((S.free 2 rfl).cells 0 #[.slice A0 x0.length c0, .int .i64 x1, .int .i64 x2, .bool x3, .int .i64 x4] rfl)) ?_; clear hF; intro a hF
    obtain ⟨p106, h106, hM⟩ := bind_ex hM
    refine op_call rfl rfl hF rfl (run_call (vs := [.agg #[.slice A0 x0.length c0, .int .i64 x1, .int .i64 x2, .bool x3, .int .i64 x4]]) rfl rfl co29 ⟨(hF.ev rfl), trivial⟩) (c_spec_l29Copy (x0 := x0) (x1 := x1) (x2 := x2) (x3 := x3) (x4 := x4) ⟨(S.rc0 h0.rc), rfl⟩ h106) ?_
    rintro e u ⟨B107, n108, d109, rfl, rfl, T⟩
    refine ⟨_, rfl, ?_⟩
    clear hF; intro a hF
    replace S := S.call1 T; clear T
    refine op_new (cs := #[.slice none 0 0, .int .i64 0, .int .i64 0, .bool false, .int .i64 0]) rfl rfl hF rfl S (run_allocZ rfl zr25) ?_; clear hF S; intro a g110 u hF S
    refine op_do rfl rfl (run_store (cs' := #[.slice B107 p106.1.length d109, .int .i64 p106.2.1, .int .i64 p106.2.2.1, .bool p106.2.2.2.1, .int .i64 p106.2.2.2.2]) rfl sz25 (hF.ev rfl) (hF.ev rfl) rfl rfl rfl (S.free 0 rfl) rfl rfl) ?_; replace S := S.put 0 rfl (#[.slice B107 p106.1.length d109, .int .i64 p106.2.1, .int .i64 p106.2.2.1, .bool p106.2.2.2.1, .int .i64 p106.2.2.2.2])
    generalize World.setRow _ _ _ = u at S ⊢
    refine wpList_nil ?_
    refine wp_seq ?_
    refine wp_seq ?_
    refine wp_region_lit ?_
    refine op_val (v := .int .i64 0) rfl rfl hF rfl (run_assign rfl rfl) ?_; clear hF; intro a hF
    refine wpList_nil ?_
    obtain ⟨o112, hM117, hM⟩ := bind_ex hM
    refine wp_cut (fun a u => ∃ (p111 : List Bool × List Bool × Int × Int × Bool × Int) (B113 : Option Addr) (d114 : Nat) (B115 : Option Addr) (d116 : Nat), p111 = o112 ∧ Fr a 41 [(4, .pointer (some ⟨g102, 0, none⟩)), (5, .slice none 0 0), (6, .slice B113 p111.1.length d114), (7, .pointer (some ⟨g110, 0, none⟩))] ∧ St w u [.box g110 25 #[.slice B115 p111.2.1.length d116, .int .i64 p111.2.2.1, .int .i64 p111.2.2.2.1, .bool p111.2.2.2.2.1, .int .i64 p111.2.2.2.2.2], .box g102 25 #[.slice none 0 0, .int .i64 0, .int .i64 0, .bool false, .int .i64 0], .box g101 25 #[.slice A0 x0.length c0, .int .i64 x1, .int .i64 x2, .bool x3, .int .i64 x4], .row 4 1 (.slice B113 p111.1.length d114) p111.1.length (p111.1.flatMap eB), .row 4 1 (.slice B115 p111.2.1.length d116) p111.2.1.length (p111.2.1.flatMap eB)]) ?_ ?_
    · have _ := trivial
      refine wp_block ?_
      refine loop_gw (fun m a u => ∃ (p118 : List Bool × Int × List Bool × Int × Int × Bool × Int) (B119 : Option Addr) (d120 : Nat) (B121 : Option Addr) (d122 : Nat), m_spec_PanelRun_l1 x5 m p118 = some _ ∧ Fr a 41 [(1, .slice A5 x5.length c5), (4, .pointer (some ⟨g102, 0, none⟩)), (5, .slice none 0 0), (6, .slice B119 p118.1.length d120), (7, .pointer (some ⟨g110, 0, none⟩)), (8, .int .i64 p118.2.1)] ∧ St w u [.box g110 25 #[.slice B121 p118.2.2.1.length d122, .int .i64 p118.2.2.2.1, .int .i64 p118.2.2.2.2.1, .bool p118.2.2.2.2.2.1, .int .i64 p118.2.2.2.2.2.2], .box g102 25 #[.slice none 0 0, .int .i64 0, .int .i64 0, .bool false, .int .i64 0], .box g101 25 #[.slice A0 x0.length c0, .int .i64 x1, .int .i64 x2, .bool x3, .int .i64 x4], .row 4 1 (.slice B119 p118.1.length d120) p118.1.length (p118.1.flatMap eB), .row 4 1 (.slice B121 p118.2.2.1.length d122) p118.2.2.1.length (p118.2.2.1.flatMap eB)]) FUEL ⟨(([] : List Bool), 0, p106.1, p106.2.1, p106.2.2.1, p106.2.2.2.1, p106.2.2.2.2), (some ⟨g103, 0, none⟩), 0, B107, d109, hM117, hF.keep _ ⟨rfl, rfl, rfl, rfl, rfl, rfl, trivial⟩, S.sel [0, 3, 4, 2, 1] rfl rfl⟩ ?_
      clear hF S hM117; rintro m a u ⟨p118, B119, d120, B121, d122, hM117, hF, S⟩
      rcases m with _ | f1
      · exact none_some hM117
      rw [m_spec_PanelRun_l1.eq_2] at hM117
      refine wp_seq ?_
      refine wp_seq ?_
      refine wp_region_lit ?_
      refine op_val (v := .int .i64 p118.2.1) rfl rfl hF rfl (run_move rfl (hF.ev rfl)) ?_; clear hF; intro a hF
      refine op_val (v := .slice A5 x5.length c5) rfl rfl hF rfl (run_move rfl (hF.ev rfl)) ?_; clear hF; intro a hF
      refine op_val (v := .int .i64 (x5.length : Int)) rfl rfl hF rfl (run_lenL rfl rfl Tryd.underlying39 (hF.ev rfl)) ?_; clear hF; intro a hF
      refine op_val (v := .bool (ltB p118.2.1 (x5.length : Int))) rfl rfl hF rfl (run_lss (hF.ev rfl) (hF.ev rfl) rfl) ?_; clear hF; intro a hF
      refine wpList_nil ?_
      cases hc123 : (ltB p118.2.1 (x5.length : Int))
      · replace hM117 := bif_f hc123 hM117
        refine cond_f hF rfl hc123 ?_
        refine wp_exit ?_
        repeat with_reducible (first | refine then_exit ?_ | refine in_hit ?_ | refine in_miss rfl ?_)
        obtain rfl := Option.some.inj hM117
        exact ⟨(p118.1, p118.2.2.1, p118.2.2.2.1, p118.2.2.2.2.1, p118.2.2.2.2.2.1, p118.2.2.2.2.2.2), B119, d120, B121, d122, rfl, hF.keep _ ⟨rfl, rfl, rfl, rfl, trivial⟩, S.sel [0, 1, 2, 3, 4] rfl rfl⟩
      · replace hM117 := bif_t hc123 hM117
        refine cond_t hF rfl hc123 ?_
        refine wp_skip ?_
        refine wp_seq ?_
        refine wp_block ?_
        refine wp_seq ?_
        obtain ⟨hk124, hM117⟩ := chk_ex hM117
        replace hk124 := ixB_t hk124
        obtain ⟨p125, h125, hM117⟩ := bind_ex hM117
        refine region_gw (D := [26, 27, 28, 29, 30, 31, 25, 32, 33, 9, 10]) (Lr := [.box g110 25 #[.slice B121 p118.2.2.1.length d122, .int .i64 p118.2.2.2.1, .int .i64 p118.2.2.2.2.1, .bool p118.2.2.2.2.2.1, .int .i64 p118.2.2.2.2.2.2], .box g102 25 #[.slice none 0 0, .int .i64 0, .int .i64 0, .bool false, .int .i64 0], .box g101 25 #[.slice A0 x0.length c0, .int .i64 x1, .int .i64 x2, .bool x3, .int .i64 x4], .row 4 1 (.slice B119 p118.1.length d120) p118.1.length (p118.1.flatMap eB), .row 4 1 (.slice B121 p118.2.2.1.length d122) p118.2.2.1.length (p118.2.2.1.flatMap eB)]) (deps := (fun | 0 => [26] | 1 => [27] | 2 => [28] | 3 => [29] | 4 => [30] | 5 => [31] | 6 => [25, 31] | 7 => [32, 31] | 8 => [33] | 9 => [9] | 10 => [9, 31] | 11 => [10] | _ => [])) (rd := (fun _ => [])) (zr := (fun _ => []))
          (φ := fun i vs => match i, vs with | 0, [v26] => v26 = .agg #[.slice B121 p118.2.2.1.length d122, .int .i64 p118.2.2.2.1, .int .i64 p118.2.2.2.2.1, .bool p118.2.2.2.2.2.1, .int .i64 p118.2.2.2.2.2.2] | 1, [v27] => v27 = .slice A5 x5.length c5 | 2, [v28] => v28 = .int .i64 p118.2.1 | 3, [v29] => v29 = .pointer (some ⟨adB A5, adO A5 + p118.2.1.toNat * 4, none⟩) | 4, [v30] => v30 = .agg #[.int .i64 ((x5.getD p118.2.1.toNat ((0, 0, 0, false) : Int × Int × Int × Bool)).1), .int .i64 ((x5.getD p118.2.1.toNat ((0, 0, 0, false) : Int × Int × Int × Bool)).2.1), .int .i64 ((x5.getD p118.2.1.toNat ((0, 0, 0, false) : Int × Int × Int × Bool)).2.2.1), .bool ((x5.getD p118.2.1.toNat ((0, 0, 0, false) : Int × Int × Int × Bool)).2.2.2)] | 5, [v31] => v31 = .tuple #[.agg #[.slice (slA (vtup (vtup v31 0) 0)) p125.1.length (slC (vtup (vtup v31 0) 0)), .int .i64 p125.2.1, .int .i64 p125.2.2.1, .bool p125.2.2.2.1, .int .i64 p125.2.2.2.2.1], .bool p125.2.2.2.2.2] | 6, [v25, v31] => v25 = .tuple #[.agg #[.slice (slA (vtup (vtup v31 0) 0)) p125.1.length (slC (vtup (vtup v31 0) 0)), .int .i64 p125.2.1, .int .i64 p125.2.2.1, .bool p125.2.2.2.1, .int .i64 p125.2.2.2.2.1], .bool p125.2.2.2.2.2] | 7, [v32, v31] => v32 = .agg #[.slice (slA (vtup (vtup v31 0) 0)) p125.1.length (slC (vtup (vtup v31 0) 0)), .int .i64 p125.2.1, .int .i64 p125.2.2.1, .bool p125.2.2.2.1, .int .i64 p125.2.2.2.2.1] | 8, [v33] => v33 = .bool p125.2.2.2.2.2 | 9, [v9] => v9 = .pointer (some ⟨ptB v9, 0, none⟩) | 11, [v10] => v10 = .bool p125.2.2.2.2.2 | _, _ => True)
          (C := fun i vs => match i, vs with | 5, [v31] => [.row 4 1 (.slice (slA (vtup (vtup v31 0) 0)) p125.1.length (slC (vtup (vtup v31 0) 0))) p125.1.length (p125.1.flatMap eB)] | 9, [v9] => [.box (ptB v9) 25 #[.slice none 0 0, .int .i64 0, .int .i64 0, .bool false, .int .i64 0]] | 10, [v9, v31] => [.box (ptB v9) 25 #[.slice (slA (vtup (vtup v31 0) 0)) p125.1.length (slC (vtup (vtup v31 0) 0)), .int .i64 p125.2.1, .int .i64 p125.2.2.1, .bool p125.2.2.2.1, .int .i64 p125.2.2.2.2.1]] | _, _ => [])
          (κ := (fun | 9 => some 10 | _ => none)) (Z := (fun _ => [])) mixed hF (by kernel_rfl) S ?_ ?_
        · refine ⟨?_, ?_, ?_, ?_, ?_, ?_, ?_, ?_, ?_, ?_, ?_, ?_, trivial⟩
          · intro a u X hB hu hp hr hz hl S
            replace S : St w u ([] ++ X) := S
            exact .inl ⟨rfl, .agg #[.slice B121 p118.2.2.1.length d122, .int .i64 p118.2.2.2.1, .int .i64 p118.2.2.2.2.1, .bool p118.2.2.2.2.2.1, .int .i64 p118.2.2.2.2.2.2], u, (run_loadN rfl ag25 (hF.evB hB rfl rfl) rfl ((gr_box S hl 0 rfl).cells 0 #[.slice B121 p118.2.2.1.length d122, .int .i64 p118.2.2.2.1, .int .i64 p118.2.2.2.2.1, .bool p118.2.2.2.2.2.1, .int .i64 p118.2.2.2.2.2.2] rfl)), rfl, S⟩
          · intro a u X hB hu hp hr hz hl S
            replace S : St w u ([] ++ X) := S
            exact .inl ⟨rfl, .slice A5 x5.length c5, u, (run_move rfl (hF.evB hB rfl rfl)), rfl, S⟩
          · intro a u X hB hu hp hr hz hl S
            replace S : St w u ([] ++ X) := S
            exact .inl ⟨rfl, .int .i64 p118.2.1, u, (run_move rfl (hF.evB hB rfl rfl)), rfl, S⟩
          · intro a u X hB hu hp hr hz hl S
            replace S : St w u ([] ++ X) := S
            have e27 : sl a 27 = .slice A5 x5.length c5 := hp 1 rfl
            have e28 : sl a 28 = .int .i64 p118.2.1 := hp 2 rfl
            exact .inl ⟨rfl, .pointer (some ⟨adB A5, adO A5 + p118.2.1.toNat * 4, none⟩), u, (run_indexAddr (b := adB A5) (off := adO A5) rfl Tryd.underlying39 sz27 ((ev_sl e27).trans (congrArg (fun A => Value.slice A x5.length c5) ((S.rc0 h5.rc).rd.ad (ix_pos hk124)))) (ev_sl e28) hk124.1 hk124.2 (k' := adO A5 + p118.2.1.toNat * 4) rfl), rfl, S⟩
          · intro a u X hB hu hp hr hz hl S
            replace S : St w u ([] ++ X) := S
            have e29 : sl a 29 = .pointer (some ⟨adB A5, adO A5 + p118.2.1.toNat * 4, none⟩) := hp 3 rfl
            exact .inl ⟨rfl, .agg #[.int .i64 ((x5.getD p118.2.1.toNat ((0, 0, 0, false) : Int × Int × Int × Bool)).1), .int .i64 ((x5.getD p118.2.1.toNat ((0, 0, 0, false) : Int × Int × Int × Bool)).2.1), .int .i64 ((x5.getD p118.2.1.toNat ((0, 0, 0, false) : Int × Int × Int × Bool)).2.2.1), .bool ((x5.getD p118.2.1.toNat ((0, 0, 0, false) : Int × Int × Int × Bool)).2.2.2)], u, (run_loadN (cs := #[.int .i64 ((x5.getD p118.2.1.toNat ((0, 0, 0, false) : Int × Int × Int × Bool)).1), .int .i64 ((x5.getD p118.2.1.toNat ((0, 0, 0, false) : Int × Int × Int × Bool)).2.1), .int .i64 ((x5.getD p118.2.1.toNat ((0, 0, 0, false) : Int × Int × Int × Bool)).2.2.1), .bool ((x5.getD p118.2.1.toNat ((0, 0, 0, false) : Int × Int × Int × Bool)).2.2.2)]) rfl ag27 (ev_sl e29) rfl (rd_elN (l := x5) (S.rc0 h5.rc).rd rfl eCommand_len ((0, 0, 0, false) : Int × Int × Int × Bool) (ix_ltn hk124 rfl) rfl)), rfl, S⟩
          · intro a u X hB hu hp hr hz hl S
            replace S : St w u ([] ++ X) := S
            have e26 : sl a 26 = .agg #[.slice B121 p118.2.2.1.length d122, .int .i64 p118.2.2.2.1, .int .i64 p118.2.2.2.2.1, .bool p118.2.2.2.2.2.1, .int .i64 p118.2.2.2.2.2.2] := hp 0 rfl
            have e30 : sl a 30 = .agg #[.int .i64 ((x5.getD p118.2.1.toNat ((0, 0, 0, false) : Int × Int × Int × Bool)).1), .int .i64 ((x5.getD p118.2.1.toNat ((0, 0, 0, false) : Int × Int × Int × Bool)).2.1), .int .i64 ((x5.getD p118.2.1.toNat ((0, 0, 0, false) : Int × Int × Int × Bool)).2.2.1), .bool ((x5.getD p118.2.1.toNat ((0, 0, 0, false) : Int × Int × Int × Bool)).2.2.2)] := hp 4 rfl
            refine .inr (.inr (.inl ⟨rfl, _, _, (run_call (vs := [.agg #[.slice B121 p118.2.2.1.length d122, .int .i64 p118.2.2.2.1, .int .i64 p118.2.2.2.2.1, .bool p118.2.2.2.2.2.1, .int .i64 p118.2.2.2.2.2.2], .agg #[.int .i64 ((x5.getD p118.2.1.toNat ((0, 0, 0, false) : Int × Int × Int × Bool)).1), .int .i64 ((x5.getD p118.2.1.toNat ((0, 0, 0, false) : Int × Int × Int × Bool)).2.1), .int .i64 ((x5.getD p118.2.1.toNat ((0, 0, 0, false) : Int × Int × Int × Bool)).2.2.1), .bool ((x5.getD p118.2.1.toNat ((0, 0, 0, false) : Int × Int × Int × Bool)).2.2.2)]]) rfl rfl co8 ⟨(ev_sl e26), (ev_sl e30), trivial⟩), ?_⟩))
            refine Calls.mono (c_spec_PanelDo (x0 := p118.2.2.1) (x1 := p118.2.2.2.1) (x2 := p118.2.2.2.2.1) (x3 := p118.2.2.2.2.2.1) (x4 := p118.2.2.2.2.2.2) (x5 := (x5.getD p118.2.1.toNat ((0, 0, 0, false) : Int × Int × Int × Bool)).1) (x6 := (x5.getD p118.2.1.toNat ((0, 0, 0, false) : Int × Int × Int × Bool)).2.1) (x7 := (x5.getD p118.2.1.toNat ((0, 0, 0, false) : Int × Int × Int × Bool)).2.2.1) (x8 := (x5.getD p118.2.1.toNat ((0, 0, 0, false) : Int × Int × Int × Bool)).2.2.2) ⟨(gr_rc S hl 4 rfl), rfl⟩ h125) ?_
            rintro e w1 ⟨B126, n127, d128, rfl, rfl, T⟩
            exact ⟨_, rfl, rfl, S.call1 T⟩
          · intro a u X hB hu hp hr hz hl S
            replace S : St w u ([] ++ X) := S
            have e31 : sl a 31 = .tuple #[.agg #[.slice (slA (vtup (vtup (sl a 31) 0) 0)) p125.1.length (slC (vtup (vtup (sl a 31) 0) 0)), .int .i64 p125.2.1, .int .i64 p125.2.2.1, .bool p125.2.2.2.1, .int .i64 p125.2.2.2.2.1], .bool p125.2.2.2.2.2] := hp 5 rfl
            exact .inl ⟨rfl, .tuple #[.agg #[.slice (slA (vtup (vtup (sl a 31) 0) 0)) p125.1.length (slC (vtup (vtup (sl a 31) 0) 0)), .int .i64 p125.2.1, .int .i64 p125.2.2.1, .bool p125.2.2.2.1, .int .i64 p125.2.2.2.2.1], .bool p125.2.2.2.2.2], u, (run_move rfl (ev_sl e31)), rfl, S⟩
          · intro a u X hB hu hp hr hz hl S
            replace S : St w u ([] ++ X) := S
            have e25 : sl a 25 = .tuple #[.agg #[.slice (slA (vtup (vtup (sl a 31) 0) 0)) p125.1.length (slC (vtup (vtup (sl a 31) 0) 0)), .int .i64 p125.2.1, .int .i64 p125.2.2.1, .bool p125.2.2.2.1, .int .i64 p125.2.2.2.2.1], .bool p125.2.2.2.2.2] := hp 6 rfl
            exact .inl ⟨rfl, .agg #[.slice (slA (vtup (vtup (sl a 31) 0) 0)) p125.1.length (slC (vtup (vtup (sl a 31) 0) 0)), .int .i64 p125.2.1, .int .i64 p125.2.2.1, .bool p125.2.2.2.1, .int .i64 p125.2.2.2.2.1], u, (run_extract rfl (ev_sl e25) rfl), rfl, S⟩
          · intro a u X hB hu hp hr hz hl S
            replace S : St w u ([] ++ X) := S
            have e25 : sl a 25 = .tuple #[.agg #[.slice (slA (vtup (vtup (sl a 31) 0) 0)) p125.1.length (slC (vtup (vtup (sl a 31) 0) 0)), .int .i64 p125.2.1, .int .i64 p125.2.2.1, .bool p125.2.2.2.1, .int .i64 p125.2.2.2.2.1], .bool p125.2.2.2.2.2] := hp 6 rfl
            exact .inl ⟨rfl, .bool p125.2.2.2.2.2, u, (run_extract rfl (ev_sl e25) rfl), rfl, S⟩
          · intro a u X hB hu hp hr hz hl S
            replace S : St w u ([] ++ X) := S
            exact .inl ⟨rfl, _, _, (run_allocZ rfl zr25), rfl, S.alloc _ _⟩
          · intro a u X hB hu hp hr hz hl S
            replace S : St w u ([.box (ptB (sl a 9)) 25 #[.slice none 0 0, .int .i64 0, .int .i64 0, .bool false, .int .i64 0]] ++ X) := S
            have e9 : sl a 9 = .pointer (some ⟨ptB (sl a 9), 0, none⟩) := hp 9 rfl
            have e32 : sl a 32 = .agg #[.slice (slA (vtup (vtup (sl a 31) 0) 0)) p125.1.length (slC (vtup (vtup (sl a 31) 0) 0)), .int .i64 p125.2.1, .int .i64 p125.2.2.1, .bool p125.2.2.2.1, .int .i64 p125.2.2.2.2.1] := hp 7 rfl
            exact .inr (.inl ⟨rfl, _, run_store (cs' := #[.slice (slA (vtup (vtup (sl a 31) 0) 0)) p125.1.length (slC (vtup (vtup (sl a 31) 0) 0)), .int .i64 p125.2.1, .int .i64 p125.2.2.1, .bool p125.2.2.2.1, .int .i64 p125.2.2.2.2.1]) rfl sz25 (ev_sl e9) (ev_sl e32) rfl rfl rfl (S.free 0 rfl) rfl rfl, trivial, S.put 0 rfl (#[.slice (slA (vtup (vtup (sl a 31) 0) 0)) p125.1.length (slC (vtup (vtup (sl a 31) 0) 0)), .int .i64 p125.2.1, .int .i64 p125.2.2.1, .bool p125.2.2.2.1, .int .i64 p125.2.2.2.2.1])⟩)
          · intro a u X hB hu hp hr hz hl S
            replace S : St w u ([] ++ X) := S
            have e33 : sl a 33 = .bool p125.2.2.2.2.2 := hp 8 rfl
            exact .inl ⟨rfl, .bool p125.2.2.2.2.2, u, (run_assign rfl (ev_sl e33)), rfl, S⟩
        · intro a u hB hp S
          obtain ⟨q0, q1, q2, q3, q4, q5, q6, q7, q8, q9, q10, q11, _⟩ := hp
          have e26 : sl a 26 = .agg #[.slice B121 p118.2.2.1.length d122, .int .i64 p118.2.2.2.1, .int .i64 p118.2.2.2.2.1, .bool p118.2.2.2.2.2.1, .int .i64 p118.2.2.2.2.2.2] := q0
          have e27 : sl a 27 = .slice A5 x5.length c5 := q1
          have e28 : sl a 28 = .int .i64 p118.2.1 := q2
          have e29 : sl a 29 = .pointer (some ⟨adB A5, adO A5 + p118.2.1.toNat * 4, none⟩) := q3
          have e30 : sl a 30 = .agg #[.int .i64 ((x5.getD p118.2.1.toNat ((0, 0, 0, false) : Int × Int × Int × Bool)).1), .int .i64 ((x5.getD p118.2.1.toNat ((0, 0, 0, false) : Int × Int × Int × Bool)).2.1), .int .i64 ((x5.getD p118.2.1.toNat ((0, 0, 0, false) : Int × Int × Int × Bool)).2.2.1), .bool ((x5.getD p118.2.1.toNat ((0, 0, 0, false) : Int × Int × Int × Bool)).2.2.2)] := q4
          have e31 : sl a 31 = .tuple #[.agg #[.slice (slA (vtup (vtup (sl a 31) 0) 0)) p125.1.length (slC (vtup (vtup (sl a 31) 0) 0)), .int .i64 p125.2.1, .int .i64 p125.2.2.1, .bool p125.2.2.2.1, .int .i64 p125.2.2.2.2.1], .bool p125.2.2.2.2.2] := q5
          have e25 : sl a 25 = .tuple #[.agg #[.slice (slA (vtup (vtup (sl a 31) 0) 0)) p125.1.length (slC (vtup (vtup (sl a 31) 0) 0)), .int .i64 p125.2.1, .int .i64 p125.2.2.1, .bool p125.2.2.2.1, .int .i64 p125.2.2.2.2.1], .bool p125.2.2.2.2.2] := q6
          have e32 : sl a 32 = .agg #[.slice (slA (vtup (vtup (sl a 31) 0) 0)) p125.1.length (slC (vtup (vtup (sl a 31) 0) 0)), .int .i64 p125.2.1, .int .i64 p125.2.2.1, .bool p125.2.2.2.1, .int .i64 p125.2.2.2.2.1] := q7
          have e33 : sl a 33 = .bool p125.2.2.2.2.2 := q8
          have e9 : sl a 9 = .pointer (some ⟨ptB (sl a 9), 0, none⟩) := q9
          have e10 : sl a 10 = .bool p125.2.2.2.2.2 := q11
          replace S : St w u [.row 4 1 (.slice (slA (vtup (vtup (sl a 31) 0) 0)) p125.1.length (slC (vtup (vtup (sl a 31) 0) 0))) p125.1.length (p125.1.flatMap eB), .box (ptB (sl a 9)) 25 #[.slice (slA (vtup (vtup (sl a 31) 0) 0)) p125.1.length (slC (vtup (vtup (sl a 31) 0) 0)), .int .i64 p125.2.1, .int .i64 p125.2.2.1, .bool p125.2.2.2.1, .int .i64 p125.2.2.2.2.1], .box g110 25 #[.slice B121 p118.2.2.1.length d122, .int .i64 p118.2.2.2.1, .int .i64 p118.2.2.2.2.1, .bool p118.2.2.2.2.2.1, .int .i64 p118.2.2.2.2.2.2], .box g102 25 #[.slice none 0 0, .int .i64 0, .int .i64 0, .bool false, .int .i64 0], .box g101 25 #[.slice A0 x0.length c0, .int .i64 x1, .int .i64 x2, .bool x3, .int .i64 x4], .row 4 1 (.slice B119 p118.1.length d120) p118.1.length (p118.1.flatMap eB), .row 4 1 (.slice B121 p118.2.2.1.length d122) p118.2.2.1.length (p118.2.2.1.flatMap eB)] := S
          clear q0 q1 q2 q3 q4 q5 q6 q7 q8 q9 q10 q11
          generalize slA (vtup (vtup (sl a 31) 0) 0) = B129 at *
          generalize slC (vtup (vtup (sl a 31) 0) 0) = d130 at *
          generalize ptB (sl a 9) = g131 at *
          have hF := hF.region hB [(26, .agg #[.slice B121 p118.2.2.1.length d122, .int .i64 p118.2.2.2.1, .int .i64 p118.2.2.2.2.1, .bool p118.2.2.2.2.2.1, .int .i64 p118.2.2.2.2.2.2]), (27, .slice A5 x5.length c5), (28, .int .i64 p118.2.1), (29, .pointer (some ⟨adB A5, adO A5 + p118.2.1.toNat * 4, none⟩)), (30, .agg #[.int .i64 ((x5.getD p118.2.1.toNat ((0, 0, 0, false) : Int × Int × Int × Bool)).1), .int .i64 ((x5.getD p118.2.1.toNat ((0, 0, 0, false) : Int × Int × Int × Bool)).2.1), .int .i64 ((x5.getD p118.2.1.toNat ((0, 0, 0, false) : Int × Int × Int × Bool)).2.2.1), .bool ((x5.getD p118.2.1.toNat ((0, 0, 0, false) : Int × Int × Int × Bool)).2.2.2)]), (31, .tuple #[.agg #[.slice B129 p125.1.length d130, .int .i64 p125.2.1, .int .i64 p125.2.2.1, .bool p125.2.2.2.1, .int .i64 p125.2.2.2.2.1], .bool p125.2.2.2.2.2]), (25, .tuple #[.agg #[.slice B129 p125.1.length d130, .int .i64 p125.2.1, .int .i64 p125.2.2.1, .bool p125.2.2.2.1, .int .i64 p125.2.2.2.2.1], .bool p125.2.2.2.2.2]), (32, .agg #[.slice B129 p125.1.length d130, .int .i64 p125.2.1, .int .i64 p125.2.2.1, .bool p125.2.2.2.1, .int .i64 p125.2.2.2.2.1]), (33, .bool p125.2.2.2.2.2), (9, .pointer (some ⟨g131, 0, none⟩)), (10, .bool p125.2.2.2.2.2)] (allSl_mem ⟨e26, e27, e28, e29, e30, e31, e25, e32, e33, e9, e10, trivial⟩) rfl
          clear hB e26 e27 e28 e29 e30 e31 e25 e32 e33 e9 e10
          refine wp_seq ?_
          refine wp_region_lit ?_
          refine op_val (v := .agg #[.slice B129 p125.1.length d130, .int .i64 p125.2.1, .int .i64 p125.2.2.1, .bool p125.2.2.2.1, .int .i64 p125.2.2.2.2.1]) rfl rfl hF rfl (run_loadN rfl ag25 (hF.ev rfl) rfl ((S.free 1 rfl).cells 0 #[.slice B129 p125.1.length d130, .int .i64 p125.2.1, .int .i64 p125.2.2.1, .bool p125.2.2.2.1, .int .i64 p125.2.2.2.2.1] rfl)) ?_; clear hF; intro a hF
          refine op_do rfl rfl (run_store (cs' := #[.slice B129 p125.1.length d130, .int .i64 p125.2.1, .int .i64 p125.2.2.1, .bool p125.2.2.2.1, .int .i64 p125.2.2.2.2.1]) rfl sz25 (hF.ev rfl) (hF.ev rfl) rfl rfl rfl (S.free 2 rfl) rfl rfl) ?_; replace S := S.put 2 rfl (#[.slice B129 p125.1.length d130, .int .i64 p125.2.1, .int .i64 p125.2.2.1, .bool p125.2.2.2.1, .int .i64 p125.2.2.2.2.1])
          generalize World.setRow _ _ _ = u at S ⊢
          refine wpList_nil ?_
          refine wp_region_lit ?_
          refine op_val (v := .slice B119 p118.1.length d120) rfl rfl hF rfl (run_move rfl (hF.ev rfl)) ?_; clear hF; intro a hF
          refine op_val (v := .bool p125.2.2.2.2.2) rfl rfl hF rfl (run_move rfl (hF.ev rfl)) ?_; clear hF; intro a hF
          refine op_newrowL (ls := ([p125.2.2.2.2.2] : List Bool)) (e := eB) rfl rfl hF rfl S (run_buildS (vs := [(0, .bool p125.2.2.2.2.2)]) rfl ⟨⟨rfl, (hF.ev rfl)⟩, trivial⟩ (bs23_1_0 rfl)) rfl eB_len (Nat.le_of_ble_eq_true rfl) ?_; clear hF S; intro a g132 u hF S
          obtain ⟨hk135, hM117⟩ := chk_ex hM117
          replace hk135 := apB_t hk135
          refine op_appendL (lx := p118.1) (ly := [p125.2.2.2.2.2]) rfl rfl hF rfl S rfl (hF.ev rfl) (hF.ev rfl) (i := 6) rfl rfl Tryd.underlying23 inf4 rfl (by decide) (S.rc 0 rfl).rd rfl eB_one hk135 (by decide) ?_; clear hF S; intro a B133 d134 u hF S
          refine op_val (v := .slice B133 ((p118.1 ++ ([p125.2.2.2.2.2])).length) d134) rfl rfl hF rfl (run_assign rfl (hF.ev rfl)) ?_; clear hF; intro a hF
          refine wpList_nil ?_
          refine wp_region_lit ?_
          refine op_val (v := .int .i64 p118.2.1) rfl rfl hF rfl (run_move rfl (hF.ev rfl)) ?_; clear hF; intro a hF
          refine op_val (v := .int .i64 (w64 (p118.2.1 + 1))) rfl rfl hF rfl (run_add (z := w64 (p118.2.1 + 1)) (hF.ev rfl) rfl rfl rfl) ?_; clear hF; intro a hF
          refine op_val (v := .int .i64 (w64 (p118.2.1 + 1))) rfl rfl hF rfl (run_assign rfl (hF.ev rfl)) ?_; clear hF; intro a hF
          refine wpList_nil ?_
          exact ⟨f1, Nat.lt_succ_self _, (p118.1 ++ ([p125.2.2.2.2.2]), w64 (p118.2.1 + 1), p125.1, p125.2.1, p125.2.2.1, p125.2.2.2.1, p125.2.2.2.2.1), B133, d134, B129, d130, hM117, hF.keep _ ⟨rfl, rfl, rfl, rfl, rfl, rfl, trivial⟩, S.sel [3, 4, 5, 6, 1] rfl rfl⟩
    · rintro a u ⟨p111, B113, d114, B115, d116, rfl, hF, S⟩
      refine wp_seq ?_
      refine wp_region_lit ?_
      refine op_val (v := .agg #[.slice B115 p111.2.1.length d116, .int .i64 p111.2.2.1, .int .i64 p111.2.2.2.1, .bool p111.2.2.2.2.1, .int .i64 p111.2.2.2.2.2]) rfl rfl hF rfl (run_loadN rfl ag25 (hF.ev rfl) rfl ((S.free 0 rfl).cells 0 #[.slice B115 p111.2.1.length d116, .int .i64 p111.2.2.1, .int .i64 p111.2.2.2.1, .bool p111.2.2.2.2.1, .int .i64 p111.2.2.2.2.2] rfl)) ?_; clear hF; intro a hF
      refine op_val (v := .slice B113 p111.1.length d114) rfl rfl hF rfl (run_move rfl (hF.ev rfl)) ?_; clear hF; intro a hF
      refine op_do rfl rfl (run_store (cs' := #[.slice B115 p111.2.1.length d116, .int .i64 p111.2.2.1, .int .i64 p111.2.2.2.1, .bool p111.2.2.2.2.1, .int .i64 p111.2.2.2.2.2]) rfl sz25 (hF.ev rfl) (hF.ev rfl) rfl rfl rfl (S.free 1 rfl) rfl rfl) ?_; replace S := S.put 1 rfl (#[.slice B115 p111.2.1.length d116, .int .i64 p111.2.2.1, .int .i64 p111.2.2.2.1, .bool p111.2.2.2.2.1, .int .i64 p111.2.2.2.2.2])
      generalize World.setRow _ _ _ = u at S ⊢
      refine op_val (v := .slice B113 p111.1.length d114) rfl rfl hF rfl (run_assign rfl (hF.ev rfl)) ?_; clear hF; intro a hF
      refine wpList_nil ?_
      refine wp_ret ?_
      repeat with_reducible (first | refine then_ret ?_ | refine in_ret ?_ | refine in_nrm ?_)
      refine ret2_gw (.inl rfl) hF rfl (res_cell (hF.ev rfl) (res_loadN ag25 rfl (S.cells 1 rfl 0 #[.slice B115 p111.2.1.length d116, .int .i64 p111.2.2.1, .int .i64 p111.2.2.2.1, .bool p111.2.2.2.2.1, .int .i64 p111.2.2.2.2.2] rfl))) (res_tmp (hF.ev rfl)) ?_
      obtain rfl := Option.some.inj hM
      exact ⟨B115, p111.2.1.length, d116, B113, p111.1.length, d114, rfl, rfl, rfl, S.sel [4, 3] rfl rfl⟩

set_option maxHeartbeats 4000000 in
theorem c_laws_selected {x0 : List (Int × Int × Int × Bool)} {x1 : List Bool} {x2 : Int} {A0 : Option Addr} {n0 c0 : Nat} {A1 : Option Addr} {n1 c1 : Nat} {w : World} {r : Bool} (h0 : Rt w 4 eCommand A0 n0 c0 x0) (h1 : Rt w 1 eB A1 n1 c1 x1) (hM : m_laws_selected x0 x1 x2 = some r) :
    Calls Tryd.prog 19 #[.slice A0 n0 c0, .slice A1 n1 c1, .int .i64 x2] w (fun e w' => e = .returned (.bool r) ∧ St w w' []) := by
  obtain rfl := h0.len
  obtain rfl := h1.len
  unfold m_laws_selected at hM
  refine calls_gw Tryd.func19 Tryd.ntmps19 rfl [(0, .slice A0 x0.length c0), (1, .slice A1 x1.length c1), (2, .int .i64 x2)] ⟨rfl, rfl, rfl, trivial⟩ rfl ?_
  intro a hF
  have S := St.nil w
  refine wp_seq ?_
  refine wp_region_lit ?_
  refine op_val (v := .bool false) rfl rfl hF rfl (run_assign rfl rfl) ?_; clear hF; intro a hF
  refine wpList_nil ?_
  refine wp_seq ?_
  refine wp_region_lit ?_
  refine op_val (v := .int .i64 0) rfl rfl hF rfl (run_assign rfl rfl) ?_; clear hF; intro a hF
  refine wpList_nil ?_
  refine wp_seq ?_
  refine wp_seq ?_
  refine wp_region_lit ?_
  refine op_val (v := .int .i64 x2) rfl rfl hF rfl (run_move rfl (hF.ev rfl)) ?_; clear hF; intro a hF
  refine op_val (v := .int .i64 (w64 (x2 - 1))) rfl rfl hF rfl (run_sub (z := w64 (x2 - 1)) (hF.ev rfl) rfl rfl rfl) ?_; clear hF; intro a hF
  refine op_val (v := .int .i64 (w64 (x2 - 1))) rfl rfl hF rfl (run_assign rfl (hF.ev rfl)) ?_; clear hF; intro a hF
  refine wpList_nil ?_
  obtain ⟨o102, hM103, hM⟩ := bind_ex hM
  refine wp_cut (fun a u => ∃ (p101 : Unit), (Sum.inl p101) = o102 ∧ Fr a 77 [(6, .bool false)] ∧ St w u []) ?_ ?_
  · have _ := trivial
    refine wp_block ?_
    refine loop_gw (fun m a u => ∃ (p104 : Int × Int), m_laws_selected_l1 x0 x1 x2 m p104 = some _ ∧ Fr a 77 [(0, .slice A0 x0.length c0), (1, .slice A1 x1.length c1), (2, .int .i64 x2), (6, .bool false), (7, .int .i64 p104.1), (8, .int .i64 p104.2)] ∧ St w u []) FUEL ⟨(0, w64 (x2 - 1)), hM103, hF.keep _ ⟨rfl, rfl, rfl, rfl, rfl, rfl, trivial⟩, S.sel [] rfl rfl⟩ ?_
    clear hF S hM103; rintro m a u ⟨p104, hM103, hF, S⟩
    rcases m with _ | f1
    · exact none_some hM103
    rw [m_laws_selected_l1.eq_2] at hM103
    refine wp_seq ?_
    refine wp_seq ?_
    refine wp_region_lit ?_
    refine op_val (v := .int .i64 p104.2) rfl rfl hF rfl (run_move rfl (hF.ev rfl)) ?_; clear hF; intro a hF
    refine op_val (v := .bool (leB 0 p104.2)) rfl rfl hF rfl (run_geq (hF.ev rfl) rfl rfl) ?_; clear hF; intro a hF
    refine wpList_nil ?_
    cases hc105 : (leB 0 p104.2)
    · replace hM103 := bif_f hc105 hM103
      refine cond_f hF rfl hc105 ?_
      refine wp_exit ?_
      repeat with_reducible (first | refine then_exit ?_ | refine in_hit ?_ | refine in_miss rfl ?_)
      obtain rfl := Option.some.inj hM103
      exact ⟨(), rfl, hF.keep _ ⟨rfl, trivial⟩, S.sel [] rfl rfl⟩
    · replace hM103 := bif_t hc105 hM103
      refine cond_t hF rfl hc105 ?_
      refine wp_skip ?_
      refine wp_seq ?_
      obtain ⟨o107, hM108, hM103⟩ := bind_ex hM103
      refine wp_cut (fun a u => ∃ (p106 : Int), (Sum.inl p106) = o107 ∧ Fr a 77 [(0, .slice A0 x0.length c0), (1, .slice A1 x1.length c1), (2, .int .i64 x2), (6, .bool false), (7, .int .i64 p106), (8, .int .i64 p104.2)] ∧ St w u []) ?_ ?_
      · have _ := trivial
        refine wp_block ?_
        refine wp_seq ?_
        refine wp_seq ?_
        refine wp_region_lit ?_
        refine op_val (v := .slice A1 x1.length c1) rfl rfl hF rfl (run_move rfl (hF.ev rfl)) ?_; clear hF; intro a hF
        refine op_val (v := .int .i64 p104.2) rfl rfl hF rfl (run_move rfl (hF.ev rfl)) ?_; clear hF; intro a hF
        obtain ⟨hk109, hM108⟩ := chk_ex hM108
        replace hk109 := ixB_t hk109
        refine op_val (v := .pointer (some ⟨adB A1, adO A1 + p104.2.toNat * 1, none⟩)) rfl rfl hF rfl (run_indexAddr (b := adB A1) (off := adO A1) rfl Tryd.underlying23 sz4 ((hF.ev rfl).trans (congrArg (fun A => Value.slice A x1.length c1) ((S.rc0 h1.rc).rd.ad (ix_pos hk109)))) (hF.ev rfl) hk109.1 hk109.2 (k' := adO A1 + p104.2.toNat * 1) rfl) ?_; clear hF; intro a hF
        refine op_val (v := .bool (x1.getD p104.2.toNat false)) rfl rfl hF rfl (run_load1 rfl one4 (hF.ev rfl) (rd_el0 (l := x1) (S.rc0 h1.rc).rd rfl eB_len false (ix_ltn hk109 rfl) rfl)) ?_; clear hF; intro a hF
        refine op_val (v := .bool (!(x1.getD p104.2.toNat false))) rfl rfl hF rfl (run_not rfl (hF.ev rfl)) ?_; clear hF; intro a hF
        refine wpList_nil ?_
        cases hc110 : (x1.getD p104.2.toNat false)
        · replace hM108 := bif_f hc110 hM108
          refine cond_t hF rfl (not_t hc110) ?_
          refine wp_exit ?_
          repeat with_reducible (first | refine then_exit ?_ | refine in_hit ?_ | refine in_miss rfl ?_)
          obtain rfl := Option.some.inj hM108
          exact ⟨p104.1, rfl, hF.keep _ ⟨rfl, rfl, rfl, rfl, rfl, rfl, trivial⟩, S.sel [] rfl rfl⟩
        · replace hM108 := bif_t hc110 hM108
          refine cond_f hF rfl (not_f hc110) ?_
          refine wp_skip ?_
          refine wp_seq ?_
          refine wp_seq ?_
          refine wp_region_lit ?_
          refine op_val (v := .slice A0 x0.length c0) rfl rfl hF rfl (run_move rfl (hF.ev rfl)) ?_; clear hF; intro a hF
          refine op_val (v := .int .i64 p104.2) rfl rfl hF rfl (run_move rfl (hF.ev rfl)) ?_; clear hF; intro a hF
          obtain ⟨hk111, hM108⟩ := chk_ex hM108
          replace hk111 := ixB_t hk111
          refine op_val (v := .pointer (some ⟨adB A0, adO A0 + p104.2.toNat * 4, none⟩)) rfl rfl hF rfl (run_indexAddr (b := adB A0) (off := adO A0) rfl Tryd.underlying39 sz27 ((hF.ev rfl).trans (congrArg (fun A => Value.slice A x0.length c0) ((S.rc0 h0.rc).rd.ad (ix_pos hk111)))) (hF.ev rfl) hk111.1 hk111.2 (k' := adO A0 + p104.2.toNat * 4) rfl) ?_; clear hF; intro a hF
          refine op_val (v := .pointer (some ⟨adB A0, adO A0 + p104.2.toNat * 4, none⟩)) rfl rfl hF rfl (run_fieldAddr rfl fl27_0 (hF.ev rfl) rfl) ?_; clear hF; intro a hF
          refine op_val (v := .int .i64 ((x0.getD p104.2.toNat ((0, 0, 0, false) : Int × Int × Int × Bool)).1)) rfl rfl hF rfl (run_load1 rfl one3 (hF.ev rfl) (rd_el0 (l := x0) (S.rc0 h0.rc).rd rfl eCommand_len ((0, 0, 0, false) : Int × Int × Int × Bool) (ix_ltn hk111 rfl) rfl)) ?_; clear hF; intro a hF
          refine op_val (v := .bool (((x0.getD p104.2.toNat ((0, 0, 0, false) : Int × Int × Int × Bool)).1) == 3)) rfl rfl hF rfl (run_eql (hF.ev rfl) rfl rfl) ?_; clear hF; intro a hF
          refine wpList_nil ?_
          cases hc112 : (((x0.getD p104.2.toNat ((0, 0, 0, false) : Int × Int × Int × Bool)).1) == 3)
          · replace hM108 := bif_f hc112 hM108
            refine cond_f hF rfl hc112 ?_
            refine wp_skip ?_
            refine wp_seq ?_
            obtain ⟨hk113, hM108⟩ := chk_ex hM108
            replace hk113 := ixB_t hk113
            obtain ⟨hk114, hM108⟩ := chk_ex hM108
            replace hk114 := fun hg => ixB_t (imp_t hk114 hg)
            obtain ⟨hk115, hM108⟩ := chk_ex hM108
            replace hk115 := fun hg => ixB_t (imp_t hk115 hg)
            obtain ⟨hk116, hM108⟩ := chk_ex hM108
            replace hk116 := fun hg => ixB_t (imp_t hk116 hg)
            obtain ⟨hk117, hM108⟩ := chk_ex hM108
            replace hk117 := fun hg => ixB_t (imp_t hk117 hg)
            obtain ⟨hk118, hM108⟩ := chk_ex hM108
            replace hk118 := fun hg => ixB_t (imp_t hk118 hg)
            obtain ⟨hk119, hM108⟩ := chk_ex hM108
            replace hk119 := fun hg => ixB_t (imp_t hk119 hg)
            refine region_gw (D := [28, 29, 30, 31, 32, 33, 34, 35, 36, 37, 38, 39, 40, 41, 42, 43, 44, 45, 46, 47, 48, 49, 50, 51, 52, 53, 54, 55, 56, 57, 58, 59, 60, 61, 62, 63, 64, 65, 66, 67, 68, 69, 70, 71, 72, 73, 74, 75, 76, 6]) (Lr := []) (deps := (fun | 0 => [28] | 1 => [29] | 2 => [30] | 3 => [31] | 4 => [32] | 5 => [33] | 6 => [34] | 7 => [35] | 8 => [36] | 9 => [37] | 10 => [38] | 11 => [39] | 12 => [40] | 13 => [41] | 14 => [42] | 15 => [43] | 16 => [44] | 17 => [45] | 18 => [46] | 19 => [47] | 20 => [48] | 21 => [49] | 22 => [50] | 23 => [51] | 24 => [52] | 25 => [53] | 26 => [54] | 27 => [55] | 28 => [56] | 29 => [57] | 30 => [58] | 31 => [59] | 32 => [60] | 33 => [61] | 34 => [62] | 35 => [63] | 36 => [64] | 37 => [65] | 38 => [66] | 39 => [67] | 40 => [68] | 41 => [69] | 42 => [70] | 43 => [71] | 44 => [72] | 45 => [73] | 46 => [74] | 47 => [75] | 48 => [76] | 49 => [6] | _ => [])) (rd := (fun _ => [])) (zr := (fun _ => []))
              (φ := fun i vs => match i, vs with | 0, [v28] => v28 = .slice A0 x0.length c0 | 1, [v29] => v29 = .int .i64 p104.2 | 2, [v30] => v30 = .pointer (some ⟨adB A0, adO A0 + p104.2.toNat * 4, none⟩) | 3, [v31] => v31 = .pointer (some ⟨adB A0, adO A0 + p104.2.toNat * 4, none⟩) | 4, [v32] => v32 = .int .i64 ((x0.getD p104.2.toNat ((0, 0, 0, false) : Int × Int × Int × Bool)).1) | 5, [v33] => v33 = .bool (((x0.getD p104.2.toNat ((0, 0, 0, false) : Int × Int × Int × Bool)).1) == 0) | 6, [v34] => v34 = .bool (((x0.getD p104.2.toNat ((0, 0, 0, false) : Int × Int × Int × Bool)).1) == 0) | 7, [v35] => v35 = gv (((x0.getD p104.2.toNat ((0, 0, 0, false) : Int × Int × Int × Bool)).1) == 0) (.slice A0 x0.length c0) | 8, [v36] => v36 = gv (((x0.getD p104.2.toNat ((0, 0, 0, false) : Int × Int × Int × Bool)).1) == 0) (.int .i64 p104.2) | 9, [v37] => v37 = gv (((x0.getD p104.2.toNat ((0, 0, 0, false) : Int × Int × Int × Bool)).1) == 0) (.pointer (some ⟨adB A0, adO A0 + p104.2.toNat * 4, none⟩)) | 10, [v38] => v38 = gv (((x0.getD p104.2.toNat ((0, 0, 0, false) : Int × Int × Int × Bool)).1) == 0) (.pointer (some ⟨adB A0, adO A0 + p104.2.toNat * 4 + 1, none⟩)) | 11, [v39] => v39 = gv (((x0.getD p104.2.toNat ((0, 0, 0, false) : Int × Int × Int × Bool)).1) == 0) (.int .i64 ((x0.getD p104.2.toNat ((0, 0, 0, false) : Int × Int × Int × Bool)).2.1)) | 12, [v40] => v40 = gv (((x0.getD p104.2.toNat ((0, 0, 0, false) : Int × Int × Int × Bool)).1) == 0) (.slice A0 x0.length c0) | 13, [v41] => v41 = gv (((x0.getD p104.2.toNat ((0, 0, 0, false) : Int × Int × Int × Bool)).1) == 0) (.int .i64 x2) | 14, [v42] => v42 = gv (((x0.getD p104.2.toNat ((0, 0, 0, false) : Int × Int × Int × Bool)).1) == 0) (.pointer (some ⟨adB A0, adO A0 + x2.toNat * 4, none⟩)) | 15, [v43] => v43 = gv (((x0.getD p104.2.toNat ((0, 0, 0, false) : Int × Int × Int × Bool)).1) == 0) (.pointer (some ⟨adB A0, adO A0 + x2.toNat * 4 + 1, none⟩)) | 16, [v44] => v44 = gv (((x0.getD p104.2.toNat ((0, 0, 0, false) : Int × Int × Int × Bool)).1) == 0) (.int .i64 ((x0.getD x2.toNat ((0, 0, 0, false) : Int × Int × Int × Bool)).2.1)) | 17, [v45] => v45 = gv (((x0.getD p104.2.toNat ((0, 0, 0, false) : Int × Int × Int × Bool)).1) == 0) (.bool (((x0.getD p104.2.toNat ((0, 0, 0, false) : Int × Int × Int × Bool)).2.1) == ((x0.getD x2.toNat ((0, 0, 0, false) : Int × Int × Int × Bool)).2.1))) | 18, [v46] => v46 = .bool ((((x0.getD p104.2.toNat ((0, 0, 0, false) : Int × Int × Int × Bool)).1) == 0) && (((x0.getD p104.2.toNat ((0, 0, 0, false) : Int × Int × Int × Bool)).2.1) == ((x0.getD x2.toNat ((0, 0, 0, false) : Int × Int × Int × Bool)).2.1))) | 19, [v47] => v47 = .bool ((((x0.getD p104.2.toNat ((0, 0, 0, false) : Int × Int × Int × Bool)).1) == 0) && (((x0.getD p104.2.toNat ((0, 0, 0, false) : Int × Int × Int × Bool)).2.1) == ((x0.getD x2.toNat ((0, 0, 0, false) : Int × Int × Int × Bool)).2.1))) | 20, [v48] => v48 = gv ((((x0.getD p104.2.toNat ((0, 0, 0, false) : Int × Int × Int × Bool)).1) == 0) && (((x0.getD p104.2.toNat ((0, 0, 0, false) : Int × Int × Int × Bool)).2.1) == ((x0.getD x2.toNat ((0, 0, 0, false) : Int × Int × Int × Bool)).2.1))) (.slice A0 x0.length c0) | 21, [v49] => v49 = gv ((((x0.getD p104.2.toNat ((0, 0, 0, false) : Int × Int × Int × Bool)).1) == 0) && (((x0.getD p104.2.toNat ((0, 0, 0, false) : Int × Int × Int × Bool)).2.1) == ((x0.getD x2.toNat ((0, 0, 0, false) : Int × Int × Int × Bool)).2.1))) (.int .i64 p104.2) | 22, [v50] => v50 = gv ((((x0.getD p104.2.toNat ((0, 0, 0, false) : Int × Int × Int × Bool)).1) == 0) && (((x0.getD p104.2.toNat ((0, 0, 0, false) : Int × Int × Int × Bool)).2.1) == ((x0.getD x2.toNat ((0, 0, 0, false) : Int × Int × Int × Bool)).2.1))) (.pointer (some ⟨adB A0, adO A0 + p104.2.toNat * 4, none⟩)) | 23, [v51] => v51 = gv ((((x0.getD p104.2.toNat ((0, 0, 0, false) : Int × Int × Int × Bool)).1) == 0) && (((x0.getD p104.2.toNat ((0, 0, 0, false) : Int × Int × Int × Bool)).2.1) == ((x0.getD x2.toNat ((0, 0, 0, false) : Int × Int × Int × Bool)).2.1))) (.pointer (some ⟨adB A0, adO A0 + p104.2.toNat * 4 + 2, none⟩)) | 24, [v52] => v52 = gv ((((x0.getD p104.2.toNat ((0, 0, 0, false) : Int × Int × Int × Bool)).1) == 0) && (((x0.getD p104.2.toNat ((0, 0, 0, false) : Int × Int × Int × Bool)).2.1) == ((x0.getD x2.toNat ((0, 0, 0, false) : Int × Int × Int × Bool)).2.1))) (.int .i64 ((x0.getD p104.2.toNat ((0, 0, 0, false) : Int × Int × Int × Bool)).2.2.1)) | 25, [v53] => v53 = gv ((((x0.getD p104.2.toNat ((0, 0, 0, false) : Int × Int × Int × Bool)).1) == 0) && (((x0.getD p104.2.toNat ((0, 0, 0, false) : Int × Int × Int × Bool)).2.1) == ((x0.getD x2.toNat ((0, 0, 0, false) : Int × Int × Int × Bool)).2.1))) (.slice A0 x0.length c0) | 26, [v54] => v54 = gv ((((x0.getD p104.2.toNat ((0, 0, 0, false) : Int × Int × Int × Bool)).1) == 0) && (((x0.getD p104.2.toNat ((0, 0, 0, false) : Int × Int × Int × Bool)).2.1) == ((x0.getD x2.toNat ((0, 0, 0, false) : Int × Int × Int × Bool)).2.1))) (.int .i64 x2) | 27, [v55] => v55 = gv ((((x0.getD p104.2.toNat ((0, 0, 0, false) : Int × Int × Int × Bool)).1) == 0) && (((x0.getD p104.2.toNat ((0, 0, 0, false) : Int × Int × Int × Bool)).2.1) == ((x0.getD x2.toNat ((0, 0, 0, false) : Int × Int × Int × Bool)).2.1))) (.pointer (some ⟨adB A0, adO A0 + x2.toNat * 4, none⟩)) | 28, [v56] => v56 = gv ((((x0.getD p104.2.toNat ((0, 0, 0, false) : Int × Int × Int × Bool)).1) == 0) && (((x0.getD p104.2.toNat ((0, 0, 0, false) : Int × Int × Int × Bool)).2.1) == ((x0.getD x2.toNat ((0, 0, 0, false) : Int × Int × Int × Bool)).2.1))) (.pointer (some ⟨adB A0, adO A0 + x2.toNat * 4 + 2, none⟩)) | 29, [v57] => v57 = gv ((((x0.getD p104.2.toNat ((0, 0, 0, false) : Int × Int × Int × Bool)).1) == 0) && (((x0.getD p104.2.toNat ((0, 0, 0, false) : Int × Int × Int × Bool)).2.1) == ((x0.getD x2.toNat ((0, 0, 0, false) : Int × Int × Int × Bool)).2.1))) (.int .i64 ((x0.getD x2.toNat ((0, 0, 0, false) : Int × Int × Int × Bool)).2.2.1)) | 30, [v58] => v58 = gv ((((x0.getD p104.2.toNat ((0, 0, 0, false) : Int × Int × Int × Bool)).1) == 0) && (((x0.getD p104.2.toNat ((0, 0, 0, false) : Int × Int × Int × Bool)).2.1) == ((x0.getD x2.toNat ((0, 0, 0, false) : Int × Int × Int × Bool)).2.1))) (.bool (((x0.getD p104.2.toNat ((0, 0, 0, false) : Int × Int × Int × Bool)).2.2.1) == ((x0.getD x2.toNat ((0, 0, 0, false) : Int × Int × Int × Bool)).2.2.1))) | 31, [v59] => v59 = .bool (((((x0.getD p104.2.toNat ((0, 0, 0, false) : Int × Int × Int × Bool)).1) == 0) && (((x0.getD p104.2.toNat ((0, 0, 0, false) : Int × Int × Int × Bool)).2.1) == ((x0.getD x2.toNat ((0, 0, 0, false) : Int × Int × Int × Bool)).2.1))) && (((x0.getD p104.2.toNat ((0, 0, 0, false) : Int × Int × Int × Bool)).2.2.1) == ((x0.getD x2.toNat ((0, 0, 0, false) : Int × Int × Int × Bool)).2.2.1))) | 32, [v60] => v60 = .bool (((((x0.getD p104.2.toNat ((0, 0, 0, false) : Int × Int × Int × Bool)).1) == 0) && (((x0.getD p104.2.toNat ((0, 0, 0, false) : Int × Int × Int × Bool)).2.1) == ((x0.getD x2.toNat ((0, 0, 0, false) : Int × Int × Int × Bool)).2.1))) && (((x0.getD p104.2.toNat ((0, 0, 0, false) : Int × Int × Int × Bool)).2.2.1) == ((x0.getD x2.toNat ((0, 0, 0, false) : Int × Int × Int × Bool)).2.2.1))) | 33, [v61] => v61 = gv (((((x0.getD p104.2.toNat ((0, 0, 0, false) : Int × Int × Int × Bool)).1) == 0) && (((x0.getD p104.2.toNat ((0, 0, 0, false) : Int × Int × Int × Bool)).2.1) == ((x0.getD x2.toNat ((0, 0, 0, false) : Int × Int × Int × Bool)).2.1))) && (((x0.getD p104.2.toNat ((0, 0, 0, false) : Int × Int × Int × Bool)).2.2.1) == ((x0.getD x2.toNat ((0, 0, 0, false) : Int × Int × Int × Bool)).2.2.1))) (.slice A0 x0.length c0) | 34, [v62] => v62 = gv (((((x0.getD p104.2.toNat ((0, 0, 0, false) : Int × Int × Int × Bool)).1) == 0) && (((x0.getD p104.2.toNat ((0, 0, 0, false) : Int × Int × Int × Bool)).2.1) == ((x0.getD x2.toNat ((0, 0, 0, false) : Int × Int × Int × Bool)).2.1))) && (((x0.getD p104.2.toNat ((0, 0, 0, false) : Int × Int × Int × Bool)).2.2.1) == ((x0.getD x2.toNat ((0, 0, 0, false) : Int × Int × Int × Bool)).2.2.1))) (.int .i64 p104.2) | 35, [v63] => v63 = gv (((((x0.getD p104.2.toNat ((0, 0, 0, false) : Int × Int × Int × Bool)).1) == 0) && (((x0.getD p104.2.toNat ((0, 0, 0, false) : Int × Int × Int × Bool)).2.1) == ((x0.getD x2.toNat ((0, 0, 0, false) : Int × Int × Int × Bool)).2.1))) && (((x0.getD p104.2.toNat ((0, 0, 0, false) : Int × Int × Int × Bool)).2.2.1) == ((x0.getD x2.toNat ((0, 0, 0, false) : Int × Int × Int × Bool)).2.2.1))) (.pointer (some ⟨adB A0, adO A0 + p104.2.toNat * 4, none⟩)) | 36, [v64] => v64 = gv (((((x0.getD p104.2.toNat ((0, 0, 0, false) : Int × Int × Int × Bool)).1) == 0) && (((x0.getD p104.2.toNat ((0, 0, 0, false) : Int × Int × Int × Bool)).2.1) == ((x0.getD x2.toNat ((0, 0, 0, false) : Int × Int × Int × Bool)).2.1))) && (((x0.getD p104.2.toNat ((0, 0, 0, false) : Int × Int × Int × Bool)).2.2.1) == ((x0.getD x2.toNat ((0, 0, 0, false) : Int × Int × Int × Bool)).2.2.1))) (.pointer (some ⟨adB A0, adO A0 + p104.2.toNat * 4 + 3, none⟩)) | 37, [v65] => v65 = gv (((((x0.getD p104.2.toNat ((0, 0, 0, false) : Int × Int × Int × Bool)).1) == 0) && (((x0.getD p104.2.toNat ((0, 0, 0, false) : Int × Int × Int × Bool)).2.1) == ((x0.getD x2.toNat ((0, 0, 0, false) : Int × Int × Int × Bool)).2.1))) && (((x0.getD p104.2.toNat ((0, 0, 0, false) : Int × Int × Int × Bool)).2.2.1) == ((x0.getD x2.toNat ((0, 0, 0, false) : Int × Int × Int × Bool)).2.2.1))) (.bool ((x0.getD p104.2.toNat ((0, 0, 0, false) : Int × Int × Int × Bool)).2.2.2)) | 38, [v66] => v66 = gv (((((x0.getD p104.2.toNat ((0, 0, 0, false) : Int × Int × Int × Bool)).1) == 0) && (((x0.getD p104.2.toNat ((0, 0, 0, false) : Int × Int × Int × Bool)).2.1) == ((x0.getD x2.toNat ((0, 0, 0, false) : Int × Int × Int × Bool)).2.1))) && (((x0.getD p104.2.toNat ((0, 0, 0, false) : Int × Int × Int × Bool)).2.2.1) == ((x0.getD x2.toNat ((0, 0, 0, false) : Int × Int × Int × Bool)).2.2.1))) (.slice A0 x0.length c0) | 39, [v67] => v67 = gv (((((x0.getD p104.2.toNat ((0, 0, 0, false) : Int × Int × Int × Bool)).1) == 0) && (((x0.getD p104.2.toNat ((0, 0, 0, false) : Int × Int × Int × Bool)).2.1) == ((x0.getD x2.toNat ((0, 0, 0, false) : Int × Int × Int × Bool)).2.1))) && (((x0.getD p104.2.toNat ((0, 0, 0, false) : Int × Int × Int × Bool)).2.2.1) == ((x0.getD x2.toNat ((0, 0, 0, false) : Int × Int × Int × Bool)).2.2.1))) (.int .i64 x2) | 40, [v68] => v68 = gv (((((x0.getD p104.2.toNat ((0, 0, 0, false) : Int × Int × Int × Bool)).1) == 0) && (((x0.getD p104.2.toNat ((0, 0, 0, false) : Int × Int × Int × Bool)).2.1) == ((x0.getD x2.toNat ((0, 0, 0, false) : Int × Int × Int × Bool)).2.1))) && (((x0.getD p104.2.toNat ((0, 0, 0, false) : Int × Int × Int × Bool)).2.2.1) == ((x0.getD x2.toNat ((0, 0, 0, false) : Int × Int × Int × Bool)).2.2.1))) (.pointer (some ⟨adB A0, adO A0 + x2.toNat * 4, none⟩)) | 41, [v69] => v69 = gv (((((x0.getD p104.2.toNat ((0, 0, 0, false) : Int × Int × Int × Bool)).1) == 0) && (((x0.getD p104.2.toNat ((0, 0, 0, false) : Int × Int × Int × Bool)).2.1) == ((x0.getD x2.toNat ((0, 0, 0, false) : Int × Int × Int × Bool)).2.1))) && (((x0.getD p104.2.toNat ((0, 0, 0, false) : Int × Int × Int × Bool)).2.2.1) == ((x0.getD x2.toNat ((0, 0, 0, false) : Int × Int × Int × Bool)).2.2.1))) (.pointer (some ⟨adB A0, adO A0 + x2.toNat * 4 + 3, none⟩)) | 42, [v70] => v70 = gv (((((x0.getD p104.2.toNat ((0, 0, 0, false) : Int × Int × Int × Bool)).1) == 0) && (((x0.getD p104.2.toNat ((0, 0, 0, false) : Int × Int × Int × Bool)).2.1) == ((x0.getD x2.toNat ((0, 0, 0, false) : Int × Int × Int × Bool)).2.1))) && (((x0.getD p104.2.toNat ((0, 0, 0, false) : Int × Int × Int × Bool)).2.2.1) == ((x0.getD x2.toNat ((0, 0, 0, false) : Int × Int × Int × Bool)).2.2.1))) (.bool ((x0.getD x2.toNat ((0, 0, 0, false) : Int × Int × Int × Bool)).2.2.2)) | 43, [v71] => v71 = gv (((((x0.getD p104.2.toNat ((0, 0, 0, false) : Int × Int × Int × Bool)).1) == 0) && (((x0.getD p104.2.toNat ((0, 0, 0, false) : Int × Int × Int × Bool)).2.1) == ((x0.getD x2.toNat ((0, 0, 0, false) : Int × Int × Int × Bool)).2.1))) && (((x0.getD p104.2.toNat ((0, 0, 0, false) : Int × Int × Int × Bool)).2.2.1) == ((x0.getD x2.toNat ((0, 0, 0, false) : Int × Int × Int × Bool)).2.2.1))) (.bool (((x0.getD p104.2.toNat ((0, 0, 0, false) : Int × Int × Int × Bool)).2.2.2) == ((x0.getD x2.toNat ((0, 0, 0, false) : Int × Int × Int × Bool)).2.2.2))) | 44, [v72] => v72 = .bool ((((((x0.getD p104.2.toNat ((0, 0, 0, false) : Int × Int × Int × Bool)).1) == 0) && (((x0.getD p104.2.toNat ((0, 0, 0, false) : Int × Int × Int × Bool)).2.1) == ((x0.getD x2.toNat ((0, 0, 0, false) : Int × Int × Int × Bool)).2.1))) && (((x0.getD p104.2.toNat ((0, 0, 0, false) : Int × Int × Int × Bool)).2.2.1) == ((x0.getD x2.toNat ((0, 0, 0, false) : Int × Int × Int × Bool)).2.2.1))) && (((x0.getD p104.2.toNat ((0, 0, 0, false) : Int × Int × Int × Bool)).2.2.2) == ((x0.getD x2.toNat ((0, 0, 0, false) : Int × Int × Int × Bool)).2.2.2))) | 45, [v73] => v73 = .bool ((((((x0.getD p104.2.toNat ((0, 0, 0, false) : Int × Int × Int × Bool)).1) == 0) && (((x0.getD p104.2.toNat ((0, 0, 0, false) : Int × Int × Int × Bool)).2.1) == ((x0.getD x2.toNat ((0, 0, 0, false) : Int × Int × Int × Bool)).2.1))) && (((x0.getD p104.2.toNat ((0, 0, 0, false) : Int × Int × Int × Bool)).2.2.1) == ((x0.getD x2.toNat ((0, 0, 0, false) : Int × Int × Int × Bool)).2.2.1))) && (((x0.getD p104.2.toNat ((0, 0, 0, false) : Int × Int × Int × Bool)).2.2.2) == ((x0.getD x2.toNat ((0, 0, 0, false) : Int × Int × Int × Bool)).2.2.2))) | 46, [v74] => v74 = gv ((((((x0.getD p104.2.toNat ((0, 0, 0, false) : Int × Int × Int × Bool)).1) == 0) && (((x0.getD p104.2.toNat ((0, 0, 0, false) : Int × Int × Int × Bool)).2.1) == ((x0.getD x2.toNat ((0, 0, 0, false) : Int × Int × Int × Bool)).2.1))) && (((x0.getD p104.2.toNat ((0, 0, 0, false) : Int × Int × Int × Bool)).2.2.1) == ((x0.getD x2.toNat ((0, 0, 0, false) : Int × Int × Int × Bool)).2.2.1))) && (((x0.getD p104.2.toNat ((0, 0, 0, false) : Int × Int × Int × Bool)).2.2.2) == ((x0.getD x2.toNat ((0, 0, 0, false) : Int × Int × Int × Bool)).2.2.2))) (.int .i64 p104.1) | 47, [v75] => v75 = gv ((((((x0.getD p104.2.toNat ((0, 0, 0, false) : Int × Int × Int × Bool)).1) == 0) && (((x0.getD p104.2.toNat ((0, 0, 0, false) : Int × Int × Int × Bool)).2.1) == ((x0.getD x2.toNat ((0, 0, 0, false) : Int × Int × Int × Bool)).2.1))) && (((x0.getD p104.2.toNat ((0, 0, 0, false) : Int × Int × Int × Bool)).2.2.1) == ((x0.getD x2.toNat ((0, 0, 0, false) : Int × Int × Int × Bool)).2.2.1))) && (((x0.getD p104.2.toNat ((0, 0, 0, false) : Int × Int × Int × Bool)).2.2.2) == ((x0.getD x2.toNat ((0, 0, 0, false) : Int × Int × Int × Bool)).2.2.2))) (.bool (ltB p104.1 3)) | 48, [v76] => v76 = .bool (((((((x0.getD p104.2.toNat ((0, 0, 0, false) : Int × Int × Int × Bool)).1) == 0) && (((x0.getD p104.2.toNat ((0, 0, 0, false) : Int × Int × Int × Bool)).2.1) == ((x0.getD x2.toNat ((0, 0, 0, false) : Int × Int × Int × Bool)).2.1))) && (((x0.getD p104.2.toNat ((0, 0, 0, false) : Int × Int × Int × Bool)).2.2.1) == ((x0.getD x2.toNat ((0, 0, 0, false) : Int × Int × Int × Bool)).2.2.1))) && (((x0.getD p104.2.toNat ((0, 0, 0, false) : Int × Int × Int × Bool)).2.2.2) == ((x0.getD x2.toNat ((0, 0, 0, false) : Int × Int × Int × Bool)).2.2.2))) && (ltB p104.1 3)) | 49, [v6] => v6 = .bool (((((((x0.getD p104.2.toNat ((0, 0, 0, false) : Int × Int × Int × Bool)).1) == 0) && (((x0.getD p104.2.toNat ((0, 0, 0, false) : Int × Int × Int × Bool)).2.1) == ((x0.getD x2.toNat ((0, 0, 0, false) : Int × Int × Int × Bool)).2.1))) && (((x0.getD p104.2.toNat ((0, 0, 0, false) : Int × Int × Int × Bool)).2.2.1) == ((x0.getD x2.toNat ((0, 0, 0, false) : Int × Int × Int × Bool)).2.2.1))) && (((x0.getD p104.2.toNat ((0, 0, 0, false) : Int × Int × Int × Bool)).2.2.2) == ((x0.getD x2.toNat ((0, 0, 0, false) : Int × Int × Int × Bool)).2.2.2))) && (ltB p104.1 3)) | _, _ => True)
              (C := fun _ _ => [])
              (κ := (fun _ => none)) (Z := (fun _ => [])) mixed hF (by kernel_rfl) S ?_ ?_
            · refine ⟨?_, ?_, ?_, ?_, ?_, ?_, ?_, ?_, ?_, ?_, ?_, ?_, ?_, ?_, ?_, ?_, ?_, ?_, ?_, ?_, ?_, ?_, ?_, ?_, ?_, ?_, ?_, ?_, ?_, ?_, ?_, ?_, ?_, ?_, ?_, ?_, ?_, ?_, ?_, ?_, ?_, ?_, ?_, ?_, ?_, ?_, ?_, ?_, ?_, ?_, trivial⟩
              · intro a u X hB hu hp hr hz hl S
                replace S : St w u ([] ++ X) := S
                exact .inl ⟨rfl, .slice A0 x0.length c0, u, (run_move rfl (hF.evB hB rfl rfl)), rfl, S⟩
              · intro a u X hB hu hp hr hz hl S
                replace S : St w u ([] ++ X) := S
                exact .inl ⟨rfl, .int .i64 p104.2, u, (run_move rfl (hF.evB hB rfl rfl)), rfl, S⟩
              · intro a u X hB hu hp hr hz hl S
                replace S : St w u ([] ++ X) := S
                have e28 : sl a 28 = .slice A0 x0.length c0 := hp 0 rfl
                have e29 : sl a 29 = .int .i64 p104.2 := hp 1 rfl
                exact .inl ⟨rfl, .pointer (some ⟨adB A0, adO A0 + p104.2.toNat * 4, none⟩), u, (run_indexAddr (b := adB A0) (off := adO A0) rfl Tryd.underlying39 sz27 ((ev_sl e28).trans (congrArg (fun A => Value.slice A x0.length c0) ((S.rc0 h0.rc).rd.ad (ix_pos hk113)))) (ev_sl e29) hk113.1 hk113.2 (k' := adO A0 + p104.2.toNat * 4) rfl), rfl, S⟩
              · intro a u X hB hu hp hr hz hl S
                replace S : St w u ([] ++ X) := S
                have e30 : sl a 30 = .pointer (some ⟨adB A0, adO A0 + p104.2.toNat * 4, none⟩) := hp 2 rfl
                exact .inl ⟨rfl, .pointer (some ⟨adB A0, adO A0 + p104.2.toNat * 4, none⟩), u, (run_fieldAddr rfl fl27_0 (ev_sl e30) rfl), rfl, S⟩
              · intro a u X hB hu hp hr hz hl S
                replace S : St w u ([] ++ X) := S
                have e31 : sl a 31 = .pointer (some ⟨adB A0, adO A0 + p104.2.toNat * 4, none⟩) := hp 3 rfl
                exact .inl ⟨rfl, .int .i64 ((x0.getD p104.2.toNat ((0, 0, 0, false) : Int × Int × Int × Bool)).1), u, (run_load1 rfl one3 (ev_sl e31) (rd_el0 (l := x0) (S.rc0 h0.rc).rd rfl eCommand_len ((0, 0, 0, false) : Int × Int × Int × Bool) (ix_ltn hk113 rfl) rfl)), rfl, S⟩
              · intro a u X hB hu hp hr hz hl S
                replace S : St w u ([] ++ X) := S
                have e32 : sl a 32 = .int .i64 ((x0.getD p104.2.toNat ((0, 0, 0, false) : Int × Int × Int × Bool)).1) := hp 4 rfl
                exact .inl ⟨rfl, .bool (((x0.getD p104.2.toNat ((0, 0, 0, false) : Int × Int × Int × Bool)).1) == 0), u, (run_eql (ev_sl e32) (ev_const _ _) rfl), rfl, S⟩
              · intro a u X hB hu hp hr hz hl S
                replace S : St w u ([] ++ X) := S
                have e33 : sl a 33 = .bool (((x0.getD p104.2.toNat ((0, 0, 0, false) : Int × Int × Int × Bool)).1) == 0) := hp 5 rfl
                exact .inl ⟨rfl, .bool (((x0.getD p104.2.toNat ((0, 0, 0, false) : Int × Int × Int × Bool)).1) == 0), u, (run_move rfl (ev_sl e33)), rfl, S⟩
              · intro a u X hB hu hp hr hz hl S
                replace S : St w u ([] ++ X) := S
                have e34 : sl a 34 = .bool (((x0.getD p104.2.toNat ((0, 0, 0, false) : Int × Int × Int × Bool)).1) == 0) := hp 6 rfl
                rcases (Bool.eq_false_or_eq_true (((x0.getD p104.2.toNat ((0, 0, 0, false) : Int × Int × Int × Bool)).1) == 0)).symm with hg | hg
                · exact .inr (.inr (.inr ⟨gr_eg rfl (yt (gr_yield rfl rfl e34)) hg, (gv_f hg).symm, S⟩))
                · exact .inl ⟨gr_eg rfl (yt (gr_yield rfl rfl e34)) hg, .slice A0 x0.length c0, u, (run_move rfl (hF.evB hB rfl rfl)), (gv_t hg).symm, S⟩
              · intro a u X hB hu hp hr hz hl S
                replace S : St w u ([] ++ X) := S
                have e34 : sl a 34 = .bool (((x0.getD p104.2.toNat ((0, 0, 0, false) : Int × Int × Int × Bool)).1) == 0) := hp 6 rfl
                rcases (Bool.eq_false_or_eq_true (((x0.getD p104.2.toNat ((0, 0, 0, false) : Int × Int × Int × Bool)).1) == 0)).symm with hg | hg
                · exact .inr (.inr (.inr ⟨gr_eg rfl (yt (gr_yield rfl rfl e34)) hg, (gv_f hg).symm, S⟩))
                · exact .inl ⟨gr_eg rfl (yt (gr_yield rfl rfl e34)) hg, .int .i64 p104.2, u, (run_move rfl (hF.evB hB rfl rfl)), (gv_t hg).symm, S⟩
              · intro a u X hB hu hp hr hz hl S
                replace S : St w u ([] ++ X) := S
                have e34 : sl a 34 = .bool (((x0.getD p104.2.toNat ((0, 0, 0, false) : Int × Int × Int × Bool)).1) == 0) := hp 6 rfl
                have e35 : sl a 35 = gv (((x0.getD p104.2.toNat ((0, 0, 0, false) : Int × Int × Int × Bool)).1) == 0) (.slice A0 x0.length c0) := hp 7 rfl
                have e36 : sl a 36 = gv (((x0.getD p104.2.toNat ((0, 0, 0, false) : Int × Int × Int × Bool)).1) == 0) (.int .i64 p104.2) := hp 8 rfl
                rcases (Bool.eq_false_or_eq_true (((x0.getD p104.2.toNat ((0, 0, 0, false) : Int × Int × Int × Bool)).1) == 0)).symm with hg | hg
                · exact .inr (.inr (.inr ⟨gr_eg rfl (yt (gr_yield rfl rfl e34)) hg, (gv_f hg).symm, S⟩))
                · exact .inl ⟨gr_eg rfl (yt (gr_yield rfl rfl e34)) hg, .pointer (some ⟨adB A0, adO A0 + p104.2.toNat * 4, none⟩), u, (run_indexAddr (b := adB A0) (off := adO A0) rfl Tryd.underlying39 sz27 (((ev_sl e35).trans (gv_t hg)).trans (congrArg (fun A => Value.slice A x0.length c0) ((S.rc0 h0.rc).rd.ad (ix_pos (hk114 hg))))) ((ev_sl e36).trans (gv_t hg)) (hk114 hg).1 (hk114 hg).2 (k' := adO A0 + p104.2.toNat * 4) rfl), (gv_t hg).symm, S⟩
              · intro a u X hB hu hp hr hz hl S
                replace S : St w u ([] ++ X) := S
                have e34 : sl a 34 = .bool (((x0.getD p104.2.toNat ((0, 0, 0, false) : Int × Int × Int × Bool)).1) == 0) := hp 6 rfl
                have e37 : sl a 37 = gv (((x0.getD p104.2.toNat ((0, 0, 0, false) : Int × Int × Int × Bool)).1) == 0) (.pointer (some ⟨adB A0, adO A0 + p104.2.toNat * 4, none⟩)) := hp 9 rfl
                rcases (Bool.eq_false_or_eq_true (((x0.getD p104.2.toNat ((0, 0, 0, false) : Int × Int × Int × Bool)).1) == 0)).symm with hg | hg
                · exact .inr (.inr (.inr ⟨gr_eg rfl (yt (gr_yield rfl rfl e34)) hg, (gv_f hg).symm, S⟩))
                · exact .inl ⟨gr_eg rfl (yt (gr_yield rfl rfl e34)) hg, .pointer (some ⟨adB A0, adO A0 + p104.2.toNat * 4 + 1, none⟩), u, (run_fieldAddr rfl fl27_1 ((ev_sl e37).trans (gv_t hg)) rfl), (gv_t hg).symm, S⟩
              · intro a u X hB hu hp hr hz hl S
                replace S : St w u ([] ++ X) := S
                have e34 : sl a 34 = .bool (((x0.getD p104.2.toNat ((0, 0, 0, false) : Int × Int × Int × Bool)).1) == 0) := hp 6 rfl
                have e38 : sl a 38 = gv (((x0.getD p104.2.toNat ((0, 0, 0, false) : Int × Int × Int × Bool)).1) == 0) (.pointer (some ⟨adB A0, adO A0 + p104.2.toNat * 4 + 1, none⟩)) := hp 10 rfl
                rcases (Bool.eq_false_or_eq_true (((x0.getD p104.2.toNat ((0, 0, 0, false) : Int × Int × Int × Bool)).1) == 0)).symm with hg | hg
                · exact .inr (.inr (.inr ⟨gr_eg rfl (yt (gr_yield rfl rfl e34)) hg, (gv_f hg).symm, S⟩))
                · exact .inl ⟨gr_eg rfl (yt (gr_yield rfl rfl e34)) hg, .int .i64 ((x0.getD p104.2.toNat ((0, 0, 0, false) : Int × Int × Int × Bool)).2.1), u, (run_load1 rfl one3 ((ev_sl e38).trans (gv_t hg)) (rd_el (l := x0) (S.rc0 h0.rc).rd rfl eCommand_len ((0, 0, 0, false) : Int × Int × Int × Bool) (ix_ltn (hk114 hg) rfl) rfl)), (gv_t hg).symm, S⟩
              · intro a u X hB hu hp hr hz hl S
                replace S : St w u ([] ++ X) := S
                have e34 : sl a 34 = .bool (((x0.getD p104.2.toNat ((0, 0, 0, false) : Int × Int × Int × Bool)).1) == 0) := hp 6 rfl
                rcases (Bool.eq_false_or_eq_true (((x0.getD p104.2.toNat ((0, 0, 0, false) : Int × Int × Int × Bool)).1) == 0)).symm with hg | hg
                · exact .inr (.inr (.inr ⟨gr_eg rfl (yt (gr_yield rfl rfl e34)) hg, (gv_f hg).symm, S⟩))
                · exact .inl ⟨gr_eg rfl (yt (gr_yield rfl rfl e34)) hg, .slice A0 x0.length c0, u, (run_move rfl (hF.evB hB rfl rfl)), (gv_t hg).symm, S⟩
              · intro a u X hB hu hp hr hz hl S
                replace S : St w u ([] ++ X) := S
                have e34 : sl a 34 = .bool (((x0.getD p104.2.toNat ((0, 0, 0, false) : Int × Int × Int × Bool)).1) == 0) := hp 6 rfl
                rcases (Bool.eq_false_or_eq_true (((x0.getD p104.2.toNat ((0, 0, 0, false) : Int × Int × Int × Bool)).1) == 0)).symm with hg | hg
                · exact .inr (.inr (.inr ⟨gr_eg rfl (yt (gr_yield rfl rfl e34)) hg, (gv_f hg).symm, S⟩))
                · exact .inl ⟨gr_eg rfl (yt (gr_yield rfl rfl e34)) hg, .int .i64 x2, u, (run_move rfl (hF.evB hB rfl rfl)), (gv_t hg).symm, S⟩
              · intro a u X hB hu hp hr hz hl S
                replace S : St w u ([] ++ X) := S
                have e34 : sl a 34 = .bool (((x0.getD p104.2.toNat ((0, 0, 0, false) : Int × Int × Int × Bool)).1) == 0) := hp 6 rfl
                have e40 : sl a 40 = gv (((x0.getD p104.2.toNat ((0, 0, 0, false) : Int × Int × Int × Bool)).1) == 0) (.slice A0 x0.length c0) := hp 12 rfl
                have e41 : sl a 41 = gv (((x0.getD p104.2.toNat ((0, 0, 0, false) : Int × Int × Int × Bool)).1) == 0) (.int .i64 x2) := hp 13 rfl
                rcases (Bool.eq_false_or_eq_true (((x0.getD p104.2.toNat ((0, 0, 0, false) : Int × Int × Int × Bool)).1) == 0)).symm with hg | hg
                · exact .inr (.inr (.inr ⟨gr_eg rfl (yt (gr_yield rfl rfl e34)) hg, (gv_f hg).symm, S⟩))
                · exact .inl ⟨gr_eg rfl (yt (gr_yield rfl rfl e34)) hg, .pointer (some ⟨adB A0, adO A0 + x2.toNat * 4, none⟩), u, (run_indexAddr (b := adB A0) (off := adO A0) rfl Tryd.underlying39 sz27 (((ev_sl e40).trans (gv_t hg)).trans (congrArg (fun A => Value.slice A x0.length c0) ((S.rc0 h0.rc).rd.ad (ix_pos (hk115 hg))))) ((ev_sl e41).trans (gv_t hg)) (hk115 hg).1 (hk115 hg).2 (k' := adO A0 + x2.toNat * 4) rfl), (gv_t hg).symm, S⟩
              · intro a u X hB hu hp hr hz hl S
                replace S : St w u ([] ++ X) := S
                have e34 : sl a 34 = .bool (((x0.getD p104.2.toNat ((0, 0, 0, false) : Int × Int × Int × Bool)).1) == 0) := hp 6 rfl
                have e42 : sl a 42 = gv (((x0.getD p104.2.toNat ((0, 0, 0, false) : Int × Int × Int × Bool)).1) == 0) (.pointer (some ⟨adB A0, adO A0 + x2.toNat * 4, none⟩)) := hp 14 rfl
                rcases (Bool.eq_false_or_eq_true (((x0.getD p104.2.toNat ((0, 0, 0, false) : Int × Int × Int × Bool)).1) == 0)).symm with hg | hg
                · exact .inr (.inr (.inr ⟨gr_eg rfl (yt (gr_yield rfl rfl e34)) hg, (gv_f hg).symm, S⟩))
                · exact .inl ⟨gr_eg rfl (yt (gr_yield rfl rfl e34)) hg, .pointer (some ⟨adB A0, adO A0 + x2.toNat * 4 + 1, none⟩), u, (run_fieldAddr rfl fl27_1 ((ev_sl e42).trans (gv_t hg)) rfl), (gv_t hg).symm, S⟩
              · intro a u X hB hu hp hr hz hl S
                replace S : St w u ([] ++ X) := S
                have e34 : sl a 34 = .bool (((x0.getD p104.2.toNat ((0, 0, 0, false) : Int × Int × Int × Bool)).1) == 0) := hp 6 rfl
                have e43 : sl a 43 = gv (((x0.getD p104.2.toNat ((0, 0, 0, false) : Int × Int × Int × Bool)).1) == 0) (.pointer (some ⟨adB A0, adO A0 + x2.toNat * 4 + 1, none⟩)) := hp 15 rfl
                rcases (Bool.eq_false_or_eq_true (((x0.getD p104.2.toNat ((0, 0, 0, false) : Int × Int × Int × Bool)).1) == 0)).symm with hg | hg
                · exact .inr (.inr (.inr ⟨gr_eg rfl (yt (gr_yield rfl rfl e34)) hg, (gv_f hg).symm, S⟩))
                · exact .inl ⟨gr_eg rfl (yt (gr_yield rfl rfl e34)) hg, .int .i64 ((x0.getD x2.toNat ((0, 0, 0, false) : Int × Int × Int × Bool)).2.1), u, (run_load1 rfl one3 ((ev_sl e43).trans (gv_t hg)) (rd_el (l := x0) (S.rc0 h0.rc).rd rfl eCommand_len ((0, 0, 0, false) : Int × Int × Int × Bool) (ix_ltn (hk115 hg) rfl) rfl)), (gv_t hg).symm, S⟩
              · intro a u X hB hu hp hr hz hl S
                replace S : St w u ([] ++ X) := S
                have e34 : sl a 34 = .bool (((x0.getD p104.2.toNat ((0, 0, 0, false) : Int × Int × Int × Bool)).1) == 0) := hp 6 rfl
                have e39 : sl a 39 = gv (((x0.getD p104.2.toNat ((0, 0, 0, false) : Int × Int × Int × Bool)).1) == 0) (.int .i64 ((x0.getD p104.2.toNat ((0, 0, 0, false) : Int × Int × Int × Bool)).2.1)) := hp 11 rfl
                have e44 : sl a 44 = gv (((x0.getD p104.2.toNat ((0, 0, 0, false) : Int × Int × Int × Bool)).1) == 0) (.int .i64 ((x0.getD x2.toNat ((0, 0, 0, false) : Int × Int × Int × Bool)).2.1)) := hp 16 rfl
                rcases (Bool.eq_false_or_eq_true (((x0.getD p104.2.toNat ((0, 0, 0, false) : Int × Int × Int × Bool)).1) == 0)).symm with hg | hg
                · exact .inr (.inr (.inr ⟨gr_eg rfl (yt (gr_yield rfl rfl e34)) hg, (gv_f hg).symm, S⟩))
                · exact .inl ⟨gr_eg rfl (yt (gr_yield rfl rfl e34)) hg, .bool (((x0.getD p104.2.toNat ((0, 0, 0, false) : Int × Int × Int × Bool)).2.1) == ((x0.getD x2.toNat ((0, 0, 0, false) : Int × Int × Int × Bool)).2.1)), u, (run_eql ((ev_sl e39).trans (gv_t hg)) ((ev_sl e44).trans (gv_t hg)) rfl), (gv_t hg).symm, S⟩
              · intro a u X hB hu hp hr hz hl S
                replace S : St w u ([] ++ X) := S
                have e34 : sl a 34 = .bool (((x0.getD p104.2.toNat ((0, 0, 0, false) : Int × Int × Int × Bool)).1) == 0) := hp 6 rfl
                have e45 : sl a 45 = gv (((x0.getD p104.2.toNat ((0, 0, 0, false) : Int × Int × Int × Bool)).1) == 0) (.bool (((x0.getD p104.2.toNat ((0, 0, 0, false) : Int × Int × Int × Bool)).2.1) == ((x0.getD x2.toNat ((0, 0, 0, false) : Int × Int × Int × Bool)).2.1))) := hp 17 rfl
                exact .inl ⟨rfl, .bool ((((x0.getD p104.2.toNat ((0, 0, 0, false) : Int × Int × Int × Bool)).1) == 0) && (((x0.getD p104.2.toNat ((0, 0, 0, false) : Int × Int × Int × Bool)).2.1) == ((x0.getD x2.toNat ((0, 0, 0, false) : Int × Int × Int × Bool)).2.1))), u, (run_pick_and rfl (ev_sl e34) (fun hp => ((ev_sl e45).trans (gv_t hp))) (ev_const _ _)), rfl, S⟩
              · intro a u X hB hu hp hr hz hl S
                replace S : St w u ([] ++ X) := S
                have e46 : sl a 46 = .bool ((((x0.getD p104.2.toNat ((0, 0, 0, false) : Int × Int × Int × Bool)).1) == 0) && (((x0.getD p104.2.toNat ((0, 0, 0, false) : Int × Int × Int × Bool)).2.1) == ((x0.getD x2.toNat ((0, 0, 0, false) : Int × Int × Int × Bool)).2.1))) := hp 18 rfl
                exact .inl ⟨rfl, .bool ((((x0.getD p104.2.toNat ((0, 0, 0, false) : Int × Int × Int × Bool)).1) == 0) && (((x0.getD p104.2.toNat ((0, 0, 0, false) : Int × Int × Int × Bool)).2.1) == ((x0.getD x2.toNat ((0, 0, 0, false) : Int × Int × Int × Bool)).2.1))), u, (run_move rfl (ev_sl e46)), rfl, S⟩
              · intro a u X hB hu hp hr hz hl S
                replace S : St w u ([] ++ X) := S
                have e47 : sl a 47 = .bool ((((x0.getD p104.2.toNat ((0, 0, 0, false) : Int × Int × Int × Bool)).1) == 0) && (((x0.getD p104.2.toNat ((0, 0, 0, false) : Int × Int × Int × Bool)).2.1) == ((x0.getD x2.toNat ((0, 0, 0, false) : Int × Int × Int × Bool)).2.1))) := hp 19 rfl
                rcases (Bool.eq_false_or_eq_true ((((x0.getD p104.2.toNat ((0, 0, 0, false) : Int × Int × Int × Bool)).1) == 0) && (((x0.getD p104.2.toNat ((0, 0, 0, false) : Int × Int × Int × Bool)).2.1) == ((x0.getD x2.toNat ((0, 0, 0, false) : Int × Int × Int × Bool)).2.1)))).symm with hg | hg
                · exact .inr (.inr (.inr ⟨gr_eg rfl (yt (gr_yield rfl rfl e47)) hg, (gv_f hg).symm, S⟩))
                · exact .inl ⟨gr_eg rfl (yt (gr_yield rfl rfl e47)) hg, .slice A0 x0.length c0, u, (run_move rfl (hF.evB hB rfl rfl)), (gv_t hg).symm, S⟩
              · intro a u X hB hu hp hr hz hl S
                replace S : St w u ([] ++ X) := S
                have e47 : sl a 47 = .bool ((((x0.getD p104.2.toNat ((0, 0, 0, false) : Int × Int × Int × Bool)).1) == 0) && (((x0.getD p104.2.toNat ((0, 0, 0, false) : Int × Int × Int × Bool)).2.1) == ((x0.getD x2.toNat ((0, 0, 0, false) : Int × Int × Int × Bool)).2.1))) := hp 19 rfl
                rcases (Bool.eq_false_or_eq_true ((((x0.getD p104.2.toNat ((0, 0, 0, false) : Int × Int × Int × Bool)).1) == 0) && (((x0.getD p104.2.toNat ((0, 0, 0, false) : Int × Int × Int × Bool)).2.1) == ((x0.getD x2.toNat ((0, 0, 0, false) : Int × Int × Int × Bool)).2.1)))).symm with hg | hg
                · exact .inr (.inr (.inr ⟨gr_eg rfl (yt (gr_yield rfl rfl e47)) hg, (gv_f hg).symm, S⟩))
                · exact .inl ⟨gr_eg rfl (yt (gr_yield rfl rfl e47)) hg, .int .i64 p104.2, u, (run_move rfl (hF.evB hB rfl rfl)), (gv_t hg).symm, S⟩
              · intro a u X hB hu hp hr hz hl S
                replace S : St w u ([] ++ X) := S
                have e47 : sl a 47 = .bool ((((x0.getD p104.2.toNat ((0, 0, 0, false) : Int × Int × Int × Bool)).1) == 0) && (((x0.getD p104.2.toNat ((0, 0, 0, false) : Int × Int × Int × Bool)).2.1) == ((x0.getD x2.toNat ((0, 0, 0, false) : Int × Int × Int × Bool)).2.1))) := hp 19 rfl
                have e48 : sl a 48 = gv ((((x0.getD p104.2.toNat ((0, 0, 0, false) : Int × Int × Int × Bool)).1) == 0) && (((x0.getD p104.2.toNat ((0, 0, 0, false) : Int × Int × Int × Bool)).2.1) == ((x0.getD x2.toNat ((0, 0, 0, false) : Int × Int × Int × Bool)).2.1))) (.slice A0 x0.length c0) := hp 20 rfl
                have e49 : sl a 49 = gv ((((x0.getD p104.2.toNat ((0, 0, 0, false) : Int × Int × Int × Bool)).1) == 0) && (((x0.getD p104.2.toNat ((0, 0, 0, false) : Int × Int × Int × Bool)).2.1) == ((x0.getD x2.toNat ((0, 0, 0, false) : Int × Int × Int × Bool)).2.1))) (.int .i64 p104.2) := hp 21 rfl
                rcases (Bool.eq_false_or_eq_true ((((x0.getD p104.2.toNat ((0, 0, 0, false) : Int × Int × Int × Bool)).1) == 0) && (((x0.getD p104.2.toNat ((0, 0, 0, false) : Int × Int × Int × Bool)).2.1) == ((x0.getD x2.toNat ((0, 0, 0, false) : Int × Int × Int × Bool)).2.1)))).symm with hg | hg
                · exact .inr (.inr (.inr ⟨gr_eg rfl (yt (gr_yield rfl rfl e47)) hg, (gv_f hg).symm, S⟩))
                · exact .inl ⟨gr_eg rfl (yt (gr_yield rfl rfl e47)) hg, .pointer (some ⟨adB A0, adO A0 + p104.2.toNat * 4, none⟩), u, (run_indexAddr (b := adB A0) (off := adO A0) rfl Tryd.underlying39 sz27 (((ev_sl e48).trans (gv_t hg)).trans (congrArg (fun A => Value.slice A x0.length c0) ((S.rc0 h0.rc).rd.ad (ix_pos (hk116 hg))))) ((ev_sl e49).trans (gv_t hg)) (hk116 hg).1 (hk116 hg).2 (k' := adO A0 + p104.2.toNat * 4) rfl), (gv_t hg).symm, S⟩
              · intro a u X hB hu hp hr hz hl S
                replace S : St w u ([] ++ X) := S
                have e47 : sl a 47 = .bool ((((x0.getD p104.2.toNat ((0, 0, 0, false) : Int × Int × Int × Bool)).1) == 0) && (((x0.getD p104.2.toNat ((0, 0, 0, false) : Int × Int × Int × Bool)).2.1) == ((x0.getD x2.toNat ((0, 0, 0, false) : Int × Int × Int × Bool)).2.1))) := hp 19 rfl
                have e50 : sl a 50 = gv ((((x0.getD p104.2.toNat ((0, 0, 0, false) : Int × Int × Int × Bool)).1) == 0) && (((x0.getD p104.2.toNat ((0, 0, 0, false) : Int × Int × Int × Bool)).2.1) == ((x0.getD x2.toNat ((0, 0, 0, false) : Int × Int × Int × Bool)).2.1))) (.pointer (some ⟨adB A0, adO A0 + p104.2.toNat * 4, none⟩)) := hp 22 rfl
                rcases (Bool.eq_false_or_eq_true ((((x0.getD p104.2.toNat ((0, 0, 0, false) : Int × Int × Int × Bool)).1) == 0) && (((x0.getD p104.2.toNat ((0, 0, 0, false) : Int × Int × Int × Bool)).2.1) == ((x0.getD x2.toNat ((0, 0, 0, false) : Int × Int × Int × Bool)).2.1)))).symm with hg | hg
                · exact .inr (.inr (.inr ⟨gr_eg rfl (yt (gr_yield rfl rfl e47)) hg, (gv_f hg).symm, S⟩))
                · exact .inl ⟨gr_eg rfl (yt (gr_yield rfl rfl e47)) hg, .pointer (some ⟨adB A0, adO A0 + p104.2.toNat * 4 + 2, none⟩), u, (run_fieldAddr rfl fl27_2 ((ev_sl e50).trans (gv_t hg)) rfl), (gv_t hg).symm, S⟩
              · intro a u X hB hu hp hr hz hl S
                replace S : St w u ([] ++ X) := S
                have e47 : sl a 47 = .bool ((((x0.getD p104.2.toNat ((0, 0, 0, false) : Int × Int × Int × Bool)).1) == 0) && (((x0.getD p104.2.toNat ((0, 0, 0, false) : Int × Int × Int × Bool)).2.1) == ((x0.getD x2.toNat ((0, 0, 0, false) : Int × Int × Int × Bool)).2.1))) := hp 19 rfl
                have e51 : sl a 51 = gv ((((x0.getD p104.2.toNat ((0, 0, 0, false) : Int × Int × Int × Bool)).1) == 0) && (((x0.getD p104.2.toNat ((0, 0, 0, false) : Int × Int × Int × Bool)).2.1) == ((x0.getD x2.toNat ((0, 0, 0, false) : Int × Int × Int × Bool)).2.1))) (.pointer (some ⟨adB A0, adO A0 + p104.2.toNat * 4 + 2, none⟩)) := hp 23 rfl
                rcases (Bool.eq_false_or_eq_true ((((x0.getD p104.2.toNat ((0, 0, 0, false) : Int × Int × Int × Bool)).1) == 0) && (((x0.getD p104.2.toNat ((0, 0, 0, false) : Int × Int × Int × Bool)).2.1) == ((x0.getD x2.toNat ((0, 0, 0, false) : Int × Int × Int × Bool)).2.1)))).symm with hg | hg
                · exact .inr (.inr (.inr ⟨gr_eg rfl (yt (gr_yield rfl rfl e47)) hg, (gv_f hg).symm, S⟩))
                · exact .inl ⟨gr_eg rfl (yt (gr_yield rfl rfl e47)) hg, .int .i64 ((x0.getD p104.2.toNat ((0, 0, 0, false) : Int × Int × Int × Bool)).2.2.1), u, (run_load1 rfl one3 ((ev_sl e51).trans (gv_t hg)) (rd_el (l := x0) (S.rc0 h0.rc).rd rfl eCommand_len ((0, 0, 0, false) : Int × Int × Int × Bool) (ix_ltn (hk116 hg) rfl) rfl)), (gv_t hg).symm, S⟩
              · intro a u X hB hu hp hr hz hl S
                replace S : St w u ([] ++ X) := S
                have e47 : sl a 47 = .bool ((((x0.getD p104.2.toNat ((0, 0, 0, false) : Int × Int × Int × Bool)).1) == 0) && (((x0.getD p104.2.toNat ((0, 0, 0, false) : Int × Int × Int × Bool)).2.1) == ((x0.getD x2.toNat ((0, 0, 0, false) : Int × Int × Int × Bool)).2.1))) := hp 19 rfl
                rcases (Bool.eq_false_or_eq_true ((((x0.getD p104.2.toNat ((0, 0, 0, false) : Int × Int × Int × Bool)).1) == 0) && (((x0.getD p104.2.toNat ((0, 0, 0, false) : Int × Int × Int × Bool)).2.1) == ((x0.getD x2.toNat ((0, 0, 0, false) : Int × Int × Int × Bool)).2.1)))).symm with hg | hg
                · exact .inr (.inr (.inr ⟨gr_eg rfl (yt (gr_yield rfl rfl e47)) hg, (gv_f hg).symm, S⟩))
                · exact .inl ⟨gr_eg rfl (yt (gr_yield rfl rfl e47)) hg, .slice A0 x0.length c0, u, (run_move rfl (hF.evB hB rfl rfl)), (gv_t hg).symm, S⟩
              · intro a u X hB hu hp hr hz hl S
                replace S : St w u ([] ++ X) := S
                have e47 : sl a 47 = .bool ((((x0.getD p104.2.toNat ((0, 0, 0, false) : Int × Int × Int × Bool)).1) == 0) && (((x0.getD p104.2.toNat ((0, 0, 0, false) : Int × Int × Int × Bool)).2.1) == ((x0.getD x2.toNat ((0, 0, 0, false) : Int × Int × Int × Bool)).2.1))) := hp 19 rfl
                rcases (Bool.eq_false_or_eq_true ((((x0.getD p104.2.toNat ((0, 0, 0, false) : Int × Int × Int × Bool)).1) == 0) && (((x0.getD p104.2.toNat ((0, 0, 0, false) : Int × Int × Int × Bool)).2.1) == ((x0.getD x2.toNat ((0, 0, 0, false) : Int × Int × Int × Bool)).2.1)))).symm with hg | hg
                · exact .inr (.inr (.inr ⟨gr_eg rfl (yt (gr_yield rfl rfl e47)) hg, (gv_f hg).symm, S⟩))
                · exact .inl ⟨gr_eg rfl (yt (gr_yield rfl rfl e47)) hg, .int .i64 x2, u, (run_move rfl (hF.evB hB rfl rfl)), (gv_t hg).symm, S⟩
              · intro a u X hB hu hp hr hz hl S
                replace S : St w u ([] ++ X) := S
                have e47 : sl a 47 = .bool ((((x0.getD p104.2.toNat ((0, 0, 0, false) : Int × Int × Int × Bool)).1) == 0) && (((x0.getD p104.2.toNat ((0, 0, 0, false) : Int × Int × Int × Bool)).2.1) == ((x0.getD x2.toNat ((0, 0, 0, false) : Int × Int × Int × Bool)).2.1))) := hp 19 rfl
                have e53 : sl a 53 = gv ((((x0.getD p104.2.toNat ((0, 0, 0, false) : Int × Int × Int × Bool)).1) == 0) && (((x0.getD p104.2.toNat ((0, 0, 0, false) : Int × Int × Int × Bool)).2.1) == ((x0.getD x2.toNat ((0, 0, 0, false) : Int × Int × Int × Bool)).2.1))) (.slice A0 x0.length c0) := hp 25 rfl
                have e54 : sl a 54 = gv ((((x0.getD p104.2.toNat ((0, 0, 0, false) : Int × Int × Int × Bool)).1) == 0) && (((x0.getD p104.2.toNat ((0, 0, 0, false) : Int × Int × Int × Bool)).2.1) == ((x0.getD x2.toNat ((0, 0, 0, false) : Int × Int × Int × Bool)).2.1))) (.int .i64 x2) := hp 26 rfl
                rcases (Bool.eq_false_or_eq_true ((((x0.getD p104.2.toNat ((0, 0, 0, false) : Int × Int × Int × Bool)).1) == 0) && (((x0.getD p104.2.toNat ((0, 0, 0, false) : Int × Int × Int × Bool)).2.1) == ((x0.getD x2.toNat ((0, 0, 0, false) : Int × Int × Int × Bool)).2.1)))).symm with hg | hg
                · exact .inr (.inr (.inr ⟨gr_eg rfl (yt (gr_yield rfl rfl e47)) hg, (gv_f hg).symm, S⟩))
                · exact .inl ⟨gr_eg rfl (yt (gr_yield rfl rfl e47)) hg, .pointer (some ⟨adB A0, adO A0 + x2.toNat * 4, none⟩), u, (run_indexAddr (b := adB A0) (off := adO A0) rfl Tryd.underlying39 sz27 (((ev_sl e53).trans (gv_t hg)).trans (congrArg (fun A => Value.slice A x0.length c0) ((S.rc0 h0.rc).rd.ad (ix_pos (hk117 hg))))) ((ev_sl e54).trans (gv_t hg)) (hk117 hg).1 (hk117 hg).2 (k' := adO A0 + x2.toNat * 4) rfl), (gv_t hg).symm, S⟩
              · intro a u X hB hu hp hr hz hl S
                replace S : St w u ([] ++ X) := S
                have e47 : sl a 47 = .bool ((((x0.getD p104.2.toNat ((0, 0, 0, false) : Int × Int × Int × Bool)).1) == 0) && (((x0.getD p104.2.toNat ((0, 0, 0, false) : Int × Int × Int × Bool)).2.1) == ((x0.getD x2.toNat ((0, 0, 0, false) : Int × Int × Int × Bool)).2.1))) := hp 19 rfl
                have e55 : sl a 55 = gv ((((x0.getD p104.2.toNat ((0, 0, 0, false) : Int × Int × Int × Bool)).1) == 0) && (((x0.getD p104.2.toNat ((0, 0, 0, false) : Int × Int × Int × Bool)).2.1) == ((x0.getD x2.toNat ((0, 0, 0, false) : Int × Int × Int × Bool)).2.1))) (.pointer (some ⟨adB A0, adO A0 + x2.toNat * 4, none⟩)) := hp 27 rfl
                rcases (Bool.eq_false_or_eq_true ((((x0.getD p104.2.toNat ((0, 0, 0, false) : Int × Int × Int × Bool)).1) == 0) && (((x0.getD p104.2.toNat ((0, 0, 0, false) : Int × Int × Int × Bool)).2.1) == ((x0.getD x2.toNat ((0, 0, 0, false) : Int × Int × Int × Bool)).2.1)))).symm with hg | hg
                · exact .inr (.inr (.inr ⟨gr_eg rfl (yt (gr_yield rfl rfl e47)) hg, (gv_f hg).symm, S⟩))
                · exact .inl ⟨gr_eg rfl (yt (gr_yield rfl rfl e47)) hg, .pointer (some ⟨adB A0, adO A0 + x2.toNat * 4 + 2, none⟩), u, (run_fieldAddr rfl fl27_2 ((ev_sl e55).trans (gv_t hg)) rfl), (gv_t hg).symm, S⟩
              · intro a u X hB hu hp hr hz hl S
                replace S : St w u ([] ++ X) := S
                have e47 : sl a 47 = .bool ((((x0.getD p104.2.toNat ((0, 0, 0, false) : Int × Int × Int × Bool)).1) == 0) && (((x0.getD p104.2.toNat ((0, 0, 0, false) : Int × Int × Int × Bool)).2.1) == ((x0.getD x2.toNat ((0, 0, 0, false) : Int × Int × Int × Bool)).2.1))) := hp 19 rfl
                have e56 : sl a 56 = gv ((((x0.getD p104.2.toNat ((0, 0, 0, false) : Int × Int × Int × Bool)).1) == 0) && (((x0.getD p104.2.toNat ((0, 0, 0, false) : Int × Int × Int × Bool)).2.1) == ((x0.getD x2.toNat ((0, 0, 0, false) : Int × Int × Int × Bool)).2.1))) (.pointer (some ⟨adB A0, adO A0 + x2.toNat * 4 + 2, none⟩)) := hp 28 rfl
                rcases (Bool.eq_false_or_eq_true ((((x0.getD p104.2.toNat ((0, 0, 0, false) : Int × Int × Int × Bool)).1) == 0) && (((x0.getD p104.2.toNat ((0, 0, 0, false) : Int × Int × Int × Bool)).2.1) == ((x0.getD x2.toNat ((0, 0, 0, false) : Int × Int × Int × Bool)).2.1)))).symm with hg | hg
                · exact .inr (.inr (.inr ⟨gr_eg rfl (yt (gr_yield rfl rfl e47)) hg, (gv_f hg).symm, S⟩))
                · exact .inl ⟨gr_eg rfl (yt (gr_yield rfl rfl e47)) hg, .int .i64 ((x0.getD x2.toNat ((0, 0, 0, false) : Int × Int × Int × Bool)).2.2.1), u, (run_load1 rfl one3 ((ev_sl e56).trans (gv_t hg)) (rd_el (l := x0) (S.rc0 h0.rc).rd rfl eCommand_len ((0, 0, 0, false) : Int × Int × Int × Bool) (ix_ltn (hk117 hg) rfl) rfl)), (gv_t hg).symm, S⟩
              · intro a u X hB hu hp hr hz hl S
                replace S : St w u ([] ++ X) := S
                have e47 : sl a 47 = .bool ((((x0.getD p104.2.toNat ((0, 0, 0, false) : Int × Int × Int × Bool)).1) == 0) && (((x0.getD p104.2.toNat ((0, 0, 0, false) : Int × Int × Int × Bool)).2.1) == ((x0.getD x2.toNat ((0, 0, 0, false) : Int × Int × Int × Bool)).2.1))) := hp 19 rfl
                have e52 : sl a 52 = gv ((((x0.getD p104.2.toNat ((0, 0, 0, false) : Int × Int × Int × Bool)).1) == 0) && (((x0.getD p104.2.toNat ((0, 0, 0, false) : Int × Int × Int × Bool)).2.1) == ((x0.getD x2.toNat ((0, 0, 0, false) : Int × Int × Int × Bool)).2.1))) (.int .i64 ((x0.getD p104.2.toNat ((0, 0, 0, false) : Int × Int × Int × Bool)).2.2.1)) := hp 24 rfl
                have e57 : sl a 57 = gv ((((x0.getD p104.2.toNat ((0, 0, 0, false) : Int × Int × Int × Bool)).1) == 0) && (((x0.getD p104.2.toNat ((0, 0, 0, false) : Int × Int × Int × Bool)).2.1) == ((x0.getD x2.toNat ((0, 0, 0, false) : Int × Int × Int × Bool)).2.1))) (.int .i64 ((x0.getD x2.toNat ((0, 0, 0, false) : Int × Int × Int × Bool)).2.2.1)) := hp 29 rfl
                rcases (Bool.eq_false_or_eq_true ((((x0.getD p104.2.toNat ((0, 0, 0, false) : Int × Int × Int × Bool)).1) == 0) && (((x0.getD p104.2.toNat ((0, 0, 0, false) : Int × Int × Int × Bool)).2.1) == ((x0.getD x2.toNat ((0, 0, 0, false) : Int × Int × Int × Bool)).2.1)))).symm with hg | hg
                · exact .inr (.inr (.inr ⟨gr_eg rfl (yt (gr_yield rfl rfl e47)) hg, (gv_f hg).symm, S⟩))
                · exact .inl ⟨gr_eg rfl (yt (gr_yield rfl rfl e47)) hg, .bool (((x0.getD p104.2.toNat ((0, 0, 0, false) : Int × Int × Int × Bool)).2.2.1) == ((x0.getD x2.toNat ((0, 0, 0, false) : Int × Int × Int × Bool)).2.2.1)), u, (run_eql ((ev_sl e52).trans (gv_t hg)) ((ev_sl e57).trans (gv_t hg)) rfl), (gv_t hg).symm, S⟩
              · intro a u X hB hu hp hr hz hl S
                replace S : St w u ([] ++ X) := S
                have e47 : sl a 47 = .bool ((((x0.getD p104.2.toNat ((0, 0, 0, false) : Int × Int × Int × Bool)).1) == 0) && (((x0.getD p104.2.toNat ((0, 0, 0, false) : Int × Int × Int × Bool)).2.1) == ((x0.getD x2.toNat ((0, 0, 0, false) : Int × Int × Int × Bool)).2.1))) := hp 19 rfl
                have e58 : sl a 58 = gv ((((x0.getD p104.2.toNat ((0, 0, 0, false) : Int × Int × Int × Bool)).1) == 0) && (((x0.getD p104.2.toNat ((0, 0, 0, false) : Int × Int × Int × Bool)).2.1) == ((x0.getD x2.toNat ((0, 0, 0, false) : Int × Int × Int × Bool)).2.1))) (.bool (((x0.getD p104.2.toNat ((0, 0, 0, false) : Int × Int × Int × Bool)).2.2.1) == ((x0.getD x2.toNat ((0, 0, 0, false) : Int × Int × Int × Bool)).2.2.1))) := hp 30 rfl
                exact .inl ⟨rfl, .bool (((((x0.getD p104.2.toNat ((0, 0, 0, false) : Int × Int × Int × Bool)).1) == 0) && (((x0.getD p104.2.toNat ((0, 0, 0, false) : Int × Int × Int × Bool)).2.1) == ((x0.getD x2.toNat ((0, 0, 0, false) : Int × Int × Int × Bool)).2.1))) && (((x0.getD p104.2.toNat ((0, 0, 0, false) : Int × Int × Int × Bool)).2.2.1) == ((x0.getD x2.toNat ((0, 0, 0, false) : Int × Int × Int × Bool)).2.2.1))), u, (run_pick_and rfl (ev_sl e47) (fun hp => ((ev_sl e58).trans (gv_t hp))) (ev_const _ _)), rfl, S⟩
              · intro a u X hB hu hp hr hz hl S
                replace S : St w u ([] ++ X) := S
                have e59 : sl a 59 = .bool (((((x0.getD p104.2.toNat ((0, 0, 0, false) : Int × Int × Int × Bool)).1) == 0) && (((x0.getD p104.2.toNat ((0, 0, 0, false) : Int × Int × Int × Bool)).2.1) == ((x0.getD x2.toNat ((0, 0, 0, false) : Int × Int × Int × Bool)).2.1))) && (((x0.getD p104.2.toNat ((0, 0, 0, false) : Int × Int × Int × Bool)).2.2.1) == ((x0.getD x2.toNat ((0, 0, 0, false) : Int × Int × Int × Bool)).2.2.1))) := hp 31 rfl
                exact .inl ⟨rfl, .bool (((((x0.getD p104.2.toNat ((0, 0, 0, false) : Int × Int × Int × Bool)).1) == 0) && (((x0.getD p104.2.toNat ((0, 0, 0, false) : Int × Int × Int × Bool)).2.1) == ((x0.getD x2.toNat ((0, 0, 0, false) : Int × Int × Int × Bool)).2.1))) && (((x0.getD p104.2.toNat ((0, 0, 0, false) : Int × Int × Int × Bool)).2.2.1) == ((x0.getD x2.toNat ((0, 0, 0, false) : Int × Int × Int × Bool)).2.2.1))), u, (run_move rfl (ev_sl e59)), rfl, S⟩
              · intro a u X hB hu hp hr hz hl S
                replace S : St w u ([] ++ X) := S
                have e60 : sl a 60 = .bool (((((x0.getD p104.2.toNat ((0, 0, 0, false) : Int × Int × Int × Bool)).1) == 0) && (((x0.getD p104.2.toNat ((0, 0, 0, false) : Int × Int × Int × Bool)).2.1) == ((x0.getD x2.toNat ((0, 0, 0, false) : Int × Int × Int × Bool)).2.1))) && (((x0.getD p104.2.toNat ((0, 0, 0, false) : Int × Int × Int × Bool)).2.2.1) == ((x0.getD x2.toNat ((0, 0, 0, false) : Int × Int × Int × Bool)).2.2.1))) := hp 32 rfl
                rcases (Bool.eq_false_or_eq_true (((((x0.getD p104.2.toNat ((0, 0, 0, false) : Int × Int × Int × Bool)).1) == 0) && (((x0.getD p104.2.toNat ((0, 0, 0, false) : Int × Int × Int × Bool)).2.1) == ((x0.getD x2.toNat ((0, 0, 0, false) : Int × Int × Int × Bool)).2.1))) && (((x0.getD p104.2.toNat ((0, 0, 0, false) : Int × Int × Int × Bool)).2.2.1) == ((x0.getD x2.toNat ((0, 0, 0, false) : Int × Int × Int × Bool)).2.2.1)))).symm with hg | hg
                · exact .inr (.inr (.inr ⟨gr_eg rfl (yt (gr_yield rfl rfl e60)) hg, (gv_f hg).symm, S⟩))
                · exact .inl ⟨gr_eg rfl (yt (gr_yield rfl rfl e60)) hg, .slice A0 x0.length c0, u, (run_move rfl (hF.evB hB rfl rfl)), (gv_t hg).symm, S⟩
              · intro a u X hB hu hp hr hz hl S
                replace S : St w u ([] ++ X) := S
                have e60 : sl a 60 = .bool (((((x0.getD p104.2.toNat ((0, 0, 0, false) : Int × Int × Int × Bool)).1) == 0) && (((x0.getD p104.2.toNat ((0, 0, 0, false) : Int × Int × Int × Bool)).2.1) == ((x0.getD x2.toNat ((0, 0, 0, false) : Int × Int × Int × Bool)).2.1))) && (((x0.getD p104.2.toNat ((0, 0, 0, false) : Int × Int × Int × Bool)).2.2.1) == ((x0.getD x2.toNat ((0, 0, 0, false) : Int × Int × Int × Bool)).2.2.1))) := hp 32 rfl
                rcases (Bool.eq_false_or_eq_true (((((x0.getD p104.2.toNat ((0, 0, 0, false) : Int × Int × Int × Bool)).1) == 0) && (((x0.getD p104.2.toNat ((0, 0, 0, false) : Int × Int × Int × Bool)).2.1) == ((x0.getD x2.toNat ((0, 0, 0, false) : Int × Int × Int × Bool)).2.1))) && (((x0.getD p104.2.toNat ((0, 0, 0, false) : Int × Int × Int × Bool)).2.2.1) == ((x0.getD x2.toNat ((0, 0, 0, false) : Int × Int × Int × Bool)).2.2.1)))).symm with hg | hg
                · exact .inr (.inr (.inr ⟨gr_eg rfl (yt (gr_yield rfl rfl e60)) hg, (gv_f hg).symm, S⟩))
                · exact .inl ⟨gr_eg rfl (yt (gr_yield rfl rfl e60)) hg, .int .i64 p104.2, u, (run_move rfl (hF.evB hB rfl rfl)), (gv_t hg).symm, S⟩
              · intro a u X hB hu hp hr hz hl S
                replace S : St w u ([] ++ X) := S
                have e60 : sl a 60 = .bool (((((x0.getD p104.2.toNat ((0, 0, 0, false) : Int × Int × Int × Bool)).1) == 0) && (((x0.getD p104.2.toNat ((0, 0, 0, false) : Int × Int × Int × Bool)).2.1) == ((x0.getD x2.toNat ((0, 0, 0, false) : Int × Int × Int × Bool)).2.1))) && (((x0.getD p104.2.toNat ((0, 0, 0, false) : Int × Int × Int × Bool)).2.2.1) == ((x0.getD x2.toNat ((0, 0, 0, false) : Int × Int × Int × Bool)).2.2.1))) := hp 32 rfl
                have e61 : sl a 61 = gv (((((x0.getD p104.2.toNat ((0, 0, 0, false) : Int × Int × Int × Bool)).1) == 0) && (((x0.getD p104.2.toNat ((0, 0, 0, false) : Int × Int × Int × Bool)).2.1) == ((x0.getD x2.toNat ((0, 0, 0, false) : Int × Int × Int × Bool)).2.1))) && (((x0.getD p104.2.toNat ((0, 0, 0, false) : Int × Int × Int × Bool)).2.2.1) == ((x0.getD x2.toNat ((0, 0, 0, false) : Int × Int × Int × Bool)).2.2.1))) (.slice A0 x0.length c0) := hp 33 rfl
                have e62 : sl a 62 = gv (((((x0.getD p104.2.toNat ((0, 0, 0, false) : Int × Int × Int × Bool)).1) == 0) && (((x0.getD p104.2.toNat ((0, 0, 0, false) : Int × Int × Int × Bool)).2.1) == ((x0.getD x2.toNat ((0, 0, 0, false) : Int × Int × Int × Bool)).2.1))) && (((x0.getD p104.2.toNat ((0, 0, 0, false) : Int × Int × Int × Bool)).2.2.1) == ((x0.getD x2.toNat ((0, 0, 0, false) : Int × Int × Int × Bool)).2.2.1))) (.int .i64 p104.2) := hp 34 rfl
                rcases (Bool.eq_false_or_eq_true (((((x0.getD p104.2.toNat ((0, 0, 0, false) : Int × Int × Int × Bool)).1) == 0) && (((x0.getD p104.2.toNat ((0, 0, 0, false) : Int × Int × Int × Bool)).2.1) == ((x0.getD x2.toNat ((0, 0, 0, false) : Int × Int × Int × Bool)).2.1))) && (((x0.getD p104.2.toNat ((0, 0, 0, false) : Int × Int × Int × Bool)).2.2.1) == ((x0.getD x2.toNat ((0, 0, 0, false) : Int × Int × Int × Bool)).2.2.1)))).symm with hg | hg
                · exact .inr (.inr (.inr ⟨gr_eg rfl (yt (gr_yield rfl rfl e60)) hg, (gv_f hg).symm, S⟩))
                · exact .inl ⟨gr_eg rfl (yt (gr_yield rfl rfl e60)) hg, .pointer (some ⟨adB A0, adO A0 + p104.2.toNat * 4, none⟩), u, (run_indexAddr (b := adB A0) (off := adO A0) rfl Tryd.underlying39 sz27 (((ev_sl e61).trans (gv_t hg)).trans (congrArg (fun A => Value.slice A x0.length c0) ((S.rc0 h0.rc).rd.ad (ix_pos (hk118 hg))))) ((ev_sl e62).trans (gv_t hg)) (hk118 hg).1 (hk118 hg).2 (k' := adO A0 + p104.2.toNat * 4) rfl), (gv_t hg).symm, S⟩
              · intro a u X hB hu hp hr hz hl S
                replace S : St w u ([] ++ X) := S
                have e60 : sl a 60 = .bool (((((x0.getD p104.2.toNat ((0, 0, 0, false) : Int × Int × Int × Bool)).1) == 0) && (((x0.getD p104.2.toNat ((0, 0, 0, false) : Int × Int × Int × Bool)).2.1) == ((x0.getD x2.toNat ((0, 0, 0, false) : Int × Int × Int × Bool)).2.1))) && (((x0.getD p104.2.toNat ((0, 0, 0, false) : Int × Int × Int × Bool)).2.2.1) == ((x0.getD x2.toNat ((0, 0, 0, false) : Int × Int × Int × Bool)).2.2.1))) := hp 32 rfl
                have e63 : sl a 63 = gv (((((x0.getD p104.2.toNat ((0, 0, 0, false) : Int × Int × Int × Bool)).1) == 0) && (((x0.getD p104.2.toNat ((0, 0, 0, false) : Int × Int × Int × Bool)).2.1) == ((x0.getD x2.toNat ((0, 0, 0, false) : Int × Int × Int × Bool)).2.1))) && (((x0.getD p104.2.toNat ((0, 0, 0, false) : Int × Int × Int × Bool)).2.2.1) == ((x0.getD x2.toNat ((0, 0, 0, false) : Int × Int × Int × Bool)).2.2.1))) (.pointer (some ⟨adB A0, adO A0 + p104.2.toNat * 4, none⟩)) := hp 35 rfl
                rcases (Bool.eq_false_or_eq_true (((((x0.getD p104.2.toNat ((0, 0, 0, false) : Int × Int × Int × Bool)).1) == 0) && (((x0.getD p104.2.toNat ((0, 0, 0, false) : Int × Int × Int × Bool)).2.1) == ((x0.getD x2.toNat ((0, 0, 0, false) : Int × Int × Int × Bool)).2.1))) && (((x0.getD p104.2.toNat ((0, 0, 0, false) : Int × Int × Int × Bool)).2.2.1) == ((x0.getD x2.toNat ((0, 0, 0, false) : Int × Int × Int × Bool)).2.2.1)))).symm with hg | hg
                · exact .inr (.inr (.inr ⟨gr_eg rfl (yt (gr_yield rfl rfl e60)) hg, (gv_f hg).symm, S⟩))
                · exact .inl ⟨gr_eg rfl (yt (gr_yield rfl rfl e60)) hg, .pointer (some ⟨adB A0, adO A0 + p104.2.toNat * 4 + 3, none⟩), u, (run_fieldAddr rfl fl27_3 ((ev_sl e63).trans (gv_t hg)) rfl), (gv_t hg).symm, S⟩
              · intro a u X hB hu hp hr hz hl S
                replace S : St w u ([] ++ X) := S
                have e60 : sl a 60 = .bool (((((x0.getD p104.2.toNat ((0, 0, 0, false) : Int × Int × Int × Bool)).1) == 0) && (((x0.getD p104.2.toNat ((0, 0, 0, false) : Int × Int × Int × Bool)).2.1) == ((x0.getD x2.toNat ((0, 0, 0, false) : Int × Int × Int × Bool)).2.1))) && (((x0.getD p104.2.toNat ((0, 0, 0, false) : Int × Int × Int × Bool)).2.2.1) == ((x0.getD x2.toNat ((0, 0, 0, false) : Int × Int × Int × Bool)).2.2.1))) := hp 32 rfl
                have e64 : sl a 64 = gv (((((x0.getD p104.2.toNat ((0, 0, 0, false) : Int × Int × Int × Bool)).1) == 0) && (((x0.getD p104.2.toNat ((0, 0, 0, false) : Int × Int × Int × Bool)).2.1) == ((x0.getD x2.toNat ((0, 0, 0, false) : Int × Int × Int × Bool)).2.1))) && (((x0.getD p104.2.toNat ((0, 0, 0, false) : Int × Int × Int × Bool)).2.2.1) == ((x0.getD x2.toNat ((0, 0, 0, false) : Int × Int × Int × Bool)).2.2.1))) (.pointer (some ⟨adB A0, adO A0 + p104.2.toNat * 4 + 3, none⟩)) := hp 36 rfl
                rcases (Bool.eq_false_or_eq_true (((((x0.getD p104.2.toNat ((0, 0, 0, false) : Int × Int × Int × Bool)).1) == 0) && (((x0.getD p104.2.toNat ((0, 0, 0, false) : Int × Int × Int × Bool)).2.1) == ((x0.getD x2.toNat ((0, 0, 0, false) : Int × Int × Int × Bool)).2.1))) && (((x0.getD p104.2.toNat ((0, 0, 0, false) : Int × Int × Int × Bool)).2.2.1) == ((x0.getD x2.toNat ((0, 0, 0, false) : Int × Int × Int × Bool)).2.2.1)))).symm with hg | hg
                · exact .inr (.inr (.inr ⟨gr_eg rfl (yt (gr_yield rfl rfl e60)) hg, (gv_f hg).symm, S⟩))
                · exact .inl ⟨gr_eg rfl (yt (gr_yield rfl rfl e60)) hg, .bool ((x0.getD p104.2.toNat ((0, 0, 0, false) : Int × Int × Int × Bool)).2.2.2), u, (run_load1 rfl one4 ((ev_sl e64).trans (gv_t hg)) (rd_el (l := x0) (S.rc0 h0.rc).rd rfl eCommand_len ((0, 0, 0, false) : Int × Int × Int × Bool) (ix_ltn (hk118 hg) rfl) rfl)), (gv_t hg).symm, S⟩
              · intro a u X hB hu hp hr hz hl S
                replace S : St w u ([] ++ X) := S
                have e60 : sl a 60 = .bool (((((x0.getD p104.2.toNat ((0, 0, 0, false) : Int × Int × Int × Bool)).1) == 0) && (((x0.getD p104.2.toNat ((0, 0, 0, false) : Int × Int × Int × Bool)).2.1) == ((x0.getD x2.toNat ((0, 0, 0, false) : Int × Int × Int × Bool)).2.1))) && (((x0.getD p104.2.toNat ((0, 0, 0, false) : Int × Int × Int × Bool)).2.2.1) == ((x0.getD x2.toNat ((0, 0, 0, false) : Int × Int × Int × Bool)).2.2.1))) := hp 32 rfl
                rcases (Bool.eq_false_or_eq_true (((((x0.getD p104.2.toNat ((0, 0, 0, false) : Int × Int × Int × Bool)).1) == 0) && (((x0.getD p104.2.toNat ((0, 0, 0, false) : Int × Int × Int × Bool)).2.1) == ((x0.getD x2.toNat ((0, 0, 0, false) : Int × Int × Int × Bool)).2.1))) && (((x0.getD p104.2.toNat ((0, 0, 0, false) : Int × Int × Int × Bool)).2.2.1) == ((x0.getD x2.toNat ((0, 0, 0, false) : Int × Int × Int × Bool)).2.2.1)))).symm with hg | hg
                · exact .inr (.inr (.inr ⟨gr_eg rfl (yt (gr_yield rfl rfl e60)) hg, (gv_f hg).symm, S⟩))
                · exact .inl ⟨gr_eg rfl (yt (gr_yield rfl rfl e60)) hg, .slice A0 x0.length c0, u, (run_move rfl (hF.evB hB rfl rfl)), (gv_t hg).symm, S⟩
              · intro a u X hB hu hp hr hz hl S
                replace S : St w u ([] ++ X) := S
                have e60 : sl a 60 = .bool (((((x0.getD p104.2.toNat ((0, 0, 0, false) : Int × Int × Int × Bool)).1) == 0) && (((x0.getD p104.2.toNat ((0, 0, 0, false) : Int × Int × Int × Bool)).2.1) == ((x0.getD x2.toNat ((0, 0, 0, false) : Int × Int × Int × Bool)).2.1))) && (((x0.getD p104.2.toNat ((0, 0, 0, false) : Int × Int × Int × Bool)).2.2.1) == ((x0.getD x2.toNat ((0, 0, 0, false) : Int × Int × Int × Bool)).2.2.1))) := hp 32 rfl
                rcases (Bool.eq_false_or_eq_true (((((x0.getD p104.2.toNat ((0, 0, 0, false) : Int × Int × Int × Bool)).1) == 0) && (((x0.getD p104.2.toNat ((0, 0, 0, false) : Int × Int × Int × Bool)).2.1) == ((x0.getD x2.toNat ((0, 0, 0, false) : Int × Int × Int × Bool)).2.1))) && (((x0.getD p104.2.toNat ((0, 0, 0, false) : Int × Int × Int × Bool)).2.2.1) == ((x0.getD x2.toNat ((0, 0, 0, false) : Int × Int × Int × Bool)).2.2.1)))).symm with hg | hg
                · exact .inr (.inr (.inr ⟨gr_eg rfl (yt (gr_yield rfl rfl e60)) hg, (gv_f hg).symm, S⟩))
                · exact .inl ⟨gr_eg rfl (yt (gr_yield rfl rfl e60)) hg, .int .i64 x2, u, (run_move rfl (hF.evB hB rfl rfl)), (gv_t hg).symm, S⟩
              · intro a u X hB hu hp hr hz hl S
                replace S : St w u ([] ++ X) := S
                have e60 : sl a 60 = .bool (((((x0.getD p104.2.toNat ((0, 0, 0, false) : Int × Int × Int × Bool)).1) == 0) && (((x0.getD p104.2.toNat ((0, 0, 0, false) : Int × Int × Int × Bool)).2.1) == ((x0.getD x2.toNat ((0, 0, 0, false) : Int × Int × Int × Bool)).2.1))) && (((x0.getD p104.2.toNat ((0, 0, 0, false) : Int × Int × Int × Bool)).2.2.1) == ((x0.getD x2.toNat ((0, 0, 0, false) : Int × Int × Int × Bool)).2.2.1))) := hp 32 rfl
                have e66 : sl a 66 = gv (((((x0.getD p104.2.toNat ((0, 0, 0, false) : Int × Int × Int × Bool)).1) == 0) && (((x0.getD p104.2.toNat ((0, 0, 0, false) : Int × Int × Int × Bool)).2.1) == ((x0.getD x2.toNat ((0, 0, 0, false) : Int × Int × Int × Bool)).2.1))) && (((x0.getD p104.2.toNat ((0, 0, 0, false) : Int × Int × Int × Bool)).2.2.1) == ((x0.getD x2.toNat ((0, 0, 0, false) : Int × Int × Int × Bool)).2.2.1))) (.slice A0 x0.length c0) := hp 38 rfl
                have e67 : sl a 67 = gv (((((x0.getD p104.2.toNat ((0, 0, 0, false) : Int × Int × Int × Bool)).1) == 0) && (((x0.getD p104.2.toNat ((0, 0, 0, false) : Int × Int × Int × Bool)).2.1) == ((x0.getD x2.toNat ((0, 0, 0, false) : Int × Int × Int × Bool)).2.1))) && (((x0.getD p104.2.toNat ((0, 0, 0, false) : Int × Int × Int × Bool)).2.2.1) == ((x0.getD x2.toNat ((0, 0, 0, false) : Int × Int × Int × Bool)).2.2.1))) (.int .i64 x2) := hp 39 rfl
                rcases (Bool.eq_false_or_eq_true (((((x0.getD p104.2.toNat ((0, 0, 0, false) : Int × Int × Int × Bool)).1) == 0) && (((x0.getD p104.2.toNat ((0, 0, 0, false) : Int × Int × Int × Bool)).2.1) == ((x0.getD x2.toNat ((0, 0, 0, false) : Int × Int × Int × Bool)).2.1))) && (((x0.getD p104.2.toNat ((0, 0, 0, false) : Int × Int × Int × Bool)).2.2.1) == ((x0.getD x2.toNat ((0, 0, 0, false) : Int × Int × Int × Bool)).2.2.1)))).symm with hg | hg
                · exact .inr (.inr (.inr ⟨gr_eg rfl (yt (gr_yield rfl rfl e60)) hg, (gv_f hg).symm, S⟩))
                · exact .inl ⟨gr_eg rfl (yt (gr_yield rfl rfl e60)) hg, .pointer (some ⟨adB A0, adO A0 + x2.toNat * 4, none⟩), u, (run_indexAddr (b := adB A0) (off := adO A0) rfl Tryd.underlying39 sz27 (((ev_sl e66).trans (gv_t hg)).trans (congrArg (fun A => Value.slice A x0.length c0) ((S.rc0 h0.rc).rd.ad (ix_pos (hk119 hg))))) ((ev_sl e67).trans (gv_t hg)) (hk119 hg).1 (hk119 hg).2 (k' := adO A0 + x2.toNat * 4) rfl), (gv_t hg).symm, S⟩
              · intro a u X hB hu hp hr hz hl S
                replace S : St w u ([] ++ X) := S
                have e60 : sl a 60 = .bool (((((x0.getD p104.2.toNat ((0, 0, 0, false) : Int × Int × Int × Bool)).1) == 0) && (((x0.getD p104.2.toNat ((0, 0, 0, false) : Int × Int × Int × Bool)).2.1) == ((x0.getD x2.toNat ((0, 0, 0, false) : Int × Int × Int × Bool)).2.1))) && (((x0.getD p104.2.toNat ((0, 0, 0, false) : Int × Int × Int × Bool)).2.2.1) == ((x0.getD x2.toNat ((0, 0, 0, false) : Int × Int × Int × Bool)).2.2.1))) := hp 32 rfl
                have e68 : sl a 68 = gv (((((x0.getD p104.2.toNat ((0, 0, 0, false) : Int × Int × Int × Bool)).1) == 0) && (((x0.getD p104.2.toNat ((0, 0, 0, false) : Int × Int × Int × Bool)).2.1) == ((x0.getD x2.toNat ((0, 0, 0, false) : Int × Int × Int × Bool)).2.1))) && (((x0.getD p104.2.toNat ((0, 0, 0, false) : Int × Int × Int × Bool)).2.2.1) == ((x0.getD x2.toNat ((0, 0, 0, false) : Int × Int × Int × Bool)).2.2.1))) (.pointer (some ⟨adB A0, adO A0 + x2.toNat * 4, none⟩)) := hp 40 rfl
                rcases (Bool.eq_false_or_eq_true (((((x0.getD p104.2.toNat ((0, 0, 0, false) : Int × Int × Int × Bool)).1) == 0) && (((x0.getD p104.2.toNat ((0, 0, 0, false) : Int × Int × Int × Bool)).2.1) == ((x0.getD x2.toNat ((0, 0, 0, false) : Int × Int × Int × Bool)).2.1))) && (((x0.getD p104.2.toNat ((0, 0, 0, false) : Int × Int × Int × Bool)).2.2.1) == ((x0.getD x2.toNat ((0, 0, 0, false) : Int × Int × Int × Bool)).2.2.1)))).symm with hg | hg
                · exact .inr (.inr (.inr ⟨gr_eg rfl (yt (gr_yield rfl rfl e60)) hg, (gv_f hg).symm, S⟩))
                · exact .inl ⟨gr_eg rfl (yt (gr_yield rfl rfl e60)) hg, .pointer (some ⟨adB A0, adO A0 + x2.toNat * 4 + 3, none⟩), u, (run_fieldAddr rfl fl27_3 ((ev_sl e68).trans (gv_t hg)) rfl), (gv_t hg).symm, S⟩
              · intro a u X hB hu hp hr hz hl S
                replace S : St w u ([] ++ X) := S
                have e60 : sl a 60 = .bool (((((x0.getD p104.2.toNat ((0, 0, 0, false) : Int × Int × Int × Bool)).1) == 0) && (((x0.getD p104.2.toNat ((0, 0, 0, false) : Int × Int × Int × Bool)).2.1) == ((x0.getD x2.toNat ((0, 0, 0, false) : Int × Int × Int × Bool)).2.1))) && (((x0.getD p104.2.toNat ((0, 0, 0, false) : Int × Int × Int × Bool)).2.2.1) == ((x0.getD x2.toNat ((0, 0, 0, false) : Int × Int × Int × Bool)).2.2.1))) := hp 32 rfl
                have e69 : sl a 69 = gv (((((x0.getD p104.2.toNat ((0, 0, 0, false) : Int × Int × Int × Bool)).1) == 0) && (((x0.getD p104.2.toNat ((0, 0, 0, false) : Int × Int × Int × Bool)).2.1) == ((x0.getD x2.toNat ((0, 0, 0, false) : Int × Int × Int × Bool)).2.1))) && (((x0.getD p104.2.toNat ((0, 0, 0, false) : Int × Int × Int × Bool)).2.2.1) == ((x0.getD x2.toNat ((0, 0, 0, false) : Int × Int × Int × Bool)).2.2.1))) (.pointer (some ⟨adB A0, adO A0 + x2.toNat * 4 + 3, none⟩)) := hp 41 rfl
                rcases (Bool.eq_false_or_eq_true (((((x0.getD p104.2.toNat ((0, 0, 0, false) : Int × Int × Int × Bool)).1) == 0) && (((x0.getD p104.2.toNat ((0, 0, 0, false) : Int × Int × Int × Bool)).2.1) == ((x0.getD x2.toNat ((0, 0, 0, false) : Int × Int × Int × Bool)).2.1))) && (((x0.getD p104.2.toNat ((0, 0, 0, false) : Int × Int × Int × Bool)).2.2.1) == ((x0.getD x2.toNat ((0, 0, 0, false) : Int × Int × Int × Bool)).2.2.1)))).symm with hg | hg
                · exact .inr (.inr (.inr ⟨gr_eg rfl (yt (gr_yield rfl rfl e60)) hg, (gv_f hg).symm, S⟩))
                · exact .inl ⟨gr_eg rfl (yt (gr_yield rfl rfl e60)) hg, .bool ((x0.getD x2.toNat ((0, 0, 0, false) : Int × Int × Int × Bool)).2.2.2), u, (run_load1 rfl one4 ((ev_sl e69).trans (gv_t hg)) (rd_el (l := x0) (S.rc0 h0.rc).rd rfl eCommand_len ((0, 0, 0, false) : Int × Int × Int × Bool) (ix_ltn (hk119 hg) rfl) rfl)), (gv_t hg).symm, S⟩
              · intro a u X hB hu hp hr hz hl S
                replace S : St w u ([] ++ X) := S
                have e60 : sl a 60 = .bool (((((x0.getD p104.2.toNat ((0, 0, 0, false) : Int × Int × Int × Bool)).1) == 0) && (((x0.getD p104.2.toNat ((0, 0, 0, false) : Int × Int × Int × Bool)).2.1) == ((x0.getD x2.toNat ((0, 0, 0, false) : Int × Int × Int × Bool)).2.1))) && (((x0.getD p104.2.toNat ((0, 0, 0, false) : Int × Int × Int × Bool)).2.2.1) == ((x0.getD x2.toNat ((0, 0, 0, false) : Int × Int × Int × Bool)).2.2.1))) := hp 32 rfl
                have e65 : sl a 65 = gv (((((x0.getD p104.2.toNat ((0, 0, 0, false) : Int × Int × Int × Bool)).1) == 0) && (((x0.getD p104.2.toNat ((0, 0, 0, false) : Int × Int × Int × Bool)).2.1) == ((x0.getD x2.toNat ((0, 0, 0, false) : Int × Int × Int × Bool)).2.1))) && (((x0.getD p104.2.toNat ((0, 0, 0, false) : Int × Int × Int × Bool)).2.2.1) == ((x0.getD x2.toNat ((0, 0, 0, false) : Int × Int × Int × Bool)).2.2.1))) (.bool ((x0.getD p104.2.toNat ((0, 0, 0, false) : Int × Int × Int × Bool)).2.2.2)) := hp 37 rfl
                have e70 : sl a 70 = gv (((((x0.getD p104.2.toNat ((0, 0, 0, false) : Int × Int × Int × Bool)).1) == 0) && (((x0.getD p104.2.toNat ((0, 0, 0, false) : Int × Int × Int × Bool)).2.1) == ((x0.getD x2.toNat ((0, 0, 0, false) : Int × Int × Int × Bool)).2.1))) && (((x0.getD p104.2.toNat ((0, 0, 0, false) : Int × Int × Int × Bool)).2.2.1) == ((x0.getD x2.toNat ((0, 0, 0, false) : Int × Int × Int × Bool)).2.2.1))) (.bool ((x0.getD x2.toNat ((0, 0, 0, false) : Int × Int × Int × Bool)).2.2.2)) := hp 42 rfl
                rcases (Bool.eq_false_or_eq_true (((((x0.getD p104.2.toNat ((0, 0, 0, false) : Int × Int × Int × Bool)).1) == 0) && (((x0.getD p104.2.toNat ((0, 0, 0, false) : Int × Int × Int × Bool)).2.1) == ((x0.getD x2.toNat ((0, 0, 0, false) : Int × Int × Int × Bool)).2.1))) && (((x0.getD p104.2.toNat ((0, 0, 0, false) : Int × Int × Int × Bool)).2.2.1) == ((x0.getD x2.toNat ((0, 0, 0, false) : Int × Int × Int × Bool)).2.2.1)))).symm with hg | hg
                · exact .inr (.inr (.inr ⟨gr_eg rfl (yt (gr_yield rfl rfl e60)) hg, (gv_f hg).symm, S⟩))
                · exact .inl ⟨gr_eg rfl (yt (gr_yield rfl rfl e60)) hg, .bool (((x0.getD p104.2.toNat ((0, 0, 0, false) : Int × Int × Int × Bool)).2.2.2) == ((x0.getD x2.toNat ((0, 0, 0, false) : Int × Int × Int × Bool)).2.2.2)), u, (run_eqlB ((ev_sl e65).trans (gv_t hg)) ((ev_sl e70).trans (gv_t hg)) Tryd.underlying4 rfl), (gv_t hg).symm, S⟩
              · intro a u X hB hu hp hr hz hl S
                replace S : St w u ([] ++ X) := S
                have e60 : sl a 60 = .bool (((((x0.getD p104.2.toNat ((0, 0, 0, false) : Int × Int × Int × Bool)).1) == 0) && (((x0.getD p104.2.toNat ((0, 0, 0, false) : Int × Int × Int × Bool)).2.1) == ((x0.getD x2.toNat ((0, 0, 0, false) : Int × Int × Int × Bool)).2.1))) && (((x0.getD p104.2.toNat ((0, 0, 0, false) : Int × Int × Int × Bool)).2.2.1) == ((x0.getD x2.toNat ((0, 0, 0, false) : Int × Int × Int × Bool)).2.2.1))) := hp 32 rfl
                have e71 : sl a 71 = gv (((((x0.getD p104.2.toNat ((0, 0, 0, false) : Int × Int × Int × Bool)).1) == 0) && (((x0.getD p104.2.toNat ((0, 0, 0, false) : Int × Int × Int × Bool)).2.1) == ((x0.getD x2.toNat ((0, 0, 0, false) : Int × Int × Int × Bool)).2.1))) && (((x0.getD p104.2.toNat ((0, 0, 0, false) : Int × Int × Int × Bool)).2.2.1) == ((x0.getD x2.toNat ((0, 0, 0, false) : Int × Int × Int × Bool)).2.2.1))) (.bool (((x0.getD p104.2.toNat ((0, 0, 0, false) : Int × Int × Int × Bool)).2.2.2) == ((x0.getD x2.toNat ((0, 0, 0, false) : Int × Int × Int × Bool)).2.2.2))) := hp 43 rfl
                exact .inl ⟨rfl, .bool ((((((x0.getD p104.2.toNat ((0, 0, 0, false) : Int × Int × Int × Bool)).1) == 0) && (((x0.getD p104.2.toNat ((0, 0, 0, false) : Int × Int × Int × Bool)).2.1) == ((x0.getD x2.toNat ((0, 0, 0, false) : Int × Int × Int × Bool)).2.1))) && (((x0.getD p104.2.toNat ((0, 0, 0, false) : Int × Int × Int × Bool)).2.2.1) == ((x0.getD x2.toNat ((0, 0, 0, false) : Int × Int × Int × Bool)).2.2.1))) && (((x0.getD p104.2.toNat ((0, 0, 0, false) : Int × Int × Int × Bool)).2.2.2) == ((x0.getD x2.toNat ((0, 0, 0, false) : Int × Int × Int × Bool)).2.2.2))), u, (run_pick_and rfl (ev_sl e60) (fun hp => ((ev_sl e71).trans (gv_t hp))) (ev_const _ _)), rfl, S⟩
              · intro a u X hB hu hp hr hz hl S
                replace S : St w u ([] ++ X) := S
                have e72 : sl a 72 = .bool ((((((x0.getD p104.2.toNat ((0, 0, 0, false) : Int × Int × Int × Bool)).1) == 0) && (((x0.getD p104.2.toNat ((0, 0, 0, false) : Int × Int × Int × Bool)).2.1) == ((x0.getD x2.toNat ((0, 0, 0, false) : Int × Int × Int × Bool)).2.1))) && (((x0.getD p104.2.toNat ((0, 0, 0, false) : Int × Int × Int × Bool)).2.2.1) == ((x0.getD x2.toNat ((0, 0, 0, false) : Int × Int × Int × Bool)).2.2.1))) && (((x0.getD p104.2.toNat ((0, 0, 0, false) : Int × Int × Int × Bool)).2.2.2) == ((x0.getD x2.toNat ((0, 0, 0, false) : Int × Int × Int × Bool)).2.2.2))) := hp 44 rfl
                exact .inl ⟨rfl, .bool ((((((x0.getD p104.2.toNat ((0, 0, 0, false) : Int × Int × Int × Bool)).1) == 0) && (((x0.getD p104.2.toNat ((0, 0, 0, false) : Int × Int × Int × Bool)).2.1) == ((x0.getD x2.toNat ((0, 0, 0, false) : Int × Int × Int × Bool)).2.1))) && (((x0.getD p104.2.toNat ((0, 0, 0, false) : Int × Int × Int × Bool)).2.2.1) == ((x0.getD x2.toNat ((0, 0, 0, false) : Int × Int × Int × Bool)).2.2.1))) && (((x0.getD p104.2.toNat ((0, 0, 0, false) : Int × Int × Int × Bool)).2.2.2) == ((x0.getD x2.toNat ((0, 0, 0, false) : Int × Int × Int × Bool)).2.2.2))), u, (run_move rfl (ev_sl e72)), rfl, S⟩
              · intro a u X hB hu hp hr hz hl S
                replace S : St w u ([] ++ X) := S
                have e73 : sl a 73 = .bool ((((((x0.getD p104.2.toNat ((0, 0, 0, false) : Int × Int × Int × Bool)).1) == 0) && (((x0.getD p104.2.toNat ((0, 0, 0, false) : Int × Int × Int × Bool)).2.1) == ((x0.getD x2.toNat ((0, 0, 0, false) : Int × Int × Int × Bool)).2.1))) && (((x0.getD p104.2.toNat ((0, 0, 0, false) : Int × Int × Int × Bool)).2.2.1) == ((x0.getD x2.toNat ((0, 0, 0, false) : Int × Int × Int × Bool)).2.2.1))) && (((x0.getD p104.2.toNat ((0, 0, 0, false) : Int × Int × Int × Bool)).2.2.2) == ((x0.getD x2.toNat ((0, 0, 0, false) : Int × Int × Int × Bool)).2.2.2))) := hp 45 rfl
                rcases (Bool.eq_false_or_eq_true ((((((x0.getD p104.2.toNat ((0, 0, 0, false) : Int × Int × Int × Bool)).1) == 0) && (((x0.getD p104.2.toNat ((0, 0, 0, false) : Int × Int × Int × Bool)).2.1) == ((x0.getD x2.toNat ((0, 0, 0, false) : Int × Int × Int × Bool)).2.1))) && (((x0.getD p104.2.toNat ((0, 0, 0, false) : Int × Int × Int × Bool)).2.2.1) == ((x0.getD x2.toNat ((0, 0, 0, false) : Int × Int × Int × Bool)).2.2.1))) && (((x0.getD p104.2.toNat ((0, 0, 0, false) : Int × Int × Int × Bool)).2.2.2) == ((x0.getD x2.toNat ((0, 0, 0, false) : Int × Int × Int × Bool)).2.2.2)))).symm with hg | hg
                · exact .inr (.inr (.inr ⟨gr_eg rfl (yt (gr_yield rfl rfl e73)) hg, (gv_f hg).symm, S⟩))
                · exact .inl ⟨gr_eg rfl (yt (gr_yield rfl rfl e73)) hg, .int .i64 p104.1, u, (run_move rfl (hF.evB hB rfl rfl)), (gv_t hg).symm, S⟩
              · intro a u X hB hu hp hr hz hl S
                replace S : St w u ([] ++ X) := S
                have e73 : sl a 73 = .bool ((((((x0.getD p104.2.toNat ((0, 0, 0, false) : Int × Int × Int × Bool)).1) == 0) && (((x0.getD p104.2.toNat ((0, 0, 0, false) : Int × Int × Int × Bool)).2.1) == ((x0.getD x2.toNat ((0, 0, 0, false) : Int × Int × Int × Bool)).2.1))) && (((x0.getD p104.2.toNat ((0, 0, 0, false) : Int × Int × Int × Bool)).2.2.1) == ((x0.getD x2.toNat ((0, 0, 0, false) : Int × Int × Int × Bool)).2.2.1))) && (((x0.getD p104.2.toNat ((0, 0, 0, false) : Int × Int × Int × Bool)).2.2.2) == ((x0.getD x2.toNat ((0, 0, 0, false) : Int × Int × Int × Bool)).2.2.2))) := hp 45 rfl
                have e74 : sl a 74 = gv ((((((x0.getD p104.2.toNat ((0, 0, 0, false) : Int × Int × Int × Bool)).1) == 0) && (((x0.getD p104.2.toNat ((0, 0, 0, false) : Int × Int × Int × Bool)).2.1) == ((x0.getD x2.toNat ((0, 0, 0, false) : Int × Int × Int × Bool)).2.1))) && (((x0.getD p104.2.toNat ((0, 0, 0, false) : Int × Int × Int × Bool)).2.2.1) == ((x0.getD x2.toNat ((0, 0, 0, false) : Int × Int × Int × Bool)).2.2.1))) && (((x0.getD p104.2.toNat ((0, 0, 0, false) : Int × Int × Int × Bool)).2.2.2) == ((x0.getD x2.toNat ((0, 0, 0, false) : Int × Int × Int × Bool)).2.2.2))) (.int .i64 p104.1) := hp 46 rfl
                rcases (Bool.eq_false_or_eq_true ((((((x0.getD p104.2.toNat ((0, 0, 0, false) : Int × Int × Int × Bool)).1) == 0) && (((x0.getD p104.2.toNat ((0, 0, 0, false) : Int × Int × Int × Bool)).2.1) == ((x0.getD x2.toNat ((0, 0, 0, false) : Int × Int × Int × Bool)).2.1))) && (((x0.getD p104.2.toNat ((0, 0, 0, false) : Int × Int × Int × Bool)).2.2.1) == ((x0.getD x2.toNat ((0, 0, 0, false) : Int × Int × Int × Bool)).2.2.1))) && (((x0.getD p104.2.toNat ((0, 0, 0, false) : Int × Int × Int × Bool)).2.2.2) == ((x0.getD x2.toNat ((0, 0, 0, false) : Int × Int × Int × Bool)).2.2.2)))).symm with hg | hg
                · exact .inr (.inr (.inr ⟨gr_eg rfl (yt (gr_yield rfl rfl e73)) hg, (gv_f hg).symm, S⟩))
                · exact .inl ⟨gr_eg rfl (yt (gr_yield rfl rfl e73)) hg, .bool (ltB p104.1 3), u, (run_lss ((ev_sl e74).trans (gv_t hg)) (ev_const _ _) rfl), (gv_t hg).symm, S⟩
              · intro a u X hB hu hp hr hz hl S
                replace S : St w u ([] ++ X) := S
                have e73 : sl a 73 = .bool ((((((x0.getD p104.2.toNat ((0, 0, 0, false) : Int × Int × Int × Bool)).1) == 0) && (((x0.getD p104.2.toNat ((0, 0, 0, false) : Int × Int × Int × Bool)).2.1) == ((x0.getD x2.toNat ((0, 0, 0, false) : Int × Int × Int × Bool)).2.1))) && (((x0.getD p104.2.toNat ((0, 0, 0, false) : Int × Int × Int × Bool)).2.2.1) == ((x0.getD x2.toNat ((0, 0, 0, false) : Int × Int × Int × Bool)).2.2.1))) && (((x0.getD p104.2.toNat ((0, 0, 0, false) : Int × Int × Int × Bool)).2.2.2) == ((x0.getD x2.toNat ((0, 0, 0, false) : Int × Int × Int × Bool)).2.2.2))) := hp 45 rfl
                have e75 : sl a 75 = gv ((((((x0.getD p104.2.toNat ((0, 0, 0, false) : Int × Int × Int × Bool)).1) == 0) && (((x0.getD p104.2.toNat ((0, 0, 0, false) : Int × Int × Int × Bool)).2.1) == ((x0.getD x2.toNat ((0, 0, 0, false) : Int × Int × Int × Bool)).2.1))) && (((x0.getD p104.2.toNat ((0, 0, 0, false) : Int × Int × Int × Bool)).2.2.1) == ((x0.getD x2.toNat ((0, 0, 0, false) : Int × Int × Int × Bool)).2.2.1))) && (((x0.getD p104.2.toNat ((0, 0, 0, false) : Int × Int × Int × Bool)).2.2.2) == ((x0.getD x2.toNat ((0, 0, 0, false) : Int × Int × Int × Bool)).2.2.2))) (.bool (ltB p104.1 3)) := hp 47 rfl
                exact .inl ⟨rfl, .bool (((((((x0.getD p104.2.toNat ((0, 0, 0, false) : Int × Int × Int × Bool)).1) == 0) && (((x0.getD p104.2.toNat ((0, 0, 0, false) : Int × Int × Int × Bool)).2.1) == ((x0.getD x2.toNat ((0, 0, 0, false) : Int × Int × Int × Bool)).2.1))) && (((x0.getD p104.2.toNat ((0, 0, 0, false) : Int × Int × Int × Bool)).2.2.1) == ((x0.getD x2.toNat ((0, 0, 0, false) : Int × Int × Int × Bool)).2.2.1))) && (((x0.getD p104.2.toNat ((0, 0, 0, false) : Int × Int × Int × Bool)).2.2.2) == ((x0.getD x2.toNat ((0, 0, 0, false) : Int × Int × Int × Bool)).2.2.2))) && (ltB p104.1 3)), u, (run_pick_and rfl (ev_sl e73) (fun hp => ((ev_sl e75).trans (gv_t hp))) (ev_const _ _)), rfl, S⟩
              · intro a u X hB hu hp hr hz hl S
                replace S : St w u ([] ++ X) := S
                have e76 : sl a 76 = .bool (((((((x0.getD p104.2.toNat ((0, 0, 0, false) : Int × Int × Int × Bool)).1) == 0) && (((x0.getD p104.2.toNat ((0, 0, 0, false) : Int × Int × Int × Bool)).2.1) == ((x0.getD x2.toNat ((0, 0, 0, false) : Int × Int × Int × Bool)).2.1))) && (((x0.getD p104.2.toNat ((0, 0, 0, false) : Int × Int × Int × Bool)).2.2.1) == ((x0.getD x2.toNat ((0, 0, 0, false) : Int × Int × Int × Bool)).2.2.1))) && (((x0.getD p104.2.toNat ((0, 0, 0, false) : Int × Int × Int × Bool)).2.2.2) == ((x0.getD x2.toNat ((0, 0, 0, false) : Int × Int × Int × Bool)).2.2.2))) && (ltB p104.1 3)) := hp 48 rfl
                exact .inl ⟨rfl, .bool (((((((x0.getD p104.2.toNat ((0, 0, 0, false) : Int × Int × Int × Bool)).1) == 0) && (((x0.getD p104.2.toNat ((0, 0, 0, false) : Int × Int × Int × Bool)).2.1) == ((x0.getD x2.toNat ((0, 0, 0, false) : Int × Int × Int × Bool)).2.1))) && (((x0.getD p104.2.toNat ((0, 0, 0, false) : Int × Int × Int × Bool)).2.2.1) == ((x0.getD x2.toNat ((0, 0, 0, false) : Int × Int × Int × Bool)).2.2.1))) && (((x0.getD p104.2.toNat ((0, 0, 0, false) : Int × Int × Int × Bool)).2.2.2) == ((x0.getD x2.toNat ((0, 0, 0, false) : Int × Int × Int × Bool)).2.2.2))) && (ltB p104.1 3)), u, (run_assign rfl (ev_sl e76)), rfl, S⟩
            · intro a u hB hp S
              obtain ⟨q0, q1, q2, q3, q4, q5, q6, q7, q8, q9, q10, q11, q12, q13, q14, q15, q16, q17, q18, q19, q20, q21, q22, q23, q24, q25, q26, q27, q28, q29, q30, q31, q32, q33, q34, q35, q36, q37, q38, q39, q40, q41, q42, q43, q44, q45, q46, q47, q48, q49, _⟩ := hp
              have e28 : sl a 28 = .slice A0 x0.length c0 := q0
              have e29 : sl a 29 = .int .i64 p104.2 := q1
              have e30 : sl a 30 = .pointer (some ⟨adB A0, adO A0 + p104.2.toNat * 4, none⟩) := q2
              have e31 : sl a 31 = .pointer (some ⟨adB A0, adO A0 + p104.2.toNat * 4, none⟩) := q3
              have e32 : sl a 32 = .int .i64 ((x0.getD p104.2.toNat ((0, 0, 0, false) : Int × Int × Int × Bool)).1) := q4
              have e33 : sl a 33 = .bool (((x0.getD p104.2.toNat ((0, 0, 0, false) : Int × Int × Int × Bool)).1) == 0) := q5
              have e34 : sl a 34 = .bool (((x0.getD p104.2.toNat ((0, 0, 0, false) : Int × Int × Int × Bool)).1) == 0) := q6
              have e35 : sl a 35 = gv (((x0.getD p104.2.toNat ((0, 0, 0, false) : Int × Int × Int × Bool)).1) == 0) (.slice A0 x0.length c0) := q7
              have e36 : sl a 36 = gv (((x0.getD p104.2.toNat ((0, 0, 0, false) : Int × Int × Int × Bool)).1) == 0) (.int .i64 p104.2) := q8
              have e37 : sl a 37 = gv (((x0.getD p104.2.toNat ((0, 0, 0, false) : Int × Int × Int × Bool)).1) == 0) (.pointer (some ⟨adB A0, adO A0 + p104.2.toNat * 4, none⟩)) := q9
              have e38 : sl a 38 = gv (((x0.getD p104.2.toNat ((0, 0, 0, false) : Int × Int × Int × Bool)).1) == 0) (.pointer (some ⟨adB A0, adO A0 + p104.2.toNat * 4 + 1, none⟩)) := q10
              have e39 : sl a 39 = gv (((x0.getD p104.2.toNat ((0, 0, 0, false) : Int × Int × Int × Bool)).1) == 0) (.int .i64 ((x0.getD p104.2.toNat ((0, 0, 0, false) : Int × Int × Int × Bool)).2.1)) := q11
              have e40 : sl a 40 = gv (((x0.getD p104.2.toNat ((0, 0, 0, false) : Int × Int × Int × Bool)).1) == 0) (.slice A0 x0.length c0) := q12
              have e41 : sl a 41 = gv (((x0.getD p104.2.toNat ((0, 0, 0, false) : Int × Int × Int × Bool)).1) == 0) (.int .i64 x2) := q13
              have e42 : sl a 42 = gv (((x0.getD p104.2.toNat ((0, 0, 0, false) : Int × Int × Int × Bool)).1) == 0) (.pointer (some ⟨adB A0, adO A0 + x2.toNat * 4, none⟩)) := q14
              have e43 : sl a 43 = gv (((x0.getD p104.2.toNat ((0, 0, 0, false) : Int × Int × Int × Bool)).1) == 0) (.pointer (some ⟨adB A0, adO A0 + x2.toNat * 4 + 1, none⟩)) := q15
              have e44 : sl a 44 = gv (((x0.getD p104.2.toNat ((0, 0, 0, false) : Int × Int × Int × Bool)).1) == 0) (.int .i64 ((x0.getD x2.toNat ((0, 0, 0, false) : Int × Int × Int × Bool)).2.1)) := q16
              have e45 : sl a 45 = gv (((x0.getD p104.2.toNat ((0, 0, 0, false) : Int × Int × Int × Bool)).1) == 0) (.bool (((x0.getD p104.2.toNat ((0, 0, 0, false) : Int × Int × Int × Bool)).2.1) == ((x0.getD x2.toNat ((0, 0, 0, false) : Int × Int × Int × Bool)).2.1))) := q17
              have e46 : sl a 46 = .bool ((((x0.getD p104.2.toNat ((0, 0, 0, false) : Int × Int × Int × Bool)).1) == 0) && (((x0.getD p104.2.toNat ((0, 0, 0, false) : Int × Int × Int × Bool)).2.1) == ((x0.getD x2.toNat ((0, 0, 0, false) : Int × Int × Int × Bool)).2.1))) := q18
              have e47 : sl a 47 = .bool ((((x0.getD p104.2.toNat ((0, 0, 0, false) : Int × Int × Int × Bool)).1) == 0) && (((x0.getD p104.2.toNat ((0, 0, 0, false) : Int × Int × Int × Bool)).2.1) == ((x0.getD x2.toNat ((0, 0, 0, false) : Int × Int × Int × Bool)).2.1))) := q19
              have e48 : sl a 48 = gv ((((x0.getD p104.2.toNat ((0, 0, 0, false) : Int × Int × Int × Bool)).1) == 0) && (((x0.getD p104.2.toNat ((0, 0, 0, false) : Int × Int × Int × Bool)).2.1) == ((x0.getD x2.toNat ((0, 0, 0, false) : Int × Int × Int × Bool)).2.1))) (.slice A0 x0.length c0) := q20
              have e49 : sl a 49 = gv ((((x0.getD p104.2.toNat ((0, 0, 0, false) : Int × Int × Int × Bool)).1) == 0) && (((x0.getD p104.2.toNat ((0, 0, 0, false) : Int × Int × Int × Bool)).2.1) == ((x0.getD x2.toNat ((0, 0, 0, false) : Int × Int × Int × Bool)).2.1))) (.int .i64 p104.2) := q21
              have e50 : sl a 50 = gv ((((x0.getD p104.2.toNat ((0, 0, 0, false) : Int × Int × Int × Bool)).1) == 0) && (((x0.getD p104.2.toNat ((0, 0, 0, false) : Int × Int × Int × Bool)).2.1) == ((x0.getD x2.toNat ((0, 0, 0, false) : Int × Int × Int × Bool)).2.1))) (.pointer (some ⟨adB A0, adO A0 + p104.2.toNat * 4, none⟩)) := q22
              have e51 : sl a 51 = gv ((((x0.getD p104.2.toNat ((0, 0, 0, false) : Int × Int × Int × Bool)).1) == 0) && (((x0.getD p104.2.toNat ((0, 0, 0, false) : Int × Int × Int × Bool)).2.1) == ((x0.getD x2.toNat ((0, 0, 0, false) : Int × Int × Int × Bool)).2.1))) (.pointer (some ⟨adB A0, adO A0 + p104.2.toNat * 4 + 2, none⟩)) := q23
              have e52 : sl a 52 = gv ((((x0.getD p104.2.toNat ((0, 0, 0, false) : Int × Int × Int × Bool)).1) == 0) && (((x0.getD p104.2.toNat ((0, 0, 0, false) : Int × Int × Int × Bool)).2.1) == ((x0.getD x2.toNat ((0, 0, 0, false) : Int × Int × Int × Bool)).2.1))) (.int .i64 ((x0.getD p104.2.toNat ((0, 0, 0, false) : Int × Int × Int × Bool)).2.2.1)) := q24
              have e53 : sl a 53 = gv ((((x0.getD p104.2.toNat ((0, 0, 0, false) : Int × Int × Int × Bool)).1) == 0) && (((x0.getD p104.2.toNat ((0, 0, 0, false) : Int × Int × Int × Bool)).2.1) == ((x0.getD x2.toNat ((0, 0, 0, false) : Int × Int × Int × Bool)).2.1))) (.slice A0 x0.length c0) := q25
              have e54 : sl a 54 = gv ((((x0.getD p104.2.toNat ((0, 0, 0, false) : Int × Int × Int × Bool)).1) == 0) && (((x0.getD p104.2.toNat ((0, 0, 0, false) : Int × Int × Int × Bool)).2.1) == ((x0.getD x2.toNat ((0, 0, 0, false) : Int × Int × Int × Bool)).2.1))) (.int .i64 x2) := q26
              have e55 : sl a 55 = gv ((((x0.getD p104.2.toNat ((0, 0, 0, false) : Int × Int × Int × Bool)).1) == 0) && (((x0.getD p104.2.toNat ((0, 0, 0, false) : Int × Int × Int × Bool)).2.1) == ((x0.getD x2.toNat ((0, 0, 0, false) : Int × Int × Int × Bool)).2.1))) (.pointer (some ⟨adB A0, adO A0 + x2.toNat * 4, none⟩)) := q27
              have e56 : sl a 56 = gv ((((x0.getD p104.2.toNat ((0, 0, 0, false) : Int × Int × Int × Bool)).1) == 0) && (((x0.getD p104.2.toNat ((0, 0, 0, false) : Int × Int × Int × Bool)).2.1) == ((x0.getD x2.toNat ((0, 0, 0, false) : Int × Int × Int × Bool)).2.1))) (.pointer (some ⟨adB A0, adO A0 + x2.toNat * 4 + 2, none⟩)) := q28
              have e57 : sl a 57 = gv ((((x0.getD p104.2.toNat ((0, 0, 0, false) : Int × Int × Int × Bool)).1) == 0) && (((x0.getD p104.2.toNat ((0, 0, 0, false) : Int × Int × Int × Bool)).2.1) == ((x0.getD x2.toNat ((0, 0, 0, false) : Int × Int × Int × Bool)).2.1))) (.int .i64 ((x0.getD x2.toNat ((0, 0, 0, false) : Int × Int × Int × Bool)).2.2.1)) := q29
              have e58 : sl a 58 = gv ((((x0.getD p104.2.toNat ((0, 0, 0, false) : Int × Int × Int × Bool)).1) == 0) && (((x0.getD p104.2.toNat ((0, 0, 0, false) : Int × Int × Int × Bool)).2.1) == ((x0.getD x2.toNat ((0, 0, 0, false) : Int × Int × Int × Bool)).2.1))) (.bool (((x0.getD p104.2.toNat ((0, 0, 0, false) : Int × Int × Int × Bool)).2.2.1) == ((x0.getD x2.toNat ((0, 0, 0, false) : Int × Int × Int × Bool)).2.2.1))) := q30
              have e59 : sl a 59 = .bool (((((x0.getD p104.2.toNat ((0, 0, 0, false) : Int × Int × Int × Bool)).1) == 0) && (((x0.getD p104.2.toNat ((0, 0, 0, false) : Int × Int × Int × Bool)).2.1) == ((x0.getD x2.toNat ((0, 0, 0, false) : Int × Int × Int × Bool)).2.1))) && (((x0.getD p104.2.toNat ((0, 0, 0, false) : Int × Int × Int × Bool)).2.2.1) == ((x0.getD x2.toNat ((0, 0, 0, false) : Int × Int × Int × Bool)).2.2.1))) := q31
              have e60 : sl a 60 = .bool (((((x0.getD p104.2.toNat ((0, 0, 0, false) : Int × Int × Int × Bool)).1) == 0) && (((x0.getD p104.2.toNat ((0, 0, 0, false) : Int × Int × Int × Bool)).2.1) == ((x0.getD x2.toNat ((0, 0, 0, false) : Int × Int × Int × Bool)).2.1))) && (((x0.getD p104.2.toNat ((0, 0, 0, false) : Int × Int × Int × Bool)).2.2.1) == ((x0.getD x2.toNat ((0, 0, 0, false) : Int × Int × Int × Bool)).2.2.1))) := q32
              have e61 : sl a 61 = gv (((((x0.getD p104.2.toNat ((0, 0, 0, false) : Int × Int × Int × Bool)).1) == 0) && (((x0.getD p104.2.toNat ((0, 0, 0, false) : Int × Int × Int × Bool)).2.1) == ((x0.getD x2.toNat ((0, 0, 0, false) : Int × Int × Int × Bool)).2.1))) && (((x0.getD p104.2.toNat ((0, 0, 0, false) : Int × Int × Int × Bool)).2.2.1) == ((x0.getD x2.toNat ((0, 0, 0, false) : Int × Int × Int × Bool)).2.2.1))) (.slice A0 x0.length c0) := q33
              have e62 : sl a 62 = gv (((((x0.getD p104.2.toNat ((0, 0, 0, false) : Int × Int × Int × Bool)).1) == 0) && (((x0.getD p104.2.toNat ((0, 0, 0, false) : Int × Int × Int × Bool)).2.1) == ((x0.getD x2.toNat ((0, 0, 0, false) : Int × Int × Int × Bool)).2.1))) && (((x0.getD p104.2.toNat ((0, 0, 0, false) : Int × Int × Int × Bool)).2.2.1) == ((x0.getD x2.toNat ((0, 0, 0, false) : Int × Int × Int × Bool)).2.2.1))) (.int .i64 p104.2) := q34
              have e63 : sl a 63 = gv (((((x0.getD p104.2.toNat ((0, 0, 0, false) : Int × Int × Int × Bool)).1) == 0) && (((x0.getD p104.2.toNat ((0, 0, 0, false) : Int × Int × Int × Bool)).2.1) == ((x0.getD x2.toNat ((0, 0, 0, false) : Int × Int × Int × Bool)).2.1))) && (((x0.getD p104.2.toNat ((0, 0, 0, false) : Int × Int × Int × Bool)).2.2.1) == ((x0.getD x2.toNat ((0, 0, 0, false) : Int × Int × Int × Bool)).2.2.1))) (.pointer (some ⟨adB A0, adO A0 + p104.2.toNat * 4, none⟩)) := q35
              have e64 : sl a 64 = gv (((((x0.getD p104.2.toNat ((0, 0, 0, false) : Int × Int × Int × Bool)).1) == 0) && (((x0.getD p104.2.toNat ((0, 0, 0, false) : Int × Int × Int × Bool)).2.1) == ((x0.getD x2.toNat ((0, 0, 0, false) : Int × Int × Int × Bool)).2.1))) && (((x0.getD p104.2.toNat ((0, 0, 0, false) : Int × Int × Int × Bool)).2.2.1) == ((x0.getD x2.toNat ((0, 0, 0, false) : Int × Int × Int × Bool)).2.2.1))) (.pointer (some ⟨adB A0, adO A0 + p104.2.toNat * 4 + 3, none⟩)) := q36
              have e65 : sl a 65 = gv (((((x0.getD p104.2.toNat ((0, 0, 0, false) : Int × Int × Int × Bool)).1) == 0) && (((x0.getD p104.2.toNat ((0, 0, 0, false) : Int × Int × Int × Bool)).2.1) == ((x0.getD x2.toNat ((0, 0, 0, false) : Int × Int × Int × Bool)).2.1))) && (((x0.getD p104.2.toNat ((0, 0, 0, false) : Int × Int × Int × Bool)).2.2.1) == ((x0.getD x2.toNat ((0, 0, 0, false) : Int × Int × Int × Bool)).2.2.1))) (.bool ((x0.getD p104.2.toNat ((0, 0, 0, false) : Int × Int × Int × Bool)).2.2.2)) := q37
              have e66 : sl a 66 = gv (((((x0.getD p104.2.toNat ((0, 0, 0, false) : Int × Int × Int × Bool)).1) == 0) && (((x0.getD p104.2.toNat ((0, 0, 0, false) : Int × Int × Int × Bool)).2.1) == ((x0.getD x2.toNat ((0, 0, 0, false) : Int × Int × Int × Bool)).2.1))) && (((x0.getD p104.2.toNat ((0, 0, 0, false) : Int × Int × Int × Bool)).2.2.1) == ((x0.getD x2.toNat ((0, 0, 0, false) : Int × Int × Int × Bool)).2.2.1))) (.slice A0 x0.length c0) := q38
              have e67 : sl a 67 = gv (((((x0.getD p104.2.toNat ((0, 0, 0, false) : Int × Int × Int × Bool)).1) == 0) && (((x0.getD p104.2.toNat ((0, 0, 0, false) : Int × Int × Int × Bool)).2.1) == ((x0.getD x2.toNat ((0, 0, 0, false) : Int × Int × Int × Bool)).2.1))) && (((x0.getD p104.2.toNat ((0, 0, 0, false) : Int × Int × Int × Bool)).2.2.1) == ((x0.getD x2.toNat ((0, 0, 0, false) : Int × Int × Int × Bool)).2.2.1))) (.int .i64 x2) := q39
              have e68 : sl a 68 = gv (((((x0.getD p104.2.toNat ((0, 0, 0, false) : Int × Int × Int × Bool)).1) == 0) && (((x0.getD p104.2.toNat ((0, 0, 0, false) : Int × Int × Int × Bool)).2.1) == ((x0.getD x2.toNat ((0, 0, 0, false) : Int × Int × Int × Bool)).2.1))) && (((x0.getD p104.2.toNat ((0, 0, 0, false) : Int × Int × Int × Bool)).2.2.1) == ((x0.getD x2.toNat ((0, 0, 0, false) : Int × Int × Int × Bool)).2.2.1))) (.pointer (some ⟨adB A0, adO A0 + x2.toNat * 4, none⟩)) := q40
              have e69 : sl a 69 = gv (((((x0.getD p104.2.toNat ((0, 0, 0, false) : Int × Int × Int × Bool)).1) == 0) && (((x0.getD p104.2.toNat ((0, 0, 0, false) : Int × Int × Int × Bool)).2.1) == ((x0.getD x2.toNat ((0, 0, 0, false) : Int × Int × Int × Bool)).2.1))) && (((x0.getD p104.2.toNat ((0, 0, 0, false) : Int × Int × Int × Bool)).2.2.1) == ((x0.getD x2.toNat ((0, 0, 0, false) : Int × Int × Int × Bool)).2.2.1))) (.pointer (some ⟨adB A0, adO A0 + x2.toNat * 4 + 3, none⟩)) := q41
              have e70 : sl a 70 = gv (((((x0.getD p104.2.toNat ((0, 0, 0, false) : Int × Int × Int × Bool)).1) == 0) && (((x0.getD p104.2.toNat ((0, 0, 0, false) : Int × Int × Int × Bool)).2.1) == ((x0.getD x2.toNat ((0, 0, 0, false) : Int × Int × Int × Bool)).2.1))) && (((x0.getD p104.2.toNat ((0, 0, 0, false) : Int × Int × Int × Bool)).2.2.1) == ((x0.getD x2.toNat ((0, 0, 0, false) : Int × Int × Int × Bool)).2.2.1))) (.bool ((x0.getD x2.toNat ((0, 0, 0, false) : Int × Int × Int × Bool)).2.2.2)) := q42
              have e71 : sl a 71 = gv (((((x0.getD p104.2.toNat ((0, 0, 0, false) : Int × Int × Int × Bool)).1) == 0) && (((x0.getD p104.2.toNat ((0, 0, 0, false) : Int × Int × Int × Bool)).2.1) == ((x0.getD x2.toNat ((0, 0, 0, false) : Int × Int × Int × Bool)).2.1))) && (((x0.getD p104.2.toNat ((0, 0, 0, false) : Int × Int × Int × Bool)).2.2.1) == ((x0.getD x2.toNat ((0, 0, 0, false) : Int × Int × Int × Bool)).2.2.1))) (.bool (((x0.getD p104.2.toNat ((0, 0, 0, false) : Int × Int × Int × Bool)).2.2.2) == ((x0.getD x2.toNat ((0, 0, 0, false) : Int × Int × Int × Bool)).2.2.2))) := q43
              have e72 : sl a 72 = .bool ((((((x0.getD p104.2.toNat ((0, 0, 0, false) : Int × Int × Int × Bool)).1) == 0) && (((x0.getD p104.2.toNat ((0, 0, 0, false) : Int × Int × Int × Bool)).2.1) == ((x0.getD x2.toNat ((0, 0, 0, false) : Int × Int × Int × Bool)).2.1))) && (((x0.getD p104.2.toNat ((0, 0, 0, false) : Int × Int × Int × Bool)).2.2.1) == ((x0.getD x2.toNat ((0, 0, 0, false) : Int × Int × Int × Bool)).2.2.1))) && (((x0.getD p104.2.toNat ((0, 0, 0, false) : Int × Int × Int × Bool)).2.2.2) == ((x0.getD x2.toNat ((0, 0, 0, false) : Int × Int × Int × Bool)).2.2.2))) := q44
              have e73 : sl a 73 = .bool ((((((x0.getD p104.2.toNat ((0, 0, 0, false) : Int × Int × Int × Bool)).1) == 0) && (((x0.getD p104.2.toNat ((0, 0, 0, false) : Int × Int × Int × Bool)).2.1) == ((x0.getD x2.toNat ((0, 0, 0, false) : Int × Int × Int × Bool)).2.1))) && (((x0.getD p104.2.toNat ((0, 0, 0, false) : Int × Int × Int × Bool)).2.2.1) == ((x0.getD x2.toNat ((0, 0, 0, false) : Int × Int × Int × Bool)).2.2.1))) && (((x0.getD p104.2.toNat ((0, 0, 0, false) : Int × Int × Int × Bool)).2.2.2) == ((x0.getD x2.toNat ((0, 0, 0, false) : Int × Int × Int × Bool)).2.2.2))) := q45
              have e74 : sl a 74 = gv ((((((x0.getD p104.2.toNat ((0, 0, 0, false) : Int × Int × Int × Bool)).1) == 0) && (((x0.getD p104.2.toNat ((0, 0, 0, false) : Int × Int × Int × Bool)).2.1) == ((x0.getD x2.toNat ((0, 0, 0, false) : Int × Int × Int × Bool)).2.1))) && (((x0.getD p104.2.toNat ((0, 0, 0, false) : Int × Int × Int × Bool)).2.2.1) == ((x0.getD x2.toNat ((0, 0, 0, false) : Int × Int × Int × Bool)).2.2.1))) && (((x0.getD p104.2.toNat ((0, 0, 0, false) : Int × Int × Int × Bool)).2.2.2) == ((x0.getD x2.toNat ((0, 0, 0, false) : Int × Int × Int × Bool)).2.2.2))) (.int .i64 p104.1) := q46
              have e75 : sl a 75 = gv ((((((x0.getD p104.2.toNat ((0, 0, 0, false) : Int × Int × Int × Bool)).1) == 0) && (((x0.getD p104.2.toNat ((0, 0, 0, false) : Int × Int × Int × Bool)).2.1) == ((x0.getD x2.toNat ((0, 0, 0, false) : Int × Int × Int × Bool)).2.1))) && (((x0.getD p104.2.toNat ((0, 0, 0, false) : Int × Int × Int × Bool)).2.2.1) == ((x0.getD x2.toNat ((0, 0, 0, false) : Int × Int × Int × Bool)).2.2.1))) && (((x0.getD p104.2.toNat ((0, 0, 0, false) : Int × Int × Int × Bool)).2.2.2) == ((x0.getD x2.toNat ((0, 0, 0, false) : Int × Int × Int × Bool)).2.2.2))) (.bool (ltB p104.1 3)) := q47
              have e76 : sl a 76 = .bool (((((((x0.getD p104.2.toNat ((0, 0, 0, false) : Int × Int × Int × Bool)).1) == 0) && (((x0.getD p104.2.toNat ((0, 0, 0, false) : Int × Int × Int × Bool)).2.1) == ((x0.getD x2.toNat ((0, 0, 0, false) : Int × Int × Int × Bool)).2.1))) && (((x0.getD p104.2.toNat ((0, 0, 0, false) : Int × Int × Int × Bool)).2.2.1) == ((x0.getD x2.toNat ((0, 0, 0, false) : Int × Int × Int × Bool)).2.2.1))) && (((x0.getD p104.2.toNat ((0, 0, 0, false) : Int × Int × Int × Bool)).2.2.2) == ((x0.getD x2.toNat ((0, 0, 0, false) : Int × Int × Int × Bool)).2.2.2))) && (ltB p104.1 3)) := q48
              have e6 : sl a 6 = .bool (((((((x0.getD p104.2.toNat ((0, 0, 0, false) : Int × Int × Int × Bool)).1) == 0) && (((x0.getD p104.2.toNat ((0, 0, 0, false) : Int × Int × Int × Bool)).2.1) == ((x0.getD x2.toNat ((0, 0, 0, false) : Int × Int × Int × Bool)).2.1))) && (((x0.getD p104.2.toNat ((0, 0, 0, false) : Int × Int × Int × Bool)).2.2.1) == ((x0.getD x2.toNat ((0, 0, 0, false) : Int × Int × Int × Bool)).2.2.1))) && (((x0.getD p104.2.toNat ((0, 0, 0, false) : Int × Int × Int × Bool)).2.2.2) == ((x0.getD x2.toNat ((0, 0, 0, false) : Int × Int × Int × Bool)).2.2.2))) && (ltB p104.1 3)) := q49
              replace S : St w u [] := S
              clear q0 q1 q2 q3 q4 q5 q6 q7 q8 q9 q10 q11 q12 q13 q14 q15 q16 q17 q18 q19 q20 q21 q22 q23 q24 q25 q26 q27 q28 q29 q30 q31 q32 q33 q34 q35 q36 q37 q38 q39 q40 q41 q42 q43 q44 q45 q46 q47 q48 q49
              have hF := hF.region hB [(28, .slice A0 x0.length c0), (29, .int .i64 p104.2), (30, .pointer (some ⟨adB A0, adO A0 + p104.2.toNat * 4, none⟩)), (31, .pointer (some ⟨adB A0, adO A0 + p104.2.toNat * 4, none⟩)), (32, .int .i64 ((x0.getD p104.2.toNat ((0, 0, 0, false) : Int × Int × Int × Bool)).1)), (33, .bool (((x0.getD p104.2.toNat ((0, 0, 0, false) : Int × Int × Int × Bool)).1) == 0)), (34, .bool (((x0.getD p104.2.toNat ((0, 0, 0, false) : Int × Int × Int × Bool)).1) == 0)), (35, gv (((x0.getD p104.2.toNat ((0, 0, 0, false) : Int × Int × Int × Bool)).1) == 0) (.slice A0 x0.length c0)), (36, gv (((x0.getD p104.2.toNat ((0, 0, 0, false) : Int × Int × Int × Bool)).1) == 0) (.int .i64 p104.2)), (37, gv (((x0.getD p104.2.toNat ((0, 0, 0, false) : Int × Int × Int × Bool)).1) == 0) (.pointer (some ⟨adB A0, adO A0 + p104.2.toNat * 4, none⟩))), (38, gv (((x0.getD p104.2.toNat ((0, 0, 0, false) : Int × Int × Int × Bool)).1) == 0) (.pointer (some ⟨adB A0, adO A0 + p104.2.toNat * 4 + 1, none⟩))), (39, gv (((x0.getD p104.2.toNat ((0, 0, 0, false) : Int × Int × Int × Bool)).1) == 0) (.int .i64 ((x0.getD p104.2.toNat ((0, 0, 0, false) : Int × Int × Int × Bool)).2.1))), (40, gv (((x0.getD p104.2.toNat ((0, 0, 0, false) : Int × Int × Int × Bool)).1) == 0) (.slice A0 x0.length c0)), (41, gv (((x0.getD p104.2.toNat ((0, 0, 0, false) : Int × Int × Int × Bool)).1) == 0) (.int .i64 x2)), (42, gv (((x0.getD p104.2.toNat ((0, 0, 0, false) : Int × Int × Int × Bool)).1) == 0) (.pointer (some ⟨adB A0, adO A0 + x2.toNat * 4, none⟩))), (43, gv (((x0.getD p104.2.toNat ((0, 0, 0, false) : Int × Int × Int × Bool)).1) == 0) (.pointer (some ⟨adB A0, adO A0 + x2.toNat * 4 + 1, none⟩))), (44, gv (((x0.getD p104.2.toNat ((0, 0, 0, false) : Int × Int × Int × Bool)).1) == 0) (.int .i64 ((x0.getD x2.toNat ((0, 0, 0, false) : Int × Int × Int × Bool)).2.1))), (45, gv (((x0.getD p104.2.toNat ((0, 0, 0, false) : Int × Int × Int × Bool)).1) == 0) (.bool (((x0.getD p104.2.toNat ((0, 0, 0, false) : Int × Int × Int × Bool)).2.1) == ((x0.getD x2.toNat ((0, 0, 0, false) : Int × Int × Int × Bool)).2.1)))), (46, .bool ((((x0.getD p104.2.toNat ((0, 0, 0, false) : Int × Int × Int × Bool)).1) == 0) && (((x0.getD p104.2.toNat ((0, 0, 0, false) : Int × Int × Int × Bool)).2.1) == ((x0.getD x2.toNat ((0, 0, 0, false) : Int × Int × Int × Bool)).2.1)))), (47, .bool ((((x0.getD p104.2.toNat ((0, 0, 0, false) : Int × Int × Int × Bool)).1) == 0) && (((x0.getD p104.2.toNat ((0, 0, 0, false) : Int × Int × Int × Bool)).2.1) == ((x0.getD x2.toNat ((0, 0, 0, false) : Int × Int × Int × Bool)).2.1)))), (48, gv ((((x0.getD p104.2.toNat ((0, 0, 0, false) : Int × Int × Int × Bool)).1) == 0) && (((x0.getD p104.2.toNat ((0, 0, 0, false) : Int × Int × Int × Bool)).2.1) == ((x0.getD x2.toNat ((0, 0, 0, false) : Int × Int × Int × Bool)).2.1))) (.slice A0 x0.length c0)), (49, gv ((((x0.getD p104.2.toNat ((0, 0, 0, false) : Int × Int × Int × Bool)).1) == 0) && (((x0.getD p104.2.toNat ((0, 0, 0, false) : Int × Int × Int × Bool)).2.1) == ((x0.getD x2.toNat ((0, 0, 0, false) : Int × Int × Int × Bool)).2.1))) (.int .i64 p104.2)), (50, gv ((((x0.getD p104.2.toNat ((0, 0, 0, false) : Int × Int × Int × Bool)).1) == 0) && (((x0.getD p104.2.toNat ((0, 0, 0, false) : Int × Int × Int × Bool)).2.1) == ((x0.getD x2.toNat ((0, 0, 0, false) : Int × Int × Int × Bool)).2.1))) (.pointer (some ⟨adB A0, adO A0 + p104.2.toNat * 4, none⟩))), (51, gv ((((x0.getD p104.2.toNat ((0, 0, 0, false) : Int × Int × Int × Bool)).1) == 0) && (((x0.getD p104.2.toNat ((0, 0, 0, false) : Int × Int × Int × Bool)).2.1) == ((x0.getD x2.toNat ((0, 0, 0, false) : Int × Int × Int × Bool)).2.1))) (.pointer (some ⟨adB A0, adO A0 + p104.2.toNat * 4 + 2, none⟩))), (52, gv ((((x0.getD p104.2.toNat ((0, 0, 0, false) : Int × Int × Int × Bool)).1) == 0) && (((x0.getD p104.2.toNat ((0, 0, 0, false) : Int × Int × Int × Bool)).2.1) == ((x0.getD x2.toNat ((0, 0, 0, false) : Int × Int × Int × Bool)).2.1))) (.int .i64 ((x0.getD p104.2.toNat ((0, 0, 0, false) : Int × Int × Int × Bool)).2.2.1))), (53, gv ((((x0.getD p104.2.toNat ((0, 0, 0, false) : Int × Int × Int × Bool)).1) == 0) && (((x0.getD p104.2.toNat ((0, 0, 0, false) : Int × Int × Int × Bool)).2.1) == ((x0.getD x2.toNat ((0, 0, 0, false) : Int × Int × Int × Bool)).2.1))) (.slice A0 x0.length c0)), (54, gv ((((x0.getD p104.2.toNat ((0, 0, 0, false) : Int × Int × Int × Bool)).1) == 0) && (((x0.getD p104.2.toNat ((0, 0, 0, false) : Int × Int × Int × Bool)).2.1) == ((x0.getD x2.toNat ((0, 0, 0, false) : Int × Int × Int × Bool)).2.1))) (.int .i64 x2)), (55, gv ((((x0.getD p104.2.toNat ((0, 0, 0, false) : Int × Int × Int × Bool)).1) == 0) && (((x0.getD p104.2.toNat ((0, 0, 0, false) : Int × Int × Int × Bool)).2.1) == ((x0.getD x2.toNat ((0, 0, 0, false) : Int × Int × Int × Bool)).2.1))) (.pointer (some ⟨adB A0, adO A0 + x2.toNat * 4, none⟩))), (56, gv ((((x0.getD p104.2.toNat ((0, 0, 0, false) : Int × Int × Int × Bool)).1) == 0) && (((x0.getD p104.2.toNat ((0, 0, 0, false) : Int × Int × Int × Bool)).2.1) == ((x0.getD x2.toNat ((0, 0, 0, false) : Int × Int × Int × Bool)).2.1))) (.pointer (some ⟨adB A0, adO A0 + x2.toNat * 4 + 2, none⟩))), (57, gv ((((x0.getD p104.2.toNat ((0, 0, 0, false) : Int × Int × Int × Bool)).1) == 0) && (((x0.getD p104.2.toNat ((0, 0, 0, false) : Int × Int × Int × Bool)).2.1) == ((x0.getD x2.toNat ((0, 0, 0, false) : Int × Int × Int × Bool)).2.1))) (.int .i64 ((x0.getD x2.toNat ((0, 0, 0, false) : Int × Int × Int × Bool)).2.2.1))), (58, gv ((((x0.getD p104.2.toNat ((0, 0, 0, false) : Int × Int × Int × Bool)).1) == 0) && (((x0.getD p104.2.toNat ((0, 0, 0, false) : Int × Int × Int × Bool)).2.1) == ((x0.getD x2.toNat ((0, 0, 0, false) : Int × Int × Int × Bool)).2.1))) (.bool (((x0.getD p104.2.toNat ((0, 0, 0, false) : Int × Int × Int × Bool)).2.2.1) == ((x0.getD x2.toNat ((0, 0, 0, false) : Int × Int × Int × Bool)).2.2.1)))), (59, .bool (((((x0.getD p104.2.toNat ((0, 0, 0, false) : Int × Int × Int × Bool)).1) == 0) && (((x0.getD p104.2.toNat ((0, 0, 0, false) : Int × Int × Int × Bool)).2.1) == ((x0.getD x2.toNat ((0, 0, 0, false) : Int × Int × Int × Bool)).2.1))) && (((x0.getD p104.2.toNat ((0, 0, 0, false) : Int × Int × Int × Bool)).2.2.1) == ((x0.getD x2.toNat ((0, 0, 0, false) : Int × Int × Int × Bool)).2.2.1)))), (60, .bool (((((x0.getD p104.2.toNat ((0, 0, 0, false) : Int × Int × Int × Bool)).1) == 0) && (((x0.getD p104.2.toNat ((0, 0, 0, false) : Int × Int × Int × Bool)).2.1) == ((x0.getD x2.toNat ((0, 0, 0, false) : Int × Int × Int × Bool)).2.1))) && (((x0.getD p104.2.toNat ((0, 0, 0, false) : Int × Int × Int × Bool)).2.2.1) == ((x0.getD x2.toNat ((0, 0, 0, false) : Int × Int × Int × Bool)).2.2.1)))), (61, gv (((((x0.getD p104.2.toNat ((0, 0, 0, false) : Int × Int × Int × Bool)).1) == 0) && (((x0.getD p104.2.toNat ((0, 0, 0, false) : Int × Int × Int × Bool)).2.1) == ((x0.getD x2.toNat ((0, 0, 0, false) : Int × Int × Int × Bool)).2.1))) && (((x0.getD p104.2.toNat ((0, 0, 0, false) : Int × Int × Int × Bool)).2.2.1) == ((x0.getD x2.toNat ((0, 0, 0, false) : Int × Int × Int × Bool)).2.2.1))) (.slice A0 x0.length c0)), (62, gv (((((x0.getD p104.2.toNat ((0, 0, 0, false) : Int × Int × Int × Bool)).1) == 0) && (((x0.getD p104.2.toNat ((0, 0, 0, false) : Int × Int × Int × Bool)).2.1) == ((x0.getD x2.toNat ((0, 0, 0, false) : Int × Int × Int × Bool)).2.1))) && (((x0.getD p104.2.toNat ((0, 0, 0, false) : Int × Int × Int × Bool)).2.2.1) == ((x0.getD x2.toNat ((0, 0, 0, false) : Int × Int × Int × Bool)).2.2.1))) (.int .i64 p104.2)), (63, gv (((((x0.getD p104.2.toNat ((0, 0, 0, false) : Int × Int × Int × Bool)).1) == 0) && (((x0.getD p104.2.toNat ((0, 0, 0, false) : Int × Int × Int × Bool)).2.1) == ((x0.getD x2.toNat ((0, 0, 0, false) : Int × Int × Int × Bool)).2.1))) && (((x0.getD p104.2.toNat ((0, 0, 0, false) : Int × Int × Int × Bool)).2.2.1) == ((x0.getD x2.toNat ((0, 0, 0, false) : Int × Int × Int × Bool)).2.2.1))) (.pointer (some ⟨adB A0, adO A0 + p104.2.toNat * 4, none⟩))), (64, gv (((((x0.getD p104.2.toNat ((0, 0, 0, false) : Int × Int × Int × Bool)).1) == 0) && (((x0.getD p104.2.toNat ((0, 0, 0, false) : Int × Int × Int × Bool)).2.1) == ((x0.getD x2.toNat ((0, 0, 0, false) : Int × Int × Int × Bool)).2.1))) && (((x0.getD p104.2.toNat ((0, 0, 0, false) : Int × Int × Int × Bool)).2.2.1) == ((x0.getD x2.toNat ((0, 0, 0, false) : Int × Int × Int × Bool)).2.2.1))) (.pointer (some ⟨adB A0, adO A0 + p104.2.toNat * 4 + 3, none⟩))), (65, gv (((((x0.getD p104.2.toNat ((0, 0, 0, false) : Int × Int × Int × Bool)).1) == 0) && (((x0.getD p104.2.toNat ((0, 0, 0, false) : Int × Int × Int × Bool)).2.1) == ((x0.getD x2.toNat ((0, 0, 0, false) : Int × Int × Int × Bool)).2.1))) && (((x0.getD p104.2.toNat ((0, 0, 0, false) : Int × Int × Int × Bool)).2.2.1) == ((x0.getD x2.toNat ((0, 0, 0, false) : Int × Int × Int × Bool)).2.2.1))) (.bool ((x0.getD p104.2.toNat ((0, 0, 0, false) : Int × Int × Int × Bool)).2.2.2))), (66, gv (((((x0.getD p104.2.toNat ((0, 0, 0, false) : Int × Int × Int × Bool)).1) == 0) && (((x0.getD p104.2.toNat ((0, 0, 0, false) : Int × Int × Int × Bool)).2.1) == ((x0.getD x2.toNat ((0, 0, 0, false) : Int × Int × Int × Bool)).2.1))) && (((x0.getD p104.2.toNat ((0, 0, 0, false) : Int × Int × Int × Bool)).2.2.1) == ((x0.getD x2.toNat ((0, 0, 0, false) : Int × Int × Int × Bool)).2.2.1))) (.slice A0 x0.length c0)), (67, gv (((((x0.getD p104.2.toNat ((0, 0, 0, false) : Int × Int × Int × Bool)).1) == 0) && (((x0.getD p104.2.toNat ((0, 0, 0, false) : Int × Int × Int × Bool)).2.1) == ((x0.getD x2.toNat ((0, 0, 0, false) : Int × Int × Int × Bool)).2.1))) && (((x0.getD p104.2.toNat ((0, 0, 0, false) : Int × Int × Int × Bool)).2.2.1) == ((x0.getD x2.toNat ((0, 0, 0, false) : Int × Int × Int × Bool)).2.2.1))) (.int .i64 x2)), (68, gv (((((x0.getD p104.2.toNat ((0, 0, 0, false) : Int × Int × Int × Bool)).1) == 0) && (((x0.getD p104.2.toNat ((0, 0, 0, false) : Int × Int × Int × Bool)).2.1) == ((x0.getD x2.toNat ((0, 0, 0, false) : Int × Int × Int × Bool)).2.1))) && (((x0.getD p104.2.toNat ((0, 0, 0, false) : Int × Int × Int × Bool)).2.2.1) == ((x0.getD x2.toNat ((0, 0, 0, false) : Int × Int × Int × Bool)).2.2.1))) (.pointer (some ⟨adB A0, adO A0 + x2.toNat * 4, none⟩))), (69, gv (((((x0.getD p104.2.toNat ((0, 0, 0, false) : Int × Int × Int × Bool)).1) == 0) && (((x0.getD p104.2.toNat ((0, 0, 0, false) : Int × Int × Int × Bool)).2.1) == ((x0.getD x2.toNat ((0, 0, 0, false) : Int × Int × Int × Bool)).2.1))) && (((x0.getD p104.2.toNat ((0, 0, 0, false) : Int × Int × Int × Bool)).2.2.1) == ((x0.getD x2.toNat ((0, 0, 0, false) : Int × Int × Int × Bool)).2.2.1))) (.pointer (some ⟨adB A0, adO A0 + x2.toNat * 4 + 3, none⟩))), (70, gv (((((x0.getD p104.2.toNat ((0, 0, 0, false) : Int × Int × Int × Bool)).1) == 0) && (((x0.getD p104.2.toNat ((0, 0, 0, false) : Int × Int × Int × Bool)).2.1) == ((x0.getD x2.toNat ((0, 0, 0, false) : Int × Int × Int × Bool)).2.1))) && (((x0.getD p104.2.toNat ((0, 0, 0, false) : Int × Int × Int × Bool)).2.2.1) == ((x0.getD x2.toNat ((0, 0, 0, false) : Int × Int × Int × Bool)).2.2.1))) (.bool ((x0.getD x2.toNat ((0, 0, 0, false) : Int × Int × Int × Bool)).2.2.2))), (71, gv (((((x0.getD p104.2.toNat ((0, 0, 0, false) : Int × Int × Int × Bool)).1) == 0) && (((x0.getD p104.2.toNat ((0, 0, 0, false) : Int × Int × Int × Bool)).2.1) == ((x0.getD x2.toNat ((0, 0, 0, false) : Int × Int × Int × Bool)).2.1))) && (((x0.getD p104.2.toNat ((0, 0, 0, false) : Int × Int × Int × Bool)).2.2.1) == ((x0.getD x2.toNat ((0, 0, 0, false) : Int × Int × Int × Bool)).2.2.1))) (.bool (((x0.getD p104.2.toNat ((0, 0, 0, false) : Int × Int × Int × Bool)).2.2.2) == ((x0.getD x2.toNat ((0, 0, 0, false) : Int × Int × Int × Bool)).2.2.2)))), (72, .bool ((((((x0.getD p104.2.toNat ((0, 0, 0, false) : Int × Int × Int × Bool)).1) == 0) && (((x0.getD p104.2.toNat ((0, 0, 0, false) : Int × Int × Int × Bool)).2.1) == ((x0.getD x2.toNat ((0, 0, 0, false) : Int × Int × Int × Bool)).2.1))) && (((x0.getD p104.2.toNat ((0, 0, 0, false) : Int × Int × Int × Bool)).2.2.1) == ((x0.getD x2.toNat ((0, 0, 0, false) : Int × Int × Int × Bool)).2.2.1))) && (((x0.getD p104.2.toNat ((0, 0, 0, false) : Int × Int × Int × Bool)).2.2.2) == ((x0.getD x2.toNat ((0, 0, 0, false) : Int × Int × Int × Bool)).2.2.2)))), (73, .bool ((((((x0.getD p104.2.toNat ((0, 0, 0, false) : Int × Int × Int × Bool)).1) == 0) && (((x0.getD p104.2.toNat ((0, 0, 0, false) : Int × Int × Int × Bool)).2.1) == ((x0.getD x2.toNat ((0, 0, 0, false) : Int × Int × Int × Bool)).2.1))) && (((x0.getD p104.2.toNat ((0, 0, 0, false) : Int × Int × Int × Bool)).2.2.1) == ((x0.getD x2.toNat ((0, 0, 0, false) : Int × Int × Int × Bool)).2.2.1))) && (((x0.getD p104.2.toNat ((0, 0, 0, false) : Int × Int × Int × Bool)).2.2.2) == ((x0.getD x2.toNat ((0, 0, 0, false) : Int × Int × Int × Bool)).2.2.2)))), (74, gv ((((((x0.getD p104.2.toNat ((0, 0, 0, false) : Int × Int × Int × Bool)).1) == 0) && (((x0.getD p104.2.toNat ((0, 0, 0, false) : Int × Int × Int × Bool)).2.1) == ((x0.getD x2.toNat ((0, 0, 0, false) : Int × Int × Int × Bool)).2.1))) && (((x0.getD p104.2.toNat ((0, 0, 0, false) : Int × Int × Int × Bool)).2.2.1) == ((x0.getD x2.toNat ((0, 0, 0, false) : Int × Int × Int × Bool)).2.2.1))) && (((x0.getD p104.2.toNat ((0, 0, 0, false) : Int × Int × Int × Bool)).2.2.2) == ((x0.getD x2.toNat ((0, 0, 0, false) : Int × Int × Int × Bool)).2.2.2))) (.int .i64 p104.1)), (75, gv ((((((x0.getD p104.2.toNat ((0, 0, 0, false) : Int × Int × Int × Bool)).1) == 0) && (((x0.getD p104.2.toNat ((0, 0, 0, false) : Int × Int × Int × Bool)).2.1) == ((x0.getD x2.toNat ((0, 0, 0, false) : Int × Int × Int × Bool)).2.1))) && (((x0.getD p104.2.toNat ((0, 0, 0, false) : Int × Int × Int × Bool)).2.2.1) == ((x0.getD x2.toNat ((0, 0, 0, false) : Int × Int × Int × Bool)).2.2.1))) && (((x0.getD p104.2.toNat ((0, 0, 0, false) : Int × Int × Int × Bool)).2.2.2) == ((x0.getD x2.toNat ((0, 0, 0, false) : Int × Int × Int × Bool)).2.2.2))) (.bool (ltB p104.1 3))), (76, .bool (((((((x0.getD p104.2.toNat ((0, 0, 0, false) : Int × Int × Int × Bool)).1) == 0) && (((x0.getD p104.2.toNat ((0, 0, 0, false) : Int × Int × Int × Bool)).2.1) == ((x0.getD x2.toNat ((0, 0, 0, false) : Int × Int × Int × Bool)).2.1))) && (((x0.getD p104.2.toNat ((0, 0, 0, false) : Int × Int × Int × Bool)).2.2.1) == ((x0.getD x2.toNat ((0, 0, 0, false) : Int × Int × Int × Bool)).2.2.1))) && (((x0.getD p104.2.toNat ((0, 0, 0, false) : Int × Int × Int × Bool)).2.2.2) == ((x0.getD x2.toNat ((0, 0, 0, false) : Int × Int × Int × Bool)).2.2.2))) && (ltB p104.1 3))), (6, .bool (((((((x0.getD p104.2.toNat ((0, 0, 0, false) : Int × Int × Int × Bool)).1) == 0) && (((x0.getD p104.2.toNat ((0, 0, 0, false) : Int × Int × Int × Bool)).2.1) == ((x0.getD x2.toNat ((0, 0, 0, false) : Int × Int × Int × Bool)).2.1))) && (((x0.getD p104.2.toNat ((0, 0, 0, false) : Int × Int × Int × Bool)).2.2.1) == ((x0.getD x2.toNat ((0, 0, 0, false) : Int × Int × Int × Bool)).2.2.1))) && (((x0.getD p104.2.toNat ((0, 0, 0, false) : Int × Int × Int × Bool)).2.2.2) == ((x0.getD x2.toNat ((0, 0, 0, false) : Int × Int × Int × Bool)).2.2.2))) && (ltB p104.1 3)))] (allSl_mem ⟨e28, e29, e30, e31, e32, e33, e34, e35, e36, e37, e38, e39, e40, e41, e42, e43, e44, e45, e46, e47, e48, e49, e50, e51, e52, e53, e54, e55, e56, e57, e58, e59, e60, e61, e62, e63, e64, e65, e66, e67, e68, e69, e70, e71, e72, e73, e74, e75, e76, e6, trivial⟩) rfl
              clear hB e28 e29 e30 e31 e32 e33 e34 e35 e36 e37 e38 e39 e40 e41 e42 e43 e44 e45 e46 e47 e48 e49 e50 e51 e52 e53 e54 e55 e56 e57 e58 e59 e60 e61 e62 e63 e64 e65 e66 e67 e68 e69 e70 e71 e72 e73 e74 e75 e76 e6
              refine wp_ret ?_
              repeat with_reducible (first | refine then_ret ?_ | refine in_ret ?_ | refine in_nrm ?_)
              refine ret1_gw (.inl rfl) hF rfl (res_tmp (hF.ev rfl)) ?_
              obtain rfl := Option.some.inj hM108
              obtain rfl := Option.some.inj hM103
              obtain rfl := Option.some.inj hM
              exact ⟨rfl, S.sel [] rfl rfl⟩
          · replace hM108 := bif_t hc112 hM108
            refine cond_t hF rfl hc112 ?_
            refine wp_seq ?_
            refine wp_region_lit ?_
            refine op_val (v := .int .i64 p104.1) rfl rfl hF rfl (run_move rfl (hF.ev rfl)) ?_; clear hF; intro a hF
            refine op_val (v := .int .i64 (w64 (p104.1 + 1))) rfl rfl hF rfl (run_add (z := w64 (p104.1 + 1)) (hF.ev rfl) rfl rfl rfl) ?_; clear hF; intro a hF
            refine op_val (v := .int .i64 (w64 (p104.1 + 1))) rfl rfl hF rfl (run_assign rfl (hF.ev rfl)) ?_; clear hF; intro a hF
            refine wpList_nil ?_
            refine wp_exit ?_
            repeat with_reducible (first | refine then_exit ?_ | refine in_hit ?_ | refine in_miss rfl ?_)
            obtain rfl := Option.some.inj hM108
            exact ⟨w64 (p104.1 + 1), rfl, hF.keep _ ⟨rfl, rfl, rfl, rfl, rfl, rfl, trivial⟩, S.sel [] rfl rfl⟩
      · rintro a u ⟨p106, rfl, hF, S⟩
        replace hM103 := elim_l hM103
        refine wp_region_lit ?_
        refine op_val (v := .int .i64 p104.2) rfl rfl hF rfl (run_move rfl (hF.ev rfl)) ?_; clear hF; intro a hF
        refine op_val (v := .int .i64 (w64 (p104.2 - 1))) rfl rfl hF rfl (run_sub (z := w64 (p104.2 - 1)) (hF.ev rfl) rfl rfl rfl) ?_; clear hF; intro a hF
        refine op_val (v := .int .i64 (w64 (p104.2 - 1))) rfl rfl hF rfl (run_assign rfl (hF.ev rfl)) ?_; clear hF; intro a hF
        refine wpList_nil ?_
        exact ⟨f1, Nat.lt_succ_self _, (p106, w64 (p104.2 - 1)), hM103, hF.keep _ ⟨rfl, rfl, rfl, rfl, rfl, rfl, trivial⟩, S.sel [] rfl rfl⟩
  · rintro a u ⟨p101, rfl, hF, S⟩
    replace hM := elim_l hM
    refine wp_seq ?_
    refine wp_region_lit ?_
    refine op_val (v := .bool false) rfl rfl hF rfl (run_assign rfl rfl) ?_; clear hF; intro a hF
    refine wpList_nil ?_
    refine wp_ret ?_
    repeat with_reducible (first | refine then_ret ?_ | refine in_ret ?_ | refine in_nrm ?_)
    refine ret1_gw (.inl rfl) hF rfl (res_tmp (hF.ev rfl)) ?_
    obtain rfl := Option.some.inj hM
    exact ⟨rfl, S.sel [] rfl rfl⟩

set_option maxHeartbeats 4000000 in
theorem c_laws_FnPanelRun {x0 : List Int} {A0 : Option Addr} {n0 c0 : Nat} {w : World} {r : Bool} (h0 : Rt w 1 eU A0 n0 c0 x0) (hM : m_laws_FnPanelRun x0 = some r) :
    Calls Tryd.prog 4 #[.slice A0 n0 c0] w (fun e w' => e = .returned (.bool r) ∧ St w w' []) := by
  obtain rfl := h0.len
  unfold m_laws_FnPanelRun at hM
  refine calls_gw Tryd.func4 Tryd.ntmps4 rfl [(0, .slice A0 x0.length c0)] ⟨rfl, trivial⟩ rfl ?_
  intro a hF
  have S := St.nil w
  refine wp_seq ?_
  refine wp_region_lit ?_
  refine op_val (v := .bool false) rfl rfl hF rfl (run_assign rfl rfl) ?_; clear hF; intro a hF
  refine wpList_nil ?_
  refine wp_seq ?_
  refine wp_seq ?_
  refine wp_region_lit ?_
  refine op_val (v := .slice A0 x0.length c0) rfl rfl hF rfl (run_move rfl (hF.ev rfl)) ?_; clear hF; intro a hF
  refine op_val (v := .int .i64 (x0.length : Int)) rfl rfl hF rfl (run_lenL rfl rfl Tryd.underlying22 (hF.ev rfl)) ?_; clear hF; intro a hF
  refine op_val (v := .bool (ltB 1048576 (x0.length : Int))) rfl rfl hF rfl (run_gtr (hF.ev rfl) rfl rfl) ?_; clear hF; intro a hF
  refine wpList_nil ?_
  cases hc101 : (ltB 1048576 (x0.length : Int))
  · replace hM := bif_f hc101 hM
    refine cond_f hF rfl hc101 ?_
    refine wp_skip ?_
    refine wp_seq ?_
    refine wp_region_lit ?_
    refine op_val (v := .slice A0 x0.length c0) rfl rfl hF rfl (run_move rfl (hF.ev rfl)) ?_; clear hF; intro a hF
    obtain ⟨p102, h102, hM⟩ := bind_ex hM
    refine op_call rfl rfl hF rfl (run_call (vs := [.slice A0 x0.length c0]) rfl rfl co14 ⟨(hF.ev rfl), trivial⟩) (c_spec_DrawPanelRun (x0 := x0) ⟨(S.rc0 h0.rc), rfl⟩ h102) ?_
    rintro e u ⟨B103, n104, d105, B106, n107, d108, rfl, rfl, rfl, T⟩
    refine ⟨_, rfl, ?_⟩
    clear hF; intro a hF
    replace S := S.call2 T; clear T
    refine op_val (v := .tuple #[.agg #[.slice B103 p102.1.length d105, .int .i64 p102.2.1, .int .i64 p102.2.2.1, .bool p102.2.2.2.1, .int .i64 p102.2.2.2.2.1], .slice B106 p102.2.2.2.2.2.length d108]) rfl rfl hF rfl (run_move rfl (hF.ev rfl)) ?_; clear hF; intro a hF
    refine op_val (v := .agg #[.slice B103 p102.1.length d105, .int .i64 p102.2.1, .int .i64 p102.2.2.1, .bool p102.2.2.2.1, .int .i64 p102.2.2.2.2.1]) rfl rfl hF rfl (run_extract rfl (hF.ev rfl) rfl) ?_; clear hF; intro a hF
    refine op_val (v := .slice B106 p102.2.2.2.2.2.length d108) rfl rfl hF rfl (run_extract rfl (hF.ev rfl) rfl) ?_; clear hF; intro a hF
    refine op_new (cs := #[.slice none 0 0, .int .i64 0, .int .i64 0, .bool false, .int .i64 0]) rfl rfl hF rfl S (run_allocZ rfl zr25) ?_; clear hF S; intro a g109 u hF S
    refine op_do rfl rfl (run_store (cs' := #[.slice B103 p102.1.length d105, .int .i64 p102.2.1, .int .i64 p102.2.2.1, .bool p102.2.2.2.1, .int .i64 p102.2.2.2.2.1]) rfl sz25 (hF.ev rfl) (hF.ev rfl) rfl rfl rfl (S.free 0 rfl) rfl rfl) ?_; replace S := S.put 0 rfl (#[.slice B103 p102.1.length d105, .int .i64 p102.2.1, .int .i64 p102.2.2.1, .bool p102.2.2.2.1, .int .i64 p102.2.2.2.2.1])
    generalize World.setRow _ _ _ = u at S ⊢
    refine op_val (v := .slice B106 p102.2.2.2.2.2.length d108) rfl rfl hF rfl (run_assign rfl (hF.ev rfl)) ?_; clear hF; intro a hF
    refine wpList_nil ?_
    refine wp_seq ?_
    refine wp_region_lit ?_
    refine op_val (v := .agg #[.slice B103 p102.1.length d105, .int .i64 p102.2.1, .int .i64 p102.2.2.1, .bool p102.2.2.2.1, .int .i64 p102.2.2.2.2.1]) rfl rfl hF rfl (run_loadN rfl ag25 (hF.ev rfl) rfl ((S.free 0 rfl).cells 0 #[.slice B103 p102.1.length d105, .int .i64 p102.2.1, .int .i64 p102.2.2.1, .bool p102.2.2.2.1, .int .i64 p102.2.2.2.2.1] rfl)) ?_; clear hF; intro a hF
    refine op_val (v := .slice B106 p102.2.2.2.2.2.length d108) rfl rfl hF rfl (run_move rfl (hF.ev rfl)) ?_; clear hF; intro a hF
    obtain ⟨p110, h110, hM⟩ := bind_ex hM
    refine op_call rfl rfl hF rfl (run_call (vs := [.agg #[.slice B103 p102.1.length d105, .int .i64 p102.2.1, .int .i64 p102.2.2.1, .bool p102.2.2.2.1, .int .i64 p102.2.2.2.2.1], .slice B106 p102.2.2.2.2.2.length d108]) rfl rfl co15 ⟨(hF.ev rfl), (hF.ev rfl), trivial⟩) (c_impl_PanelRun (x0 := p102.1) (x1 := p102.2.1) (x2 := p102.2.2.1) (x3 := p102.2.2.2.1) (x4 := p102.2.2.2.2.1) (x5 := p102.2.2.2.2.2) ⟨(S.rcp 1 rfl), rfl⟩ ⟨(S.rc 2 rfl), rfl⟩ h110) ?_
    rintro e u ⟨B111, n112, d113, B114, n115, d116, rfl, rfl, rfl, T⟩
    refine ⟨_, rfl, ?_⟩
    clear hF; intro a hF
    replace S := S.call2 T; clear T
    refine op_val (v := .tuple #[.agg #[.slice B111 p110.1.length d113, .int .i64 p110.2.1, .int .i64 p110.2.2.1, .bool p110.2.2.2.1, .int .i64 p110.2.2.2.2.1], .slice B114 p110.2.2.2.2.2.length d116]) rfl rfl hF rfl (run_move rfl (hF.ev rfl)) ?_; clear hF; intro a hF
    refine op_val (v := .agg #[.slice B111 p110.1.length d113, .int .i64 p110.2.1, .int .i64 p110.2.2.1, .bool p110.2.2.2.1, .int .i64 p110.2.2.2.2.1]) rfl rfl hF rfl (run_extract rfl (hF.ev rfl) rfl) ?_; clear hF; intro a hF
    refine op_val (v := .slice B114 p110.2.2.2.2.2.length d116) rfl rfl hF rfl (run_extract rfl (hF.ev rfl) rfl) ?_; clear hF; intro a hF
    refine op_new (cs := #[.slice none 0 0, .int .i64 0, .int .i64 0, .bool false, .int .i64 0]) rfl rfl hF rfl S (run_allocZ rfl zr25) ?_; clear hF S; intro a g117 u hF S
    refine op_do rfl rfl (run_store (cs' := #[.slice B111 p110.1.length d113, .int .i64 p110.2.1, .int .i64 p110.2.2.1, .bool p110.2.2.2.1, .int .i64 p110.2.2.2.2.1]) rfl sz25 (hF.ev rfl) (hF.ev rfl) rfl rfl rfl (S.free 0 rfl) rfl rfl) ?_; replace S := S.put 0 rfl (#[.slice B111 p110.1.length d113, .int .i64 p110.2.1, .int .i64 p110.2.2.1, .bool p110.2.2.2.1, .int .i64 p110.2.2.2.2.1])
    generalize World.setRow _ _ _ = u at S ⊢
    refine op_val (v := .slice B114 p110.2.2.2.2.2.length d116) rfl rfl hF rfl (run_assign rfl (hF.ev rfl)) ?_; clear hF; intro a hF
    refine wpList_nil ?_
    refine wp_seq ?_
    refine wp_region_lit ?_
    refine op_val (v := .agg #[.slice B103 p102.1.length d105, .int .i64 p102.2.1, .int .i64 p102.2.2.1, .bool p102.2.2.2.1, .int .i64 p102.2.2.2.2.1]) rfl rfl hF rfl (run_loadN rfl ag25 (hF.ev rfl) rfl ((S.free 3 rfl).cells 0 #[.slice B103 p102.1.length d105, .int .i64 p102.2.1, .int .i64 p102.2.2.1, .bool p102.2.2.2.1, .int .i64 p102.2.2.2.2.1] rfl)) ?_; clear hF; intro a hF
    refine op_val (v := .slice B106 p102.2.2.2.2.2.length d108) rfl rfl hF rfl (run_move rfl (hF.ev rfl)) ?_; clear hF; intro a hF
    obtain ⟨p118, h118, hM⟩ := bind_ex hM
    refine op_call rfl rfl hF rfl (run_call (vs := [.agg #[.slice B103 p102.1.length d105, .int .i64 p102.2.1, .int .i64 p102.2.2.1, .bool p102.2.2.2.1, .int .i64 p102.2.2.2.2.1], .slice B106 p102.2.2.2.2.2.length d108]) rfl rfl co16 ⟨(hF.ev rfl), (hF.ev rfl), trivial⟩) (c_spec_PanelRun (x0 := p102.1) (x1 := p102.2.1) (x2 := p102.2.2.1) (x3 := p102.2.2.2.1) (x4 := p102.2.2.2.2.1) (x5 := p102.2.2.2.2.2) ⟨(S.rcp 4 rfl), rfl⟩ ⟨(S.rc 5 rfl), rfl⟩ h118) ?_
    rintro e u ⟨B119, n120, d121, B122, n123, d124, rfl, rfl, rfl, T⟩
    refine ⟨_, rfl, ?_⟩
    clear hF; intro a hF
    replace S := S.call2 T; clear T
    refine op_val (v := .tuple #[.agg #[.slice B119 p118.1.length d121, .int .i64 p118.2.1, .int .i64 p118.2.2.1, .bool p118.2.2.2.1, .int .i64 p118.2.2.2.2.1], .slice B122 p118.2.2.2.2.2.length d124]) rfl rfl hF rfl (run_move rfl (hF.ev rfl)) ?_; clear hF; intro a hF
    refine op_val (v := .agg #[.slice B119 p118.1.length d121, .int .i64 p118.2.1, .int .i64 p118.2.2.1, .bool p118.2.2.2.1, .int .i64 p118.2.2.2.2.1]) rfl rfl hF rfl (run_extract rfl (hF.ev rfl) rfl) ?_; clear hF; intro a hF
    refine op_val (v := .slice B122 p118.2.2.2.2.2.length d124) rfl rfl hF rfl (run_extract rfl (hF.ev rfl) rfl) ?_; clear hF; intro a hF
    refine op_new (cs := #[.slice none 0 0, .int .i64 0, .int .i64 0, .bool false, .int .i64 0]) rfl rfl hF rfl S (run_allocZ rfl zr25) ?_; clear hF S; intro a g125 u hF S
    refine op_do rfl rfl (run_store (cs' := #[.slice B119 p118.1.length d121, .int .i64 p118.2.1, .int .i64 p118.2.2.1, .bool p118.2.2.2.1, .int .i64 p118.2.2.2.2.1]) rfl sz25 (hF.ev rfl) (hF.ev rfl) rfl rfl rfl (S.free 0 rfl) rfl rfl) ?_; replace S := S.put 0 rfl (#[.slice B119 p118.1.length d121, .int .i64 p118.2.1, .int .i64 p118.2.2.1, .bool p118.2.2.2.1, .int .i64 p118.2.2.2.2.1])
    generalize World.setRow _ _ _ = u at S ⊢
    refine op_val (v := .slice B122 p118.2.2.2.2.2.length d124) rfl rfl hF rfl (run_assign rfl (hF.ev rfl)) ?_; clear hF; intro a hF
    refine wpList_nil ?_
    refine wp_seq ?_
    refine wp_seq ?_
    refine wp_region_lit ?_
    refine op_val (v := .agg #[.slice B111 p110.1.length d113, .int .i64 p110.2.1, .int .i64 p110.2.2.1, .bool p110.2.2.2.1, .int .i64 p110.2.2.2.2.1]) rfl rfl hF rfl (run_loadN rfl ag25 (hF.ev rfl) rfl ((S.free 3 rfl).cells 0 #[.slice B111 p110.1.length d113, .int .i64 p110.2.1, .int .i64 p110.2.2.1, .bool p110.2.2.2.1, .int .i64 p110.2.2.2.2.1] rfl)) ?_; clear hF; intro a hF
    refine op_val (v := .agg #[.slice B119 p118.1.length d121, .int .i64 p118.2.1, .int .i64 p118.2.2.1, .bool p118.2.2.2.1, .int .i64 p118.2.2.2.2.1]) rfl rfl hF rfl (run_loadN rfl ag25 (hF.ev rfl) rfl ((S.free 0 rfl).cells 0 #[.slice B119 p118.1.length d121, .int .i64 p118.2.1, .int .i64 p118.2.2.1, .bool p118.2.2.2.1, .int .i64 p118.2.2.2.2.1] rfl)) ?_; clear hF; intro a hF
    obtain ⟨p126, h126, hM⟩ := bind_ex hM
    refine op_call rfl rfl hF rfl (run_call (vs := [.agg #[.slice B111 p110.1.length d113, .int .i64 p110.2.1, .int .i64 p110.2.2.1, .bool p110.2.2.2.1, .int .i64 p110.2.2.2.2.1], .agg #[.slice B119 p118.1.length d121, .int .i64 p118.2.1, .int .i64 p118.2.2.1, .bool p118.2.2.2.1, .int .i64 p118.2.2.2.2.1]]) rfl rfl co9 ⟨(hF.ev rfl), (hF.ev rfl), trivial⟩) (c_laws_samePanel (x0 := p110.1) (x1 := p110.2.1) (x2 := p110.2.2.1) (x3 := p110.2.2.2.1) (x4 := p110.2.2.2.2.1) (x5 := p118.1) (x6 := p118.2.1) (x7 := p118.2.2.1) (x8 := p118.2.2.2.1) (x9 := p118.2.2.2.2.1) ⟨(S.rc 4 rfl), rfl⟩ ⟨(S.rc 1 rfl), rfl⟩ h126) ?_
    rintro e u ⟨rfl, T⟩
    refine ⟨_, rfl, ?_⟩
    clear hF; intro a hF
    replace S := S.call0 T; clear T
    refine op_val (v := .bool (!p126)) rfl rfl hF rfl (run_not rfl (hF.ev rfl)) ?_; clear hF; intro a hF
    refine op_val (v := .bool (!p126)) rfl rfl hF rfl (run_move rfl (hF.ev rfl)) ?_; clear hF; intro a hF
    refine op_gv (v := .slice B114 p110.2.2.2.2.2.length d116) rfl rfl hF rfl (yf (gw_yield hF rfl rfl rfl)) (fun hg => (run_move rfl (hF.ev rfl))) ?_; clear hF; intro a hF
    refine op_gv (v := .slice B122 p118.2.2.2.2.2.length d124) rfl rfl hF rfl (yf (gw_yield hF rfl rfl rfl)) (fun hg => (run_move rfl (hF.ev rfl))) ?_; clear hF; intro a hF
    obtain ⟨p127, h127, hM⟩ := bind_ex hM
    refine op_gcall (v := .bool p127) rfl rfl hF rfl S (yf (gw_yield hF rfl rfl rfl)) (fun hg => (run_call (vs := [.slice B114 p110.2.2.2.2.2.length d116, .slice B122 p118.2.2.2.2.2.length d124]) rfl rfl co17 ⟨((hF.ev rfl).trans (gv_t hg)), ((hF.ev rfl).trans (gv_t hg)), trivial⟩)) (fun hg => c_laws_sameBools (x0 := p110.2.2.2.2.2) (x1 := p118.2.2.2.2.2) ⟨(S.rc 5 rfl), rfl⟩ ⟨(S.rc 2 rfl), rfl⟩ (gb_t h127 hg)) ?_; clear hF S; intro a u hF S
    refine op_gv (v := .bool (!p127)) rfl rfl hF rfl (yf (gw_yield hF rfl rfl rfl)) (fun hg => (run_not rfl ((hF.ev rfl).trans (gv_t hg)))) ?_; clear hF; intro a hF
    refine op_val (v := .bool ((!p126) || (!p127))) rfl rfl hF rfl (run_pick_or rfl (hF.ev rfl) rfl (fun hp => ((hF.ev rfl).trans (gv_t (not_t hp))))) ?_; clear hF; intro a hF
    refine wpList_nil ?_
    cases hc128 : ((!p126) || (!p127))
    · replace hM := bif_f hc128 hM
      refine cond_f hF rfl hc128 ?_
      refine wp_skip ?_
      refine wp_seq ?_
      refine wp_seq ?_
      refine wp_region_lit ?_
      refine op_val (v := .agg #[.slice B103 p102.1.length d105, .int .i64 p102.2.1, .int .i64 p102.2.2.1, .bool p102.2.2.2.1, .int .i64 p102.2.2.2.2.1]) rfl rfl hF rfl (run_loadN rfl ag25 (hF.ev rfl) rfl ((S.free 6 rfl).cells 0 #[.slice B103 p102.1.length d105, .int .i64 p102.2.1, .int .i64 p102.2.2.1, .bool p102.2.2.2.1, .int .i64 p102.2.2.2.2.1] rfl)) ?_; clear hF; intro a hF
      obtain ⟨p129, h129, hM⟩ := bind_ex hM
      refine op_call rfl rfl hF rfl (run_call (vs := [.agg #[.slice B103 p102.1.length d105, .int .i64 p102.2.1, .int .i64 p102.2.2.1, .bool p102.2.2.2.1, .int .i64 p102.2.2.2.2.1]]) rfl rfl co18 ⟨(hF.ev rfl), trivial⟩) (c_spec_PanelValid (x0 := p102.1) (x1 := p102.2.1) (x2 := p102.2.2.1) (x3 := p102.2.2.2.1) (x4 := p102.2.2.2.2.1) ⟨(S.rcp 7 rfl), rfl⟩ h129) ?_
      rintro e u ⟨rfl, T⟩
      refine ⟨_, rfl, ?_⟩
      clear hF; intro a hF
      replace S := S.call0 T; clear T
      refine op_val (v := .bool (!p129)) rfl rfl hF rfl (run_not rfl (hF.ev rfl)) ?_; clear hF; intro a hF
      refine wpList_nil ?_
      cases hc130 : (p129)
      · replace hM := bif_f hc130 hM
        refine cond_t hF rfl (not_t hc130) ?_
        refine wp_seq ?_
        refine wp_region_lit ?_
        refine op_val (v := .slice B114 p110.2.2.2.2.2.length d116) rfl rfl hF rfl (run_move rfl (hF.ev rfl)) ?_; clear hF; intro a hF
        refine op_val (v := .int .i64 (p110.2.2.2.2.2.length : Int)) rfl rfl hF rfl (run_lenL rfl rfl Tryd.underlying23 (hF.ev rfl)) ?_; clear hF; intro a hF
        refine op_val (v := .bool ((p110.2.2.2.2.2.length : Int) == 0)) rfl rfl hF rfl (run_eql (hF.ev rfl) rfl rfl) ?_; clear hF; intro a hF
        refine op_val (v := .bool ((p110.2.2.2.2.2.length : Int) == 0)) rfl rfl hF rfl (run_move rfl (hF.ev rfl)) ?_; clear hF; intro a hF
        obtain ⟨p131, h131, hM⟩ := bind_ex hM
        refine op_gcall (v := .bool p131) rfl rfl hF rfl S (yt (gw_yield hF rfl rfl rfl)) (fun hg => (run_call (vs := []) rfl rfl co11 trivial)) (fun hg => c_laws_alive   (gb_t h131 hg)) ?_; clear hF S; intro a u hF S
        refine op_val (v := .bool (((p110.2.2.2.2.2.length : Int) == 0) && p131)) rfl rfl hF rfl (run_pick_and rfl (hF.ev rfl) (fun hp => ((hF.ev rfl).trans (gv_t hp))) rfl) ?_; clear hF; intro a hF
        refine op_val (v := .bool (((p110.2.2.2.2.2.length : Int) == 0) && p131)) rfl rfl hF rfl (run_assign rfl (hF.ev rfl)) ?_; clear hF; intro a hF
        refine wpList_nil ?_
        refine wp_ret ?_
        repeat with_reducible (first | refine then_ret ?_ | refine in_ret ?_ | refine in_nrm ?_)
        refine ret1_gw (.inl rfl) hF rfl (res_tmp (hF.ev rfl)) ?_
        obtain rfl := Option.some.inj hM
        exact ⟨rfl, S.sel [] rfl rfl⟩
      · replace hM := bif_t hc130 hM
        refine cond_f hF rfl (not_f hc130) ?_
        refine wp_skip ?_
        refine wp_seq ?_
        refine wp_region_lit ?_
        refine op_val (v := .pointer (some ⟨g109, 0, none⟩)) rfl rfl hF rfl (run_fieldAddr rfl fl25_0 (hF.ev rfl) rfl) ?_; clear hF; intro a hF
        refine op_val (v := .slice B103 p102.1.length d105) rfl rfl hF rfl (run_load1 rfl one23 (hF.ev rfl) ((S.free 6 rfl).cell rfl)) ?_; clear hF; intro a hF
        refine op_val (v := .agg #[.slice B103 p102.1.length d105, .int .i64 (-1), .int .i64 0, .bool false, .int .i64 0]) rfl rfl hF rfl (run_build (vs := [(0, .slice B103 p102.1.length d105), (1, .int .i64 (-1))]) rfl ⟨⟨rfl, (hF.ev rfl)⟩, ⟨rfl, rfl⟩, trivial⟩ (bd25_0_1 rfl rfl)) ?_; clear hF; intro a hF
        refine op_new (cs := #[.slice none 0 0, .int .i64 0, .int .i64 0, .bool false, .int .i64 0]) rfl rfl hF rfl S (run_allocZ rfl zr25) ?_; clear hF S; intro a g132 u hF S
        refine op_do rfl rfl (run_store (cs' := #[.slice B103 p102.1.length d105, .int .i64 (-1), .int .i64 0, .bool false, .int .i64 0]) rfl sz25 (hF.ev rfl) (hF.ev rfl) rfl rfl rfl (S.free 0 rfl) rfl rfl) ?_; replace S := S.put 0 rfl (#[.slice B103 p102.1.length d105, .int .i64 (-1), .int .i64 0, .bool false, .int .i64 0])
        generalize World.setRow _ _ _ = u at S ⊢
        refine wpList_nil ?_
        refine wp_seq ?_
        refine wp_region_lit ?_
        refine op_val (v := .agg #[.slice B103 p102.1.length d105, .int .i64 (-1), .int .i64 0, .bool false, .int .i64 0]) rfl rfl hF rfl (run_loadN rfl ag25 (hF.ev rfl) rfl ((S.free 0 rfl).cells 0 #[.slice B103 p102.1.length d105, .int .i64 (-1), .int .i64 0, .bool false, .int .i64 0] rfl)) ?_; clear hF; intro a hF
        refine op_val (v := .slice B106 p102.2.2.2.2.2.length d108) rfl rfl hF rfl (run_move rfl (hF.ev rfl)) ?_; clear hF; intro a hF
        obtain ⟨p133, h133, hM⟩ := bind_ex hM
        refine op_call rfl rfl hF rfl (run_call (vs := [.agg #[.slice B103 p102.1.length d105, .int .i64 (-1), .int .i64 0, .bool false, .int .i64 0], .slice B106 p102.2.2.2.2.2.length d108]) rfl rfl co15 ⟨(hF.ev rfl), (hF.ev rfl), trivial⟩) (c_impl_PanelRun (x0 := p102.1) (x1 := -1) (x2 := 0) (x3 := false) (x4 := 0) (x5 := p102.2.2.2.2.2) ⟨(S.rcp 8 rfl), rfl⟩ ⟨(S.rc 9 rfl), rfl⟩ h133) ?_
        rintro e u ⟨B134, n135, d136, B137, n138, d139, rfl, rfl, rfl, T⟩
        refine ⟨_, rfl, ?_⟩
        clear hF; intro a hF
        replace S := S.call2 T; clear T
        refine op_val (v := .tuple #[.agg #[.slice B134 p133.1.length d136, .int .i64 p133.2.1, .int .i64 p133.2.2.1, .bool p133.2.2.2.1, .int .i64 p133.2.2.2.2.1], .slice B137 p133.2.2.2.2.2.length d139]) rfl rfl hF rfl (run_move rfl (hF.ev rfl)) ?_; clear hF; intro a hF
        refine op_val (v := .agg #[.slice B134 p133.1.length d136, .int .i64 p133.2.1, .int .i64 p133.2.2.1, .bool p133.2.2.2.1, .int .i64 p133.2.2.2.2.1]) rfl rfl hF rfl (run_extract rfl (hF.ev rfl) rfl) ?_; clear hF; intro a hF
        refine op_val (v := .slice B137 p133.2.2.2.2.2.length d139) rfl rfl hF rfl (run_extract rfl (hF.ev rfl) rfl) ?_; clear hF; intro a hF
        refine op_new (cs := #[.slice none 0 0, .int .i64 0, .int .i64 0, .bool false, .int .i64 0]) rfl rfl hF rfl S (run_allocZ rfl zr25) ?_; clear hF S; intro a g140 u hF S
        refine op_do rfl rfl (run_store (cs' := #[.slice B134 p133.1.length d136, .int .i64 p133.2.1, .int .i64 p133.2.2.1, .bool p133.2.2.2.1, .int .i64 p133.2.2.2.2.1]) rfl sz25 (hF.ev rfl) (hF.ev rfl) rfl rfl rfl (S.free 0 rfl) rfl rfl) ?_; replace S := S.put 0 rfl (#[.slice B134 p133.1.length d136, .int .i64 p133.2.1, .int .i64 p133.2.2.1, .bool p133.2.2.2.1, .int .i64 p133.2.2.2.2.1])
        generalize World.setRow _ _ _ = u at S ⊢
        refine op_val (v := .slice B137 p133.2.2.2.2.2.length d139) rfl rfl hF rfl (run_assign rfl (hF.ev rfl)) ?_; clear hF; intro a hF
        refine wpList_nil ?_
        refine wp_seq ?_
        refine wp_seq ?_
        refine wp_region_lit ?_
        refine op_val (v := .slice B137 p133.2.2.2.2.2.length d139) rfl rfl hF rfl (run_move rfl (hF.ev rfl)) ?_; clear hF; intro a hF
        refine op_val (v := .int .i64 (p133.2.2.2.2.2.length : Int)) rfl rfl hF rfl (run_lenL rfl rfl Tryd.underlying23 (hF.ev rfl)) ?_; clear hF; intro a hF
        refine op_val (v := .slice B106 p102.2.2.2.2.2.length d108) rfl rfl hF rfl (run_move rfl (hF.ev rfl)) ?_; clear hF; intro a hF
        refine op_val (v := .int .i64 (p102.2.2.2.2.2.length : Int)) rfl rfl hF rfl (run_lenL rfl rfl Tryd.underlying39 (hF.ev rfl)) ?_; clear hF; intro a hF
        refine op_val (v := .bool ((p133.2.2.2.2.2.length : Int) != (p102.2.2.2.2.2.length : Int))) rfl rfl hF rfl (run_neq (hF.ev rfl) (hF.ev rfl) rfl) ?_; clear hF; intro a hF
        refine wpList_nil ?_
        cases hc141 : ((p133.2.2.2.2.2.length : Int) != (p102.2.2.2.2.2.length : Int))
        · replace hM := bif_f hc141 hM
          refine cond_f hF rfl hc141 ?_
          refine wp_skip ?_
          refine wp_seq ?_
          refine wp_seq ?_
          refine wp_region_lit ?_
          refine op_val (v := .int .i64 0) rfl rfl hF rfl (run_assign rfl rfl) ?_; clear hF; intro a hF
          refine wpList_nil ?_
          obtain ⟨o143, hM144, hM⟩ := bind_ex hM
          refine wp_cut (fun a u => ∃ (p142 : Unit), (Sum.inl p142) = o143 ∧ Fr a 100 [(2, .bool false), (4, .slice B106 p102.2.2.2.2.2.length d108), (5, .pointer (some ⟨g117, 0, none⟩)), (6, .slice B114 p110.2.2.2.2.2.length d116)] ∧ St w u [.box g140 25 #[.slice B134 p133.1.length d136, .int .i64 p133.2.1, .int .i64 p133.2.2.1, .bool p133.2.2.2.1, .int .i64 p133.2.2.2.2.1], .box g132 25 #[.slice B103 p102.1.length d105, .int .i64 (-1), .int .i64 0, .bool false, .int .i64 0], .box g125 25 #[.slice B119 p118.1.length d121, .int .i64 p118.2.1, .int .i64 p118.2.2.1, .bool p118.2.2.2.1, .int .i64 p118.2.2.2.2.1], .box g117 25 #[.slice B111 p110.1.length d113, .int .i64 p110.2.1, .int .i64 p110.2.2.1, .bool p110.2.2.2.1, .int .i64 p110.2.2.2.2.1], .box g109 25 #[.slice B103 p102.1.length d105, .int .i64 p102.2.1, .int .i64 p102.2.2.1, .bool p102.2.2.2.1, .int .i64 p102.2.2.2.2.1], .row 27 4 (.slice B106 p102.2.2.2.2.2.length d108) p102.2.2.2.2.2.length (p102.2.2.2.2.2.flatMap eCommand), .row 4 1 (.slice B114 p110.2.2.2.2.2.length d116) p110.2.2.2.2.2.length (p110.2.2.2.2.2.flatMap eB), .row 4 1 (.slice B134 p133.1.length d136) p133.1.length (p133.1.flatMap eB), .part 1 (.slice B103 p102.1.length d105) p102.1.length (p102.1.flatMap eB), .row 4 1 (.slice B119 p118.1.length d121) p118.1.length (p118.1.flatMap eB), .row 4 1 (.slice B111 p110.1.length d113) p110.1.length (p110.1.flatMap eB)]) ?_ ?_
          · have _ := trivial
            refine wp_block ?_
            refine loop_gw (fun m a u => ∃ (p145 : Int), m_laws_FnPanelRun_l1 p102 p133 m p145 = some _ ∧ Fr a 100 [(2, .bool false), (4, .slice B106 p102.2.2.2.2.2.length d108), (5, .pointer (some ⟨g117, 0, none⟩)), (6, .slice B114 p110.2.2.2.2.2.length d116), (11, .slice B137 p133.2.2.2.2.2.length d139), (12, .int .i64 p145)] ∧ St w u [.box g140 25 #[.slice B134 p133.1.length d136, .int .i64 p133.2.1, .int .i64 p133.2.2.1, .bool p133.2.2.2.1, .int .i64 p133.2.2.2.2.1], .box g132 25 #[.slice B103 p102.1.length d105, .int .i64 (-1), .int .i64 0, .bool false, .int .i64 0], .box g125 25 #[.slice B119 p118.1.length d121, .int .i64 p118.2.1, .int .i64 p118.2.2.1, .bool p118.2.2.2.1, .int .i64 p118.2.2.2.2.1], .box g117 25 #[.slice B111 p110.1.length d113, .int .i64 p110.2.1, .int .i64 p110.2.2.1, .bool p110.2.2.2.1, .int .i64 p110.2.2.2.2.1], .box g109 25 #[.slice B103 p102.1.length d105, .int .i64 p102.2.1, .int .i64 p102.2.2.1, .bool p102.2.2.2.1, .int .i64 p102.2.2.2.2.1], .row 27 4 (.slice B106 p102.2.2.2.2.2.length d108) p102.2.2.2.2.2.length (p102.2.2.2.2.2.flatMap eCommand), .row 4 1 (.slice B114 p110.2.2.2.2.2.length d116) p110.2.2.2.2.2.length (p110.2.2.2.2.2.flatMap eB), .row 4 1 (.slice B137 p133.2.2.2.2.2.length d139) p133.2.2.2.2.2.length (p133.2.2.2.2.2.flatMap eB), .row 4 1 (.slice B134 p133.1.length d136) p133.1.length (p133.1.flatMap eB), .part 1 (.slice B103 p102.1.length d105) p102.1.length (p102.1.flatMap eB), .row 4 1 (.slice B119 p118.1.length d121) p118.1.length (p118.1.flatMap eB), .row 4 1 (.slice B111 p110.1.length d113) p110.1.length (p110.1.flatMap eB)]) FUEL ⟨0, hM144, hF.keep _ ⟨rfl, rfl, rfl, rfl, rfl, rfl, trivial⟩, S.sel [0, 3, 4, 7, 10, 12, 9, 2, 1, 11, 5, 8] rfl rfl⟩ ?_
            clear hF S hM144; rintro m a u ⟨p145, hM144, hF, S⟩
            rcases m with _ | f1
            · exact none_some hM144
            rw [m_laws_FnPanelRun_l1.eq_2] at hM144
            refine wp_seq ?_
            refine wp_seq ?_
            refine wp_region_lit ?_
            refine op_val (v := .int .i64 p145) rfl rfl hF rfl (run_move rfl (hF.ev rfl)) ?_; clear hF; intro a hF
            refine op_val (v := .slice B106 p102.2.2.2.2.2.length d108) rfl rfl hF rfl (run_move rfl (hF.ev rfl)) ?_; clear hF; intro a hF
            refine op_val (v := .int .i64 (p102.2.2.2.2.2.length : Int)) rfl rfl hF rfl (run_lenL rfl rfl Tryd.underlying39 (hF.ev rfl)) ?_; clear hF; intro a hF
            refine op_val (v := .bool (ltB p145 (p102.2.2.2.2.2.length : Int))) rfl rfl hF rfl (run_lss (hF.ev rfl) (hF.ev rfl) rfl) ?_; clear hF; intro a hF
            refine wpList_nil ?_
            cases hc146 : (ltB p145 (p102.2.2.2.2.2.length : Int))
            · replace hM144 := bif_f hc146 hM144
              refine cond_f hF rfl hc146 ?_
              refine wp_exit ?_
              repeat with_reducible (first | refine then_exit ?_ | refine in_hit ?_ | refine in_miss rfl ?_)
              obtain rfl := Option.some.inj hM144
              exact ⟨(), rfl, hF.keep _ ⟨rfl, rfl, rfl, rfl, trivial⟩, S.sel [0, 1, 2, 3, 4, 5, 6, 8, 9, 10, 11] rfl rfl⟩
            · replace hM144 := bif_t hc146 hM144
              refine cond_t hF rfl hc146 ?_
              refine wp_skip ?_
              refine wp_seq ?_
              refine wp_block ?_
              refine wp_seq ?_
              refine wp_region_lit ?_
              refine op_val (v := .slice B137 p133.2.2.2.2.2.length d139) rfl rfl hF rfl (run_move rfl (hF.ev rfl)) ?_; clear hF; intro a hF
              refine op_val (v := .int .i64 p145) rfl rfl hF rfl (run_move rfl (hF.ev rfl)) ?_; clear hF; intro a hF
              obtain ⟨hk147, hM144⟩ := chk_ex hM144
              replace hk147 := ixB_t hk147
              refine op_val (v := .pointer (some ⟨adB B137, adO B137 + p145.toNat * 1, none⟩)) rfl rfl hF rfl (run_indexAddr (b := adB B137) (off := adO B137) rfl Tryd.underlying23 sz4 ((hF.ev rfl).trans (congrArg (fun A => Value.slice A p133.2.2.2.2.2.length d139) ((S.rc 7 rfl).rd.ad (ix_pos hk147)))) (hF.ev rfl) hk147.1 hk147.2 (k' := adO B137 + p145.toNat * 1) rfl) ?_; clear hF; intro a hF
              refine op_val (v := .bool (p133.2.2.2.2.2.getD p145.toNat false)) rfl rfl hF rfl (run_load1 rfl one4 (hF.ev rfl) (rd_el0 (l := p133.2.2.2.2.2) (S.rc 7 rfl).rd rfl eB_len false (ix_ltn hk147 rfl) rfl)) ?_; clear hF; intro a hF
              refine op_val (v := .bool (p133.2.2.2.2.2.getD p145.toNat false)) rfl rfl hF rfl (run_move rfl (hF.ev rfl)) ?_; clear hF; intro a hF
              refine op_gv (v := .slice B106 p102.2.2.2.2.2.length d108) rfl rfl hF rfl (yt (gw_yield hF rfl rfl rfl)) (fun hg => (run_move rfl (hF.ev rfl))) ?_; clear hF; intro a hF
              refine op_gv (v := .int .i64 p145) rfl rfl hF rfl (yt (gw_yield hF rfl rfl rfl)) (fun hg => (run_move rfl (hF.ev rfl))) ?_; clear hF; intro a hF
              obtain ⟨hk148, hM144⟩ := chk_ex hM144
              replace hk148 := fun hg => ixB_t (imp_t hk148 hg)
              refine op_gv (v := .pointer (some ⟨adB B106, adO B106 + p145.toNat * 4, none⟩)) rfl rfl hF rfl (yt (gw_yield hF rfl rfl rfl)) (fun hg => (run_indexAddr (b := adB B106) (off := adO B106) rfl Tryd.underlying39 sz27 (((hF.ev rfl).trans (gv_t hg)).trans (congrArg (fun A => Value.slice A p102.2.2.2.2.2.length d108) ((S.rc 5 rfl).rd.ad (ix_pos (hk148 hg))))) ((hF.ev rfl).trans (gv_t hg)) (hk148 hg).1 (hk148 hg).2 (k' := adO B106 + p145.toNat * 4) rfl)) ?_; clear hF; intro a hF
              refine op_gv (v := .pointer (some ⟨adB B106, adO B106 + p145.toNat * 4, none⟩)) rfl rfl hF rfl (yt (gw_yield hF rfl rfl rfl)) (fun hg => (run_fieldAddr rfl fl27_0 ((hF.ev rfl).trans (gv_t hg)) rfl)) ?_; clear hF; intro a hF
              refine op_gv (v := .int .i64 ((p102.2.2.2.2.2.getD p145.toNat ((0, 0, 0, false) : Int × Int × Int × Bool)).1)) rfl rfl hF rfl (yt (gw_yield hF rfl rfl rfl)) (fun hg => (run_load1 rfl one3 ((hF.ev rfl).trans (gv_t hg)) (rd_el0 (l := p102.2.2.2.2.2) (S.rc 5 rfl).rd rfl eCommand_len ((0, 0, 0, false) : Int × Int × Int × Bool) (ix_ltn (hk148 hg) rfl) rfl))) ?_; clear hF; intro a hF
              refine op_gv (v := .bool (((p102.2.2.2.2.2.getD p145.toNat ((0, 0, 0, false) : Int × Int × Int × Bool)).1) == 1)) rfl rfl hF rfl (yt (gw_yield hF rfl rfl rfl)) (fun hg => (run_eql ((hF.ev rfl).trans (gv_t hg)) rfl rfl)) ?_; clear hF; intro a hF
              refine op_val (v := .bool ((p133.2.2.2.2.2.getD p145.toNat false) && (((p102.2.2.2.2.2.getD p145.toNat ((0, 0, 0, false) : Int × Int × Int × Bool)).1) == 1))) rfl rfl hF rfl (run_pick_and rfl (hF.ev rfl) (fun hp => ((hF.ev rfl).trans (gv_t hp))) rfl) ?_; clear hF; intro a hF
              refine op_val (v := .bool ((p133.2.2.2.2.2.getD p145.toNat false) && (((p102.2.2.2.2.2.getD p145.toNat ((0, 0, 0, false) : Int × Int × Int × Bool)).1) == 1))) rfl rfl hF rfl (run_move rfl (hF.ev rfl)) ?_; clear hF; intro a hF
              refine op_gv (v := .slice B106 p102.2.2.2.2.2.length d108) rfl rfl hF rfl (yt (gw_yield hF rfl rfl rfl)) (fun hg => (run_move rfl (hF.ev rfl))) ?_; clear hF; intro a hF
              refine op_gv (v := .slice B137 p133.2.2.2.2.2.length d139) rfl rfl hF rfl (yt (gw_yield hF rfl rfl rfl)) (fun hg => (run_move rfl (hF.ev rfl))) ?_; clear hF; intro a hF
              refine op_gv (v := .int .i64 p145) rfl rfl hF rfl (yt (gw_yield hF rfl rfl rfl)) (fun hg => (run_move rfl (hF.ev rfl))) ?_; clear hF; intro a hF
              obtain ⟨p149, h149, hM144⟩ := bind_ex hM144
              refine op_gcall (v := .bool p149) rfl rfl hF rfl S (yt (gw_yield hF rfl rfl rfl)) (fun hg => (run_call (vs := [.slice B106 p102.2.2.2.2.2.length d108, .slice B137 p133.2.2.2.2.2.length d139, .int .i64 p145]) rfl rfl co19 ⟨((hF.ev rfl).trans (gv_t hg)), ((hF.ev rfl).trans (gv_t hg)), ((hF.ev rfl).trans (gv_t hg)), trivial⟩)) (fun hg => c_laws_selected (x0 := p102.2.2.2.2.2) (x1 := p133.2.2.2.2.2) (x2 := p145) ⟨(S.rc 5 rfl), rfl⟩ ⟨(S.rc 7 rfl), rfl⟩ (gb_t h149 hg)) ?_; clear hF S; intro a u hF S
              refine op_gv (v := .bool (!p149)) rfl rfl hF rfl (yt (gw_yield hF rfl rfl rfl)) (fun hg => (run_not rfl ((hF.ev rfl).trans (gv_t hg)))) ?_; clear hF; intro a hF
              refine op_val (v := .bool (((p133.2.2.2.2.2.getD p145.toNat false) && (((p102.2.2.2.2.2.getD p145.toNat ((0, 0, 0, false) : Int × Int × Int × Bool)).1) == 1)) && (!p149))) rfl rfl hF rfl (run_pick_and rfl (hF.ev rfl) (fun hp => ((hF.ev rfl).trans (gv_t hp))) rfl) ?_; clear hF; intro a hF
              refine wpList_nil ?_
              cases hc150 : (((p133.2.2.2.2.2.getD p145.toNat false) && (((p102.2.2.2.2.2.getD p145.toNat ((0, 0, 0, false) : Int × Int × Int × Bool)).1) == 1)) && (!p149))
              · replace hM144 := bif_f hc150 hM144
                refine cond_f hF rfl hc150 ?_
                refine wp_skip ?_
                refine wp_region_lit ?_
                refine op_val (v := .int .i64 p145) rfl rfl hF rfl (run_move rfl (hF.ev rfl)) ?_; clear hF; intro a hF
                refine op_val (v := .int .i64 (w64 (p145 + 1))) rfl rfl hF rfl (run_add (z := w64 (p145 + 1)) (hF.ev rfl) rfl rfl rfl) ?_; clear hF; intro a hF
                refine op_val (v := .int .i64 (w64 (p145 + 1))) rfl rfl hF rfl (run_assign rfl (hF.ev rfl)) ?_; clear hF; intro a hF
                refine wpList_nil ?_
                exact ⟨f1, Nat.lt_succ_self _, w64 (p145 + 1), hM144, hF.keep _ ⟨rfl, rfl, rfl, rfl, rfl, rfl, trivial⟩, S.sel [0, 1, 2, 3, 4, 5, 6, 7, 8, 9, 10, 11] rfl rfl⟩
              · replace hM144 := bif_t hc150 hM144
                refine cond_t hF rfl hc150 ?_
                refine wp_seq ?_
                refine wp_region_lit ?_
                refine op_val (v := .bool false) rfl rfl hF rfl (run_assign rfl rfl) ?_; clear hF; intro a hF
                refine wpList_nil ?_
                refine wp_ret ?_
                repeat with_reducible (first | refine then_ret ?_ | refine in_ret ?_ | refine in_nrm ?_)
                refine ret1_gw (.inl rfl) hF rfl (res_tmp (hF.ev rfl)) ?_
                obtain rfl := Option.some.inj hM144
                obtain rfl := Option.some.inj hM
                exact ⟨rfl, S.sel [] rfl rfl⟩
          · rintro a u ⟨p142, rfl, hF, S⟩
            replace hM := elim_l hM
            refine wp_seq ?_
            refine wp_region_lit ?_
            refine op_val (v := .slice B114 p110.2.2.2.2.2.length d116) rfl rfl hF rfl (run_move rfl (hF.ev rfl)) ?_; clear hF; intro a hF
            refine op_val (v := .int .i64 (p110.2.2.2.2.2.length : Int)) rfl rfl hF rfl (run_lenL rfl rfl Tryd.underlying23 (hF.ev rfl)) ?_; clear hF; intro a hF
            refine op_val (v := .slice B106 p102.2.2.2.2.2.length d108) rfl rfl hF rfl (run_move rfl (hF.ev rfl)) ?_; clear hF; intro a hF
            refine op_val (v := .int .i64 (p102.2.2.2.2.2.length : Int)) rfl rfl hF rfl (run_lenL rfl rfl Tryd.underlying39 (hF.ev rfl)) ?_; clear hF; intro a hF
            refine op_val (v := .bool ((p110.2.2.2.2.2.length : Int) == (p102.2.2.2.2.2.length : Int))) rfl rfl hF rfl (run_eql (hF.ev rfl) (hF.ev rfl) rfl) ?_; clear hF; intro a hF
            refine op_val (v := .bool ((p110.2.2.2.2.2.length : Int) == (p102.2.2.2.2.2.length : Int))) rfl rfl hF rfl (run_move rfl (hF.ev rfl)) ?_; clear hF; intro a hF
            refine op_gv (v := .agg #[.slice B111 p110.1.length d113, .int .i64 p110.2.1, .int .i64 p110.2.2.1, .bool p110.2.2.2.1, .int .i64 p110.2.2.2.2.1]) rfl rfl hF rfl (yt (gw_yield hF rfl rfl rfl)) (fun hg => (run_loadN rfl ag25 (hF.ev rfl) rfl ((S.free 3 rfl).cells 0 #[.slice B111 p110.1.length d113, .int .i64 p110.2.1, .int .i64 p110.2.2.1, .bool p110.2.2.2.1, .int .i64 p110.2.2.2.2.1] rfl))) ?_; clear hF; intro a hF
            obtain ⟨p151, h151, hM⟩ := bind_ex hM
            refine op_gcall (v := .bool p151) rfl rfl hF rfl S (yt (gw_yield hF rfl rfl rfl)) (fun hg => (run_call (vs := [.agg #[.slice B111 p110.1.length d113, .int .i64 p110.2.1, .int .i64 p110.2.2.1, .bool p110.2.2.2.1, .int .i64 p110.2.2.2.2.1]]) rfl rfl co10 ⟨((hF.ev rfl).trans (gv_t hg)), trivial⟩)) (fun hg => c_impl_PanelValid (x0 := p110.1) (x1 := p110.2.1) (x2 := p110.2.2.1) (x3 := p110.2.2.2.1) (x4 := p110.2.2.2.2.1) ⟨(S.rc 10 rfl), rfl⟩ (gb_t h151 hg)) ?_; clear hF S; intro a u hF S
            refine op_val (v := .bool (((p110.2.2.2.2.2.length : Int) == (p102.2.2.2.2.2.length : Int)) && p151)) rfl rfl hF rfl (run_pick_and rfl (hF.ev rfl) (fun hp => ((hF.ev rfl).trans (gv_t hp))) rfl) ?_; clear hF; intro a hF
            refine op_val (v := .bool (((p110.2.2.2.2.2.length : Int) == (p102.2.2.2.2.2.length : Int)) && p151)) rfl rfl hF rfl (run_assign rfl (hF.ev rfl)) ?_; clear hF; intro a hF
            refine wpList_nil ?_
            refine wp_ret ?_
            repeat with_reducible (first | refine then_ret ?_ | refine in_ret ?_ | refine in_nrm ?_)
            refine ret1_gw (.inl rfl) hF rfl (res_tmp (hF.ev rfl)) ?_
            obtain rfl := Option.some.inj hM
            exact ⟨rfl, S.sel [] rfl rfl⟩
        · replace hM := bif_t hc141 hM
          refine cond_t hF rfl hc141 ?_
          refine wp_seq ?_
          refine wp_region_lit ?_
          refine op_val (v := .bool false) rfl rfl hF rfl (run_assign rfl rfl) ?_; clear hF; intro a hF
          refine wpList_nil ?_
          refine wp_ret ?_
          repeat with_reducible (first | refine then_ret ?_ | refine in_ret ?_ | refine in_nrm ?_)
          refine ret1_gw (.inl rfl) hF rfl (res_tmp (hF.ev rfl)) ?_
          obtain rfl := Option.some.inj hM
          exact ⟨rfl, S.sel [] rfl rfl⟩
    · replace hM := bif_t hc128 hM
      refine cond_t hF rfl hc128 ?_
      refine wp_seq ?_
      refine wp_region_lit ?_
      refine op_val (v := .bool false) rfl rfl hF rfl (run_assign rfl rfl) ?_; clear hF; intro a hF
      refine wpList_nil ?_
      refine wp_ret ?_
      repeat with_reducible (first | refine then_ret ?_ | refine in_ret ?_ | refine in_nrm ?_)
      refine ret1_gw (.inl rfl) hF rfl (res_tmp (hF.ev rfl)) ?_
      obtain rfl := Option.some.inj hM
      exact ⟨rfl, S.sel [] rfl rfl⟩
  · replace hM := bif_t hc101 hM
    refine cond_t hF rfl hc101 ?_
    refine wp_seq ?_
    refine wp_region_lit ?_
    refine op_val (v := .bool true) rfl rfl hF rfl (run_assign rfl rfl) ?_; clear hF; intro a hF
    refine wpList_nil ?_
    refine wp_ret ?_
    repeat with_reducible (first | refine then_ret ?_ | refine in_ret ?_ | refine in_nrm ?_)
    refine ret1_gw (.inl rfl) hF rfl (res_tmp (hF.ev rfl)) ?_
    obtain rfl := Option.some.inj hM
    exact ⟨rfl, S.sel [] rfl rfl⟩

set_option maxHeartbeats 4000000 in
theorem c_spec_DrawOperations {x0 : List Int} {A0 : Option Addr} {n0 c0 : Nat} {w : World} {r : List Bool × Int × Int × Bool × Int × List (Int × Int × Int × Bool)} (h0 : Rt w 1 eU A0 n0 c0 x0) (hM : m_spec_DrawOperations x0 = some r) :
    Calls Tryd.prog 20 #[.slice A0 n0 c0] w (fun e w' => ∃ (B0 : Option Addr) (N0 D0 : Nat) (B1 : Option Addr) (N1 D1 : Nat), e = .returned (.tuple #[.agg #[.slice B0 N0 D0, .int .i64 r.2.1, .int .i64 r.2.2.1, .bool r.2.2.2.1, .int .i64 r.2.2.2.2.1], .slice B1 N1 D1]) ∧ N0 = r.1.length ∧ N1 = r.2.2.2.2.2.length ∧ St w w' [.part 1 (.slice B0 N0 D0) N0 (r.1.flatMap eB), .row 27 4 (.slice B1 N1 D1) N1 (r.2.2.2.2.2.flatMap eCommand)]) := by
  obtain rfl := h0.len
  unfold m_spec_DrawOperations at hM
  refine calls_gw Tryd.func20 Tryd.ntmps20 rfl [(0, .slice A0 x0.length c0)] ⟨rfl, trivial⟩ rfl ?_
  intro a hF
  have S := St.nil w
  refine wp_seq ?_
  refine wp_region_lit ?_
  refine op_new (cs := #[.slice none 0 0, .int .i64 0, .int .i64 0, .bool false, .int .i64 0]) rfl rfl hF rfl S (run_allocZ rfl zr25) ?_; clear hF S; intro a g101 u hF S
  refine op_val (v := .slice none 0 0) rfl rfl hF rfl (run_assign rfl rfl) ?_; clear hF; intro a hF
  refine wpList_nil ?_
  refine wp_seq ?_
  refine wp_region_lit ?_
  refine op_val (v := .slice A0 x0.length c0) rfl rfl hF rfl (run_move rfl (hF.ev rfl)) ?_; clear hF; intro a hF
  obtain ⟨p102, h102, hM⟩ := bind_ex hM
  refine op_call rfl rfl hF rfl (run_call (vs := [.slice A0 x0.length c0]) rfl rfl co14 ⟨(hF.ev rfl), trivial⟩) (c_spec_DrawPanelRun (x0 := x0) ⟨(S.rc0 h0.rc), rfl⟩ h102) ?_
  rintro e u ⟨B103, n104, d105, B106, n107, d108, rfl, rfl, rfl, T⟩
  refine ⟨_, rfl, ?_⟩
  clear hF; intro a hF
  replace S := S.call2 T; clear T
  refine op_val (v := .agg #[.slice B103 p102.1.length d105, .int .i64 p102.2.1, .int .i64 p102.2.2.1, .bool p102.2.2.2.1, .int .i64 p102.2.2.2.2.1]) rfl rfl hF rfl (run_extract rfl (hF.ev rfl) rfl) ?_; clear hF; intro a hF
  refine op_val (v := .slice B106 p102.2.2.2.2.2.length d108) rfl rfl hF rfl (run_extract rfl (hF.ev rfl) rfl) ?_; clear hF; intro a hF
  refine op_do rfl rfl (run_store (cs' := #[.slice B103 p102.1.length d105, .int .i64 p102.2.1, .int .i64 p102.2.2.1, .bool p102.2.2.2.1, .int .i64 p102.2.2.2.2.1]) rfl sz25 (hF.ev rfl) (hF.ev rfl) rfl rfl rfl (S.free 2 rfl) rfl rfl) ?_; replace S := S.put 2 rfl (#[.slice B103 p102.1.length d105, .int .i64 p102.2.1, .int .i64 p102.2.2.1, .bool p102.2.2.2.1, .int .i64 p102.2.2.2.2.1])
  generalize World.setRow _ _ _ = u at S ⊢
  refine op_val (v := .slice B106 p102.2.2.2.2.2.length d108) rfl rfl hF rfl (run_assign rfl (hF.ev rfl)) ?_; clear hF; intro a hF
  refine wpList_nil ?_
  refine wp_ret ?_
  repeat with_reducible (first | refine then_ret ?_ | refine in_ret ?_ | refine in_nrm ?_)
  refine ret2_gw (.inl rfl) hF rfl (res_cell (hF.ev rfl) (res_loadN ag25 rfl (S.cells 2 rfl 0 #[.slice B103 p102.1.length d105, .int .i64 p102.2.1, .int .i64 p102.2.2.1, .bool p102.2.2.2.1, .int .i64 p102.2.2.2.2.1] rfl))) (res_tmp (hF.ev rfl)) ?_
  obtain rfl := Option.some.inj hM
  exact ⟨B103, p102.1.length, d105, B106, p102.2.2.2.2.2.length, d108, rfl, rfl, rfl, S.sel [0, 1] rfl rfl⟩

set_option maxHeartbeats 4000000 in
theorem c_impl_Operations {x0 : List Bool} {x1 : Int} {x2 : Int} {x3 : Bool} {x4 : Int} {x5 : List (Int × Int × Int × Bool)} {A0 : Option Addr} {n0 c0 : Nat} {A5 : Option Addr} {n5 c5 : Nat} {w : World} {r : List (Int × Bool)} (h0 : Rt w 1 eB A0 n0 c0 x0) (h5 : Rt w 4 eCommand A5 n5 c5 x5) (hM : m_impl_Operations x0 x1 x2 x3 x4 x5 = some r) :
    Calls Tryd.prog 21 #[.agg #[.slice A0 n0 c0, .int .i64 x1, .int .i64 x2, .bool x3, .int .i64 x4], .slice A5 n5 c5] w (fun e w' => ∃ (B0 : Option Addr) (N0 D0 : Nat), e = .returned (.slice B0 N0 D0) ∧ N0 = r.length ∧ St w w' [.row 50 2 (.slice B0 N0 D0) N0 (r.flatMap eStep)]) := by
  obtain rfl := h0.len
  obtain rfl := h5.len
  unfold m_impl_Operations at hM
  refine calls_gw Tryd.func21 Tryd.ntmps21 rfl [(0, .agg #[.slice A0 x0.length c0, .int .i64 x1, .int .i64 x2, .bool x3, .int .i64 x4]), (1, .slice A5 x5.length c5)] ⟨rfl, rfl, trivial⟩ rfl ?_
  intro a hF
  have S := St.nil w
  refine wp_seq ?_
  refine wp_region_lit ?_
  refine op_new (cs := #[.slice A0 x0.length c0, .int .i64 x1, .int .i64 x2, .bool x3, .int .i64 x4]) rfl rfl hF rfl S (run_box rfl (hF.ev rfl) rfl) ?_; clear hF S; intro a g101 u hF S
  refine op_val (v := .slice none 0 0) rfl rfl hF rfl (run_assign rfl rfl) ?_; clear hF; intro a hF
  refine wpList_nil ?_
  refine wp_seq ?_
  refine wp_region_lit ?_
  refine op_val (v := .agg #[.slice A0 x0.length c0, .int .i64 x1, .int .i64 x2, .bool x3, .int .i64 x4]) rfl rfl hF rfl (run_loadN rfl ag25 (hF.ev rfl) rfl ((S.free 0 rfl).cells 0 #[.slice A0 x0.length c0, .int .i64 x1, .int .i64 x2, .bool x3, .int .i64 x4] rfl)) ?_; clear hF; intro a hF
  refine op_val (v := .slice A5 x5.length c5) rfl rfl hF rfl (run_move rfl (hF.ev rfl)) ?_; clear hF; intro a hF
  obtain ⟨p102, h102, hM⟩ := bind_ex hM
  refine op_call rfl rfl hF rfl (run_call (vs := [.agg #[.slice A0 x0.length c0, .int .i64 x1, .int .i64 x2, .bool x3, .int .i64 x4], .slice A5 x5.length c5]) rfl rfl co15 ⟨(hF.ev rfl), (hF.ev rfl), trivial⟩) (c_impl_PanelRun (x0 := x0) (x1 := x1) (x2 := x2) (x3 := x3) (x4 := x4) (x5 := x5) ⟨(S.rc0 h0.rc), rfl⟩ ⟨(S.rc0 h5.rc), rfl⟩ h102) ?_
  rintro e u ⟨B103, n104, d105, B106, n107, d108, rfl, rfl, rfl, T⟩
  refine ⟨_, rfl, ?_⟩
  clear hF; intro a hF
  replace S := S.call2 T; clear T
  refine op_val (v := .tuple #[.agg #[.slice B103 p102.1.length d105, .int .i64 p102.2.1, .int .i64 p102.2.2.1, .bool p102.2.2.2.1, .int .i64 p102.2.2.2.2.1], .slice B106 p102.2.2.2.2.2.length d108]) rfl rfl hF rfl (run_move rfl (hF.ev rfl)) ?_; clear hF; intro a hF
  refine op_val (v := .agg #[.slice B103 p102.1.length d105, .int .i64 p102.2.1, .int .i64 p102.2.2.1, .bool p102.2.2.2.1, .int .i64 p102.2.2.2.2.1]) rfl rfl hF rfl (run_extract rfl (hF.ev rfl) rfl) ?_; clear hF; intro a hF
  refine op_val (v := .slice B106 p102.2.2.2.2.2.length d108) rfl rfl hF rfl (run_extract rfl (hF.ev rfl) rfl) ?_; clear hF; intro a hF
  refine op_new (cs := #[.slice none 0 0, .int .i64 0, .int .i64 0, .bool false, .int .i64 0]) rfl rfl hF rfl S (run_allocZ rfl zr25) ?_; clear hF S; intro a g109 u hF S
  refine op_do rfl rfl (run_store (cs' := #[.slice B103 p102.1.length d105, .int .i64 p102.2.1, .int .i64 p102.2.2.1, .bool p102.2.2.2.1, .int .i64 p102.2.2.2.2.1]) rfl sz25 (hF.ev rfl) (hF.ev rfl) rfl rfl rfl (S.free 0 rfl) rfl rfl) ?_; replace S := S.put 0 rfl (#[.slice B103 p102.1.length d105, .int .i64 p102.2.1, .int .i64 p102.2.2.1, .bool p102.2.2.2.1, .int .i64 p102.2.2.2.2.1])
  generalize World.setRow _ _ _ = u at S ⊢
  refine op_val (v := .slice B106 p102.2.2.2.2.2.length d108) rfl rfl hF rfl (run_assign rfl (hF.ev rfl)) ?_; clear hF; intro a hF
  refine wpList_nil ?_
  refine wp_seq ?_
  refine wp_region_lit ?_
  refine op_val (v := .slice none 0 0) rfl rfl hF rfl (run_assign rfl rfl) ?_; clear hF; intro a hF
  refine wpList_nil ?_
  refine wp_seq ?_
  refine wp_seq ?_
  refine wp_region_lit ?_
  refine op_val (v := .slice A5 x5.length c5) rfl rfl hF rfl (run_move rfl (hF.ev rfl)) ?_; clear hF; intro a hF
  refine op_val (v := .int .i64 (x5.length : Int)) rfl rfl hF rfl (run_lenL rfl rfl Tryd.underlying39 (hF.ev rfl)) ?_; clear hF; intro a hF
  refine op_val (v := .int .i64 0) rfl rfl hF rfl (run_move rfl rfl) ?_; clear hF; intro a hF
  refine wpList_nil ?_
  obtain ⟨o111, hM114, hM⟩ := bind_ex hM
  refine wp_cut (fun a u => ∃ (p110 : List (Int × Bool)) (B112 : Option Addr) (d113 : Nat), p110 = o111 ∧ Fr a 48 [(4, .slice none 0 0), (7, .slice B112 p110.length d113)] ∧ St w u [.box g109 25 #[.slice B103 p102.1.length d105, .int .i64 p102.2.1, .int .i64 p102.2.2.1, .bool p102.2.2.2.1, .int .i64 p102.2.2.2.2.1], .box g101 25 #[.slice A0 x0.length c0, .int .i64 x1, .int .i64 x2, .bool x3, .int .i64 x4], .row 50 2 (.slice B112 p110.length d113) p110.length (p110.flatMap eStep), .row 4 1 (.slice B103 p102.1.length d105) p102.1.length (p102.1.flatMap eB)]) ?_ ?_
  · have _ := trivial
    refine wp_block ?_
    replace S := S.nilrow 50 2
    refine loop_gw (fun m a u => ∃ (p115 : List (Int × Bool) × Int) (B116 : Option Addr) (d117 : Nat), m_impl_Operations_l1 x5 p102 m p115 = some _ ∧ Fr a 48 [(4, .slice none 0 0), (6, .slice B106 p102.2.2.2.2.2.length d108), (7, .slice B116 p115.1.length d117), (16, .slice A5 x5.length c5), (17, .int .i64 (x5.length : Int)), (18, .int .i64 p115.2)] ∧ St w u [.box g109 25 #[.slice B103 p102.1.length d105, .int .i64 p102.2.1, .int .i64 p102.2.2.1, .bool p102.2.2.2.1, .int .i64 p102.2.2.2.2.1], .box g101 25 #[.slice A0 x0.length c0, .int .i64 x1, .int .i64 x2, .bool x3, .int .i64 x4], .row 4 1 (.slice B106 p102.2.2.2.2.2.length d108) p102.2.2.2.2.2.length (p102.2.2.2.2.2.flatMap eB), .row 50 2 (.slice B116 p115.1.length d117) p115.1.length (p115.1.flatMap eStep), .row 4 1 (.slice B103 p102.1.length d105) p102.1.length (p102.1.flatMap eB)]) FUEL ⟨(([] : List (Int × Bool)), 0), none, 0, hM114, hF.keep _ ⟨rfl, rfl, rfl, rfl, rfl, rfl, trivial⟩, S.sel [1, 4, 3, 0, 2] rfl rfl⟩ ?_
    clear hF S hM114; rintro m a u ⟨p115, B116, d117, hM114, hF, S⟩
    rcases m with _ | f1
    · exact none_some hM114
    rw [m_impl_Operations_l1.eq_2] at hM114
    refine wp_seq ?_
    refine wp_region_lit ?_
    refine op_val (v := .bool (ltB p115.2 (x5.length : Int))) rfl rfl hF rfl (run_lss (hF.ev rfl) (hF.ev rfl) rfl) ?_; clear hF; intro a hF
    refine wpList_nil ?_
    refine wp_seq ?_
    cases hc118 : (ltB p115.2 (x5.length : Int))
    · replace hM114 := bif_f hc118 hM114
      refine cond_f hF rfl hc118 ?_
      refine wp_exit ?_
      repeat with_reducible (first | refine then_exit ?_ | refine in_hit ?_ | refine in_miss rfl ?_)
      obtain rfl := Option.some.inj hM114
      exact ⟨p115.1, B116, d117, rfl, hF.keep _ ⟨rfl, rfl, trivial⟩, S.sel [0, 1, 3, 4] rfl rfl⟩
    · replace hM114 := bif_t hc118 hM114
      refine cond_t hF rfl hc118 ?_
      refine wp_skip ?_
      refine wp_seq ?_
      refine wp_block ?_
      refine wp_seq ?_
      refine wp_region_lit ?_
      refine op_val (v := .int .i64 p115.2) rfl rfl hF rfl (run_move rfl (hF.ev rfl)) ?_; clear hF; intro a hF
      obtain ⟨hk119, hM114⟩ := chk_ex hM114
      replace hk119 := ixB_t hk119
      refine op_val (v := .pointer (some ⟨adB A5, adO A5 + p115.2.toNat * 4, none⟩)) rfl rfl hF rfl (run_indexAddr (b := adB A5) (off := adO A5) rfl Tryd.underlying39 sz27 ((hF.ev rfl).trans (congrArg (fun A => Value.slice A x5.length c5) ((S.rc0 h5.rc).rd.ad (ix_pos hk119)))) (hF.ev rfl) hk119.1 hk119.2 (k' := adO A5 + p115.2.toNat * 4) rfl) ?_; clear hF; intro a hF
      refine op_val (v := .agg #[.int .i64 ((x5.getD p115.2.toNat ((0, 0, 0, false) : Int × Int × Int × Bool)).1), .int .i64 ((x5.getD p115.2.toNat ((0, 0, 0, false) : Int × Int × Int × Bool)).2.1), .int .i64 ((x5.getD p115.2.toNat ((0, 0, 0, false) : Int × Int × Int × Bool)).2.2.1), .bool ((x5.getD p115.2.toNat ((0, 0, 0, false) : Int × Int × Int × Bool)).2.2.2)]) rfl rfl hF rfl (run_loadN (cs := #[.int .i64 ((x5.getD p115.2.toNat ((0, 0, 0, false) : Int × Int × Int × Bool)).1), .int .i64 ((x5.getD p115.2.toNat ((0, 0, 0, false) : Int × Int × Int × Bool)).2.1), .int .i64 ((x5.getD p115.2.toNat ((0, 0, 0, false) : Int × Int × Int × Bool)).2.2.1), .bool ((x5.getD p115.2.toNat ((0, 0, 0, false) : Int × Int × Int × Bool)).2.2.2)]) rfl ag27 (hF.ev rfl) rfl (rd_elN (l := x5) (S.rc0 h5.rc).rd rfl eCommand_len ((0, 0, 0, false) : Int × Int × Int × Bool) (ix_ltn hk119 rfl) rfl)) ?_; clear hF; intro a hF
      refine op_new (cs := #[.int .i64 0, .int .i64 0, .int .i64 0, .bool false]) rfl rfl hF rfl S (run_allocZ rfl zr27) ?_; clear hF S; intro a g120 u hF S
      refine op_val (v := .int .i64 p115.2) rfl rfl hF rfl (run_assign rfl (hF.ev rfl)) ?_; clear hF; intro a hF
      refine op_do rfl rfl (run_store (cs' := #[.int .i64 ((x5.getD p115.2.toNat ((0, 0, 0, false) : Int × Int × Int × Bool)).1), .int .i64 ((x5.getD p115.2.toNat ((0, 0, 0, false) : Int × Int × Int × Bool)).2.1), .int .i64 ((x5.getD p115.2.toNat ((0, 0, 0, false) : Int × Int × Int × Bool)).2.2.1), .bool ((x5.getD p115.2.toNat ((0, 0, 0, false) : Int × Int × Int × Bool)).2.2.2)]) rfl sz27 (hF.ev rfl) (hF.ev rfl) rfl rfl rfl (S.free 0 rfl) rfl rfl) ?_; replace S := S.put 0 rfl (#[.int .i64 ((x5.getD p115.2.toNat ((0, 0, 0, false) : Int × Int × Int × Bool)).1), .int .i64 ((x5.getD p115.2.toNat ((0, 0, 0, false) : Int × Int × Int × Bool)).2.1), .int .i64 ((x5.getD p115.2.toNat ((0, 0, 0, false) : Int × Int × Int × Bool)).2.2.1), .bool ((x5.getD p115.2.toNat ((0, 0, 0, false) : Int × Int × Int × Bool)).2.2.2)])
      generalize World.setRow _ _ _ = u at S ⊢
      refine wpList_nil ?_
      refine wp_seq ?_
      refine wp_region_lit ?_
      refine op_val (v := .slice B106 p102.2.2.2.2.2.length d108) rfl rfl hF rfl (run_move rfl (hF.ev rfl)) ?_; clear hF; intro a hF
      refine op_val (v := .int .i64 (p102.2.2.2.2.2.length : Int)) rfl rfl hF rfl (run_lenL rfl rfl Tryd.underlying23 (hF.ev rfl)) ?_; clear hF; intro a hF
      refine op_val (v := .int .i64 p115.2) rfl rfl hF rfl (run_move rfl (hF.ev rfl)) ?_; clear hF; intro a hF
      refine op_val (v := .bool (ltB p115.2 (p102.2.2.2.2.2.length : Int))) rfl rfl hF rfl (run_gtr (hF.ev rfl) (hF.ev rfl) rfl) ?_; clear hF; intro a hF
      refine op_val (v := .bool (ltB p115.2 (p102.2.2.2.2.2.length : Int))) rfl rfl hF rfl (run_move rfl (hF.ev rfl)) ?_; clear hF; intro a hF
      refine op_gv (v := .slice B106 p102.2.2.2.2.2.length d108) rfl rfl hF rfl (yt (gw_yield hF rfl rfl rfl)) (fun hg => (run_move rfl (hF.ev rfl))) ?_; clear hF; intro a hF
      refine op_gv (v := .int .i64 p115.2) rfl rfl hF rfl (yt (gw_yield hF rfl rfl rfl)) (fun hg => (run_move rfl (hF.ev rfl))) ?_; clear hF; intro a hF
      obtain ⟨hk121, hM114⟩ := chk_ex hM114
      replace hk121 := fun hg => ixB_t (imp_t hk121 hg)
      refine op_gv (v := .pointer (some ⟨adB B106, adO B106 + p115.2.toNat * 1, none⟩)) rfl rfl hF rfl (yt (gw_yield hF rfl rfl rfl)) (fun hg => (run_indexAddr (b := adB B106) (off := adO B106) rfl Tryd.underlying23 sz4 (((hF.ev rfl).trans (gv_t hg)).trans (congrArg (fun A => Value.slice A p102.2.2.2.2.2.length d108) ((S.rc 3 rfl).rd.ad (ix_pos (hk121 hg))))) ((hF.ev rfl).trans (gv_t hg)) (hk121 hg).1 (hk121 hg).2 (k' := adO B106 + p115.2.toNat * 1) rfl)) ?_; clear hF; intro a hF
      refine op_gv (v := .bool (p102.2.2.2.2.2.getD p115.2.toNat false)) rfl rfl hF rfl (yt (gw_yield hF rfl rfl rfl)) (fun hg => (run_load1 rfl one4 ((hF.ev rfl).trans (gv_t hg)) (rd_el0 (l := p102.2.2.2.2.2) (S.rc 3 rfl).rd rfl eB_len false (ix_ltn (hk121 hg) rfl) rfl))) ?_; clear hF; intro a hF
      refine op_val (v := .bool ((ltB p115.2 (p102.2.2.2.2.2.length : Int)) && (p102.2.2.2.2.2.getD p115.2.toNat false))) rfl rfl hF rfl (run_pick_and rfl (hF.ev rfl) (fun hp => ((hF.ev rfl).trans (gv_t hp))) rfl) ?_; clear hF; intro a hF
      refine op_val (v := .bool ((ltB p115.2 (p102.2.2.2.2.2.length : Int)) && (p102.2.2.2.2.2.getD p115.2.toNat false))) rfl rfl hF rfl (run_move rfl (hF.ev rfl)) ?_; clear hF; intro a hF
      refine op_gv (v := .pointer (some ⟨g120, 0, none⟩)) rfl rfl hF rfl (yt (gw_yield hF rfl rfl rfl)) (fun hg => (run_fieldAddr rfl fl27_0 (hF.ev rfl) rfl)) ?_; clear hF; intro a hF
      refine op_gv (v := .int .i64 ((x5.getD p115.2.toNat ((0, 0, 0, false) : Int × Int × Int × Bool)).1)) rfl rfl hF rfl (yt (gw_yield hF rfl rfl rfl)) (fun hg => (run_load1 rfl one3 ((hF.ev rfl).trans (gv_t hg)) ((S.free 0 rfl).cell rfl))) ?_; clear hF; intro a hF
      refine op_gv (v := .bool (((x5.getD p115.2.toNat ((0, 0, 0, false) : Int × Int × Int × Bool)).1) == 1)) rfl rfl hF rfl (yt (gw_yield hF rfl rfl rfl)) (fun hg => (run_eql ((hF.ev rfl).trans (gv_t hg)) rfl rfl)) ?_; clear hF; intro a hF
      refine op_val (v := .bool (((ltB p115.2 (p102.2.2.2.2.2.length : Int)) && (p102.2.2.2.2.2.getD p115.2.toNat false)) && (((x5.getD p115.2.toNat ((0, 0, 0, false) : Int × Int × Int × Bool)).1) == 1))) rfl rfl hF rfl (run_pick_and rfl (hF.ev rfl) (fun hp => ((hF.ev rfl).trans (gv_t hp))) rfl) ?_; clear hF; intro a hF
      refine wpList_nil ?_
      obtain ⟨o123, hM126, hM114⟩ := bind_ex hM114
      refine wp_cut (fun a u => ∃ (p122 : List (Int × Bool)) (B124 : Option Addr) (d125 : Nat), p122 = o123 ∧ Fr a 48 [(4, .slice none 0 0), (6, .slice B106 p102.2.2.2.2.2.length d108), (7, .slice B124 p122.length d125), (16, .slice A5 x5.length c5), (17, .int .i64 (x5.length : Int)), (18, .int .i64 p115.2)] ∧ St w u [.box g120 27 #[.int .i64 ((x5.getD p115.2.toNat ((0, 0, 0, false) : Int × Int × Int × Bool)).1), .int .i64 ((x5.getD p115.2.toNat ((0, 0, 0, false) : Int × Int × Int × Bool)).2.1), .int .i64 ((x5.getD p115.2.toNat ((0, 0, 0, false) : Int × Int × Int × Bool)).2.2.1), .bool ((x5.getD p115.2.toNat ((0, 0, 0, false) : Int × Int × Int × Bool)).2.2.2)], .box g109 25 #[.slice B103 p102.1.length d105, .int .i64 p102.2.1, .int .i64 p102.2.2.1, .bool p102.2.2.2.1, .int .i64 p102.2.2.2.2.1], .box g101 25 #[.slice A0 x0.length c0, .int .i64 x1, .int .i64 x2, .bool x3, .int .i64 x4], .row 4 1 (.slice B106 p102.2.2.2.2.2.length d108) p102.2.2.2.2.2.length (p102.2.2.2.2.2.flatMap eB), .row 50 2 (.slice B124 p122.length d125) p122.length (p122.flatMap eStep), .row 4 1 (.slice B103 p102.1.length d105) p102.1.length (p102.1.flatMap eB)]) ?_ ?_
      · have _ := trivial
        cases hc127 : (((ltB p115.2 (p102.2.2.2.2.2.length : Int)) && (p102.2.2.2.2.2.getD p115.2.toNat false)) && (((x5.getD p115.2.toNat ((0, 0, 0, false) : Int × Int × Int × Bool)).1) == 1))
        · replace hM126 := bif_f hc127 hM126
          refine cond_f hF rfl hc127 ?_
          refine wp_skip ?_
          obtain rfl := Option.some.inj hM126
          exact ⟨p115.1, B116, d117, rfl, hF.keep _ ⟨rfl, rfl, rfl, rfl, rfl, rfl, trivial⟩, S.sel [0, 1, 2, 3, 4, 5] rfl rfl⟩
        · replace hM126 := bif_t hc127 hM126
          refine cond_t hF rfl hc127 ?_
          refine wp_region_lit ?_
          refine op_val (v := .slice B116 p115.1.length d117) rfl rfl hF rfl (run_move rfl (hF.ev rfl)) ?_; clear hF; intro a hF
          refine op_val (v := .pointer (some ⟨g120, 2, none⟩)) rfl rfl hF rfl (run_fieldAddr rfl fl27_2 (hF.ev rfl) rfl) ?_; clear hF; intro a hF
          refine op_val (v := .int .i64 ((x5.getD p115.2.toNat ((0, 0, 0, false) : Int × Int × Int × Bool)).2.2.1)) rfl rfl hF rfl (run_load1 rfl one3 (hF.ev rfl) ((S.free 0 rfl).cell rfl)) ?_; clear hF; intro a hF
          refine op_val (v := .pointer (some ⟨g120, 3, none⟩)) rfl rfl hF rfl (run_fieldAddr rfl fl27_3 (hF.ev rfl) rfl) ?_; clear hF; intro a hF
          refine op_val (v := .bool ((x5.getD p115.2.toNat ((0, 0, 0, false) : Int × Int × Int × Bool)).2.2.2)) rfl rfl hF rfl (run_load1 rfl one4 (hF.ev rfl) ((S.free 0 rfl).cell rfl)) ?_; clear hF; intro a hF
          refine op_val (v := .agg #[.int .i64 ((x5.getD p115.2.toNat ((0, 0, 0, false) : Int × Int × Int × Bool)).2.2.1), .bool ((x5.getD p115.2.toNat ((0, 0, 0, false) : Int × Int × Int × Bool)).2.2.2)]) rfl rfl hF rfl (run_build (vs := [(0, .int .i64 ((x5.getD p115.2.toNat ((0, 0, 0, false) : Int × Int × Int × Bool)).2.2.1)), (1, .bool ((x5.getD p115.2.toNat ((0, 0, 0, false) : Int × Int × Int × Bool)).2.2.2))]) rfl ⟨⟨rfl, (hF.ev rfl)⟩, ⟨rfl, (hF.ev rfl)⟩, trivial⟩ (bd50_0_1 rfl rfl)) ?_; clear hF; intro a hF
          refine op_newrowL (ls := ([((x5.getD p115.2.toNat ((0, 0, 0, false) : Int × Int × Int × Bool)).2.2.1, (x5.getD p115.2.toNat ((0, 0, 0, false) : Int × Int × Int × Bool)).2.2.2)] : List (Int × Bool))) (e := eStep) rfl rfl hF rfl S (run_buildS (vs := [(0, .agg #[.int .i64 ((x5.getD p115.2.toNat ((0, 0, 0, false) : Int × Int × Int × Bool)).2.2.1), .bool ((x5.getD p115.2.toNat ((0, 0, 0, false) : Int × Int × Int × Bool)).2.2.2)])]) rfl ⟨⟨rfl, (hF.ev rfl)⟩, trivial⟩ (bs46_1_2 )) rfl eStep_len (Nat.le_of_ble_eq_true rfl) ?_; clear hF S; intro a g128 u hF S
          obtain ⟨hk131, hM126⟩ := chk_ex hM126
          replace hk131 := apB_t hk131
          refine op_appendL (lx := p115.1) (ly := [((x5.getD p115.2.toNat ((0, 0, 0, false) : Int × Int × Int × Bool)).2.2.1, (x5.getD p115.2.toNat ((0, 0, 0, false) : Int × Int × Int × Bool)).2.2.2)]) rfl rfl hF rfl S rfl (hF.ev rfl) (hF.ev rfl) (i := 5) rfl rfl Tryd.underlying46 inf50 rfl (by decide) (S.rc 0 rfl).rd rfl eStep_one hk131 (by decide) ?_; clear hF S; intro a B129 d130 u hF S
          refine op_val (v := .slice B129 ((p115.1 ++ ([((x5.getD p115.2.toNat ((0, 0, 0, false) : Int × Int × Int × Bool)).2.2.1, (x5.getD p115.2.toNat ((0, 0, 0, false) : Int × Int × Int × Bool)).2.2.2)])).length) d130) rfl rfl hF rfl (run_assign rfl (hF.ev rfl)) ?_; clear hF; intro a hF
          refine wpList_nil ?_
          obtain rfl := Option.some.inj hM126
          exact ⟨p115.1 ++ ([((x5.getD p115.2.toNat ((0, 0, 0, false) : Int × Int × Int × Bool)).2.2.1, (x5.getD p115.2.toNat ((0, 0, 0, false) : Int × Int × Int × Bool)).2.2.2)]), B129, d130, rfl, hF.keep _ ⟨rfl, rfl, rfl, rfl, rfl, rfl, trivial⟩, S.sel [1, 2, 3, 4, 5, 6] rfl rfl⟩
      · rintro a u ⟨p122, B124, d125, rfl, hF, S⟩
        refine wp_region_lit ?_
        refine op_val (v := .int .i64 (w64 (p115.2 + 1))) rfl rfl hF rfl (run_add (z := w64 (p115.2 + 1)) (hF.ev rfl) rfl rfl rfl) ?_; clear hF; intro a hF
        refine op_val (v := .int .i64 (w64 (p115.2 + 1))) rfl rfl hF rfl (run_move rfl (hF.ev rfl)) ?_; clear hF; intro a hF
        refine wpList_nil ?_
        exact ⟨f1, Nat.lt_succ_self _, (p122, w64 (p115.2 + 1)), B124, d125, hM114, hF.keep _ ⟨rfl, rfl, rfl, rfl, rfl, rfl, trivial⟩, S.sel [1, 2, 3, 4, 5] rfl rfl⟩
  · rintro a u ⟨p110, B112, d113, rfl, hF, S⟩
    refine wp_seq ?_
    refine wp_region_lit ?_
    refine op_val (v := .slice B112 p110.length d113) rfl rfl hF rfl (run_move rfl (hF.ev rfl)) ?_; clear hF; intro a hF
    refine op_val (v := .slice B112 p110.length d113) rfl rfl hF rfl (run_assign rfl (hF.ev rfl)) ?_; clear hF; intro a hF
    refine wpList_nil ?_
    refine wp_ret ?_
    repeat with_reducible (first | refine then_ret ?_ | refine in_ret ?_ | refine in_nrm ?_)
    refine ret1_gw (.inl rfl) hF rfl (res_tmp (hF.ev rfl)) ?_
    obtain rfl := Option.some.inj hM
    exact ⟨B112, p110.length, d113, rfl, rfl, S.sel [2] rfl rfl⟩

end Go.Proofs.YtapkaobelejkkaaDoor
