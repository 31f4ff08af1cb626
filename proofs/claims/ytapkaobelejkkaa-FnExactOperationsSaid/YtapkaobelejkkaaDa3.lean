/- Calls return what the models say. -/
import Derived.Test.YtapkaobelejkkaaDa2
namespace Go.Proofs.Ytapkaobelejkkaa
open Go.ChangeShapes Go.WideShapes Go.ChangeAt Go.RowKit
set_option linter.unusedVariables false
set_option linter.unusedSimpArgs false

set_option maxHeartbeats 4000000 in
theorem c_spec_PanelRun {x0 : List Bool} {x1 : Int} {x2 : Int} {x3 : Bool} {x4 : Int} {x5 : List (Int × Int × Int × Bool)} {A0 : Option Addr} {n0 c0 : Nat} {A5 : Option Addr} {n5 c5 : Nat} {w : World} {r : List Bool × Int × Int × Bool × Int × List Bool} (h0 : Rt w 1 eB A0 n0 c0 x0) (h5 : Rt w 4 eCommand A5 n5 c5 x5) (hM : m_spec_PanelRun x0 x1 x2 x3 x4 x5 = some r) :
    Calls Try.prog 15 #[.agg #[.slice A0 n0 c0, .int .i64 x1, .int .i64 x2, .bool x3, .int .i64 x4], .slice A5 n5 c5] w (fun e w' => ∃ (B0 : Option Addr) (N0 D0 : Nat) (B1 : Option Addr) (N1 D1 : Nat), e = .returned (.tuple #[.agg #[.slice B0 N0 D0, .int .i64 r.2.1, .int .i64 r.2.2.1, .bool r.2.2.2.1, .int .i64 r.2.2.2.2.1], .slice B1 N1 D1]) ∧ N0 = r.1.length ∧ N1 = r.2.2.2.2.2.length ∧ St w w' [.row 4 1 (.slice B0 N0 D0) N0 (r.1.flatMap eB), .row 4 1 (.slice B1 N1 D1) N1 (r.2.2.2.2.2.flatMap eB)]) := by
  obtain rfl := h0.len
  obtain rfl := h5.len
  unfold m_spec_PanelRun at hM
  refine calls_gw Try.func15 Try.ntmps15 rfl [(0, .agg #[.slice A0 x0.length c0, .int .i64 x1, .int .i64 x2, .bool x3, .int .i64 x4]), (1, .slice A5 x5.length c5)] ⟨rfl, rfl, trivial⟩ rfl ?_
  intro a hF
  have S := St.nil w
  refine wp_seq ?_
  refine wp_region_lit ?_
  refine op_new (cs := #[.slice A0 x0.length c0, .int .i64 x1, .int .i64 x2, .bool x3, .int .i64 x4]) rfl rfl hF rfl S (run_box rfl (hF.ev rfl) rfl) ?_; clear hF S; intro a g101 u hF S
  refine op_new (cs := #[.slice none 0 0, .int .i64 0, .int .i64 0, .bool false, .int .i64 0]) rfl rfl hF rfl S (run_allocZ rfl zr28) ?_; clear hF S; intro a g102 u hF S
  refine op_val (v := .slice none 0 0) rfl rfl hF rfl (run_assign rfl rfl) ?_; clear hF; intro a hF
  refine wpList_nil ?_
  refine wp_seq ?_
  refine wp_region_lit ?_
  refine op_newrow (cs := #[]) (size := 1) rfl rfl hF rfl S (run_buildSlice0 rfl Try.underlying22 rfl) rfl (Nat.zero_le _) ?_; clear hF S; intro a g103 u hF S
  refine op_val (v := .slice (some ⟨g103, 0, none⟩) 0 0) rfl rfl hF rfl (run_assign rfl (hF.ev rfl)) ?_; clear hF; intro a hF
  refine wpList_nil ?_
  refine wp_seq ?_
  refine wp_seq ?_
  refine wp_region_lit ?_
  refine op_val (v := .agg #[.slice A0 x0.length c0, .int .i64 x1, .int .i64 x2, .bool x3, .int .i64 x4]) rfl rfl hF rfl (run_loadN rfl ag28 (hF.ev rfl) rfl ((S.free 2 rfl).cells 0 #[.slice A0 x0.length c0, .int .i64 x1, .int .i64 x2, .bool x3, .int .i64 x4] rfl)) ?_; clear hF; intro a hF
  obtain ⟨p104, h104, hM⟩ := bind_ex hM
  refine op_call rfl rfl hF rfl (run_call (vs := [.agg #[.slice A0 x0.length c0, .int .i64 x1, .int .i64 x2, .bool x3, .int .i64 x4]]) rfl rfl co29 ⟨(hF.ev rfl), trivial⟩) (c_spec_PanelValid (x0 := x0) (x1 := x1) (x2 := x2) (x3 := x3) (x4 := x4) ⟨(S.rc0 h0.rc), rfl⟩ h104) ?_
  rintro e u ⟨rfl, T⟩
  refine ⟨_, rfl, ?_⟩
  clear hF; intro a hF
  replace S := S.call0 T; clear T
  refine op_val (v := .bool (!p104)) rfl rfl hF rfl (run_not rfl (hF.ev rfl)) ?_; clear hF; intro a hF
  refine wpList_nil ?_
  cases hc105 : (p104)
  · replace hM := bif_f hc105 hM
    refine cond_t hF rfl (not_t hc105) ?_
    refine wp_seq ?_
    refine wp_region_lit ?_
    refine op_val (v := .agg #[.slice none 0 0, .int .i64 0, .int .i64 0, .bool false, .int .i64 0]) rfl rfl hF rfl (run_build (vs := []) rfl trivial (bd28 )) ?_; clear hF; intro a hF
    refine op_val (v := .slice (some ⟨g103, 0, none⟩) 0 0) rfl rfl hF rfl (run_move rfl (hF.ev rfl)) ?_; clear hF; intro a hF
    refine op_do rfl rfl (run_store (cs' := #[.slice none 0 0, .int .i64 0, .int .i64 0, .bool false, .int .i64 0]) rfl sz28 (hF.ev rfl) (hF.ev rfl) rfl rfl rfl (S.free 1 rfl) rfl rfl) ?_; replace S := S.put 1 rfl (#[.slice none 0 0, .int .i64 0, .int .i64 0, .bool false, .int .i64 0])
    generalize World.setRow _ _ _ = u at S ⊢
    refine op_val (v := .slice (some ⟨g103, 0, none⟩) 0 0) rfl rfl hF rfl (run_assign rfl (hF.ev rfl)) ?_; clear hF; intro a hF
    refine wpList_nil ?_
    refine wp_ret ?_
    repeat with_reducible (first | refine then_ret ?_ | refine in_ret ?_ | refine in_nrm ?_)
    refine ret2_gw (.inl rfl) hF rfl (res_cell (hF.ev rfl) (res_loadN ag28 rfl (S.cells 1 rfl 0 #[.slice none 0 0, .int .i64 0, .int .i64 0, .bool false, .int .i64 0] rfl))) (res_tmp (hF.ev rfl)) ?_
    obtain rfl := Option.some.inj hM
    replace S := S.nilrow 4 1
    exact ⟨none, 0, 0, (some ⟨g103, 0, none⟩), 0, 0, rfl, rfl, rfl, S.sel [0, 1] rfl rfl⟩
  · replace hM := bif_t hc105 hM
    refine cond_f hF rfl (not_f hc105) ?_
    refine wp_skip ?_
    refine wp_seq ?_
    refine wp_region_lit ?_
    refine op_val (v := .agg #[.slice A0 x0.length c0, .int .i64 x1, .int .i64 x2, .bool x3, .int .i64 x4]) rfl rfl hF rfl (run_loadN rfl ag28 (hF.ev rfl) rfl ((S.free 2 rfl).cells 0 #[.slice A0 x0.length c0, .int .i64 x1, .int .i64 x2, .bool x3, .int .i64 x4] rfl)) ?_; clear hF; intro a hF
    obtain ⟨p106, h106, hM⟩ := bind_ex hM
    refine op_call rfl rfl hF rfl (run_call (vs := [.agg #[.slice A0 x0.length c0, .int .i64 x1, .int .i64 x2, .bool x3, .int .i64 x4]]) rfl rfl co30 ⟨(hF.ev rfl), trivial⟩) (c_spec_l29Copy (x0 := x0) (x1 := x1) (x2 := x2) (x3 := x3) (x4 := x4) ⟨(S.rc0 h0.rc), rfl⟩ h106) ?_
    rintro e u ⟨B107, n108, d109, rfl, rfl, T⟩
    refine ⟨_, rfl, ?_⟩
    clear hF; intro a hF
    replace S := S.call1 T; clear T
    refine op_new (cs := #[.slice none 0 0, .int .i64 0, .int .i64 0, .bool false, .int .i64 0]) rfl rfl hF rfl S (run_allocZ rfl zr28) ?_; clear hF S; intro a g110 u hF S
    refine op_do rfl rfl (run_store (cs' := #[.slice B107 p106.1.length d109, .int .i64 p106.2.1, .int .i64 p106.2.2.1, .bool p106.2.2.2.1, .int .i64 p106.2.2.2.2]) rfl sz28 (hF.ev rfl) (hF.ev rfl) rfl rfl rfl (S.free 0 rfl) rfl rfl) ?_; replace S := S.put 0 rfl (#[.slice B107 p106.1.length d109, .int .i64 p106.2.1, .int .i64 p106.2.2.1, .bool p106.2.2.2.1, .int .i64 p106.2.2.2.2])
    generalize World.setRow _ _ _ = u at S ⊢
    refine wpList_nil ?_
    refine wp_seq ?_
    refine wp_seq ?_
    refine wp_region_lit ?_
    refine op_val (v := .int .i64 0) rfl rfl hF rfl (run_assign rfl rfl) ?_; clear hF; intro a hF
    refine wpList_nil ?_
    obtain ⟨o112, hM117, hM⟩ := bind_ex hM
    refine wp_cut (fun a u => ∃ (p111 : List Bool × List Bool × Int × Int × Bool × Int) (B113 : Option Addr) (d114 : Nat) (B115 : Option Addr) (d116 : Nat), p111 = o112 ∧ Fr a 41 [(4, .pointer (some ⟨g102, 0, none⟩)), (5, .slice none 0 0), (6, .slice B113 p111.1.length d114), (7, .pointer (some ⟨g110, 0, none⟩))] ∧ St w u [.box g110 28 #[.slice B115 p111.2.1.length d116, .int .i64 p111.2.2.1, .int .i64 p111.2.2.2.1, .bool p111.2.2.2.2.1, .int .i64 p111.2.2.2.2.2], .box g102 28 #[.slice none 0 0, .int .i64 0, .int .i64 0, .bool false, .int .i64 0], .box g101 28 #[.slice A0 x0.length c0, .int .i64 x1, .int .i64 x2, .bool x3, .int .i64 x4], .row 4 1 (.slice B113 p111.1.length d114) p111.1.length (p111.1.flatMap eB), .row 4 1 (.slice B115 p111.2.1.length d116) p111.2.1.length (p111.2.1.flatMap eB)]) ?_ ?_
    · have _ := trivial
      refine wp_block ?_
      refine loop_gw (fun m a u => ∃ (p118 : List Bool × Int × List Bool × Int × Int × Bool × Int) (B119 : Option Addr) (d120 : Nat) (B121 : Option Addr) (d122 : Nat), m_spec_PanelRun_l1 x5 m p118 = some _ ∧ Fr a 41 [(1, .slice A5 x5.length c5), (4, .pointer (some ⟨g102, 0, none⟩)), (5, .slice none 0 0), (6, .slice B119 p118.1.length d120), (7, .pointer (some ⟨g110, 0, none⟩)), (8, .int .i64 p118.2.1)] ∧ St w u [.box g110 28 #[.slice B121 p118.2.2.1.length d122, .int .i64 p118.2.2.2.1, .int .i64 p118.2.2.2.2.1, .bool p118.2.2.2.2.2.1, .int .i64 p118.2.2.2.2.2.2], .box g102 28 #[.slice none 0 0, .int .i64 0, .int .i64 0, .bool false, .int .i64 0], .box g101 28 #[.slice A0 x0.length c0, .int .i64 x1, .int .i64 x2, .bool x3, .int .i64 x4], .row 4 1 (.slice B119 p118.1.length d120) p118.1.length (p118.1.flatMap eB), .row 4 1 (.slice B121 p118.2.2.1.length d122) p118.2.2.1.length (p118.2.2.1.flatMap eB)]) FUEL ⟨(([] : List Bool), 0, p106.1, p106.2.1, p106.2.2.1, p106.2.2.2.1, p106.2.2.2.2), (some ⟨g103, 0, none⟩), 0, B107, d109, hM117, hF.keep _ ⟨rfl, rfl, rfl, rfl, rfl, rfl, trivial⟩, S.sel [0, 3, 4, 2, 1] rfl rfl⟩ ?_
      clear hF S hM117; rintro m a u ⟨p118, B119, d120, B121, d122, hM117, hF, S⟩
      rcases m with _ | f1
      · exact none_some hM117
      rw [m_spec_PanelRun_l1.eq_2] at hM117
      refine wp_seq ?_
      refine wp_seq ?_
      refine wp_region_lit ?_
      refine op_val (v := .int .i64 p118.2.1) rfl rfl hF rfl (run_move rfl (hF.ev rfl)) ?_; clear hF; intro a hF
      refine op_val (v := .slice A5 x5.length c5) rfl rfl hF rfl (run_move rfl (hF.ev rfl)) ?_; clear hF; intro a hF
      refine op_val (v := .int .i64 (x5.length : Int)) rfl rfl hF rfl (run_lenL rfl rfl Try.underlying41 (hF.ev rfl)) ?_; clear hF; intro a hF
      refine op_val (v := .bool (ltB p118.2.1 (x5.length : Int))) rfl rfl hF rfl (run_lss (hF.ev rfl) (hF.ev rfl) rfl) ?_; clear hF; intro a hF
      refine wpList_nil ?_
      cases hc123 : (ltB p118.2.1 (x5.length : Int))
      · replace hM117 := bif_f hc123 hM117
        refine cond_f hF rfl hc123 ?_
        refine wp_exit ?_
        repeat with_reducible (first | refine then_exit ?_ | refine in_hit ?_ | refine in_miss rfl ?_)
        obtain rfl := Option.some.inj hM117
        exact ⟨(p118.1, p118.2.2.1, p118.2.2.2.1, p118.2.2.2.2.1, p118.2.2.2.2.2.1, p118.2.2.2.2.2.2), B119, d120, B121, d122, rfl, hF.keep _ ⟨rfl, rfl, rfl, rfl, trivial⟩, S.sel [0, 1, 2, 3, 4] rfl rfl⟩
      · replace hM117 := bif_t hc123 hM117
        refine cond_t hF rfl hc123 ?_
        refine wp_skip ?_
        refine wp_seq ?_
        refine wp_block ?_
        refine wp_seq ?_
        obtain ⟨hk124, hM117⟩ := chk_ex hM117
        replace hk124 := ixB_t hk124
        obtain ⟨p125, h125, hM117⟩ := bind_ex hM117
        refine region_gw (D := [26, 27, 28, 29, 30, 31, 25, 32, 33, 9, 10]) (Lr := [.box g110 28 #[.slice B121 p118.2.2.1.length d122, .int .i64 p118.2.2.2.1, .int .i64 p118.2.2.2.2.1, .bool p118.2.2.2.2.2.1, .int .i64 p118.2.2.2.2.2.2], .box g102 28 #[.slice none 0 0, .int .i64 0, .int .i64 0, .bool false, .int .i64 0], .box g101 28 #[.slice A0 x0.length c0, .int .i64 x1, .int .i64 x2, .bool x3, .int .i64 x4], .row 4 1 (.slice B119 p118.1.length d120) p118.1.length (p118.1.flatMap eB), .row 4 1 (.slice B121 p118.2.2.1.length d122) p118.2.2.1.length (p118.2.2.1.flatMap eB)]) (deps := (fun | 0 => [26] | 1 => [27] | 2 => [28] | 3 => [29] | 4 => [30] | 5 => [31] | 6 => [25, 31] | 7 => [32, 31] | 8 => [33] | 9 => [9] | 10 => [9, 31] | 11 => [10] | _ => [])) (rd := (fun _ => [])) (zr := (fun _ => []))
          (φ := fun i vs => match i, vs with | 0, [v26] => v26 = .agg #[.slice B121 p118.2.2.1.length d122, .int .i64 p118.2.2.2.1, .int .i64 p118.2.2.2.2.1, .bool p118.2.2.2.2.2.1, .int .i64 p118.2.2.2.2.2.2] | 1, [v27] => v27 = .slice A5 x5.length c5 | 2, [v28] => v28 = .int .i64 p118.2.1 | 3, [v29] => v29 = .pointer (some ⟨adB A5, adO A5 + p118.2.1.toNat * 4, none⟩) | 4, [v30] => v30 = .agg #[.int .i64 ((x5.getD p118.2.1.toNat ((0, 0, 0, false) : Int × Int × Int × Bool)).1), .int .i64 ((x5.getD p118.2.1.toNat ((0, 0, 0, false) : Int × Int × Int × Bool)).2.1), .int .i64 ((x5.getD p118.2.1.toNat ((0, 0, 0, false) : Int × Int × Int × Bool)).2.2.1), .bool ((x5.getD p118.2.1.toNat ((0, 0, 0, false) : Int × Int × Int × Bool)).2.2.2)] | 5, [v31] => v31 = .tuple #[.agg #[.slice (slA (vtup (vtup v31 0) 0)) p125.1.length (slC (vtup (vtup v31 0) 0)), .int .i64 p125.2.1, .int .i64 p125.2.2.1, .bool p125.2.2.2.1, .int .i64 p125.2.2.2.2.1], .bool p125.2.2.2.2.2] | 6, [v25, v31] => v25 = .tuple #[.agg #[.slice (slA (vtup (vtup v31 0) 0)) p125.1.length (slC (vtup (vtup v31 0) 0)), .int .i64 p125.2.1, .int .i64 p125.2.2.1, .bool p125.2.2.2.1, .int .i64 p125.2.2.2.2.1], .bool p125.2.2.2.2.2] | 7, [v32, v31] => v32 = .agg #[.slice (slA (vtup (vtup v31 0) 0)) p125.1.length (slC (vtup (vtup v31 0) 0)), .int .i64 p125.2.1, .int .i64 p125.2.2.1, .bool p125.2.2.2.1, .int .i64 p125.2.2.2.2.1] | 8, [v33] => v33 = .bool p125.2.2.2.2.2 | 9, [v9] => v9 = .pointer (some ⟨ptB v9, 0, none⟩) | 11, [v10] => v10 = .bool p125.2.2.2.2.2 | _, _ => True)
          (C := fun i vs => match i, vs with | 5, [v31] => [.row 4 1 (.slice (slA (vtup (vtup v31 0) 0)) p125.1.length (slC (vtup (vtup v31 0) 0))) p125.1.length (p125.1.flatMap eB)] | 9, [v9] => [.box (ptB v9) 28 #[.slice none 0 0, .int .i64 0, .int .i64 0, .bool false, .int .i64 0]] | 10, [v9, v31] => [.box (ptB v9) 28 #[.slice (slA (vtup (vtup v31 0) 0)) p125.1.length (slC (vtup (vtup v31 0) 0)), .int .i64 p125.2.1, .int .i64 p125.2.2.1, .bool p125.2.2.2.1, .int .i64 p125.2.2.2.2.1]] | _, _ => [])
          (κ := (fun | 9 => some 10 | _ => none)) (Z := (fun _ => [])) mixed hF (by kernel_rfl) S ?_ ?_
        · refine ⟨?_, ?_, ?_, ?_, ?_, ?_, ?_, ?_, ?_, ?_, ?_, ?_, trivial⟩
          · intro a u X hB hu hp hr hz hl S
            replace S : St w u ([] ++ X) := S
            exact .inl ⟨rfl, .agg #[.slice B121 p118.2.2.1.length d122, .int .i64 p118.2.2.2.1, .int .i64 p118.2.2.2.2.1, .bool p118.2.2.2.2.2.1, .int .i64 p118.2.2.2.2.2.2], u, (run_loadN rfl ag28 (hF.evB hB rfl rfl) rfl ((gr_box S hl 0 rfl).cells 0 #[.slice B121 p118.2.2.1.length d122, .int .i64 p118.2.2.2.1, .int .i64 p118.2.2.2.2.1, .bool p118.2.2.2.2.2.1, .int .i64 p118.2.2.2.2.2.2] rfl)), rfl, S⟩
          · intro a u X hB hu hp hr hz hl S
            replace S : St w u ([] ++ X) := S
            exact .inl ⟨rfl, .slice A5 x5.length c5, u, (run_move rfl (hF.evB hB rfl rfl)), rfl, S⟩
          · intro a u X hB hu hp hr hz hl S
            replace S : St w u ([] ++ X) := S
            exact .inl ⟨rfl, .int .i64 p118.2.1, u, (run_move rfl (hF.evB hB rfl rfl)), rfl, S⟩
          · intro a u X hB hu hp hr hz hl S
            replace S : St w u ([] ++ X) := S
            have e27 : sl a 27 = .slice A5 x5.length c5 := hp 1 rfl
            have e28 : sl a 28 = .int .i64 p118.2.1 := hp 2 rfl
            exact .inl ⟨rfl, .pointer (some ⟨adB A5, adO A5 + p118.2.1.toNat * 4, none⟩), u, (run_indexAddr (b := adB A5) (off := adO A5) rfl Try.underlying41 sz32 ((ev_sl e27).trans (congrArg (fun A => Value.slice A x5.length c5) ((S.rc0 h5.rc).rd.ad (ix_pos hk124)))) (ev_sl e28) hk124.1 hk124.2 (k' := adO A5 + p118.2.1.toNat * 4) rfl), rfl, S⟩
          · intro a u X hB hu hp hr hz hl S
            replace S : St w u ([] ++ X) := S
            have e29 : sl a 29 = .pointer (some ⟨adB A5, adO A5 + p118.2.1.toNat * 4, none⟩) := hp 3 rfl
            exact .inl ⟨rfl, .agg #[.int .i64 ((x5.getD p118.2.1.toNat ((0, 0, 0, false) : Int × Int × Int × Bool)).1), .int .i64 ((x5.getD p118.2.1.toNat ((0, 0, 0, false) : Int × Int × Int × Bool)).2.1), .int .i64 ((x5.getD p118.2.1.toNat ((0, 0, 0, false) : Int × Int × Int × Bool)).2.2.1), .bool ((x5.getD p118.2.1.toNat ((0, 0, 0, false) : Int × Int × Int × Bool)).2.2.2)], u, (run_loadN (cs := #[.int .i64 ((x5.getD p118.2.1.toNat ((0, 0, 0, false) : Int × Int × Int × Bool)).1), .int .i64 ((x5.getD p118.2.1.toNat ((0, 0, 0, false) : Int × Int × Int × Bool)).2.1), .int .i64 ((x5.getD p118.2.1.toNat ((0, 0, 0, false) : Int × Int × Int × Bool)).2.2.1), .bool ((x5.getD p118.2.1.toNat ((0, 0, 0, false) : Int × Int × Int × Bool)).2.2.2)]) rfl ag32 (ev_sl e29) rfl (rd_elN (l := x5) (S.rc0 h5.rc).rd rfl eCommand_len ((0, 0, 0, false) : Int × Int × Int × Bool) (ix_ltn hk124 rfl) rfl)), rfl, S⟩
          · intro a u X hB hu hp hr hz hl S
            replace S : St w u ([] ++ X) := S
            have e26 : sl a 26 = .agg #[.slice B121 p118.2.2.1.length d122, .int .i64 p118.2.2.2.1, .int .i64 p118.2.2.2.2.1, .bool p118.2.2.2.2.2.1, .int .i64 p118.2.2.2.2.2.2] := hp 0 rfl
            have e30 : sl a 30 = .agg #[.int .i64 ((x5.getD p118.2.1.toNat ((0, 0, 0, false) : Int × Int × Int × Bool)).1), .int .i64 ((x5.getD p118.2.1.toNat ((0, 0, 0, false) : Int × Int × Int × Bool)).2.1), .int .i64 ((x5.getD p118.2.1.toNat ((0, 0, 0, false) : Int × Int × Int × Bool)).2.2.1), .bool ((x5.getD p118.2.1.toNat ((0, 0, 0, false) : Int × Int × Int × Bool)).2.2.2)] := hp 4 rfl
            refine .inr (.inr (.inl ⟨rfl, _, _, (run_call (vs := [.agg #[.slice B121 p118.2.2.1.length d122, .int .i64 p118.2.2.2.1, .int .i64 p118.2.2.2.2.1, .bool p118.2.2.2.2.2.1, .int .i64 p118.2.2.2.2.2.2], .agg #[.int .i64 ((x5.getD p118.2.1.toNat ((0, 0, 0, false) : Int × Int × Int × Bool)).1), .int .i64 ((x5.getD p118.2.1.toNat ((0, 0, 0, false) : Int × Int × Int × Bool)).2.1), .int .i64 ((x5.getD p118.2.1.toNat ((0, 0, 0, false) : Int × Int × Int × Bool)).2.2.1), .bool ((x5.getD p118.2.1.toNat ((0, 0, 0, false) : Int × Int × Int × Bool)).2.2.2)]]) rfl rfl co7 ⟨(ev_sl e26), (ev_sl e30), trivial⟩), ?_⟩))
            refine Calls.mono (c_spec_PanelDo (x0 := p118.2.2.1) (x1 := p118.2.2.2.1) (x2 := p118.2.2.2.2.1) (x3 := p118.2.2.2.2.2.1) (x4 := p118.2.2.2.2.2.2) (x5 := (x5.getD p118.2.1.toNat ((0, 0, 0, false) : Int × Int × Int × Bool)).1) (x6 := (x5.getD p118.2.1.toNat ((0, 0, 0, false) : Int × Int × Int × Bool)).2.1) (x7 := (x5.getD p118.2.1.toNat ((0, 0, 0, false) : Int × Int × Int × Bool)).2.2.1) (x8 := (x5.getD p118.2.1.toNat ((0, 0, 0, false) : Int × Int × Int × Bool)).2.2.2) ⟨(gr_rc S hl 4 rfl), rfl⟩ h125) ?_
            rintro e w1 ⟨B126, n127, d128, rfl, rfl, T⟩
            exact ⟨_, rfl, rfl, S.call1 T⟩
          · intro a u X hB hu hp hr hz hl S
            replace S : St w u ([] ++ X) := S
            have e31 : sl a 31 = .tuple #[.agg #[.slice (slA (vtup (vtup (sl a 31) 0) 0)) p125.1.length (slC (vtup (vtup (sl a 31) 0) 0)), .int .i64 p125.2.1, .int .i64 p125.2.2.1, .bool p125.2.2.2.1, .int .i64 p125.2.2.2.2.1], .bool p125.2.2.2.2.2] := hp 5 rfl
            exact .inl ⟨rfl, .tuple #[.agg #[.slice (slA (vtup (vtup (sl a 31) 0) 0)) p125.1.length (slC (vtup (vtup (sl a 31) 0) 0)), .int .i64 p125.2.1, .int .i64 p125.2.2.1, .bool p125.2.2.2.1, .int .i64 p125.2.2.2.2.1], .bool p125.2.2.2.2.2], u, (run_move rfl (ev_sl e31)), rfl, S⟩
          · intro a u X hB hu hp hr hz hl S
            replace S : St w u ([] ++ X) := S
            have e25 : sl a 25 = .tuple #[.agg #[.slice (slA (vtup (vtup (sl a 31) 0) 0)) p125.1.length (slC (vtup (vtup (sl a 31) 0) 0)), .int .i64 p125.2.1, .int .i64 p125.2.2.1, .bool p125.2.2.2.1, .int .i64 p125.2.2.2.2.1], .bool p125.2.2.2.2.2] := hp 6 rfl
            exact .inl ⟨rfl, .agg #[.slice (slA (vtup (vtup (sl a 31) 0) 0)) p125.1.length (slC (vtup (vtup (sl a 31) 0) 0)), .int .i64 p125.2.1, .int .i64 p125.2.2.1, .bool p125.2.2.2.1, .int .i64 p125.2.2.2.2.1], u, (run_extract rfl (ev_sl e25) rfl), rfl, S⟩
          · intro a u X hB hu hp hr hz hl S
            replace S : St w u ([] ++ X) := S
            have e25 : sl a 25 = .tuple #[.agg #[.slice (slA (vtup (vtup (sl a 31) 0) 0)) p125.1.length (slC (vtup (vtup (sl a 31) 0) 0)), .int .i64 p125.2.1, .int .i64 p125.2.2.1, .bool p125.2.2.2.1, .int .i64 p125.2.2.2.2.1], .bool p125.2.2.2.2.2] := hp 6 rfl
            exact .inl ⟨rfl, .bool p125.2.2.2.2.2, u, (run_extract rfl (ev_sl e25) rfl), rfl, S⟩
          · intro a u X hB hu hp hr hz hl S
            replace S : St w u ([] ++ X) := S
            exact .inl ⟨rfl, _, _, (run_allocZ rfl zr28), rfl, S.alloc _ _⟩
          · intro a u X hB hu hp hr hz hl S
            replace S : St w u ([.box (ptB (sl a 9)) 28 #[.slice none 0 0, .int .i64 0, .int .i64 0, .bool false, .int .i64 0]] ++ X) := S
            have e9 : sl a 9 = .pointer (some ⟨ptB (sl a 9), 0, none⟩) := hp 9 rfl
            have e32 : sl a 32 = .agg #[.slice (slA (vtup (vtup (sl a 31) 0) 0)) p125.1.length (slC (vtup (vtup (sl a 31) 0) 0)), .int .i64 p125.2.1, .int .i64 p125.2.2.1, .bool p125.2.2.2.1, .int .i64 p125.2.2.2.2.1] := hp 7 rfl
            exact .inr (.inl ⟨rfl, _, run_store (cs' := #[.slice (slA (vtup (vtup (sl a 31) 0) 0)) p125.1.length (slC (vtup (vtup (sl a 31) 0) 0)), .int .i64 p125.2.1, .int .i64 p125.2.2.1, .bool p125.2.2.2.1, .int .i64 p125.2.2.2.2.1]) rfl sz28 (ev_sl e9) (ev_sl e32) rfl rfl rfl (S.free 0 rfl) rfl rfl, trivial, S.put 0 rfl (#[.slice (slA (vtup (vtup (sl a 31) 0) 0)) p125.1.length (slC (vtup (vtup (sl a 31) 0) 0)), .int .i64 p125.2.1, .int .i64 p125.2.2.1, .bool p125.2.2.2.1, .int .i64 p125.2.2.2.2.1])⟩)
          · intro a u X hB hu hp hr hz hl S
            replace S : St w u ([] ++ X) := S
            have e33 : sl a 33 = .bool p125.2.2.2.2.2 := hp 8 rfl
            exact .inl ⟨rfl, .bool p125.2.2.2.2.2, u, (run_assign rfl (ev_sl e33)), rfl, S⟩
        · intro a u hB hp S
          obtain ⟨q0, q1, q2, q3, q4, q5, q6, q7, q8, q9, q10, q11, _⟩ := hp
          have e26 : sl a 26 = .agg #[.slice B121 p118.2.2.1.length d122, .int .i64 p118.2.2.2.1, .int .i64 p118.2.2.2.2.1, .bool p118.2.2.2.2.2.1, .int .i64 p118.2.2.2.2.2.2] := q0
          have e27 : sl a 27 = .slice A5 x5.length c5 := q1
          have e28 : sl a 28 = .int .i64 p118.2.1 := q2
          have e29 : sl a 29 = .pointer (some ⟨adB A5, adO A5 + p118.2.1.toNat * 4, none⟩) := q3
          have e30 : sl a 30 = .agg #[.int .i64 ((x5.getD p118.2.1.toNat ((0, 0, 0, false) : Int × Int × Int × Bool)).1), .int .i64 ((x5.getD p118.2.1.toNat ((0, 0, 0, false) : Int × Int × Int × Bool)).2.1), .int .i64 ((x5.getD p118.2.1.toNat ((0, 0, 0, false) : Int × Int × Int × Bool)).2.2.1), .bool ((x5.getD p118.2.1.toNat ((0, 0, 0, false) : Int × Int × Int × Bool)).2.2.2)] := q4
          have e31 : sl a 31 = .tuple #[.agg #[.slice (slA (vtup (vtup (sl a 31) 0) 0)) p125.1.length (slC (vtup (vtup (sl a 31) 0) 0)), .int .i64 p125.2.1, .int .i64 p125.2.2.1, .bool p125.2.2.2.1, .int .i64 p125.2.2.2.2.1], .bool p125.2.2.2.2.2] := q5
          have e25 : sl a 25 = .tuple #[.agg #[.slice (slA (vtup (vtup (sl a 31) 0) 0)) p125.1.length (slC (vtup (vtup (sl a 31) 0) 0)), .int .i64 p125.2.1, .int .i64 p125.2.2.1, .bool p125.2.2.2.1, .int .i64 p125.2.2.2.2.1], .bool p125.2.2.2.2.2] := q6
          have e32 : sl a 32 = .agg #[.slice (slA (vtup (vtup (sl a 31) 0) 0)) p125.1.length (slC (vtup (vtup (sl a 31) 0) 0)), .int .i64 p125.2.1, .int .i64 p125.2.2.1, .bool p125.2.2.2.1, .int .i64 p125.2.2.2.2.1] := q7
          have e33 : sl a 33 = .bool p125.2.2.2.2.2 := q8
          have e9 : sl a 9 = .pointer (some ⟨ptB (sl a 9), 0, none⟩) := q9
          have e10 : sl a 10 = .bool p125.2.2.2.2.2 := q11
          replace S : St w u [.row 4 1 (.slice (slA (vtup (vtup (sl a 31) 0) 0)) p125.1.length (slC (vtup (vtup (sl a 31) 0) 0))) p125.1.length (p125.1.flatMap eB), .box (ptB (sl a 9)) 28 #[.slice (slA (vtup (vtup (sl a 31) 0) 0)) p125.1.length (slC (vtup (vtup (sl a 31) 0) 0)), .int .i64 p125.2.1, .int .i64 p125.2.2.1, .bool p125.2.2.2.1, .int .i64 p125.2.2.2.2.1], .box g110 28 #[.slice B121 p118.2.2.1.length d122, .int .i64 p118.2.2.2.1, .int .i64 p118.2.2.2.2.1, .bool p118.2.2.2.2.2.1, .int .i64 p118.2.2.2.2.2.2], .box g102 28 #[.slice none 0 0, .int .i64 0, .int .i64 0, .bool false, .int .i64 0], .box g101 28 #[.slice A0 x0.length c0, .int .i64 x1, .int .i64 x2, .bool x3, .int .i64 x4], .row 4 1 (.slice B119 p118.1.length d120) p118.1.length (p118.1.flatMap eB), .row 4 1 (.slice B121 p118.2.2.1.length d122) p118.2.2.1.length (p118.2.2.1.flatMap eB)] := S
          clear q0 q1 q2 q3 q4 q5 q6 q7 q8 q9 q10 q11
          generalize slA (vtup (vtup (sl a 31) 0) 0) = B129 at *
          generalize slC (vtup (vtup (sl a 31) 0) 0) = d130 at *
          generalize ptB (sl a 9) = g131 at *
          have hF := hF.region hB [(26, .agg #[.slice B121 p118.2.2.1.length d122, .int .i64 p118.2.2.2.1, .int .i64 p118.2.2.2.2.1, .bool p118.2.2.2.2.2.1, .int .i64 p118.2.2.2.2.2.2]), (27, .slice A5 x5.length c5), (28, .int .i64 p118.2.1), (29, .pointer (some ⟨adB A5, adO A5 + p118.2.1.toNat * 4, none⟩)), (30, .agg #[.int .i64 ((x5.getD p118.2.1.toNat ((0, 0, 0, false) : Int × Int × Int × Bool)).1), .int .i64 ((x5.getD p118.2.1.toNat ((0, 0, 0, false) : Int × Int × Int × Bool)).2.1), .int .i64 ((x5.getD p118.2.1.toNat ((0, 0, 0, false) : Int × Int × Int × Bool)).2.2.1), .bool ((x5.getD p118.2.1.toNat ((0, 0, 0, false) : Int × Int × Int × Bool)).2.2.2)]), (31, .tuple #[.agg #[.slice B129 p125.1.length d130, .int .i64 p125.2.1, .int .i64 p125.2.2.1, .bool p125.2.2.2.1, .int .i64 p125.2.2.2.2.1], .bool p125.2.2.2.2.2]), (25, .tuple #[.agg #[.slice B129 p125.1.length d130, .int .i64 p125.2.1, .int .i64 p125.2.2.1, .bool p125.2.2.2.1, .int .i64 p125.2.2.2.2.1], .bool p125.2.2.2.2.2]), (32, .agg #[.slice B129 p125.1.length d130, .int .i64 p125.2.1, .int .i64 p125.2.2.1, .bool p125.2.2.2.1, .int .i64 p125.2.2.2.2.1]), (33, .bool p125.2.2.2.2.2), (9, .pointer (some ⟨g131, 0, none⟩)), (10, .bool p125.2.2.2.2.2)] (allSl_mem ⟨e26, e27, e28, e29, e30, e31, e25, e32, e33, e9, e10, trivial⟩) rfl
          clear hB e26 e27 e28 e29 e30 e31 e25 e32 e33 e9 e10
          refine wp_seq ?_
          refine wp_region_lit ?_
          refine op_val (v := .agg #[.slice B129 p125.1.length d130, .int .i64 p125.2.1, .int .i64 p125.2.2.1, .bool p125.2.2.2.1, .int .i64 p125.2.2.2.2.1]) rfl rfl hF rfl (run_loadN rfl ag28 (hF.ev rfl) rfl ((S.free 1 rfl).cells 0 #[.slice B129 p125.1.length d130, .int .i64 p125.2.1, .int .i64 p125.2.2.1, .bool p125.2.2.2.1, .int .i64 p125.2.2.2.2.1] rfl)) ?_; clear hF; intro a hF
          refine op_do rfl rfl (run_store (cs' := #[.slice B129 p125.1.length d130, .int .i64 p125.2.1, .int .i64 p125.2.2.1, .bool p125.2.2.2.1, .int .i64 p125.2.2.2.2.1]) rfl sz28 (hF.ev rfl) (hF.ev rfl) rfl rfl rfl (S.free 2 rfl) rfl rfl) ?_; replace S := S.put 2 rfl (#[.slice B129 p125.1.length d130, .int .i64 p125.2.1, .int .i64 p125.2.2.1, .bool p125.2.2.2.1, .int .i64 p125.2.2.2.2.1])
          generalize World.setRow _ _ _ = u at S ⊢
          refine wpList_nil ?_
          refine wp_region_lit ?_
          refine op_val (v := .slice B119 p118.1.length d120) rfl rfl hF rfl (run_move rfl (hF.ev rfl)) ?_; clear hF; intro a hF
          refine op_val (v := .bool p125.2.2.2.2.2) rfl rfl hF rfl (run_move rfl (hF.ev rfl)) ?_; clear hF; intro a hF
          refine op_newrowL (ls := ([p125.2.2.2.2.2] : List Bool)) (e := eB) rfl rfl hF rfl S (run_buildS (vs := [(0, .bool p125.2.2.2.2.2)]) rfl ⟨⟨rfl, (hF.ev rfl)⟩, trivial⟩ (bs22_1_0 rfl)) rfl eB_len (Nat.le_of_ble_eq_true rfl) ?_; clear hF S; intro a g132 u hF S
          obtain ⟨hk135, hM117⟩ := chk_ex hM117
          replace hk135 := apB_t hk135
          refine op_appendL (lx := p118.1) (ly := [p125.2.2.2.2.2]) rfl rfl hF rfl S rfl (hF.ev rfl) (hF.ev rfl) (i := 6) rfl rfl Try.underlying22 inf4 rfl (by decide) (S.rc 0 rfl).rd rfl eB_one hk135 (by decide) ?_; clear hF S; intro a B133 d134 u hF S
          refine op_val (v := .slice B133 ((p118.1 ++ ([p125.2.2.2.2.2])).length) d134) rfl rfl hF rfl (run_assign rfl (hF.ev rfl)) ?_; clear hF; intro a hF
          refine wpList_nil ?_
          refine wp_region_lit ?_
          refine op_val (v := .int .i64 p118.2.1) rfl rfl hF rfl (run_move rfl (hF.ev rfl)) ?_; clear hF; intro a hF
          refine op_val (v := .int .i64 (w64 (p118.2.1 + 1))) rfl rfl hF rfl (run_add (z := w64 (p118.2.1 + 1)) (hF.ev rfl) rfl rfl rfl) ?_; clear hF; intro a hF
          refine op_val (v := .int .i64 (w64 (p118.2.1 + 1))) rfl rfl hF rfl (run_assign rfl (hF.ev rfl)) ?_; clear hF; intro a hF
          refine wpList_nil ?_
          exact ⟨f1, Nat.lt_succ_self _, (p118.1 ++ ([p125.2.2.2.2.2]), w64 (p118.2.1 + 1), p125.1, p125.2.1, p125.2.2.1, p125.2.2.2.1, p125.2.2.2.2.1), B133, d134, B129, d130, hM117, hF.keep _ ⟨rfl, rfl, rfl, rfl, rfl, rfl, trivial⟩, S.sel [3, 4, 5, 6, 1] rfl rfl⟩
    · rintro a u ⟨p111, B113, d114, B115, d116, rfl, hF, S⟩
      refine wp_seq ?_
      refine wp_region_lit ?_
      refine op_val (v := .agg #[.slice B115 p111.2.1.length d116, .int .i64 p111.2.2.1, .int .i64 p111.2.2.2.1, .bool p111.2.2.2.2.1, .int .i64 p111.2.2.2.2.2]) rfl rfl hF rfl (run_loadN rfl ag28 (hF.ev rfl) rfl ((S.free 0 rfl).cells 0 #[.slice B115 p111.2.1.length d116, .int .i64 p111.2.2.1, .int .i64 p111.2.2.2.1, .bool p111.2.2.2.2.1, .int .i64 p111.2.2.2.2.2] rfl)) ?_; clear hF; intro a hF
      refine op_val (v := .slice B113 p111.1.length d114) rfl rfl hF rfl (run_move rfl (hF.ev rfl)) ?_; clear hF; intro a hF
      refine op_do rfl rfl (run_store (cs' := #[.slice B115 p111.2.1.length d116, .int .i64 p111.2.2.1, .int .i64 p111.2.2.2.1, .bool p111.2.2.2.2.1, .int .i64 p111.2.2.2.2.2]) rfl sz28 (hF.ev rfl) (hF.ev rfl) rfl rfl rfl (S.free 1 rfl) rfl rfl) ?_; replace S := S.put 1 rfl (#[.slice B115 p111.2.1.length d116, .int .i64 p111.2.2.1, .int .i64 p111.2.2.2.1, .bool p111.2.2.2.2.1, .int .i64 p111.2.2.2.2.2])
      generalize World.setRow _ _ _ = u at S ⊢
      refine op_val (v := .slice B113 p111.1.length d114) rfl rfl hF rfl (run_assign rfl (hF.ev rfl)) ?_; clear hF; intro a hF
      refine wpList_nil ?_
      refine wp_ret ?_
      repeat with_reducible (first | refine then_ret ?_ | refine in_ret ?_ | refine in_nrm ?_)
      refine ret2_gw (.inl rfl) hF rfl (res_cell (hF.ev rfl) (res_loadN ag28 rfl (S.cells 1 rfl 0 #[.slice B115 p111.2.1.length d116, .int .i64 p111.2.2.1, .int .i64 p111.2.2.2.1, .bool p111.2.2.2.2.1, .int .i64 p111.2.2.2.2.2] rfl))) (res_tmp (hF.ev rfl)) ?_
      obtain rfl := Option.some.inj hM
      exact ⟨B115, p111.2.1.length, d116, B113, p111.1.length, d114, rfl, rfl, rfl, S.sel [4, 3] rfl rfl⟩

set_option maxHeartbeats 4000000 in
theorem c_impl_PanelRun {x0 : List Bool} {x1 : Int} {x2 : Int} {x3 : Bool} {x4 : Int} {x5 : List (Int × Int × Int × Bool)} {A0 : Option Addr} {n0 c0 : Nat} {A5 : Option Addr} {n5 c5 : Nat} {w : World} {r : List Bool × Int × Int × Bool × Int × List Bool} (h0 : Rt w 1 eB A0 n0 c0 x0) (h5 : Rt w 4 eCommand A5 n5 c5 x5) (hM : m_impl_PanelRun x0 x1 x2 x3 x4 x5 = some r) :
    Calls Try.prog 17 #[.agg #[.slice A0 n0 c0, .int .i64 x1, .int .i64 x2, .bool x3, .int .i64 x4], .slice A5 n5 c5] w (fun e w' => ∃ (B0 : Option Addr) (N0 D0 : Nat) (B1 : Option Addr) (N1 D1 : Nat), e = .returned (.tuple #[.agg #[.slice B0 N0 D0, .int .i64 r.2.1, .int .i64 r.2.2.1, .bool r.2.2.2.1, .int .i64 r.2.2.2.2.1], .slice B1 N1 D1]) ∧ N0 = r.1.length ∧ N1 = r.2.2.2.2.2.length ∧ St w w' [.row 4 1 (.slice B0 N0 D0) N0 (r.1.flatMap eB), .row 4 1 (.slice B1 N1 D1) N1 (r.2.2.2.2.2.flatMap eB)]) := by
  obtain rfl := h0.len
  obtain rfl := h5.len
  unfold m_impl_PanelRun at hM
  refine calls_gw Try.func17 Try.ntmps17 rfl [(0, .agg #[.slice A0 x0.length c0, .int .i64 x1, .int .i64 x2, .bool x3, .int .i64 x4]), (1, .slice A5 x5.length c5)] ⟨rfl, rfl, trivial⟩ rfl ?_
  intro a hF
  have S := St.nil w
  refine wp_seq ?_
  refine wp_region_lit ?_
  refine op_new (cs := #[.slice A0 x0.length c0, .int .i64 x1, .int .i64 x2, .bool x3, .int .i64 x4]) rfl rfl hF rfl S (run_box rfl (hF.ev rfl) rfl) ?_; clear hF S; intro a g101 u hF S
  refine op_new (cs := #[.slice none 0 0, .int .i64 0, .int .i64 0, .bool false, .int .i64 0]) rfl rfl hF rfl S (run_allocZ rfl zr28) ?_; clear hF S; intro a g102 u hF S
  refine op_val (v := .slice none 0 0) rfl rfl hF rfl (run_assign rfl rfl) ?_; clear hF; intro a hF
  refine wpList_nil ?_
  refine wp_seq ?_
  refine wp_seq ?_
  refine wp_region_lit ?_
  refine op_val (v := .agg #[.slice A0 x0.length c0, .int .i64 x1, .int .i64 x2, .bool x3, .int .i64 x4]) rfl rfl hF rfl (run_loadN rfl ag28 (hF.ev rfl) rfl ((S.free 1 rfl).cells 0 #[.slice A0 x0.length c0, .int .i64 x1, .int .i64 x2, .bool x3, .int .i64 x4] rfl)) ?_; clear hF; intro a hF
  obtain ⟨p103, h103, hM⟩ := bind_ex hM
  refine op_call rfl rfl hF rfl (run_call (vs := [.agg #[.slice A0 x0.length c0, .int .i64 x1, .int .i64 x2, .bool x3, .int .i64 x4]]) rfl rfl co34 ⟨(hF.ev rfl), trivial⟩) (c_impl_PanelValid (x0 := x0) (x1 := x1) (x2 := x2) (x3 := x3) (x4 := x4) ⟨(S.rc0 h0.rc), rfl⟩ h103) ?_
  rintro e u ⟨rfl, T⟩
  refine ⟨_, rfl, ?_⟩
  clear hF; intro a hF
  replace S := S.call0 T; clear T
  refine op_val (v := .bool (!p103)) rfl rfl hF rfl (run_not rfl (hF.ev rfl)) ?_; clear hF; intro a hF
  refine wpList_nil ?_
  cases hc104 : (p103)
  · replace hM := bif_f hc104 hM
    refine cond_t hF rfl (not_t hc104) ?_
    refine wp_seq ?_
    refine wp_region_lit ?_
    refine op_val (v := .agg #[.slice none 0 0, .int .i64 0, .int .i64 0, .bool false, .int .i64 0]) rfl rfl hF rfl (run_build (vs := []) rfl trivial (bd28 )) ?_; clear hF; intro a hF
    refine op_do rfl rfl (run_store (cs' := #[.slice none 0 0, .int .i64 0, .int .i64 0, .bool false, .int .i64 0]) rfl sz28 (hF.ev rfl) (hF.ev rfl) rfl rfl rfl (S.free 0 rfl) rfl rfl) ?_; replace S := S.put 0 rfl (#[.slice none 0 0, .int .i64 0, .int .i64 0, .bool false, .int .i64 0])
    generalize World.setRow _ _ _ = u at S ⊢
    refine op_val (v := .slice none 0 0) rfl rfl hF rfl (run_assign rfl rfl) ?_; clear hF; intro a hF
    refine wpList_nil ?_
    refine wp_ret ?_
    repeat with_reducible (first | refine then_ret ?_ | refine in_ret ?_ | refine in_nrm ?_)
    refine ret2_gw (.inl rfl) hF rfl (res_cell (hF.ev rfl) (res_loadN ag28 rfl (S.cells 0 rfl 0 #[.slice none 0 0, .int .i64 0, .int .i64 0, .bool false, .int .i64 0] rfl))) (res_tmp (hF.ev rfl)) ?_
    obtain rfl := Option.some.inj hM
    replace S := S.nilrow 4 1
    replace S := S.nilrow 4 1
    exact ⟨none, 0, 0, none, 0, 0, rfl, rfl, rfl, S.sel [1, 0] rfl rfl⟩
  · replace hM := bif_t hc104 hM
    refine cond_f hF rfl (not_f hc104) ?_
    refine wp_skip ?_
    refine wp_seq ?_
    refine wp_region_lit ?_
    refine op_val (v := .agg #[.slice A0 x0.length c0, .int .i64 x1, .int .i64 x2, .bool x3, .int .i64 x4]) rfl rfl hF rfl (run_loadN rfl ag28 (hF.ev rfl) rfl ((S.free 1 rfl).cells 0 #[.slice A0 x0.length c0, .int .i64 x1, .int .i64 x2, .bool x3, .int .i64 x4] rfl)) ?_; clear hF; intro a hF
    obtain ⟨p105, h105, hM⟩ := bind_ex hM
    refine op_call rfl rfl hF rfl (run_call (vs := [.agg #[.slice A0 x0.length c0, .int .i64 x1, .int .i64 x2, .bool x3, .int .i64 x4]]) rfl rfl co35 ⟨(hF.ev rfl), trivial⟩) (c_impl_Panel_clone (x0 := x0) (x1 := x1) (x2 := x2) (x3 := x3) (x4 := x4) ⟨(S.rc0 h0.rc), rfl⟩ h105) ?_
    rintro e u ⟨B106, n107, d108, rfl, rfl, T⟩
    refine ⟨_, rfl, ?_⟩
    clear hF; intro a hF
    replace S := S.call1 T; clear T
    refine op_new (cs := #[.slice none 0 0, .int .i64 0, .int .i64 0, .bool false, .int .i64 0]) rfl rfl hF rfl S (run_allocZ rfl zr28) ?_; clear hF S; intro a g109 u hF S
    refine op_do rfl rfl (run_store (cs' := #[.slice B106 p105.1.length d108, .int .i64 p105.2.1, .int .i64 p105.2.2.1, .bool p105.2.2.2.1, .int .i64 p105.2.2.2.2]) rfl sz28 (hF.ev rfl) (hF.ev rfl) rfl rfl rfl (S.free 0 rfl) rfl rfl) ?_; replace S := S.put 0 rfl (#[.slice B106 p105.1.length d108, .int .i64 p105.2.1, .int .i64 p105.2.2.1, .bool p105.2.2.2.1, .int .i64 p105.2.2.2.2])
    generalize World.setRow _ _ _ = u at S ⊢
    refine wpList_nil ?_
    refine wp_seq ?_
    refine wp_region_lit ?_
    refine op_val (v := .slice A5 x5.length c5) rfl rfl hF rfl (run_move rfl (hF.ev rfl)) ?_; clear hF; intro a hF
    refine op_val (v := .int .i64 (x5.length : Int)) rfl rfl hF rfl (run_lenL rfl rfl Try.underlying41 (hF.ev rfl)) ?_; clear hF; intro a hF
    obtain ⟨hk111, hM⟩ := chk_ex hM
    replace hk111 := mkB_t hk111
    refine op_newrowL (m := x5.length) (ls := List.replicate x5.length false) (e := eB) rfl rfl hF rfl S (run_makeL rfl (hF.ev rfl) (hF.ev rfl) Try.underlying22 inf4 eB_len rfl (by decide) hk111) List.length_replicate eB_len (by rw [List.length_replicate]; omega) ?_; clear hF S; intro a g110 u hF S
    refine op_val (v := .slice (some ⟨g110, 0, none⟩) x5.length x5.length) rfl rfl hF rfl (run_assign rfl (hF.ev rfl)) ?_; clear hF; intro a hF
    refine wpList_nil ?_
    refine wp_seq ?_
    refine wp_seq ?_
    refine wp_region_lit ?_
    refine op_val (v := .slice A5 x5.length c5) rfl rfl hF rfl (run_move rfl (hF.ev rfl)) ?_; clear hF; intro a hF
    refine op_val (v := .int .i64 (x5.length : Int)) rfl rfl hF rfl (run_lenL rfl rfl Try.underlying41 (hF.ev rfl)) ?_; clear hF; intro a hF
    refine op_val (v := .int .i64 0) rfl rfl hF rfl (run_move rfl rfl) ?_; clear hF; intro a hF
    refine wpList_nil ?_
    obtain ⟨o113, hM117, hM⟩ := bind_ex hM
    refine wp_cut (fun a u => ∃ (p112 : List Bool × List Bool × Int × Int × Bool × Int) (B115 : Option Addr) (d116 : Nat), p112 = o113 ∧ x5.length = p112.1.length ∧ Fr a 38 [(4, .pointer (some ⟨g102, 0, none⟩)), (5, .slice none 0 0), (6, .pointer (some ⟨g109, 0, none⟩)), (7, .slice (some ⟨g110, 0, none⟩) x5.length x5.length)] ∧ St w u [.box g109 28 #[.slice B115 p112.2.1.length d116, .int .i64 p112.2.2.1, .int .i64 p112.2.2.2.1, .bool p112.2.2.2.2.1, .int .i64 p112.2.2.2.2.2], .box g102 28 #[.slice none 0 0, .int .i64 0, .int .i64 0, .bool false, .int .i64 0], .box g101 28 #[.slice A0 x0.length c0, .int .i64 x1, .int .i64 x2, .bool x3, .int .i64 x4], .row 4 1 (.slice (some ⟨g110, 0, none⟩) x5.length x5.length) x5.length (p112.1.flatMap eB), .row 4 1 (.slice B115 p112.2.1.length d116) p112.2.1.length (p112.2.1.flatMap eB)]) ?_ ?_
    · have _ := trivial
      refine wp_block ?_
      refine loop_gw (fun m a u => ∃ (p118 : List Bool × Int × List Bool × Int × Int × Bool × Int) (B120 : Option Addr) (d121 : Nat), m_impl_PanelRun_l1 x5 m p118 = some _ ∧ x5.length = p118.1.length ∧ Fr a 38 [(4, .pointer (some ⟨g102, 0, none⟩)), (5, .slice none 0 0), (6, .pointer (some ⟨g109, 0, none⟩)), (7, .slice (some ⟨g110, 0, none⟩) x5.length x5.length), (19, .slice A5 x5.length c5), (20, .int .i64 (x5.length : Int)), (21, .int .i64 p118.2.1)] ∧ St w u [.box g109 28 #[.slice B120 p118.2.2.1.length d121, .int .i64 p118.2.2.2.1, .int .i64 p118.2.2.2.2.1, .bool p118.2.2.2.2.2.1, .int .i64 p118.2.2.2.2.2.2], .box g102 28 #[.slice none 0 0, .int .i64 0, .int .i64 0, .bool false, .int .i64 0], .box g101 28 #[.slice A0 x0.length c0, .int .i64 x1, .int .i64 x2, .bool x3, .int .i64 x4], .row 4 1 (.slice (some ⟨g110, 0, none⟩) x5.length x5.length) x5.length (p118.1.flatMap eB), .row 4 1 (.slice B120 p118.2.2.1.length d121) p118.2.2.1.length (p118.2.2.1.flatMap eB)]) FUEL ⟨(List.replicate x5.length false, 0, p105.1, p105.2.1, p105.2.2.1, p105.2.2.2.1, p105.2.2.2.2), B106, d108, hM117, List.length_replicate.symm, hF.keep _ ⟨rfl, rfl, rfl, rfl, rfl, rfl, rfl, trivial⟩, S.sel [1, 3, 4, 0, 2] rfl rfl⟩ ?_
      clear hF S hM117; rintro m a u ⟨p118, B120, d121, hM117, hn119, hF, S⟩
      rcases m with _ | f1
      · exact none_some hM117
      rw [m_impl_PanelRun_l1.eq_2] at hM117
      refine wp_seq ?_
      refine wp_region_lit ?_
      refine op_val (v := .bool (ltB p118.2.1 (x5.length : Int))) rfl rfl hF rfl (run_lss (hF.ev rfl) (hF.ev rfl) rfl) ?_; clear hF; intro a hF
      refine wpList_nil ?_
      refine wp_seq ?_
      cases hc122 : (ltB p118.2.1 (x5.length : Int))
      · replace hM117 := bif_f hc122 hM117
        refine cond_f hF rfl hc122 ?_
        refine wp_exit ?_
        repeat with_reducible (first | refine then_exit ?_ | refine in_hit ?_ | refine in_miss rfl ?_)
        obtain rfl := Option.some.inj hM117
        exact ⟨(p118.1, p118.2.2.1, p118.2.2.2.1, p118.2.2.2.2.1, p118.2.2.2.2.2.1, p118.2.2.2.2.2.2), B120, d121, rfl, hn119, hF.keep _ ⟨rfl, rfl, rfl, rfl, trivial⟩, S.sel [0, 1, 2, 3, 4] rfl rfl⟩
      · replace hM117 := bif_t hc122 hM117
        refine cond_t hF rfl hc122 ?_
        refine wp_skip ?_
        refine wp_seq ?_
        refine wp_block ?_
        refine wp_seq ?_
        refine wp_region_lit ?_
        refine op_val (v := .int .i64 p118.2.1) rfl rfl hF rfl (run_move rfl (hF.ev rfl)) ?_; clear hF; intro a hF
        obtain ⟨hk123, hM117⟩ := chk_ex hM117
        replace hk123 := ixB_t hk123
        refine op_val (v := .pointer (some ⟨adB A5, adO A5 + p118.2.1.toNat * 4, none⟩)) rfl rfl hF rfl (run_indexAddr (b := adB A5) (off := adO A5) rfl Try.underlying41 sz32 ((hF.ev rfl).trans (congrArg (fun A => Value.slice A x5.length c5) ((S.rc0 h5.rc).rd.ad (ix_pos hk123)))) (hF.ev rfl) hk123.1 hk123.2 (k' := adO A5 + p118.2.1.toNat * 4) rfl) ?_; clear hF; intro a hF
        refine op_val (v := .agg #[.int .i64 ((x5.getD p118.2.1.toNat ((0, 0, 0, false) : Int × Int × Int × Bool)).1), .int .i64 ((x5.getD p118.2.1.toNat ((0, 0, 0, false) : Int × Int × Int × Bool)).2.1), .int .i64 ((x5.getD p118.2.1.toNat ((0, 0, 0, false) : Int × Int × Int × Bool)).2.2.1), .bool ((x5.getD p118.2.1.toNat ((0, 0, 0, false) : Int × Int × Int × Bool)).2.2.2)]) rfl rfl hF rfl (run_loadN (cs := #[.int .i64 ((x5.getD p118.2.1.toNat ((0, 0, 0, false) : Int × Int × Int × Bool)).1), .int .i64 ((x5.getD p118.2.1.toNat ((0, 0, 0, false) : Int × Int × Int × Bool)).2.1), .int .i64 ((x5.getD p118.2.1.toNat ((0, 0, 0, false) : Int × Int × Int × Bool)).2.2.1), .bool ((x5.getD p118.2.1.toNat ((0, 0, 0, false) : Int × Int × Int × Bool)).2.2.2)]) rfl ag32 (hF.ev rfl) rfl (rd_elN (l := x5) (S.rc0 h5.rc).rd rfl eCommand_len ((0, 0, 0, false) : Int × Int × Int × Bool) (ix_ltn hk123 rfl) rfl)) ?_; clear hF; intro a hF
        refine op_new (cs := #[.int .i64 0, .int .i64 0, .int .i64 0, .bool false]) rfl rfl hF rfl S (run_allocZ rfl zr32) ?_; clear hF S; intro a g124 u hF S
        refine op_val (v := .int .i64 p118.2.1) rfl rfl hF rfl (run_assign rfl (hF.ev rfl)) ?_; clear hF; intro a hF
        refine op_do rfl rfl (run_store (cs' := #[.int .i64 ((x5.getD p118.2.1.toNat ((0, 0, 0, false) : Int × Int × Int × Bool)).1), .int .i64 ((x5.getD p118.2.1.toNat ((0, 0, 0, false) : Int × Int × Int × Bool)).2.1), .int .i64 ((x5.getD p118.2.1.toNat ((0, 0, 0, false) : Int × Int × Int × Bool)).2.2.1), .bool ((x5.getD p118.2.1.toNat ((0, 0, 0, false) : Int × Int × Int × Bool)).2.2.2)]) rfl sz32 (hF.ev rfl) (hF.ev rfl) rfl rfl rfl (S.free 0 rfl) rfl rfl) ?_; replace S := S.put 0 rfl (#[.int .i64 ((x5.getD p118.2.1.toNat ((0, 0, 0, false) : Int × Int × Int × Bool)).1), .int .i64 ((x5.getD p118.2.1.toNat ((0, 0, 0, false) : Int × Int × Int × Bool)).2.1), .int .i64 ((x5.getD p118.2.1.toNat ((0, 0, 0, false) : Int × Int × Int × Bool)).2.2.1), .bool ((x5.getD p118.2.1.toNat ((0, 0, 0, false) : Int × Int × Int × Bool)).2.2.2)])
        generalize World.setRow _ _ _ = u at S ⊢
        refine wpList_nil ?_
        refine wp_region_lit ?_
        refine op_val (v := .slice (some ⟨g110, 0, none⟩) x5.length x5.length) rfl rfl hF rfl (run_move rfl (hF.ev rfl)) ?_; clear hF; intro a hF
        refine op_val (v := .int .i64 p118.2.1) rfl rfl hF rfl (run_move rfl (hF.ev rfl)) ?_; clear hF; intro a hF
        refine op_val (v := .agg #[.slice B120 p118.2.2.1.length d121, .int .i64 p118.2.2.2.1, .int .i64 p118.2.2.2.2.1, .bool p118.2.2.2.2.2.1, .int .i64 p118.2.2.2.2.2.2]) rfl rfl hF rfl (run_loadN rfl ag28 (hF.ev rfl) rfl ((S.free 1 rfl).cells 0 #[.slice B120 p118.2.2.1.length d121, .int .i64 p118.2.2.2.1, .int .i64 p118.2.2.2.2.1, .bool p118.2.2.2.2.2.1, .int .i64 p118.2.2.2.2.2.2] rfl)) ?_; clear hF; intro a hF
        refine op_val (v := .agg #[.int .i64 ((x5.getD p118.2.1.toNat ((0, 0, 0, false) : Int × Int × Int × Bool)).1), .int .i64 ((x5.getD p118.2.1.toNat ((0, 0, 0, false) : Int × Int × Int × Bool)).2.1), .int .i64 ((x5.getD p118.2.1.toNat ((0, 0, 0, false) : Int × Int × Int × Bool)).2.2.1), .bool ((x5.getD p118.2.1.toNat ((0, 0, 0, false) : Int × Int × Int × Bool)).2.2.2)]) rfl rfl hF rfl (run_loadN rfl ag32 (hF.ev rfl) rfl ((S.free 0 rfl).cells 0 #[.int .i64 ((x5.getD p118.2.1.toNat ((0, 0, 0, false) : Int × Int × Int × Bool)).1), .int .i64 ((x5.getD p118.2.1.toNat ((0, 0, 0, false) : Int × Int × Int × Bool)).2.1), .int .i64 ((x5.getD p118.2.1.toNat ((0, 0, 0, false) : Int × Int × Int × Bool)).2.2.1), .bool ((x5.getD p118.2.1.toNat ((0, 0, 0, false) : Int × Int × Int × Bool)).2.2.2)] rfl)) ?_; clear hF; intro a hF
        obtain ⟨p125, h125, hM117⟩ := bind_ex hM117
        refine op_call rfl rfl hF rfl (run_call (vs := [.agg #[.slice B120 p118.2.2.1.length d121, .int .i64 p118.2.2.2.1, .int .i64 p118.2.2.2.2.1, .bool p118.2.2.2.2.2.1, .int .i64 p118.2.2.2.2.2.2], .agg #[.int .i64 ((x5.getD p118.2.1.toNat ((0, 0, 0, false) : Int × Int × Int × Bool)).1), .int .i64 ((x5.getD p118.2.1.toNat ((0, 0, 0, false) : Int × Int × Int × Bool)).2.1), .int .i64 ((x5.getD p118.2.1.toNat ((0, 0, 0, false) : Int × Int × Int × Bool)).2.2.1), .bool ((x5.getD p118.2.1.toNat ((0, 0, 0, false) : Int × Int × Int × Bool)).2.2.2)]]) rfl rfl co10 ⟨(hF.ev rfl), (hF.ev rfl), trivial⟩) (c_impl_PanelDo (x0 := p118.2.2.1) (x1 := p118.2.2.2.1) (x2 := p118.2.2.2.2.1) (x3 := p118.2.2.2.2.2.1) (x4 := p118.2.2.2.2.2.2) (x5 := (x5.getD p118.2.1.toNat ((0, 0, 0, false) : Int × Int × Int × Bool)).1) (x6 := (x5.getD p118.2.1.toNat ((0, 0, 0, false) : Int × Int × Int × Bool)).2.1) (x7 := (x5.getD p118.2.1.toNat ((0, 0, 0, false) : Int × Int × Int × Bool)).2.2.1) (x8 := (x5.getD p118.2.1.toNat ((0, 0, 0, false) : Int × Int × Int × Bool)).2.2.2) ⟨(S.rc 5 rfl), rfl⟩ h125) ?_
        rintro e u ⟨B126, n127, d128, rfl, rfl, T⟩
        refine ⟨_, rfl, ?_⟩
        clear hF; intro a hF
        replace S := S.call1 T; clear T
        refine op_val (v := .tuple #[.agg #[.slice B126 p125.1.length d128, .int .i64 p125.2.1, .int .i64 p125.2.2.1, .bool p125.2.2.2.1, .int .i64 p125.2.2.2.2.1], .bool p125.2.2.2.2.2]) rfl rfl hF rfl (run_move rfl (hF.ev rfl)) ?_; clear hF; intro a hF
        refine op_val (v := .agg #[.slice B126 p125.1.length d128, .int .i64 p125.2.1, .int .i64 p125.2.2.1, .bool p125.2.2.2.1, .int .i64 p125.2.2.2.2.1]) rfl rfl hF rfl (run_extract rfl (hF.ev rfl) rfl) ?_; clear hF; intro a hF
        refine op_val (v := .bool p125.2.2.2.2.2) rfl rfl hF rfl (run_extract rfl (hF.ev rfl) rfl) ?_; clear hF; intro a hF
        refine op_do rfl rfl (run_store (cs' := #[.slice B126 p125.1.length d128, .int .i64 p125.2.1, .int .i64 p125.2.2.1, .bool p125.2.2.2.1, .int .i64 p125.2.2.2.2.1]) rfl sz28 (hF.ev rfl) (hF.ev rfl) rfl rfl rfl (S.free 2 rfl) rfl rfl) ?_; replace S := S.put 2 rfl (#[.slice B126 p125.1.length d128, .int .i64 p125.2.1, .int .i64 p125.2.2.1, .bool p125.2.2.2.1, .int .i64 p125.2.2.2.2.1])
        generalize World.setRow _ _ _ = u at S ⊢
        obtain ⟨hk129, hM117⟩ := chk_ex hM117
        replace hk129 := ixB_t hk129
        refine op_val (v := .pointer (some ⟨adB (some ⟨g110, 0, none⟩), adO (some ⟨g110, 0, none⟩) + p118.2.1.toNat * 1, none⟩)) rfl rfl hF rfl (run_indexAddr (b := adB (some ⟨g110, 0, none⟩)) (off := adO (some ⟨g110, 0, none⟩)) rfl Try.underlying22 sz4 ((hF.ev rfl).trans (congrArg (fun A => Value.slice A x5.length x5.length) ((S.rc 5 rfl).rd.ad (ix_pos hk129)))) (hF.ev rfl) hk129.1 hk129.2 (k' := adO (some ⟨g110, 0, none⟩) + p118.2.1.toNat * 1) rfl) ?_; clear hF; intro a hF
        obtain ⟨w', hrun, S'⟩ := run_storeElN (P := Try.prog) (ρ := a.eval) (y0 := p125.2.2.2.2.2) (off := 0) S 4 (.tmp 34) (.tmp 33) (i := 5) sz4 (hF.ev rfl) (hF.ev rfl) rfl rfl rfl rfl hn119 eB_len false (ix_ltn hk129 hn119) rfl rfl
        refine op_do rfl rfl (hrun _ rfl) ?_; clear hrun S; have S := S'; clear S'; generalize w' = u at S ⊢
        refine wpList_nil ?_
        refine wp_region_lit ?_
        refine op_val (v := .int .i64 (w64 (p118.2.1 + 1))) rfl rfl hF rfl (run_add (z := w64 (p118.2.1 + 1)) (hF.ev rfl) rfl rfl rfl) ?_; clear hF; intro a hF
        refine op_val (v := .int .i64 (w64 (p118.2.1 + 1))) rfl rfl hF rfl (run_move rfl (hF.ev rfl)) ?_; clear hF; intro a hF
        refine wpList_nil ?_
        exact ⟨f1, Nat.lt_succ_self _, (p118.1.set p118.2.1.toNat p125.2.2.2.2.2, w64 (p118.2.1 + 1), p125.1, p125.2.1, p125.2.2.1, p125.2.2.2.1, p125.2.2.2.2.1), B126, d128, hM117, (len_set hn119), hF.keep _ ⟨rfl, rfl, rfl, rfl, rfl, rfl, rfl, trivial⟩, S.sel [2, 3, 4, 5, 0] rfl rfl⟩
    · rintro a u ⟨p112, B115, d116, rfl, hn114, hF, S⟩
      refine wp_seq ?_
      refine wp_region_lit ?_
      refine op_val (v := .agg #[.slice B115 p112.2.1.length d116, .int .i64 p112.2.2.1, .int .i64 p112.2.2.2.1, .bool p112.2.2.2.2.1, .int .i64 p112.2.2.2.2.2]) rfl rfl hF rfl (run_loadN rfl ag28 (hF.ev rfl) rfl ((S.free 0 rfl).cells 0 #[.slice B115 p112.2.1.length d116, .int .i64 p112.2.2.1, .int .i64 p112.2.2.2.1, .bool p112.2.2.2.2.1, .int .i64 p112.2.2.2.2.2] rfl)) ?_; clear hF; intro a hF
      refine op_val (v := .slice (some ⟨g110, 0, none⟩) x5.length x5.length) rfl rfl hF rfl (run_move rfl (hF.ev rfl)) ?_; clear hF; intro a hF
      refine op_do rfl rfl (run_store (cs' := #[.slice B115 p112.2.1.length d116, .int .i64 p112.2.2.1, .int .i64 p112.2.2.2.1, .bool p112.2.2.2.2.1, .int .i64 p112.2.2.2.2.2]) rfl sz28 (hF.ev rfl) (hF.ev rfl) rfl rfl rfl (S.free 1 rfl) rfl rfl) ?_; replace S := S.put 1 rfl (#[.slice B115 p112.2.1.length d116, .int .i64 p112.2.2.1, .int .i64 p112.2.2.2.1, .bool p112.2.2.2.2.1, .int .i64 p112.2.2.2.2.2])
      generalize World.setRow _ _ _ = u at S ⊢
      refine op_val (v := .slice (some ⟨g110, 0, none⟩) x5.length x5.length) rfl rfl hF rfl (run_assign rfl (hF.ev rfl)) ?_; clear hF; intro a hF
      refine wpList_nil ?_
      refine wp_ret ?_
      repeat with_reducible (first | refine then_ret ?_ | refine in_ret ?_ | refine in_nrm ?_)
      refine ret2_gw (.inl rfl) hF rfl (res_cell (hF.ev rfl) (res_loadN ag28 rfl (S.cells 1 rfl 0 #[.slice B115 p112.2.1.length d116, .int .i64 p112.2.2.1, .int .i64 p112.2.2.2.1, .bool p112.2.2.2.2.1, .int .i64 p112.2.2.2.2.2] rfl))) (res_tmp (hF.ev rfl)) ?_
      obtain rfl := Option.some.inj hM
      exact ⟨B115, p112.2.1.length, d116, (some ⟨g110, 0, none⟩), x5.length, x5.length, rfl, rfl, hn114, S.sel [4, 3] rfl rfl⟩

set_option maxHeartbeats 4000000 in
theorem c_laws_eqCommand {x0 : Int} {x1 : Int} {x2 : Int} {x3 : Bool} {x4 : Int} {x5 : Int} {x6 : Int} {x7 : Bool} {w : World} {r : Bool}  (hM : m_laws_eqCommand x0 x1 x2 x3 x4 x5 x6 x7 = some r) :
    Calls Try.prog 37 #[.agg #[.int .i64 x0, .int .i64 x1, .int .i64 x2, .bool x3], .agg #[.int .i64 x4, .int .i64 x5, .int .i64 x6, .bool x7]] w (fun e w' => e = .returned (.bool r) ∧ St w w' []) := by
  unfold m_laws_eqCommand at hM
  refine calls_gw Try.func37 Try.ntmps37 rfl [(0, .agg #[.int .i64 x0, .int .i64 x1, .int .i64 x2, .bool x3]), (1, .agg #[.int .i64 x4, .int .i64 x5, .int .i64 x6, .bool x7])] ⟨rfl, rfl, trivial⟩ rfl ?_
  intro a hF
  have S := St.nil w
  refine wp_seq ?_
  refine wp_region_lit ?_
  refine op_new (cs := #[.int .i64 x0, .int .i64 x1, .int .i64 x2, .bool x3]) rfl rfl hF rfl S (run_box rfl (hF.ev rfl) rfl) ?_; clear hF S; intro a g101 u hF S
  refine op_new (cs := #[.int .i64 x4, .int .i64 x5, .int .i64 x6, .bool x7]) rfl rfl hF rfl S (run_box rfl (hF.ev rfl) rfl) ?_; clear hF S; intro a g102 u hF S
  refine op_val (v := .bool false) rfl rfl hF rfl (run_assign rfl rfl) ?_; clear hF; intro a hF
  refine wpList_nil ?_
  refine wp_seq ?_
  refine wp_seq ?_
  refine wp_region_lit ?_
  refine op_val (v := .pointer (some ⟨g101, 0, none⟩)) rfl rfl hF rfl (run_fieldAddr rfl fl32_0 (hF.ev rfl) rfl) ?_; clear hF; intro a hF
  refine op_val (v := .int .i64 x0) rfl rfl hF rfl (run_load1 rfl one3 (hF.ev rfl) ((S.free 1 rfl).cell rfl)) ?_; clear hF; intro a hF
  refine op_val (v := .pointer (some ⟨g102, 0, none⟩)) rfl rfl hF rfl (run_fieldAddr rfl fl32_0 (hF.ev rfl) rfl) ?_; clear hF; intro a hF
  refine op_val (v := .int .i64 x4) rfl rfl hF rfl (run_load1 rfl one3 (hF.ev rfl) ((S.free 0 rfl).cell rfl)) ?_; clear hF; intro a hF
  refine op_val (v := .bool (x0 != x4)) rfl rfl hF rfl (run_neq (hF.ev rfl) (hF.ev rfl) rfl) ?_; clear hF; intro a hF
  refine wpList_nil ?_
  cases hc103 : (x0 != x4)
  · replace hM := bif_f hc103 hM
    refine cond_f hF rfl hc103 ?_
    refine wp_skip ?_
    refine wp_seq ?_
    refine wp_seq ?_
    refine wp_region_lit ?_
    refine op_val (v := .pointer (some ⟨g101, 1, none⟩)) rfl rfl hF rfl (run_fieldAddr rfl fl32_1 (hF.ev rfl) rfl) ?_; clear hF; intro a hF
    refine op_val (v := .int .i64 x1) rfl rfl hF rfl (run_load1 rfl one3 (hF.ev rfl) ((S.free 1 rfl).cell rfl)) ?_; clear hF; intro a hF
    refine op_val (v := .pointer (some ⟨g102, 1, none⟩)) rfl rfl hF rfl (run_fieldAddr rfl fl32_1 (hF.ev rfl) rfl) ?_; clear hF; intro a hF
    refine op_val (v := .int .i64 x5) rfl rfl hF rfl (run_load1 rfl one3 (hF.ev rfl) ((S.free 0 rfl).cell rfl)) ?_; clear hF; intro a hF
    refine op_val (v := .bool (x1 != x5)) rfl rfl hF rfl (run_neq (hF.ev rfl) (hF.ev rfl) rfl) ?_; clear hF; intro a hF
    refine wpList_nil ?_
    cases hc104 : (x1 != x5)
    · replace hM := bif_f hc104 hM
      refine cond_f hF rfl hc104 ?_
      refine wp_skip ?_
      refine wp_seq ?_
      refine wp_seq ?_
      refine wp_region_lit ?_
      refine op_val (v := .pointer (some ⟨g101, 2, none⟩)) rfl rfl hF rfl (run_fieldAddr rfl fl32_2 (hF.ev rfl) rfl) ?_; clear hF; intro a hF
      refine op_val (v := .int .i64 x2) rfl rfl hF rfl (run_load1 rfl one3 (hF.ev rfl) ((S.free 1 rfl).cell rfl)) ?_; clear hF; intro a hF
      refine op_val (v := .pointer (some ⟨g102, 2, none⟩)) rfl rfl hF rfl (run_fieldAddr rfl fl32_2 (hF.ev rfl) rfl) ?_; clear hF; intro a hF
      refine op_val (v := .int .i64 x6) rfl rfl hF rfl (run_load1 rfl one3 (hF.ev rfl) ((S.free 0 rfl).cell rfl)) ?_; clear hF; intro a hF
      refine op_val (v := .bool (x2 != x6)) rfl rfl hF rfl (run_neq (hF.ev rfl) (hF.ev rfl) rfl) ?_; clear hF; intro a hF
      refine wpList_nil ?_
      cases hc105 : (x2 != x6)
      · replace hM := bif_f hc105 hM
        refine cond_f hF rfl hc105 ?_
        refine wp_skip ?_
        refine wp_seq ?_
        refine wp_seq ?_
        refine wp_region_lit ?_
        refine op_val (v := .pointer (some ⟨g101, 3, none⟩)) rfl rfl hF rfl (run_fieldAddr rfl fl32_3 (hF.ev rfl) rfl) ?_; clear hF; intro a hF
        refine op_val (v := .bool x3) rfl rfl hF rfl (run_load1 rfl one4 (hF.ev rfl) ((S.free 1 rfl).cell rfl)) ?_; clear hF; intro a hF
        refine op_val (v := .pointer (some ⟨g102, 3, none⟩)) rfl rfl hF rfl (run_fieldAddr rfl fl32_3 (hF.ev rfl) rfl) ?_; clear hF; intro a hF
        refine op_val (v := .bool x7) rfl rfl hF rfl (run_load1 rfl one4 (hF.ev rfl) ((S.free 0 rfl).cell rfl)) ?_; clear hF; intro a hF
        refine op_val (v := .bool (x3 != x7)) rfl rfl hF rfl (run_neqB (hF.ev rfl) (hF.ev rfl) Try.underlying4 rfl) ?_; clear hF; intro a hF
        refine wpList_nil ?_
        cases hc106 : (x3 != x7)
        · replace hM := bif_f hc106 hM
          refine cond_f hF rfl hc106 ?_
          refine wp_skip ?_
          refine wp_seq ?_
          refine wp_region_lit ?_
          refine op_val (v := .bool true) rfl rfl hF rfl (run_assign rfl rfl) ?_; clear hF; intro a hF
          refine wpList_nil ?_
          refine wp_ret ?_
          repeat with_reducible (first | refine then_ret ?_ | refine in_ret ?_ | refine in_nrm ?_)
          refine ret1_gw (.inl rfl) hF rfl (res_tmp (hF.ev rfl)) ?_
          obtain rfl := Option.some.inj hM
          exact ⟨rfl, S.sel [] rfl rfl⟩
        · replace hM := bif_t hc106 hM
          refine cond_t hF rfl hc106 ?_
          refine wp_seq ?_
          refine wp_region_lit ?_
          refine op_val (v := .bool false) rfl rfl hF rfl (run_assign rfl rfl) ?_; clear hF; intro a hF
          refine wpList_nil ?_
          refine wp_ret ?_
          repeat with_reducible (first | refine then_ret ?_ | refine in_ret ?_ | refine in_nrm ?_)
          refine ret1_gw (.inl rfl) hF rfl (res_tmp (hF.ev rfl)) ?_
          obtain rfl := Option.some.inj hM
          exact ⟨rfl, S.sel [] rfl rfl⟩
      · replace hM := bif_t hc105 hM
        refine cond_t hF rfl hc105 ?_
        refine wp_seq ?_
        refine wp_region_lit ?_
        refine op_val (v := .bool false) rfl rfl hF rfl (run_assign rfl rfl) ?_; clear hF; intro a hF
        refine wpList_nil ?_
        refine wp_ret ?_
        repeat with_reducible (first | refine then_ret ?_ | refine in_ret ?_ | refine in_nrm ?_)
        refine ret1_gw (.inl rfl) hF rfl (res_tmp (hF.ev rfl)) ?_
        obtain rfl := Option.some.inj hM
        exact ⟨rfl, S.sel [] rfl rfl⟩
    · replace hM := bif_t hc104 hM
      refine cond_t hF rfl hc104 ?_
      refine wp_seq ?_
      refine wp_region_lit ?_
      refine op_val (v := .bool false) rfl rfl hF rfl (run_assign rfl rfl) ?_; clear hF; intro a hF
      refine wpList_nil ?_
      refine wp_ret ?_
      repeat with_reducible (first | refine then_ret ?_ | refine in_ret ?_ | refine in_nrm ?_)
      refine ret1_gw (.inl rfl) hF rfl (res_tmp (hF.ev rfl)) ?_
      obtain rfl := Option.some.inj hM
      exact ⟨rfl, S.sel [] rfl rfl⟩
  · replace hM := bif_t hc103 hM
    refine cond_t hF rfl hc103 ?_
    refine wp_seq ?_
    refine wp_region_lit ?_
    refine op_val (v := .bool false) rfl rfl hF rfl (run_assign rfl rfl) ?_; clear hF; intro a hF
    refine wpList_nil ?_
    refine wp_ret ?_
    repeat with_reducible (first | refine then_ret ?_ | refine in_ret ?_ | refine in_nrm ?_)
    refine ret1_gw (.inl rfl) hF rfl (res_tmp (hF.ev rfl)) ?_
    obtain rfl := Option.some.inj hM
    exact ⟨rfl, S.sel [] rfl rfl⟩

set_option maxHeartbeats 4000000 in
theorem c_laws_eqCommandS {x0 : List (Int × Int × Int × Bool)} {x1 : List (Int × Int × Int × Bool)} {A0 : Option Addr} {n0 c0 : Nat} {A1 : Option Addr} {n1 c1 : Nat} {w : World} {r : Bool} (h0 : Rt w 4 eCommand A0 n0 c0 x0) (h1 : Rt w 4 eCommand A1 n1 c1 x1) (hM : m_laws_eqCommandS x0 x1 = some r) :
    Calls Try.prog 19 #[.slice A0 n0 c0, .slice A1 n1 c1] w (fun e w' => e = .returned (.bool r) ∧ St w w' []) := by
  obtain rfl := h0.len
  obtain rfl := h1.len
  unfold m_laws_eqCommandS at hM
  refine calls_gw Try.func19 Try.ntmps19 rfl [(0, .slice A0 x0.length c0), (1, .slice A1 x1.length c1)] ⟨rfl, rfl, trivial⟩ rfl ?_
  intro a hF
  have S := St.nil w
  refine wp_seq ?_
  refine wp_region_lit ?_
  refine op_val (v := .bool false) rfl rfl hF rfl (run_assign rfl rfl) ?_; clear hF; intro a hF
  refine wpList_nil ?_
  refine wp_seq ?_
  refine wp_seq ?_
  refine wp_region_lit ?_
  refine op_val (v := .slice A0 x0.length c0) rfl rfl hF rfl (run_move rfl (hF.ev rfl)) ?_; clear hF; intro a hF
  refine op_val (v := .int .i64 (x0.length : Int)) rfl rfl hF rfl (run_lenL rfl rfl Try.underlying41 (hF.ev rfl)) ?_; clear hF; intro a hF
  refine op_val (v := .slice A1 x1.length c1) rfl rfl hF rfl (run_move rfl (hF.ev rfl)) ?_; clear hF; intro a hF
  refine op_val (v := .int .i64 (x1.length : Int)) rfl rfl hF rfl (run_lenL rfl rfl Try.underlying41 (hF.ev rfl)) ?_; clear hF; intro a hF
  refine op_val (v := .bool ((x0.length : Int) != (x1.length : Int))) rfl rfl hF rfl (run_neq (hF.ev rfl) (hF.ev rfl) rfl) ?_; clear hF; intro a hF
  refine wpList_nil ?_
  cases hc101 : ((x0.length : Int) != (x1.length : Int))
  · replace hM := bif_f hc101 hM
    refine cond_f hF rfl hc101 ?_
    refine wp_skip ?_
    refine wp_seq ?_
    refine wp_seq ?_
    refine wp_region_lit ?_
    refine op_val (v := .int .i64 0) rfl rfl hF rfl (run_assign rfl rfl) ?_; clear hF; intro a hF
    refine wpList_nil ?_
    obtain ⟨o103, hM104, hM⟩ := bind_ex hM
    refine wp_cut (fun a u => ∃ (p102 : Unit), (Sum.inl p102) = o103 ∧ Fr a 27 [(4, .bool false)] ∧ St w u []) ?_ ?_
    · have _ := trivial
      refine wp_block ?_
      refine loop_gw (fun m a u => ∃ (p105 : Int), m_laws_eqCommandS_l1 x0 x1 m p105 = some _ ∧ Fr a 27 [(0, .slice A0 x0.length c0), (1, .slice A1 x1.length c1), (4, .bool false), (5, .int .i64 p105)] ∧ St w u []) FUEL ⟨0, hM104, hF.keep _ ⟨rfl, rfl, rfl, rfl, trivial⟩, S.sel [] rfl rfl⟩ ?_
      clear hF S hM104; rintro m a u ⟨p105, hM104, hF, S⟩
      rcases m with _ | f1
      · exact none_some hM104
      rw [m_laws_eqCommandS_l1.eq_2] at hM104
      refine wp_seq ?_
      refine wp_seq ?_
      refine wp_region_lit ?_
      refine op_val (v := .int .i64 p105) rfl rfl hF rfl (run_move rfl (hF.ev rfl)) ?_; clear hF; intro a hF
      refine op_val (v := .slice A0 x0.length c0) rfl rfl hF rfl (run_move rfl (hF.ev rfl)) ?_; clear hF; intro a hF
      refine op_val (v := .int .i64 (x0.length : Int)) rfl rfl hF rfl (run_lenL rfl rfl Try.underlying41 (hF.ev rfl)) ?_; clear hF; intro a hF
      refine op_val (v := .bool (ltB p105 (x0.length : Int))) rfl rfl hF rfl (run_lss (hF.ev rfl) (hF.ev rfl) rfl) ?_; clear hF; intro a hF
      refine wpList_nil ?_
      cases hc106 : (ltB p105 (x0.length : Int))
      · replace hM104 := bif_f hc106 hM104
        refine cond_f hF rfl hc106 ?_
        refine wp_exit ?_
        repeat with_reducible (first | refine then_exit ?_ | refine in_hit ?_ | refine in_miss rfl ?_)
        obtain rfl := Option.some.inj hM104
        exact ⟨(), rfl, hF.keep _ ⟨rfl, trivial⟩, S.sel [] rfl rfl⟩
      · replace hM104 := bif_t hc106 hM104
        refine cond_t hF rfl hc106 ?_
        refine wp_skip ?_
        refine wp_seq ?_
        refine wp_block ?_
        refine wp_seq ?_
        obtain ⟨hk107, hM104⟩ := chk_ex hM104
        replace hk107 := ixB_t hk107
        obtain ⟨hk108, hM104⟩ := chk_ex hM104
        replace hk108 := ixB_t hk108
        obtain ⟨p109, h109, hM104⟩ := bind_ex hM104
        refine region_gw (D := [17, 18, 19, 20, 21, 22, 23, 24, 25, 26]) (Lr := []) (deps := (fun | 0 => [17] | 1 => [18] | 2 => [19] | 3 => [20] | 4 => [21] | 5 => [22] | 6 => [23] | 7 => [24] | 8 => [25] | 9 => [26] | _ => [])) (rd := (fun _ => [])) (zr := (fun _ => []))
          (φ := fun i vs => match i, vs with | 0, [v17] => v17 = .slice A0 x0.length c0 | 1, [v18] => v18 = .int .i64 p105 | 2, [v19] => v19 = .pointer (some ⟨adB A0, adO A0 + p105.toNat * 4, none⟩) | 3, [v20] => v20 = .agg #[.int .i64 ((x0.getD p105.toNat ((0, 0, 0, false) : Int × Int × Int × Bool)).1), .int .i64 ((x0.getD p105.toNat ((0, 0, 0, false) : Int × Int × Int × Bool)).2.1), .int .i64 ((x0.getD p105.toNat ((0, 0, 0, false) : Int × Int × Int × Bool)).2.2.1), .bool ((x0.getD p105.toNat ((0, 0, 0, false) : Int × Int × Int × Bool)).2.2.2)] | 4, [v21] => v21 = .slice A1 x1.length c1 | 5, [v22] => v22 = .int .i64 p105 | 6, [v23] => v23 = .pointer (some ⟨adB A1, adO A1 + p105.toNat * 4, none⟩) | 7, [v24] => v24 = .agg #[.int .i64 ((x1.getD p105.toNat ((0, 0, 0, false) : Int × Int × Int × Bool)).1), .int .i64 ((x1.getD p105.toNat ((0, 0, 0, false) : Int × Int × Int × Bool)).2.1), .int .i64 ((x1.getD p105.toNat ((0, 0, 0, false) : Int × Int × Int × Bool)).2.2.1), .bool ((x1.getD p105.toNat ((0, 0, 0, false) : Int × Int × Int × Bool)).2.2.2)] | 8, [v25] => v25 = .bool p109 | 9, [v26] => v26 = .bool (!p109) | _, _ => True)
          (C := fun _ _ => [])
          (κ := (fun _ => none)) (Z := (fun _ => [])) mixed hF (by kernel_rfl) S ?_ ?_
        · refine ⟨?_, ?_, ?_, ?_, ?_, ?_, ?_, ?_, ?_, ?_, trivial⟩
          · intro a u X hB hu hp hr hz hl S
            replace S : St w u ([] ++ X) := S
            exact .inl ⟨rfl, .slice A0 x0.length c0, u, (run_move rfl (hF.evB hB rfl rfl)), rfl, S⟩
          · intro a u X hB hu hp hr hz hl S
            replace S : St w u ([] ++ X) := S
            exact .inl ⟨rfl, .int .i64 p105, u, (run_move rfl (hF.evB hB rfl rfl)), rfl, S⟩
          · intro a u X hB hu hp hr hz hl S
            replace S : St w u ([] ++ X) := S
            have e17 : sl a 17 = .slice A0 x0.length c0 := hp 0 rfl
            have e18 : sl a 18 = .int .i64 p105 := hp 1 rfl
            exact .inl ⟨rfl, .pointer (some ⟨adB A0, adO A0 + p105.toNat * 4, none⟩), u, (run_indexAddr (b := adB A0) (off := adO A0) rfl Try.underlying41 sz32 ((ev_sl e17).trans (congrArg (fun A => Value.slice A x0.length c0) ((S.rc0 h0.rc).rd.ad (ix_pos hk107)))) (ev_sl e18) hk107.1 hk107.2 (k' := adO A0 + p105.toNat * 4) rfl), rfl, S⟩
          · intro a u X hB hu hp hr hz hl S
            replace S : St w u ([] ++ X) := S
            have e19 : sl a 19 = .pointer (some ⟨adB A0, adO A0 + p105.toNat * 4, none⟩) := hp 2 rfl
            exact .inl ⟨rfl, .agg #[.int .i64 ((x0.getD p105.toNat ((0, 0, 0, false) : Int × Int × Int × Bool)).1), .int .i64 ((x0.getD p105.toNat ((0, 0, 0, false) : Int × Int × Int × Bool)).2.1), .int .i64 ((x0.getD p105.toNat ((0, 0, 0, false) : Int × Int × Int × Bool)).2.2.1), .bool ((x0.getD p105.toNat ((0, 0, 0, false) : Int × Int × Int × Bool)).2.2.2)], u, (run_loadN (cs := #[.int .i64 ((x0.getD p105.toNat ((0, 0, 0, false) : Int × Int × Int × Bool)).1), .int .i64 ((x0.getD p105.toNat ((0, 0, 0, false) : Int × Int × Int × Bool)).2.1), .int .i64 ((x0.getD p105.toNat ((0, 0, 0, false) : Int × Int × Int × Bool)).2.2.1), .bool ((x0.getD p105.toNat ((0, 0, 0, false) : Int × Int × Int × Bool)).2.2.2)]) rfl ag32 (ev_sl e19) rfl (rd_elN (l := x0) (S.rc0 h0.rc).rd rfl eCommand_len ((0, 0, 0, false) : Int × Int × Int × Bool) (ix_ltn hk107 rfl) rfl)), rfl, S⟩
          · intro a u X hB hu hp hr hz hl S
            replace S : St w u ([] ++ X) := S
            exact .inl ⟨rfl, .slice A1 x1.length c1, u, (run_move rfl (hF.evB hB rfl rfl)), rfl, S⟩
          · intro a u X hB hu hp hr hz hl S
            replace S : St w u ([] ++ X) := S
            exact .inl ⟨rfl, .int .i64 p105, u, (run_move rfl (hF.evB hB rfl rfl)), rfl, S⟩
          · intro a u X hB hu hp hr hz hl S
            replace S : St w u ([] ++ X) := S
            have e21 : sl a 21 = .slice A1 x1.length c1 := hp 4 rfl
            have e22 : sl a 22 = .int .i64 p105 := hp 5 rfl
            exact .inl ⟨rfl, .pointer (some ⟨adB A1, adO A1 + p105.toNat * 4, none⟩), u, (run_indexAddr (b := adB A1) (off := adO A1) rfl Try.underlying41 sz32 ((ev_sl e21).trans (congrArg (fun A => Value.slice A x1.length c1) ((S.rc0 h1.rc).rd.ad (ix_pos hk108)))) (ev_sl e22) hk108.1 hk108.2 (k' := adO A1 + p105.toNat * 4) rfl), rfl, S⟩
          · intro a u X hB hu hp hr hz hl S
            replace S : St w u ([] ++ X) := S
            have e23 : sl a 23 = .pointer (some ⟨adB A1, adO A1 + p105.toNat * 4, none⟩) := hp 6 rfl
            exact .inl ⟨rfl, .agg #[.int .i64 ((x1.getD p105.toNat ((0, 0, 0, false) : Int × Int × Int × Bool)).1), .int .i64 ((x1.getD p105.toNat ((0, 0, 0, false) : Int × Int × Int × Bool)).2.1), .int .i64 ((x1.getD p105.toNat ((0, 0, 0, false) : Int × Int × Int × Bool)).2.2.1), .bool ((x1.getD p105.toNat ((0, 0, 0, false) : Int × Int × Int × Bool)).2.2.2)], u, (run_loadN (cs := #[.int .i64 ((x1.getD p105.toNat ((0, 0, 0, false) : Int × Int × Int × Bool)).1), .int .i64 ((x1.getD p105.toNat ((0, 0, 0, false) : Int × Int × Int × Bool)).2.1), .int .i64 ((x1.getD p105.toNat ((0, 0, 0, false) : Int × Int × Int × Bool)).2.2.1), .bool ((x1.getD p105.toNat ((0, 0, 0, false) : Int × Int × Int × Bool)).2.2.2)]) rfl ag32 (ev_sl e23) rfl (rd_elN (l := x1) (S.rc0 h1.rc).rd rfl eCommand_len ((0, 0, 0, false) : Int × Int × Int × Bool) (ix_ltn hk108 rfl) rfl)), rfl, S⟩
          · intro a u X hB hu hp hr hz hl S
            replace S : St w u ([] ++ X) := S
            have e20 : sl a 20 = .agg #[.int .i64 ((x0.getD p105.toNat ((0, 0, 0, false) : Int × Int × Int × Bool)).1), .int .i64 ((x0.getD p105.toNat ((0, 0, 0, false) : Int × Int × Int × Bool)).2.1), .int .i64 ((x0.getD p105.toNat ((0, 0, 0, false) : Int × Int × Int × Bool)).2.2.1), .bool ((x0.getD p105.toNat ((0, 0, 0, false) : Int × Int × Int × Bool)).2.2.2)] := hp 3 rfl
            have e24 : sl a 24 = .agg #[.int .i64 ((x1.getD p105.toNat ((0, 0, 0, false) : Int × Int × Int × Bool)).1), .int .i64 ((x1.getD p105.toNat ((0, 0, 0, false) : Int × Int × Int × Bool)).2.1), .int .i64 ((x1.getD p105.toNat ((0, 0, 0, false) : Int × Int × Int × Bool)).2.2.1), .bool ((x1.getD p105.toNat ((0, 0, 0, false) : Int × Int × Int × Bool)).2.2.2)] := hp 7 rfl
            refine .inr (.inr (.inl ⟨rfl, _, _, (run_call (vs := [.agg #[.int .i64 ((x0.getD p105.toNat ((0, 0, 0, false) : Int × Int × Int × Bool)).1), .int .i64 ((x0.getD p105.toNat ((0, 0, 0, false) : Int × Int × Int × Bool)).2.1), .int .i64 ((x0.getD p105.toNat ((0, 0, 0, false) : Int × Int × Int × Bool)).2.2.1), .bool ((x0.getD p105.toNat ((0, 0, 0, false) : Int × Int × Int × Bool)).2.2.2)], .agg #[.int .i64 ((x1.getD p105.toNat ((0, 0, 0, false) : Int × Int × Int × Bool)).1), .int .i64 ((x1.getD p105.toNat ((0, 0, 0, false) : Int × Int × Int × Bool)).2.1), .int .i64 ((x1.getD p105.toNat ((0, 0, 0, false) : Int × Int × Int × Bool)).2.2.1), .bool ((x1.getD p105.toNat ((0, 0, 0, false) : Int × Int × Int × Bool)).2.2.2)]]) rfl rfl co37 ⟨(ev_sl e20), (ev_sl e24), trivial⟩), ?_⟩))
            refine Calls.mono (c_laws_eqCommand (x0 := (x0.getD p105.toNat ((0, 0, 0, false) : Int × Int × Int × Bool)).1) (x1 := (x0.getD p105.toNat ((0, 0, 0, false) : Int × Int × Int × Bool)).2.1) (x2 := (x0.getD p105.toNat ((0, 0, 0, false) : Int × Int × Int × Bool)).2.2.1) (x3 := (x0.getD p105.toNat ((0, 0, 0, false) : Int × Int × Int × Bool)).2.2.2) (x4 := (x1.getD p105.toNat ((0, 0, 0, false) : Int × Int × Int × Bool)).1) (x5 := (x1.getD p105.toNat ((0, 0, 0, false) : Int × Int × Int × Bool)).2.1) (x6 := (x1.getD p105.toNat ((0, 0, 0, false) : Int × Int × Int × Bool)).2.2.1) (x7 := (x1.getD p105.toNat ((0, 0, 0, false) : Int × Int × Int × Bool)).2.2.2)  h109) ?_
            rintro e w1 ⟨rfl, T⟩
            exact ⟨_, rfl, rfl, S.call0 T⟩
          · intro a u X hB hu hp hr hz hl S
            replace S : St w u ([] ++ X) := S
            have e25 : sl a 25 = .bool p109 := hp 8 rfl
            exact .inl ⟨rfl, .bool (!p109), u, (run_not rfl (ev_sl e25)), rfl, S⟩
        · intro a u hB hp S
          obtain ⟨q0, q1, q2, q3, q4, q5, q6, q7, q8, q9, _⟩ := hp
          have e17 : sl a 17 = .slice A0 x0.length c0 := q0
          have e18 : sl a 18 = .int .i64 p105 := q1
          have e19 : sl a 19 = .pointer (some ⟨adB A0, adO A0 + p105.toNat * 4, none⟩) := q2
          have e20 : sl a 20 = .agg #[.int .i64 ((x0.getD p105.toNat ((0, 0, 0, false) : Int × Int × Int × Bool)).1), .int .i64 ((x0.getD p105.toNat ((0, 0, 0, false) : Int × Int × Int × Bool)).2.1), .int .i64 ((x0.getD p105.toNat ((0, 0, 0, false) : Int × Int × Int × Bool)).2.2.1), .bool ((x0.getD p105.toNat ((0, 0, 0, false) : Int × Int × Int × Bool)).2.2.2)] := q3
          have e21 : sl a 21 = .slice A1 x1.length c1 := q4
          have e22 : sl a 22 = .int .i64 p105 := q5
          have e23 : sl a 23 = .pointer (some ⟨adB A1, adO A1 + p105.toNat * 4, none⟩) := q6
          have e24 : sl a 24 = .agg #[.int .i64 ((x1.getD p105.toNat ((0, 0, 0, false) : Int × Int × Int × Bool)).1), .int .i64 ((x1.getD p105.toNat ((0, 0, 0, false) : Int × Int × Int × Bool)).2.1), .int .i64 ((x1.getD p105.toNat ((0, 0, 0, false) : Int × Int × Int × Bool)).2.2.1), .bool ((x1.getD p105.toNat ((0, 0, 0, false) : Int × Int × Int × Bool)).2.2.2)] := q7
          have e25 : sl a 25 = .bool p109 := q8
          have e26 : sl a 26 = .bool (!p109) := q9
          replace S : St w u [] := S
          clear q0 q1 q2 q3 q4 q5 q6 q7 q8 q9
          have hF := hF.region hB [(17, .slice A0 x0.length c0), (18, .int .i64 p105), (19, .pointer (some ⟨adB A0, adO A0 + p105.toNat * 4, none⟩)), (20, .agg #[.int .i64 ((x0.getD p105.toNat ((0, 0, 0, false) : Int × Int × Int × Bool)).1), .int .i64 ((x0.getD p105.toNat ((0, 0, 0, false) : Int × Int × Int × Bool)).2.1), .int .i64 ((x0.getD p105.toNat ((0, 0, 0, false) : Int × Int × Int × Bool)).2.2.1), .bool ((x0.getD p105.toNat ((0, 0, 0, false) : Int × Int × Int × Bool)).2.2.2)]), (21, .slice A1 x1.length c1), (22, .int .i64 p105), (23, .pointer (some ⟨adB A1, adO A1 + p105.toNat * 4, none⟩)), (24, .agg #[.int .i64 ((x1.getD p105.toNat ((0, 0, 0, false) : Int × Int × Int × Bool)).1), .int .i64 ((x1.getD p105.toNat ((0, 0, 0, false) : Int × Int × Int × Bool)).2.1), .int .i64 ((x1.getD p105.toNat ((0, 0, 0, false) : Int × Int × Int × Bool)).2.2.1), .bool ((x1.getD p105.toNat ((0, 0, 0, false) : Int × Int × Int × Bool)).2.2.2)]), (25, .bool p109), (26, .bool (!p109))] (allSl_mem ⟨e17, e18, e19, e20, e21, e22, e23, e24, e25, e26, trivial⟩) rfl
          clear hB e17 e18 e19 e20 e21 e22 e23 e24 e25 e26
          cases hc110 : (p109)
          · replace hM104 := bif_f hc110 hM104
            refine cond_t hF rfl (not_t hc110) ?_
            refine wp_seq ?_
            refine wp_region_lit ?_
            refine op_val (v := .bool false) rfl rfl hF rfl (run_assign rfl rfl) ?_; clear hF; intro a hF
            refine wpList_nil ?_
            refine wp_ret ?_
            repeat with_reducible (first | refine then_ret ?_ | refine in_ret ?_ | refine in_nrm ?_)
            refine ret1_gw (.inl rfl) hF rfl (res_tmp (hF.ev rfl)) ?_
            obtain rfl := Option.some.inj hM104
            obtain rfl := Option.some.inj hM
            exact ⟨rfl, S.sel [] rfl rfl⟩
          · replace hM104 := bif_t hc110 hM104
            refine cond_f hF rfl (not_f hc110) ?_
            refine wp_skip ?_
            refine wp_region_lit ?_
            refine op_val (v := .int .i64 p105) rfl rfl hF rfl (run_move rfl (hF.ev rfl)) ?_; clear hF; intro a hF
            refine op_val (v := .int .i64 (w64 (p105 + 1))) rfl rfl hF rfl (run_add (z := w64 (p105 + 1)) (hF.ev rfl) rfl rfl rfl) ?_; clear hF; intro a hF
            refine op_val (v := .int .i64 (w64 (p105 + 1))) rfl rfl hF rfl (run_assign rfl (hF.ev rfl)) ?_; clear hF; intro a hF
            refine wpList_nil ?_
            exact ⟨f1, Nat.lt_succ_self _, w64 (p105 + 1), hM104, hF.keep _ ⟨rfl, rfl, rfl, rfl, trivial⟩, S.sel [] rfl rfl⟩
    · rintro a u ⟨p102, rfl, hF, S⟩
      replace hM := elim_l hM
      refine wp_seq ?_
      refine wp_region_lit ?_
      refine op_val (v := .bool true) rfl rfl hF rfl (run_assign rfl rfl) ?_; clear hF; intro a hF
      refine wpList_nil ?_
      refine wp_ret ?_
      repeat with_reducible (first | refine then_ret ?_ | refine in_ret ?_ | refine in_nrm ?_)
      refine ret1_gw (.inl rfl) hF rfl (res_tmp (hF.ev rfl)) ?_
      obtain rfl := Option.some.inj hM
      exact ⟨rfl, S.sel [] rfl rfl⟩
  · replace hM := bif_t hc101 hM
    refine cond_t hF rfl hc101 ?_
    refine wp_seq ?_
    refine wp_region_lit ?_
    refine op_val (v := .bool false) rfl rfl hF rfl (run_assign rfl rfl) ?_; clear hF; intro a hF
    refine wpList_nil ?_
    refine wp_ret ?_
    repeat with_reducible (first | refine then_ret ?_ | refine in_ret ?_ | refine in_nrm ?_)
    refine ret1_gw (.inl rfl) hF rfl (res_tmp (hF.ev rfl)) ?_
    obtain rfl := Option.some.inj hM
    exact ⟨rfl, S.sel [] rfl rfl⟩

set_option maxHeartbeats 4000000 in
theorem c_laws_markCommandS {x0 : List (Int × Int × Int × Bool)} {x1 : Int} {A0 : Option Addr} {n0 c0 : Nat} {w : World} {r : Int × List (Int × Int × Int × Bool)} {w0 : World} {X : List Asn} (h0 : n0 = x0.length) (S : St w0 w (Asn.row 32 4 (.slice A0 n0 c0) n0 (x0.flatMap eCommand) :: X)) (hM : m_laws_markCommandS x0 x1 = some r) :
    Calls Try.prog 20 #[.slice A0 n0 c0, .int .i64 x1] w (fun e w' => e = .returned (.int .i64 r.1) ∧ n0 = r.2.length ∧ St w0 w' (Asn.row 32 4 (.slice A0 n0 c0) n0 (r.2.flatMap eCommand) :: X)) := by
  obtain rfl := h0
  unfold m_laws_markCommandS at hM
  refine calls_gw Try.func20 Try.ntmps20 rfl [(0, .slice A0 x0.length c0), (1, .int .i64 x1)] ⟨rfl, rfl, trivial⟩ rfl ?_
  intro a hF
  refine wp_seq ?_
  refine wp_region_lit ?_
  refine op_val (v := .int .i64 0) rfl rfl hF rfl (run_assign rfl rfl) ?_; clear hF; intro a hF
  refine wpList_nil ?_
  refine wp_seq ?_
  refine wp_seq ?_
  refine wp_region_lit ?_
  refine op_val (v := .int .i64 0) rfl rfl hF rfl (run_assign rfl rfl) ?_; clear hF; intro a hF
  refine wpList_nil ?_
  obtain ⟨o102, hM104, hM⟩ := bind_ex hM
  refine wp_cut (fun a u => ∃ (p101 : Int × List (Int × Int × Int × Bool)), p101 = o102 ∧ x0.length = p101.2.length ∧ Fr a 43 [(1, .int .i64 p101.1), (4, .int .i64 0)] ∧ St w0 u (Asn.row 32 4 (.slice A0 x0.length c0) x0.length (p101.2.flatMap eCommand) :: X)) ?_ ?_
  · have _ := trivial
    refine wp_block ?_
    refine loop_gw (fun m a u => ∃ (p105 : List (Int × Int × Int × Bool) × Int × Int), m_laws_markCommandS_l1 x0 m p105 = some _ ∧ x0.length = p105.1.length ∧ Fr a 43 [(0, .slice A0 x0.length c0), (1, .int .i64 p105.2.1), (4, .int .i64 0), (5, .int .i64 p105.2.2)] ∧ St w0 u (Asn.row 32 4 (.slice A0 x0.length c0) x0.length (p105.1.flatMap eCommand) :: X)) FUEL ⟨(x0, x1, 0), hM104, rfl, hF.keep _ ⟨rfl, rfl, rfl, rfl, trivial⟩, S.selT (M := [.row 32 4 (.slice A0 x0.length c0) x0.length (x0.flatMap eCommand)]) 1 [0] rfl rfl rfl⟩ ?_
    clear hF S hM104; rintro m a u ⟨p105, hM104, hn106, hF, S⟩
    rcases m with _ | f1
    · exact none_some hM104
    rw [m_laws_markCommandS_l1.eq_2] at hM104
    refine wp_seq ?_
    refine wp_seq ?_
    refine wp_region_lit ?_
    refine op_val (v := .int .i64 p105.2.2) rfl rfl hF rfl (run_move rfl (hF.ev rfl)) ?_; clear hF; intro a hF
    refine op_val (v := .slice A0 x0.length c0) rfl rfl hF rfl (run_move rfl (hF.ev rfl)) ?_; clear hF; intro a hF
    refine op_val (v := .int .i64 (x0.length : Int)) rfl rfl hF rfl (run_lenL rfl rfl Try.underlying41 (hF.ev rfl)) ?_; clear hF; intro a hF
    refine op_val (v := .bool (ltB p105.2.2 (x0.length : Int))) rfl rfl hF rfl (run_lss (hF.ev rfl) (hF.ev rfl) rfl) ?_; clear hF; intro a hF
    refine wpList_nil ?_
    cases hc107 : (ltB p105.2.2 (x0.length : Int))
    · replace hM104 := bif_f hc107 hM104
      refine cond_f hF rfl hc107 ?_
      refine wp_exit ?_
      repeat with_reducible (first | refine then_exit ?_ | refine in_hit ?_ | refine in_miss rfl ?_)
      obtain rfl := Option.some.inj hM104
      exact ⟨(p105.2.1, p105.1), rfl, hn106, hF.keep _ ⟨rfl, rfl, trivial⟩, S.selT (M := [.row 32 4 (.slice A0 x0.length c0) x0.length (p105.1.flatMap eCommand)]) 1 [0] rfl rfl rfl⟩
    · replace hM104 := bif_t hc107 hM104
      refine cond_t hF rfl hc107 ?_
      refine wp_skip ?_
      refine wp_seq ?_
      refine wp_block ?_
      refine wp_seq ?_
      refine wp_region_lit ?_
      refine op_val (v := .slice A0 x0.length c0) rfl rfl hF rfl (run_move rfl (hF.ev rfl)) ?_; clear hF; intro a hF
      refine op_val (v := .int .i64 p105.2.2) rfl rfl hF rfl (run_move rfl (hF.ev rfl)) ?_; clear hF; intro a hF
      refine op_val (v := .int .i64 p105.2.1) rfl rfl hF rfl (run_move rfl (hF.ev rfl)) ?_; clear hF; intro a hF
      obtain ⟨hk108, hM104⟩ := chk_ex hM104
      replace hk108 := ixB_t hk108
      refine op_val (v := .pointer (some ⟨adB A0, adO A0 + p105.2.2.toNat * 4, none⟩)) rfl rfl hF rfl (run_indexAddr (b := adB A0) (off := adO A0) rfl Try.underlying41 sz32 ((hF.ev rfl).trans (congrArg (fun A => Value.slice A x0.length c0) ((S.rc 0 rfl).rd.ad (ix_pos hk108)))) (hF.ev rfl) hk108.1 hk108.2 (k' := adO A0 + p105.2.2.toNat * 4) rfl) ?_; clear hF; intro a hF
      refine op_val (v := .pointer (some ⟨adB A0, adO A0 + p105.2.2.toNat * 4, none⟩)) rfl rfl hF rfl (run_fieldAddr rfl fl32_0 (hF.ev rfl) rfl) ?_; clear hF; intro a hF
      obtain ⟨w', hrun, S'⟩ := run_storeElN (P := Try.prog) (ρ := a.eval) (y0 := (p105.2.1, (p105.1.getD p105.2.2.toNat ((0, 0, 0, false) : Int × Int × Int × Bool)).2.1, (p105.1.getD p105.2.2.toNat ((0, 0, 0, false) : Int × Int × Int × Bool)).2.2.1, (p105.1.getD p105.2.2.toNat ((0, 0, 0, false) : Int × Int × Int × Bool)).2.2.2)) (off := 0) S 3 (.tmp 16) (.tmp 14) (i := 0) sz3 (hF.ev rfl) (hF.ev rfl) rfl rfl rfl rfl hn106 eCommand_len ((0, 0, 0, false) : Int × Int × Int × Bool) (ix_ltn hk108 hn106) rfl rfl
      refine op_do rfl rfl (hrun _ rfl) ?_; clear hrun S; have S := S'; clear S'; generalize w' = u at S ⊢
      refine wpList_nil ?_
      refine wp_seq ?_
      refine wp_region_lit ?_
      refine op_val (v := .int .i64 p105.2.1) rfl rfl hF rfl (run_move rfl (hF.ev rfl)) ?_; clear hF; intro a hF
      refine op_val (v := .int .i64 (w64 (p105.2.1 + 1))) rfl rfl hF rfl (run_add (z := w64 (p105.2.1 + 1)) (hF.ev rfl) rfl rfl rfl) ?_; clear hF; intro a hF
      refine op_val (v := .int .i64 (w64 (p105.2.1 + 1))) rfl rfl hF rfl (run_assign rfl (hF.ev rfl)) ?_; clear hF; intro a hF
      refine wpList_nil ?_
      refine wp_seq ?_
      refine wp_region_lit ?_
      refine op_val (v := .slice A0 x0.length c0) rfl rfl hF rfl (run_move rfl (hF.ev rfl)) ?_; clear hF; intro a hF
      refine op_val (v := .int .i64 p105.2.2) rfl rfl hF rfl (run_move rfl (hF.ev rfl)) ?_; clear hF; intro a hF
      refine op_val (v := .int .i64 (w64 (p105.2.1 + 1))) rfl rfl hF rfl (run_move rfl (hF.ev rfl)) ?_; clear hF; intro a hF
      obtain ⟨hk109, hM104⟩ := chk_ex hM104
      replace hk109 := ixB_t hk109
      refine op_val (v := .pointer (some ⟨adB A0, adO A0 + p105.2.2.toNat * 4, none⟩)) rfl rfl hF rfl (run_indexAddr (b := adB A0) (off := adO A0) rfl Try.underlying41 sz32 ((hF.ev rfl).trans (congrArg (fun A => Value.slice A x0.length c0) ((S.rc 0 rfl).rd.ad (ix_pos hk109)))) (hF.ev rfl) hk109.1 hk109.2 (k' := adO A0 + p105.2.2.toNat * 4) rfl) ?_; clear hF; intro a hF
      refine op_val (v := .pointer (some ⟨adB A0, adO A0 + p105.2.2.toNat * 4 + 1, none⟩)) rfl rfl hF rfl (run_fieldAddr rfl fl32_1 (hF.ev rfl) rfl) ?_; clear hF; intro a hF
      obtain ⟨w', hrun, S'⟩ := run_storeEl2 (P := Try.prog) (ρ := a.eval) (l := p105.1) (y0 := (p105.2.1, (p105.1.getD p105.2.2.toNat ((0, 0, 0, false) : Int × Int × Int × Bool)).2.1, (p105.1.getD p105.2.2.toNat ((0, 0, 0, false) : Int × Int × Int × Bool)).2.2.1, (p105.1.getD p105.2.2.toNat ((0, 0, 0, false) : Int × Int × Int × Bool)).2.2.2)) (y1 := (p105.2.1, w64 (p105.2.1 + 1), (p105.1.getD p105.2.2.toNat ((0, 0, 0, false) : Int × Int × Int × Bool)).2.2.1, (p105.1.getD p105.2.2.toNat ((0, 0, 0, false) : Int × Int × Int × Bool)).2.2.2)) (off := 1) S 3 (.tmp 23) (.tmp 21) (i := 0) sz3 (hF.ev rfl) (hF.ev rfl) rfl rfl rfl rfl hn106 eCommand_len (ix_ltn hk109 hn106) rfl rfl
      refine op_do rfl rfl (hrun _ rfl) ?_; clear hrun S; have S := S'; clear S'; generalize w' = u at S ⊢
      refine wpList_nil ?_
      refine wp_seq ?_
      refine wp_region_lit ?_
      refine op_val (v := .int .i64 (w64 (p105.2.1 + 1))) rfl rfl hF rfl (run_move rfl (hF.ev rfl)) ?_; clear hF; intro a hF
      refine op_val (v := .int .i64 (w64 ((w64 (p105.2.1 + 1)) + 1))) rfl rfl hF rfl (run_add (z := w64 ((w64 (p105.2.1 + 1)) + 1)) (hF.ev rfl) rfl rfl rfl) ?_; clear hF; intro a hF
      refine op_val (v := .int .i64 (w64 ((w64 (p105.2.1 + 1)) + 1))) rfl rfl hF rfl (run_assign rfl (hF.ev rfl)) ?_; clear hF; intro a hF
      refine wpList_nil ?_
      refine wp_seq ?_
      refine wp_region_lit ?_
      refine op_val (v := .slice A0 x0.length c0) rfl rfl hF rfl (run_move rfl (hF.ev rfl)) ?_; clear hF; intro a hF
      refine op_val (v := .int .i64 p105.2.2) rfl rfl hF rfl (run_move rfl (hF.ev rfl)) ?_; clear hF; intro a hF
      refine op_val (v := .int .i64 (w64 ((w64 (p105.2.1 + 1)) + 1))) rfl rfl hF rfl (run_move rfl (hF.ev rfl)) ?_; clear hF; intro a hF
      obtain ⟨hk110, hM104⟩ := chk_ex hM104
      replace hk110 := ixB_t hk110
      refine op_val (v := .pointer (some ⟨adB A0, adO A0 + p105.2.2.toNat * 4, none⟩)) rfl rfl hF rfl (run_indexAddr (b := adB A0) (off := adO A0) rfl Try.underlying41 sz32 ((hF.ev rfl).trans (congrArg (fun A => Value.slice A x0.length c0) ((S.rc 0 rfl).rd.ad (ix_pos hk110)))) (hF.ev rfl) hk110.1 hk110.2 (k' := adO A0 + p105.2.2.toNat * 4) rfl) ?_; clear hF; intro a hF
      refine op_val (v := .pointer (some ⟨adB A0, adO A0 + p105.2.2.toNat * 4 + 2, none⟩)) rfl rfl hF rfl (run_fieldAddr rfl fl32_2 (hF.ev rfl) rfl) ?_; clear hF; intro a hF
      obtain ⟨w', hrun, S'⟩ := run_storeEl2 (P := Try.prog) (ρ := a.eval) (l := p105.1) (y0 := (p105.2.1, w64 (p105.2.1 + 1), (p105.1.getD p105.2.2.toNat ((0, 0, 0, false) : Int × Int × Int × Bool)).2.2.1, (p105.1.getD p105.2.2.toNat ((0, 0, 0, false) : Int × Int × Int × Bool)).2.2.2)) (y1 := (p105.2.1, w64 (p105.2.1 + 1), w64 ((w64 (p105.2.1 + 1)) + 1), (p105.1.getD p105.2.2.toNat ((0, 0, 0, false) : Int × Int × Int × Bool)).2.2.2)) (off := 2) S 3 (.tmp 30) (.tmp 28) (i := 0) sz3 (hF.ev rfl) (hF.ev rfl) rfl rfl rfl rfl hn106 eCommand_len (ix_ltn hk110 hn106) rfl rfl
      refine op_do rfl rfl (hrun _ rfl) ?_; clear hrun S; have S := S'; clear S'; generalize w' = u at S ⊢
      refine wpList_nil ?_
      refine wp_seq ?_
      refine wp_region_lit ?_
      refine op_val (v := .int .i64 (w64 ((w64 (p105.2.1 + 1)) + 1))) rfl rfl hF rfl (run_move rfl (hF.ev rfl)) ?_; clear hF; intro a hF
      refine op_val (v := .int .i64 (w64 ((w64 ((w64 (p105.2.1 + 1)) + 1)) + 1))) rfl rfl hF rfl (run_add (z := w64 ((w64 ((w64 (p105.2.1 + 1)) + 1)) + 1)) (hF.ev rfl) rfl rfl rfl) ?_; clear hF; intro a hF
      refine op_val (v := .int .i64 (w64 ((w64 ((w64 (p105.2.1 + 1)) + 1)) + 1))) rfl rfl hF rfl (run_assign rfl (hF.ev rfl)) ?_; clear hF; intro a hF
      refine wpList_nil ?_
      refine wp_seq ?_
      refine wp_region_lit ?_
      refine op_val (v := .slice A0 x0.length c0) rfl rfl hF rfl (run_move rfl (hF.ev rfl)) ?_; clear hF; intro a hF
      refine op_val (v := .int .i64 p105.2.2) rfl rfl hF rfl (run_move rfl (hF.ev rfl)) ?_; clear hF; intro a hF
      refine op_val (v := .int .i64 (w64 ((w64 ((w64 (p105.2.1 + 1)) + 1)) + 1))) rfl rfl hF rfl (run_move rfl (hF.ev rfl)) ?_; clear hF; intro a hF
      refine op_val (v := .int .i64 (Int.tmod (w64 ((w64 ((w64 (p105.2.1 + 1)) + 1)) + 1)) 3)) rfl rfl hF rfl (run_rem (z := Int.tmod (w64 ((w64 ((w64 (p105.2.1 + 1)) + 1)) + 1)) 3) (hF.ev rfl) rfl rfl (by decide) rfl) ?_; clear hF; intro a hF
      refine op_val (v := .bool ((Int.tmod (w64 ((w64 ((w64 (p105.2.1 + 1)) + 1)) + 1)) 3) == 0)) rfl rfl hF rfl (run_eql (hF.ev rfl) rfl rfl) ?_; clear hF; intro a hF
      obtain ⟨hk111, hM104⟩ := chk_ex hM104
      replace hk111 := ixB_t hk111
      refine op_val (v := .pointer (some ⟨adB A0, adO A0 + p105.2.2.toNat * 4, none⟩)) rfl rfl hF rfl (run_indexAddr (b := adB A0) (off := adO A0) rfl Try.underlying41 sz32 ((hF.ev rfl).trans (congrArg (fun A => Value.slice A x0.length c0) ((S.rc 0 rfl).rd.ad (ix_pos hk111)))) (hF.ev rfl) hk111.1 hk111.2 (k' := adO A0 + p105.2.2.toNat * 4) rfl) ?_; clear hF; intro a hF
      refine op_val (v := .pointer (some ⟨adB A0, adO A0 + p105.2.2.toNat * 4 + 3, none⟩)) rfl rfl hF rfl (run_fieldAddr rfl fl32_3 (hF.ev rfl) rfl) ?_; clear hF; intro a hF
      obtain ⟨w', hrun, S'⟩ := run_storeEl2 (P := Try.prog) (ρ := a.eval) (l := p105.1) (y0 := (p105.2.1, w64 (p105.2.1 + 1), w64 ((w64 (p105.2.1 + 1)) + 1), (p105.1.getD p105.2.2.toNat ((0, 0, 0, false) : Int × Int × Int × Bool)).2.2.2)) (y1 := (p105.2.1, w64 (p105.2.1 + 1), w64 ((w64 (p105.2.1 + 1)) + 1), (Int.tmod (w64 ((w64 ((w64 (p105.2.1 + 1)) + 1)) + 1)) 3) == 0)) (off := 3) S 4 (.tmp 39) (.tmp 37) (i := 0) sz4 (hF.ev rfl) (hF.ev rfl) rfl rfl rfl rfl hn106 eCommand_len (ix_ltn hk111 hn106) rfl rfl
      refine op_do rfl rfl (hrun _ rfl) ?_; clear hrun S; have S := S'; clear S'; generalize w' = u at S ⊢
      refine wpList_nil ?_
      refine wp_region_lit ?_
      refine op_val (v := .int .i64 (w64 ((w64 ((w64 (p105.2.1 + 1)) + 1)) + 1))) rfl rfl hF rfl (run_move rfl (hF.ev rfl)) ?_; clear hF; intro a hF
      refine op_val (v := .int .i64 (w64 ((w64 ((w64 ((w64 (p105.2.1 + 1)) + 1)) + 1)) + 1))) rfl rfl hF rfl (run_add (z := w64 ((w64 ((w64 ((w64 (p105.2.1 + 1)) + 1)) + 1)) + 1)) (hF.ev rfl) rfl rfl rfl) ?_; clear hF; intro a hF
      refine op_val (v := .int .i64 (w64 ((w64 ((w64 ((w64 (p105.2.1 + 1)) + 1)) + 1)) + 1))) rfl rfl hF rfl (run_assign rfl (hF.ev rfl)) ?_; clear hF; intro a hF
      refine wpList_nil ?_
      refine wp_region_lit ?_
      refine op_val (v := .int .i64 p105.2.2) rfl rfl hF rfl (run_move rfl (hF.ev rfl)) ?_; clear hF; intro a hF
      refine op_val (v := .int .i64 (w64 (p105.2.2 + 1))) rfl rfl hF rfl (run_add (z := w64 (p105.2.2 + 1)) (hF.ev rfl) rfl rfl rfl) ?_; clear hF; intro a hF
      refine op_val (v := .int .i64 (w64 (p105.2.2 + 1))) rfl rfl hF rfl (run_assign rfl (hF.ev rfl)) ?_; clear hF; intro a hF
      refine wpList_nil ?_
      exact ⟨f1, Nat.lt_succ_self _, (p105.1.set p105.2.2.toNat (p105.2.1, w64 (p105.2.1 + 1), w64 ((w64 (p105.2.1 + 1)) + 1), (Int.tmod (w64 ((w64 ((w64 (p105.2.1 + 1)) + 1)) + 1)) 3) == 0), w64 ((w64 ((w64 ((w64 (p105.2.1 + 1)) + 1)) + 1)) + 1), w64 (p105.2.2 + 1)), hM104, (len_set hn106), hF.keep _ ⟨rfl, rfl, rfl, rfl, trivial⟩, S.selT (M := [.row 32 4 (.slice A0 x0.length c0) x0.length ((p105.1.set p105.2.2.toNat (p105.2.1, w64 (p105.2.1 + 1), w64 ((w64 (p105.2.1 + 1)) + 1), (Int.tmod (w64 ((w64 ((w64 (p105.2.1 + 1)) + 1)) + 1)) 3) == 0)).flatMap eCommand)]) 1 [0] rfl rfl rfl⟩
  · rintro a u ⟨p101, rfl, hn103, hF, S⟩
    refine wp_seq ?_
    refine wp_region_lit ?_
    refine op_val (v := .int .i64 p101.1) rfl rfl hF rfl (run_move rfl (hF.ev rfl)) ?_; clear hF; intro a hF
    refine op_val (v := .int .i64 p101.1) rfl rfl hF rfl (run_assign rfl (hF.ev rfl)) ?_; clear hF; intro a hF
    refine wpList_nil ?_
    refine wp_ret ?_
    repeat with_reducible (first | refine then_ret ?_ | refine in_ret ?_ | refine in_nrm ?_)
    refine ret1_gw (.inl rfl) hF rfl (res_tmp (hF.ev rfl)) ?_
    obtain rfl := Option.some.inj hM
    exact ⟨rfl, hn103, S.selT (M := [.row 32 4 (.slice A0 x0.length c0) x0.length (p101.2.flatMap eCommand)]) 1 [0] rfl rfl rfl⟩

set_option maxHeartbeats 4000000 in
theorem c_laws_FnExactPanelRun {x0 : List Bool} {x1 : Int} {x2 : Int} {x3 : Bool} {x4 : Int} {x5 : List (Int × Int × Int × Bool)} {A0 : Option Addr} {n0 c0 : Nat} {A5 : Option Addr} {n5 c5 : Nat} {w : World} {r : Bool} (h0 : Rt w 1 eB A0 n0 c0 x0) (h5 : Rt w 4 eLCommand A5 n5 c5 x5) (hM : m_laws_FnExactPanelRun x0 x1 x2 x3 x4 x5 = some r) :
    Calls Try.prog 4 #[.agg #[.slice A0 n0 c0, .int .i64 x1, .int .i64 x2, .bool x3, .int .i64 x4], .slice A5 n5 c5] w (fun e w' => e = .returned (.bool r) ∧ St w w' []) := by
  obtain rfl := h0.len
  obtain rfl := h5.len
  unfold m_laws_FnExactPanelRun at hM
  refine calls_gw Try.func4 Try.ntmps4 rfl [(0, .agg #[.slice A0 x0.length c0, .int .i64 x1, .int .i64 x2, .bool x3, .int .i64 x4]), (1, .slice A5 x5.length c5)] ⟨rfl, rfl, trivial⟩ rfl ?_
  intro a hF
  have S := St.nil w
  refine wp_seq ?_
  refine wp_region_lit ?_
  refine op_new (cs := #[.slice A0 x0.length c0, .int .i64 x1, .int .i64 x2, .bool x3, .int .i64 x4]) rfl rfl hF rfl S (run_box rfl (hF.ev rfl) rfl) ?_; clear hF S; intro a g101 u hF S
  refine op_val (v := .bool false) rfl rfl hF rfl (run_assign rfl rfl) ?_; clear hF; intro a hF
  refine wpList_nil ?_
  refine wp_seq ?_
  refine wp_region_lit ?_
  refine op_val (v := .int .i64 1048576) rfl rfl hF rfl (run_assign rfl rfl) ?_; clear hF; intro a hF
  refine wpList_nil ?_
  refine wp_seq ?_
  refine wp_region_lit ?_
  refine op_val (v := .agg #[.slice A0 x0.length c0, .int .i64 x1, .int .i64 x2, .bool x3, .int .i64 x4]) rfl rfl hF rfl (run_loadN rfl ag24 (hF.ev rfl) rfl ((S.free 0 rfl).cells 0 #[.slice A0 x0.length c0, .int .i64 x1, .int .i64 x2, .bool x3, .int .i64 x4] rfl)) ?_; clear hF; intro a hF
  refine op_val (v := .int .i64 1048576) rfl rfl hF rfl (run_move rfl (hF.ev rfl)) ?_; clear hF; intro a hF
  obtain ⟨p102, h102, hM⟩ := bind_ex hM
  refine op_call rfl rfl hF rfl (run_call (vs := [.agg #[.slice A0 x0.length c0, .int .i64 x1, .int .i64 x2, .bool x3, .int .i64 x4], .int .i64 1048576]) rfl rfl co6 ⟨(hF.ev rfl), (hF.ev rfl), trivial⟩) (c_laws_szPanel (x0 := x0) (x1 := x1) (x2 := x2) (x3 := x3) (x4 := x4) (x5 := 1048576) ⟨(S.rc0 h0.rc), rfl⟩ h102) ?_
  rintro e u ⟨rfl, T⟩
  refine ⟨_, rfl, ?_⟩
  clear hF; intro a hF
  replace S := S.call0 T; clear T
  refine op_val (v := .int .i64 p102) rfl rfl hF rfl (run_assign rfl (hF.ev rfl)) ?_; clear hF; intro a hF
  refine wpList_nil ?_
  refine wp_seq ?_
  refine wp_seq ?_
  refine wp_region_lit ?_
  refine op_val (v := .int .i64 p102) rfl rfl hF rfl (run_move rfl (hF.ev rfl)) ?_; clear hF; intro a hF
  refine op_val (v := .bool (ltB p102 0)) rfl rfl hF rfl (run_lss (hF.ev rfl) rfl rfl) ?_; clear hF; intro a hF
  refine wpList_nil ?_
  cases hc103 : (ltB p102 0)
  · replace hM := bif_f hc103 hM
    refine cond_f hF rfl hc103 ?_
    refine wp_skip ?_
    refine wp_seq ?_
    refine wp_region_lit ?_
    refine op_val (v := .slice A5 x5.length c5) rfl rfl hF rfl (run_move rfl (hF.ev rfl)) ?_; clear hF; intro a hF
    refine op_val (v := .int .i64 p102) rfl rfl hF rfl (run_move rfl (hF.ev rfl)) ?_; clear hF; intro a hF
    obtain ⟨p104, h104, hM⟩ := bind_ex hM
    refine op_call rfl rfl hF rfl (run_call (vs := [.slice A5 x5.length c5, .int .i64 p102]) rfl rfl co14 ⟨(hF.ev rfl), (hF.ev rfl), trivial⟩) (c_laws_szCommandS (x0 := x5) (x1 := p102) ⟨(S.rc0 h5.rc), rfl⟩ h104) ?_
    rintro e u ⟨rfl, T⟩
    refine ⟨_, rfl, ?_⟩
    clear hF; intro a hF
    replace S := S.call0 T; clear T
    refine op_val (v := .int .i64 p104) rfl rfl hF rfl (run_assign rfl (hF.ev rfl)) ?_; clear hF; intro a hF
    refine wpList_nil ?_
    refine wp_seq ?_
    refine wp_seq ?_
    refine wp_region_lit ?_
    refine op_val (v := .int .i64 p104) rfl rfl hF rfl (run_move rfl (hF.ev rfl)) ?_; clear hF; intro a hF
    refine op_val (v := .bool (ltB p104 0)) rfl rfl hF rfl (run_lss (hF.ev rfl) rfl rfl) ?_; clear hF; intro a hF
    refine wpList_nil ?_
    cases hc105 : (ltB p104 0)
    · replace hM := bif_f hc105 hM
      refine cond_f hF rfl hc105 ?_
      refine wp_skip ?_
      refine wp_seq ?_
      refine wp_region_lit ?_
      refine op_val (v := .agg #[.slice A0 x0.length c0, .int .i64 x1, .int .i64 x2, .bool x3, .int .i64 x4]) rfl rfl hF rfl (run_loadN rfl ag24 (hF.ev rfl) rfl ((S.free 0 rfl).cells 0 #[.slice A0 x0.length c0, .int .i64 x1, .int .i64 x2, .bool x3, .int .i64 x4] rfl)) ?_; clear hF; intro a hF
      obtain ⟨p106, h106, hM⟩ := bind_ex hM
      refine op_call rfl rfl hF rfl (run_call (vs := [.agg #[.slice A0 x0.length c0, .int .i64 x1, .int .i64 x2, .bool x3, .int .i64 x4]]) rfl rfl co8 ⟨(hF.ev rfl), trivial⟩) (c_laws_toPanel (x0 := x0) (x1 := x1) (x2 := x2) (x3 := x3) (x4 := x4) ⟨(S.rc0 h0.rc), rfl⟩ h106) ?_
      rintro e u ⟨B107, n108, d109, rfl, rfl, T⟩
      refine ⟨_, rfl, ?_⟩
      clear hF; intro a hF
      replace S := S.call1 T; clear T
      refine op_val (v := .slice A5 x5.length c5) rfl rfl hF rfl (run_move rfl (hF.ev rfl)) ?_; clear hF; intro a hF
      obtain ⟨p110, h110, hM⟩ := bind_ex hM
      refine op_call rfl rfl hF rfl (run_call (vs := [.slice A5 x5.length c5]) rfl rfl co16 ⟨(hF.ev rfl), trivial⟩) (c_laws_toCommandS (x0 := x5) ⟨(S.rc0 h5.rc), rfl⟩ h110) ?_
      rintro e u ⟨B111, n112, d113, rfl, rfl, T⟩
      refine ⟨_, rfl, ?_⟩
      clear hF; intro a hF
      replace S := S.call1 T; clear T
      obtain ⟨p114, h114, hM⟩ := bind_ex hM
      refine op_call rfl rfl hF rfl (run_call (vs := [.agg #[.slice B107 p106.1.length d109, .int .i64 p106.2.1, .int .i64 p106.2.2.1, .bool p106.2.2.2.1, .int .i64 p106.2.2.2.2], .slice B111 p110.length d113]) rfl rfl co15 ⟨(hF.ev rfl), (hF.ev rfl), trivial⟩) (c_spec_PanelRun (x0 := p106.1) (x1 := p106.2.1) (x2 := p106.2.2.1) (x3 := p106.2.2.2.1) (x4 := p106.2.2.2.2) (x5 := p110) ⟨(S.rc 1 rfl), rfl⟩ ⟨(S.rc 0 rfl), rfl⟩ h114) ?_
      rintro e u ⟨B115, n116, d117, B118, n119, d120, rfl, rfl, rfl, T⟩
      refine ⟨_, rfl, ?_⟩
      clear hF; intro a hF
      replace S := S.call2 T; clear T
      refine op_val (v := .tuple #[.agg #[.slice B115 p114.1.length d117, .int .i64 p114.2.1, .int .i64 p114.2.2.1, .bool p114.2.2.2.1, .int .i64 p114.2.2.2.2.1], .slice B118 p114.2.2.2.2.2.length d120]) rfl rfl hF rfl (run_move rfl (hF.ev rfl)) ?_; clear hF; intro a hF
      refine op_val (v := .agg #[.slice B115 p114.1.length d117, .int .i64 p114.2.1, .int .i64 p114.2.2.1, .bool p114.2.2.2.1, .int .i64 p114.2.2.2.2.1]) rfl rfl hF rfl (run_extract rfl (hF.ev rfl) rfl) ?_; clear hF; intro a hF
      refine op_val (v := .slice B118 p114.2.2.2.2.2.length d120) rfl rfl hF rfl (run_extract rfl (hF.ev rfl) rfl) ?_; clear hF; intro a hF
      refine op_new (cs := #[.slice none 0 0, .int .i64 0, .int .i64 0, .bool false, .int .i64 0]) rfl rfl hF rfl S (run_allocZ rfl zr28) ?_; clear hF S; intro a g121 u hF S
      refine op_do rfl rfl (run_store (cs' := #[.slice B115 p114.1.length d117, .int .i64 p114.2.1, .int .i64 p114.2.2.1, .bool p114.2.2.2.1, .int .i64 p114.2.2.2.2.1]) rfl sz28 (hF.ev rfl) (hF.ev rfl) rfl rfl rfl (S.free 0 rfl) rfl rfl) ?_; replace S := S.put 0 rfl (#[.slice B115 p114.1.length d117, .int .i64 p114.2.1, .int .i64 p114.2.2.1, .bool p114.2.2.2.1, .int .i64 p114.2.2.2.2.1])
      generalize World.setRow _ _ _ = u at S ⊢
      refine op_val (v := .slice B118 p114.2.2.2.2.2.length d120) rfl rfl hF rfl (run_assign rfl (hF.ev rfl)) ?_; clear hF; intro a hF
      refine wpList_nil ?_
      refine wp_seq ?_
      refine wp_region_lit ?_
      refine op_val (v := .agg #[.slice A0 x0.length c0, .int .i64 x1, .int .i64 x2, .bool x3, .int .i64 x4]) rfl rfl hF rfl (run_loadN rfl ag24 (hF.ev rfl) rfl ((S.free 5 rfl).cells 0 #[.slice A0 x0.length c0, .int .i64 x1, .int .i64 x2, .bool x3, .int .i64 x4] rfl)) ?_; clear hF; intro a hF
      obtain ⟨p122, h122, hM⟩ := bind_ex hM
      refine op_call rfl rfl hF rfl (run_call (vs := [.agg #[.slice A0 x0.length c0, .int .i64 x1, .int .i64 x2, .bool x3, .int .i64 x4]]) rfl rfl co8 ⟨(hF.ev rfl), trivial⟩) (c_laws_toPanel (x0 := x0) (x1 := x1) (x2 := x2) (x3 := x3) (x4 := x4) ⟨(S.rc0 h0.rc), rfl⟩ h122) ?_
      rintro e u ⟨B123, n124, d125, rfl, rfl, T⟩
      refine ⟨_, rfl, ?_⟩
      clear hF; intro a hF
      replace S := S.call1 T; clear T
      refine op_new (cs := #[.slice none 0 0, .int .i64 0, .int .i64 0, .bool false, .int .i64 0]) rfl rfl hF rfl S (run_allocZ rfl zr28) ?_; clear hF S; intro a g126 u hF S
      refine op_do rfl rfl (run_store (cs' := #[.slice B123 p122.1.length d125, .int .i64 p122.2.1, .int .i64 p122.2.2.1, .bool p122.2.2.2.1, .int .i64 p122.2.2.2.2]) rfl sz28 (hF.ev rfl) (hF.ev rfl) rfl rfl rfl (S.free 0 rfl) rfl rfl) ?_; replace S := S.put 0 rfl (#[.slice B123 p122.1.length d125, .int .i64 p122.2.1, .int .i64 p122.2.2.1, .bool p122.2.2.2.1, .int .i64 p122.2.2.2.2])
      generalize World.setRow _ _ _ = u at S ⊢
      refine wpList_nil ?_
      refine wp_seq ?_
      refine wp_region_lit ?_
      refine op_val (v := .slice A5 x5.length c5) rfl rfl hF rfl (run_move rfl (hF.ev rfl)) ?_; clear hF; intro a hF
      obtain ⟨p127, h127, hM⟩ := bind_ex hM
      refine op_call rfl rfl hF rfl (run_call (vs := [.slice A5 x5.length c5]) rfl rfl co16 ⟨(hF.ev rfl), trivial⟩) (c_laws_toCommandS (x0 := x5) ⟨(S.rc0 h5.rc), rfl⟩ h127) ?_
      rintro e u ⟨B128, n129, d130, rfl, rfl, T⟩
      refine ⟨_, rfl, ?_⟩
      clear hF; intro a hF
      replace S := S.call1 T; clear T
      refine op_val (v := .slice B128 p127.length d130) rfl rfl hF rfl (run_assign rfl (hF.ev rfl)) ?_; clear hF; intro a hF
      refine wpList_nil ?_
      refine wp_seq ?_
      refine wp_region_lit ?_
      refine op_val (v := .agg #[.slice B123 p122.1.length d125, .int .i64 p122.2.1, .int .i64 p122.2.2.1, .bool p122.2.2.2.1, .int .i64 p122.2.2.2.2]) rfl rfl hF rfl (run_loadN rfl ag28 (hF.ev rfl) rfl ((S.free 1 rfl).cells 0 #[.slice B123 p122.1.length d125, .int .i64 p122.2.1, .int .i64 p122.2.2.1, .bool p122.2.2.2.1, .int .i64 p122.2.2.2.2] rfl)) ?_; clear hF; intro a hF
      refine op_val (v := .slice B128 p127.length d130) rfl rfl hF rfl (run_move rfl (hF.ev rfl)) ?_; clear hF; intro a hF
      obtain ⟨p131, h131, hM⟩ := bind_ex hM
      refine op_call rfl rfl hF rfl (run_call (vs := [.agg #[.slice B123 p122.1.length d125, .int .i64 p122.2.1, .int .i64 p122.2.2.1, .bool p122.2.2.2.1, .int .i64 p122.2.2.2.2], .slice B128 p127.length d130]) rfl rfl co17 ⟨(hF.ev rfl), (hF.ev rfl), trivial⟩) (c_impl_PanelRun (x0 := p122.1) (x1 := p122.2.1) (x2 := p122.2.2.1) (x3 := p122.2.2.2.1) (x4 := p122.2.2.2.2) (x5 := p127) ⟨(S.rc 2 rfl), rfl⟩ ⟨(S.rc 0 rfl), rfl⟩ h131) ?_
      rintro e u ⟨B132, n133, d134, B135, n136, d137, rfl, rfl, rfl, T⟩
      refine ⟨_, rfl, ?_⟩
      clear hF; intro a hF
      replace S := S.call2 T; clear T
      refine op_val (v := .tuple #[.agg #[.slice B132 p131.1.length d134, .int .i64 p131.2.1, .int .i64 p131.2.2.1, .bool p131.2.2.2.1, .int .i64 p131.2.2.2.2.1], .slice B135 p131.2.2.2.2.2.length d137]) rfl rfl hF rfl (run_move rfl (hF.ev rfl)) ?_; clear hF; intro a hF
      refine op_val (v := .agg #[.slice B132 p131.1.length d134, .int .i64 p131.2.1, .int .i64 p131.2.2.1, .bool p131.2.2.2.1, .int .i64 p131.2.2.2.2.1]) rfl rfl hF rfl (run_extract rfl (hF.ev rfl) rfl) ?_; clear hF; intro a hF
      refine op_val (v := .slice B135 p131.2.2.2.2.2.length d137) rfl rfl hF rfl (run_extract rfl (hF.ev rfl) rfl) ?_; clear hF; intro a hF
      refine op_new (cs := #[.slice none 0 0, .int .i64 0, .int .i64 0, .bool false, .int .i64 0]) rfl rfl hF rfl S (run_allocZ rfl zr28) ?_; clear hF S; intro a g138 u hF S
      refine op_do rfl rfl (run_store (cs' := #[.slice B132 p131.1.length d134, .int .i64 p131.2.1, .int .i64 p131.2.2.1, .bool p131.2.2.2.1, .int .i64 p131.2.2.2.2.1]) rfl sz28 (hF.ev rfl) (hF.ev rfl) rfl rfl rfl (S.free 0 rfl) rfl rfl) ?_; replace S := S.put 0 rfl (#[.slice B132 p131.1.length d134, .int .i64 p131.2.1, .int .i64 p131.2.2.1, .bool p131.2.2.2.1, .int .i64 p131.2.2.2.2.1])
      generalize World.setRow _ _ _ = u at S ⊢
      refine op_val (v := .slice B135 p131.2.2.2.2.2.length d137) rfl rfl hF rfl (run_assign rfl (hF.ev rfl)) ?_; clear hF; intro a hF
      refine wpList_nil ?_
      refine wp_seq ?_
      refine wp_seq ?_
      refine wp_region_lit ?_
      refine op_val (v := .agg #[.slice B132 p131.1.length d134, .int .i64 p131.2.1, .int .i64 p131.2.2.1, .bool p131.2.2.2.1, .int .i64 p131.2.2.2.2.1]) rfl rfl hF rfl (run_loadN rfl ag28 (hF.ev rfl) rfl ((S.free 0 rfl).cells 0 #[.slice B132 p131.1.length d134, .int .i64 p131.2.1, .int .i64 p131.2.2.1, .bool p131.2.2.2.1, .int .i64 p131.2.2.2.2.1] rfl)) ?_; clear hF; intro a hF
      refine op_val (v := .agg #[.slice B115 p114.1.length d117, .int .i64 p114.2.1, .int .i64 p114.2.2.1, .bool p114.2.2.2.1, .int .i64 p114.2.2.2.2.1]) rfl rfl hF rfl (run_loadN rfl ag28 (hF.ev rfl) rfl ((S.free 6 rfl).cells 0 #[.slice B115 p114.1.length d117, .int .i64 p114.2.1, .int .i64 p114.2.2.1, .bool p114.2.2.2.1, .int .i64 p114.2.2.2.2.1] rfl)) ?_; clear hF; intro a hF
      obtain ⟨p139, h139, hM⟩ := bind_ex hM
      refine op_call rfl rfl hF rfl (run_call (vs := [.agg #[.slice B132 p131.1.length d134, .int .i64 p131.2.1, .int .i64 p131.2.2.1, .bool p131.2.2.2.1, .int .i64 p131.2.2.2.2.1], .agg #[.slice B115 p114.1.length d117, .int .i64 p114.2.1, .int .i64 p114.2.2.1, .bool p114.2.2.2.1, .int .i64 p114.2.2.2.2.1]]) rfl rfl co11 ⟨(hF.ev rfl), (hF.ev rfl), trivial⟩) (c_laws_eqPanel (x0 := p131.1) (x1 := p131.2.1) (x2 := p131.2.2.1) (x3 := p131.2.2.2.1) (x4 := p131.2.2.2.2.1) (x5 := p114.1) (x6 := p114.2.1) (x7 := p114.2.2.1) (x8 := p114.2.2.2.1) (x9 := p114.2.2.2.2.1) ⟨(S.rc 1 rfl), rfl⟩ ⟨(S.rc 7 rfl), rfl⟩ h139) ?_
      rintro e u ⟨rfl, T⟩
      refine ⟨_, rfl, ?_⟩
      clear hF; intro a hF
      replace S := S.call0 T; clear T
      refine op_val (v := .bool (!p139)) rfl rfl hF rfl (run_not rfl (hF.ev rfl)) ?_; clear hF; intro a hF
      refine op_val (v := .bool (!p139)) rfl rfl hF rfl (run_move rfl (hF.ev rfl)) ?_; clear hF; intro a hF
      refine op_gv (v := .slice B135 p131.2.2.2.2.2.length d137) rfl rfl hF rfl (yf (gw_yield hF rfl rfl rfl)) (fun hg => (run_move rfl (hF.ev rfl))) ?_; clear hF; intro a hF
      refine op_gv (v := .slice B118 p114.2.2.2.2.2.length d120) rfl rfl hF rfl (yf (gw_yield hF rfl rfl rfl)) (fun hg => (run_move rfl (hF.ev rfl))) ?_; clear hF; intro a hF
      obtain ⟨p140, h140, hM⟩ := bind_ex hM
      refine op_gcall (v := .bool p140) rfl rfl hF rfl S (yf (gw_yield hF rfl rfl rfl)) (fun hg => (run_call (vs := [.slice B135 p131.2.2.2.2.2.length d137, .slice B118 p114.2.2.2.2.2.length d120]) rfl rfl co18 ⟨((hF.ev rfl).trans (gv_t hg)), ((hF.ev rfl).trans (gv_t hg)), trivial⟩)) (fun hg => c_laws_eqBoolS (x0 := p131.2.2.2.2.2) (x1 := p114.2.2.2.2.2) ⟨(S.rc 2 rfl), rfl⟩ ⟨(S.rc 8 rfl), rfl⟩ (gb_t h140 hg)) ?_; clear hF S; intro a u hF S
      refine op_gv (v := .bool (!p140)) rfl rfl hF rfl (yf (gw_yield hF rfl rfl rfl)) (fun hg => (run_not rfl ((hF.ev rfl).trans (gv_t hg)))) ?_; clear hF; intro a hF
      refine op_val (v := .bool ((!p139) || (!p140))) rfl rfl hF rfl (run_pick_or rfl (hF.ev rfl) rfl (fun hp => ((hF.ev rfl).trans (gv_t (not_t hp))))) ?_; clear hF; intro a hF
      refine wpList_nil ?_
      cases hc141 : ((!p139) || (!p140))
      · replace hM := bif_f hc141 hM
        refine cond_f hF rfl hc141 ?_
        refine wp_skip ?_
        refine wp_seq ?_
        refine wp_seq ?_
        obtain ⟨p142, h142, hM⟩ := bind_ex hM
        obtain ⟨p146, h146, hM⟩ := bind_ex hM
        refine region_gw (D := [55, 56, 57, 58, 59]) (Lr := [.box g138 28 #[.slice B132 p131.1.length d134, .int .i64 p131.2.1, .int .i64 p131.2.2.1, .bool p131.2.2.2.1, .int .i64 p131.2.2.2.2.1], .row 4 1 (.slice B132 p131.1.length d134) p131.1.length (p131.1.flatMap eB), .row 4 1 (.slice B135 p131.2.2.2.2.2.length d137) p131.2.2.2.2.2.length (p131.2.2.2.2.2.flatMap eB), .row 32 4 (.slice B128 p127.length d130) p127.length (p127.flatMap eCommand), .box g126 28 #[.slice B123 p122.1.length d125, .int .i64 p122.2.1, .int .i64 p122.2.2.1, .bool p122.2.2.2.1, .int .i64 p122.2.2.2.2], .row 4 1 (.slice B123 p122.1.length d125) p122.1.length (p122.1.flatMap eB), .box g121 28 #[.slice B115 p114.1.length d117, .int .i64 p114.2.1, .int .i64 p114.2.2.1, .bool p114.2.2.2.1, .int .i64 p114.2.2.2.2.1], .row 4 1 (.slice B115 p114.1.length d117) p114.1.length (p114.1.flatMap eB), .row 4 1 (.slice B118 p114.2.2.2.2.2.length d120) p114.2.2.2.2.2.length (p114.2.2.2.2.2.flatMap eB), .row 32 4 (.slice B111 p110.length d113) p110.length (p110.flatMap eCommand), .row 4 1 (.slice B107 p106.1.length d109) p106.1.length (p106.1.flatMap eB), .box g101 24 #[.slice A0 x0.length c0, .int .i64 x1, .int .i64 x2, .bool x3, .int .i64 x4]]) (deps := (fun | 0 => [55] | 1 => [56] | 2 => [57] | 3 => [58] | 4 => [59] | _ => [])) (rd := (fun | 3 => [2] | _ => [])) (zr := (fun _ => []))
          (φ := fun i vs => match i, vs with | 0, [v55] => v55 = .agg #[.slice B123 p122.1.length d125, .int .i64 p122.2.1, .int .i64 p122.2.2.1, .bool p122.2.2.2.1, .int .i64 p122.2.2.2.2] | 1, [v56] => v56 = .agg #[.slice A0 x0.length c0, .int .i64 x1, .int .i64 x2, .bool x3, .int .i64 x4] | 2, [v57] => v57 = .agg #[.slice (slA (vtup v57 0)) p142.1.length (slC (vtup v57 0)), .int .i64 p142.2.1, .int .i64 p142.2.2.1, .bool p142.2.2.2.1, .int .i64 p142.2.2.2.2] | 3, [v58] => v58 = .bool p146 | 4, [v59] => v59 = .bool (!p146) | _, _ => True)
          (C := fun i vs => match i, vs with | 2, [v57] => [.row 4 1 (.slice (slA (vtup v57 0)) p142.1.length (slC (vtup v57 0))) p142.1.length (p142.1.flatMap eB)] | _, _ => [])
          (κ := (fun _ => none)) (Z := (fun _ => [])) mixed hF (by kernel_rfl) S ?_ ?_
        · refine ⟨?_, ?_, ?_, ?_, ?_, trivial⟩
          · intro a u X hB hu hp hr hz hl S
            replace S : St w u ([] ++ X) := S
            exact .inl ⟨rfl, .agg #[.slice B123 p122.1.length d125, .int .i64 p122.2.1, .int .i64 p122.2.2.1, .bool p122.2.2.2.1, .int .i64 p122.2.2.2.2], u, (run_loadN rfl ag28 (hF.evB hB rfl rfl) rfl ((gr_box S hl 4 rfl).cells 0 #[.slice B123 p122.1.length d125, .int .i64 p122.2.1, .int .i64 p122.2.2.1, .bool p122.2.2.2.1, .int .i64 p122.2.2.2.2] rfl)), rfl, S⟩
          · intro a u X hB hu hp hr hz hl S
            replace S : St w u ([] ++ X) := S
            exact .inl ⟨rfl, .agg #[.slice A0 x0.length c0, .int .i64 x1, .int .i64 x2, .bool x3, .int .i64 x4], u, (run_loadN rfl ag24 (hF.evB hB rfl rfl) rfl ((gr_box S hl 11 rfl).cells 0 #[.slice A0 x0.length c0, .int .i64 x1, .int .i64 x2, .bool x3, .int .i64 x4] rfl)), rfl, S⟩
          · intro a u X hB hu hp hr hz hl S
            replace S : St w u ([] ++ X) := S
            have e56 : sl a 56 = .agg #[.slice A0 x0.length c0, .int .i64 x1, .int .i64 x2, .bool x3, .int .i64 x4] := hp 1 rfl
            refine .inr (.inr (.inl ⟨rfl, _, _, (run_call (vs := [.agg #[.slice A0 x0.length c0, .int .i64 x1, .int .i64 x2, .bool x3, .int .i64 x4]]) rfl rfl co8 ⟨(ev_sl e56), trivial⟩), ?_⟩))
            refine Calls.mono (c_laws_toPanel (x0 := x0) (x1 := x1) (x2 := x2) (x3 := x3) (x4 := x4) ⟨(S.rc0 h0.rc), rfl⟩ h142) ?_
            rintro e w1 ⟨B143, n144, d145, rfl, rfl, T⟩
            exact ⟨_, rfl, rfl, S.call1 T⟩
          · intro a u X hB hu hp hr hz hl S
            replace S : St w u ([] ++ X) := S
            have e55 : sl a 55 = .agg #[.slice B123 p122.1.length d125, .int .i64 p122.2.1, .int .i64 p122.2.2.1, .bool p122.2.2.2.1, .int .i64 p122.2.2.2.2] := hp 0 rfl
            have e57 : sl a 57 = .agg #[.slice (slA (vtup (sl a 57) 0)) p142.1.length (slC (vtup (sl a 57) 0)), .int .i64 p142.2.1, .int .i64 p142.2.2.1, .bool p142.2.2.2.1, .int .i64 p142.2.2.2.2] := hp 2 rfl
            refine .inr (.inr (.inl ⟨rfl, _, _, (run_call (vs := [.agg #[.slice B123 p122.1.length d125, .int .i64 p122.2.1, .int .i64 p122.2.2.1, .bool p122.2.2.2.1, .int .i64 p122.2.2.2.2], .agg #[.slice (slA (vtup (sl a 57) 0)) p142.1.length (slC (vtup (sl a 57) 0)), .int .i64 p142.2.1, .int .i64 p142.2.2.1, .bool p142.2.2.2.1, .int .i64 p142.2.2.2.2]]) rfl rfl co11 ⟨(ev_sl e55), (ev_sl e57), trivial⟩), ?_⟩))
            refine Calls.mono (c_laws_eqPanel (x0 := p122.1) (x1 := p122.2.1) (x2 := p122.2.2.1) (x3 := p122.2.2.2.1) (x4 := p122.2.2.2.2) (x5 := p142.1) (x6 := p142.2.1) (x7 := p142.2.2.1) (x8 := p142.2.2.2.1) (x9 := p142.2.2.2.2) ⟨(gr_rc S hl 5 rfl), rfl⟩ ⟨(own_rc (show World.ownsRow _ 0 _ _ _ _ _ from S.mem (List.mem_append_right _ (hr 2 (List.mem_of_getElem? (i := 0) rfl) _ (List.mem_of_getElem? (i := 0) rfl))))), rfl⟩ h146) ?_
            rintro e w1 ⟨rfl, T⟩
            exact ⟨_, rfl, rfl, S.call0 T⟩
          · intro a u X hB hu hp hr hz hl S
            replace S : St w u ([] ++ X) := S
            have e58 : sl a 58 = .bool p146 := hp 3 rfl
            exact .inl ⟨rfl, .bool (!p146), u, (run_not rfl (ev_sl e58)), rfl, S⟩
        · intro a u hB hp S
          obtain ⟨q0, q1, q2, q3, q4, _⟩ := hp
          have e55 : sl a 55 = .agg #[.slice B123 p122.1.length d125, .int .i64 p122.2.1, .int .i64 p122.2.2.1, .bool p122.2.2.2.1, .int .i64 p122.2.2.2.2] := q0
          have e56 : sl a 56 = .agg #[.slice A0 x0.length c0, .int .i64 x1, .int .i64 x2, .bool x3, .int .i64 x4] := q1
          have e57 : sl a 57 = .agg #[.slice (slA (vtup (sl a 57) 0)) p142.1.length (slC (vtup (sl a 57) 0)), .int .i64 p142.2.1, .int .i64 p142.2.2.1, .bool p142.2.2.2.1, .int .i64 p142.2.2.2.2] := q2
          have e58 : sl a 58 = .bool p146 := q3
          have e59 : sl a 59 = .bool (!p146) := q4
          replace S : St w u [.row 4 1 (.slice (slA (vtup (sl a 57) 0)) p142.1.length (slC (vtup (sl a 57) 0))) p142.1.length (p142.1.flatMap eB), .box g138 28 #[.slice B132 p131.1.length d134, .int .i64 p131.2.1, .int .i64 p131.2.2.1, .bool p131.2.2.2.1, .int .i64 p131.2.2.2.2.1], .row 4 1 (.slice B132 p131.1.length d134) p131.1.length (p131.1.flatMap eB), .row 4 1 (.slice B135 p131.2.2.2.2.2.length d137) p131.2.2.2.2.2.length (p131.2.2.2.2.2.flatMap eB), .row 32 4 (.slice B128 p127.length d130) p127.length (p127.flatMap eCommand), .box g126 28 #[.slice B123 p122.1.length d125, .int .i64 p122.2.1, .int .i64 p122.2.2.1, .bool p122.2.2.2.1, .int .i64 p122.2.2.2.2], .row 4 1 (.slice B123 p122.1.length d125) p122.1.length (p122.1.flatMap eB), .box g121 28 #[.slice B115 p114.1.length d117, .int .i64 p114.2.1, .int .i64 p114.2.2.1, .bool p114.2.2.2.1, .int .i64 p114.2.2.2.2.1], .row 4 1 (.slice B115 p114.1.length d117) p114.1.length (p114.1.flatMap eB), .row 4 1 (.slice B118 p114.2.2.2.2.2.length d120) p114.2.2.2.2.2.length (p114.2.2.2.2.2.flatMap eB), .row 32 4 (.slice B111 p110.length d113) p110.length (p110.flatMap eCommand), .row 4 1 (.slice B107 p106.1.length d109) p106.1.length (p106.1.flatMap eB), .box g101 24 #[.slice A0 x0.length c0, .int .i64 x1, .int .i64 x2, .bool x3, .int .i64 x4]] := S
          clear q0 q1 q2 q3 q4
          generalize slA (vtup (sl a 57) 0) = B147 at *
          generalize slC (vtup (sl a 57) 0) = d148 at *
          have hF := hF.region hB [(55, .agg #[.slice B123 p122.1.length d125, .int .i64 p122.2.1, .int .i64 p122.2.2.1, .bool p122.2.2.2.1, .int .i64 p122.2.2.2.2]), (56, .agg #[.slice A0 x0.length c0, .int .i64 x1, .int .i64 x2, .bool x3, .int .i64 x4]), (57, .agg #[.slice B147 p142.1.length d148, .int .i64 p142.2.1, .int .i64 p142.2.2.1, .bool p142.2.2.2.1, .int .i64 p142.2.2.2.2]), (58, .bool p146), (59, .bool (!p146))] (allSl_mem ⟨e55, e56, e57, e58, e59, trivial⟩) rfl
          clear hB e55 e56 e57 e58 e59
          cases hc149 : (p146)
          · replace hM := bif_f hc149 hM
            refine cond_t hF rfl (not_t hc149) ?_
            refine wp_seq ?_
            refine wp_region_lit ?_
            refine op_val (v := .bool false) rfl rfl hF rfl (run_assign rfl rfl) ?_; clear hF; intro a hF
            refine wpList_nil ?_
            refine wp_ret ?_
            repeat with_reducible (first | refine then_ret ?_ | refine in_ret ?_ | refine in_nrm ?_)
            refine ret1_gw (.inl rfl) hF rfl (res_tmp (hF.ev rfl)) ?_
            obtain rfl := Option.some.inj hM
            exact ⟨rfl, S.sel [] rfl rfl⟩
          · replace hM := bif_t hc149 hM
            refine cond_f hF rfl (not_f hc149) ?_
            refine wp_skip ?_
            refine wp_seq ?_
            refine wp_seq ?_
            refine wp_region_lit ?_
            refine op_val (v := .slice B128 p127.length d130) rfl rfl hF rfl (run_move rfl (hF.ev rfl)) ?_; clear hF; intro a hF
            refine op_val (v := .slice A5 x5.length c5) rfl rfl hF rfl (run_move rfl (hF.ev rfl)) ?_; clear hF; intro a hF
            obtain ⟨p150, h150, hM⟩ := bind_ex hM
            refine op_call rfl rfl hF rfl (run_call (vs := [.slice A5 x5.length c5]) rfl rfl co16 ⟨(hF.ev rfl), trivial⟩) (c_laws_toCommandS (x0 := x5) ⟨(S.rc0 h5.rc), rfl⟩ h150) ?_
            rintro e u ⟨B151, n152, d153, rfl, rfl, T⟩
            refine ⟨_, rfl, ?_⟩
            clear hF; intro a hF
            replace S := S.call1 T; clear T
            obtain ⟨p154, h154, hM⟩ := bind_ex hM
            refine op_call rfl rfl hF rfl (run_call (vs := [.slice B128 p127.length d130, .slice B151 p150.length d153]) rfl rfl co19 ⟨(hF.ev rfl), (hF.ev rfl), trivial⟩) (c_laws_eqCommandS (x0 := p127) (x1 := p150) ⟨(S.rc 5 rfl), rfl⟩ ⟨(S.rc 0 rfl), rfl⟩ h154) ?_
            rintro e u ⟨rfl, T⟩
            refine ⟨_, rfl, ?_⟩
            clear hF; intro a hF
            replace S := S.call0 T; clear T
            refine op_val (v := .bool (!p154)) rfl rfl hF rfl (run_not rfl (hF.ev rfl)) ?_; clear hF; intro a hF
            refine wpList_nil ?_
            cases hc155 : (p154)
            · replace hM := bif_f hc155 hM
              refine cond_t hF rfl (not_t hc155) ?_
              refine wp_seq ?_
              refine wp_region_lit ?_
              refine op_val (v := .bool false) rfl rfl hF rfl (run_assign rfl rfl) ?_; clear hF; intro a hF
              refine wpList_nil ?_
              refine wp_ret ?_
              repeat with_reducible (first | refine then_ret ?_ | refine in_ret ?_ | refine in_nrm ?_)
              refine ret1_gw (.inl rfl) hF rfl (res_tmp (hF.ev rfl)) ?_
              obtain rfl := Option.some.inj hM
              exact ⟨rfl, S.sel [] rfl rfl⟩
            · replace hM := bif_t hc155 hM
              refine cond_f hF rfl (not_f hc155) ?_
              refine wp_skip ?_
              refine wp_seq ?_
              refine wp_region_lit ?_
              refine op_val (v := .int .i64 1) rfl rfl hF rfl (run_assign rfl rfl) ?_; clear hF; intro a hF
              refine wpList_nil ?_
              refine wp_seq ?_
              refine wp_region_lit ?_
              refine op_val (v := .agg #[.slice B123 p122.1.length d125, .int .i64 p122.2.1, .int .i64 p122.2.2.1, .bool p122.2.2.2.1, .int .i64 p122.2.2.2.2]) rfl rfl hF rfl (run_loadN rfl ag28 (hF.ev rfl) rfl ((S.free 6 rfl).cells 0 #[.slice B123 p122.1.length d125, .int .i64 p122.2.1, .int .i64 p122.2.2.1, .bool p122.2.2.2.1, .int .i64 p122.2.2.2.2] rfl)) ?_; clear hF; intro a hF
              refine op_val (v := .int .i64 1) rfl rfl hF rfl (run_move rfl (hF.ev rfl)) ?_; clear hF; intro a hF
              obtain ⟨p156, h156, hM⟩ := bind_ex hM
              refine op_call rfl rfl hF rfl (run_call (vs := [.agg #[.slice B123 p122.1.length d125, .int .i64 p122.2.1, .int .i64 p122.2.2.1, .bool p122.2.2.2.1, .int .i64 p122.2.2.2.2], .int .i64 1]) rfl rfl co12 ⟨(hF.ev rfl), (hF.ev rfl), trivial⟩) (c_laws_markPanel (x0 := p122.1) (x1 := p122.2.1) (x2 := p122.2.2.1) (x3 := p122.2.2.2.1) (x4 := p122.2.2.2.2) (x5 := 1) rfl (show St w _ [.row 4 1 (.slice B123 p122.1.length d125) p122.1.length (p122.1.flatMap eB), .row 32 4 (.slice B151 p150.length d153) p150.length (p150.flatMap eCommand), .row 4 1 (.slice B147 p142.1.length d148) p142.1.length (p142.1.flatMap eB), .box g138 28 #[.slice B132 p131.1.length d134, .int .i64 p131.2.1, .int .i64 p131.2.2.1, .bool p131.2.2.2.1, .int .i64 p131.2.2.2.2.1], .row 4 1 (.slice B132 p131.1.length d134) p131.1.length (p131.1.flatMap eB), .row 4 1 (.slice B135 p131.2.2.2.2.2.length d137) p131.2.2.2.2.2.length (p131.2.2.2.2.2.flatMap eB), .row 32 4 (.slice B128 p127.length d130) p127.length (p127.flatMap eCommand), .box g126 28 #[.slice B123 p122.1.length d125, .int .i64 p122.2.1, .int .i64 p122.2.2.1, .bool p122.2.2.2.1, .int .i64 p122.2.2.2.2], .box g121 28 #[.slice B115 p114.1.length d117, .int .i64 p114.2.1, .int .i64 p114.2.2.1, .bool p114.2.2.2.1, .int .i64 p114.2.2.2.2.1], .row 4 1 (.slice B115 p114.1.length d117) p114.1.length (p114.1.flatMap eB), .row 4 1 (.slice B118 p114.2.2.2.2.2.length d120) p114.2.2.2.2.2.length (p114.2.2.2.2.2.flatMap eB), .row 32 4 (.slice B111 p110.length d113) p110.length (p110.flatMap eCommand), .row 4 1 (.slice B107 p106.1.length d109) p106.1.length (p106.1.flatMap eB), .box g101 24 #[.slice A0 x0.length c0, .int .i64 x1, .int .i64 x2, .bool x3, .int .i64 x4]] from S.sel [7, 0, 1, 2, 3, 4, 5, 6, 8, 9, 10, 11, 12, 13] rfl rfl) h156) ?_
              rintro e u ⟨rfl, hn157, T⟩
              refine ⟨_, rfl, ?_⟩
              clear hF; intro a hF
              clear S; have S := T; clear T
              refine op_val (v := .int .i64 p156.1) rfl rfl hF rfl (run_assign rfl (hF.ev rfl)) ?_; clear hF; intro a hF
              refine wpList_nil ?_
              refine wp_seq ?_
              refine wp_region_lit ?_
              refine op_val (v := .slice B128 p127.length d130) rfl rfl hF rfl (run_move rfl (hF.ev rfl)) ?_; clear hF; intro a hF
              refine op_val (v := .int .i64 p156.1) rfl rfl hF rfl (run_move rfl (hF.ev rfl)) ?_; clear hF; intro a hF
              obtain ⟨p158, h158, hM⟩ := bind_ex hM
              refine op_call rfl rfl hF rfl (run_call (vs := [.slice B128 p127.length d130, .int .i64 p156.1]) rfl rfl co20 ⟨(hF.ev rfl), (hF.ev rfl), trivial⟩) (c_laws_markCommandS (x0 := p127) (x1 := p156.1) rfl (show St w _ [.row 32 4 (.slice B128 p127.length d130) p127.length (p127.flatMap eCommand), .row 4 1 (.slice B123 p122.1.length d125) p122.1.length (p156.2.flatMap eB), .row 32 4 (.slice B151 p150.length d153) p150.length (p150.flatMap eCommand), .row 4 1 (.slice B147 p142.1.length d148) p142.1.length (p142.1.flatMap eB), .box g138 28 #[.slice B132 p131.1.length d134, .int .i64 p131.2.1, .int .i64 p131.2.2.1, .bool p131.2.2.2.1, .int .i64 p131.2.2.2.2.1], .row 4 1 (.slice B132 p131.1.length d134) p131.1.length (p131.1.flatMap eB), .row 4 1 (.slice B135 p131.2.2.2.2.2.length d137) p131.2.2.2.2.2.length (p131.2.2.2.2.2.flatMap eB), .box g126 28 #[.slice B123 p122.1.length d125, .int .i64 p122.2.1, .int .i64 p122.2.2.1, .bool p122.2.2.2.1, .int .i64 p122.2.2.2.2], .box g121 28 #[.slice B115 p114.1.length d117, .int .i64 p114.2.1, .int .i64 p114.2.2.1, .bool p114.2.2.2.1, .int .i64 p114.2.2.2.2.1], .row 4 1 (.slice B115 p114.1.length d117) p114.1.length (p114.1.flatMap eB), .row 4 1 (.slice B118 p114.2.2.2.2.2.length d120) p114.2.2.2.2.2.length (p114.2.2.2.2.2.flatMap eB), .row 32 4 (.slice B111 p110.length d113) p110.length (p110.flatMap eCommand), .row 4 1 (.slice B107 p106.1.length d109) p106.1.length (p106.1.flatMap eB), .box g101 24 #[.slice A0 x0.length c0, .int .i64 x1, .int .i64 x2, .bool x3, .int .i64 x4]] from S.sel [6, 0, 1, 2, 3, 4, 5, 7, 8, 9, 10, 11, 12, 13] rfl rfl) h158) ?_
              rintro e u ⟨rfl, hn159, T⟩
              refine ⟨_, rfl, ?_⟩
              clear hF; intro a hF
              clear S; have S := T; clear T
              refine op_val (v := .int .i64 p158.1) rfl rfl hF rfl (run_assign rfl (hF.ev rfl)) ?_; clear hF; intro a hF
              refine wpList_nil ?_
              refine wp_seq ?_
              refine wp_seq ?_
              refine wp_region_lit ?_
              refine op_val (v := .int .i64 p158.1) rfl rfl hF rfl (run_move rfl (hF.ev rfl)) ?_; clear hF; intro a hF
              refine op_val (v := .bool (ltB p158.1 0)) rfl rfl hF rfl (run_lss (hF.ev rfl) rfl rfl) ?_; clear hF; intro a hF
              refine op_val (v := .bool (ltB p158.1 0)) rfl rfl hF rfl (run_move rfl (hF.ev rfl)) ?_; clear hF; intro a hF
              refine op_gv (v := .agg #[.slice B132 p131.1.length d134, .int .i64 p131.2.1, .int .i64 p131.2.2.1, .bool p131.2.2.2.1, .int .i64 p131.2.2.2.2.1]) rfl rfl hF rfl (yf (gw_yield hF rfl rfl rfl)) (fun hg => (run_loadN rfl ag28 (hF.ev rfl) rfl ((S.free 4 rfl).cells 0 #[.slice B132 p131.1.length d134, .int .i64 p131.2.1, .int .i64 p131.2.2.1, .bool p131.2.2.2.1, .int .i64 p131.2.2.2.2.1] rfl))) ?_; clear hF; intro a hF
              refine op_gv (v := .agg #[.slice B115 p114.1.length d117, .int .i64 p114.2.1, .int .i64 p114.2.2.1, .bool p114.2.2.2.1, .int .i64 p114.2.2.2.2.1]) rfl rfl hF rfl (yf (gw_yield hF rfl rfl rfl)) (fun hg => (run_loadN rfl ag28 (hF.ev rfl) rfl ((S.free 8 rfl).cells 0 #[.slice B115 p114.1.length d117, .int .i64 p114.2.1, .int .i64 p114.2.2.1, .bool p114.2.2.2.1, .int .i64 p114.2.2.2.2.1] rfl))) ?_; clear hF; intro a hF
              obtain ⟨p160, h160, hM⟩ := bind_ex hM
              refine op_gcall (v := .bool p160) rfl rfl hF rfl S (yf (gw_yield hF rfl rfl rfl)) (fun hg => (run_call (vs := [.agg #[.slice B132 p131.1.length d134, .int .i64 p131.2.1, .int .i64 p131.2.2.1, .bool p131.2.2.2.1, .int .i64 p131.2.2.2.2.1], .agg #[.slice B115 p114.1.length d117, .int .i64 p114.2.1, .int .i64 p114.2.2.1, .bool p114.2.2.2.1, .int .i64 p114.2.2.2.2.1]]) rfl rfl co11 ⟨((hF.ev rfl).trans (gv_t hg)), ((hF.ev rfl).trans (gv_t hg)), trivial⟩)) (fun hg => c_laws_eqPanel (x0 := p131.1) (x1 := p131.2.1) (x2 := p131.2.2.1) (x3 := p131.2.2.2.1) (x4 := p131.2.2.2.2.1) (x5 := p114.1) (x6 := p114.2.1) (x7 := p114.2.2.1) (x8 := p114.2.2.2.1) (x9 := p114.2.2.2.2.1) ⟨(S.rc 5 rfl), rfl⟩ ⟨(S.rc 9 rfl), rfl⟩ (gb_t h160 hg)) ?_; clear hF S; intro a u hF S
              refine op_gv (v := .bool (!p160)) rfl rfl hF rfl (yf (gw_yield hF rfl rfl rfl)) (fun hg => (run_not rfl ((hF.ev rfl).trans (gv_t hg)))) ?_; clear hF; intro a hF
              refine op_val (v := .bool ((ltB p158.1 0) || (!p160))) rfl rfl hF rfl (run_pick_or rfl (hF.ev rfl) rfl (fun hp => ((hF.ev rfl).trans (gv_t (not_t hp))))) ?_; clear hF; intro a hF
              refine op_val (v := .bool ((ltB p158.1 0) || (!p160))) rfl rfl hF rfl (run_move rfl (hF.ev rfl)) ?_; clear hF; intro a hF
              refine op_gv (v := .slice B135 p131.2.2.2.2.2.length d137) rfl rfl hF rfl (yf (gw_yield hF rfl rfl rfl)) (fun hg => (run_move rfl (hF.ev rfl))) ?_; clear hF; intro a hF
              refine op_gv (v := .slice B118 p114.2.2.2.2.2.length d120) rfl rfl hF rfl (yf (gw_yield hF rfl rfl rfl)) (fun hg => (run_move rfl (hF.ev rfl))) ?_; clear hF; intro a hF
              obtain ⟨p161, h161, hM⟩ := bind_ex hM
              refine op_gcall (v := .bool p161) rfl rfl hF rfl S (yf (gw_yield hF rfl rfl rfl)) (fun hg => (run_call (vs := [.slice B135 p131.2.2.2.2.2.length d137, .slice B118 p114.2.2.2.2.2.length d120]) rfl rfl co18 ⟨((hF.ev rfl).trans (gv_t hg)), ((hF.ev rfl).trans (gv_t hg)), trivial⟩)) (fun hg => c_laws_eqBoolS (x0 := p131.2.2.2.2.2) (x1 := p114.2.2.2.2.2) ⟨(S.rc 6 rfl), rfl⟩ ⟨(S.rc 10 rfl), rfl⟩ (gb_t h161 hg)) ?_; clear hF S; intro a u hF S
              refine op_gv (v := .bool (!p161)) rfl rfl hF rfl (yf (gw_yield hF rfl rfl rfl)) (fun hg => (run_not rfl ((hF.ev rfl).trans (gv_t hg)))) ?_; clear hF; intro a hF
              refine op_val (v := .bool (((ltB p158.1 0) || (!p160)) || (!p161))) rfl rfl hF rfl (run_pick_or rfl (hF.ev rfl) rfl (fun hp => ((hF.ev rfl).trans (gv_t (not_t hp))))) ?_; clear hF; intro a hF
              refine wpList_nil ?_
              cases hc162 : (((ltB p158.1 0) || (!p160)) || (!p161))
              · replace hM := bif_f hc162 hM
                refine cond_f hF rfl hc162 ?_
                refine wp_skip ?_
                refine wp_seq ?_
                refine wp_region_lit ?_
                refine op_val (v := .int .i64 1) rfl rfl hF rfl (run_assign rfl rfl) ?_; clear hF; intro a hF
                refine wpList_nil ?_
                refine wp_seq ?_
                refine wp_region_lit ?_
                refine op_val (v := .agg #[.slice B132 p131.1.length d134, .int .i64 p131.2.1, .int .i64 p131.2.2.1, .bool p131.2.2.2.1, .int .i64 p131.2.2.2.2.1]) rfl rfl hF rfl (run_loadN rfl ag28 (hF.ev rfl) rfl ((S.free 4 rfl).cells 0 #[.slice B132 p131.1.length d134, .int .i64 p131.2.1, .int .i64 p131.2.2.1, .bool p131.2.2.2.1, .int .i64 p131.2.2.2.2.1] rfl)) ?_; clear hF; intro a hF
                refine op_val (v := .int .i64 1) rfl rfl hF rfl (run_move rfl (hF.ev rfl)) ?_; clear hF; intro a hF
                obtain ⟨p163, h163, hM⟩ := bind_ex hM
                refine op_call rfl rfl hF rfl (run_call (vs := [.agg #[.slice B132 p131.1.length d134, .int .i64 p131.2.1, .int .i64 p131.2.2.1, .bool p131.2.2.2.1, .int .i64 p131.2.2.2.2.1], .int .i64 1]) rfl rfl co12 ⟨(hF.ev rfl), (hF.ev rfl), trivial⟩) (c_laws_markPanel (x0 := p131.1) (x1 := p131.2.1) (x2 := p131.2.2.1) (x3 := p131.2.2.2.1) (x4 := p131.2.2.2.2.1) (x5 := 1) rfl (show St w _ [.row 4 1 (.slice B132 p131.1.length d134) p131.1.length (p131.1.flatMap eB), .row 32 4 (.slice B128 p127.length d130) p127.length (p158.2.flatMap eCommand), .row 4 1 (.slice B123 p122.1.length d125) p122.1.length (p156.2.flatMap eB), .row 32 4 (.slice B151 p150.length d153) p150.length (p150.flatMap eCommand), .row 4 1 (.slice B147 p142.1.length d148) p142.1.length (p142.1.flatMap eB), .box g138 28 #[.slice B132 p131.1.length d134, .int .i64 p131.2.1, .int .i64 p131.2.2.1, .bool p131.2.2.2.1, .int .i64 p131.2.2.2.2.1], .row 4 1 (.slice B135 p131.2.2.2.2.2.length d137) p131.2.2.2.2.2.length (p131.2.2.2.2.2.flatMap eB), .box g126 28 #[.slice B123 p122.1.length d125, .int .i64 p122.2.1, .int .i64 p122.2.2.1, .bool p122.2.2.2.1, .int .i64 p122.2.2.2.2], .box g121 28 #[.slice B115 p114.1.length d117, .int .i64 p114.2.1, .int .i64 p114.2.2.1, .bool p114.2.2.2.1, .int .i64 p114.2.2.2.2.1], .row 4 1 (.slice B115 p114.1.length d117) p114.1.length (p114.1.flatMap eB), .row 4 1 (.slice B118 p114.2.2.2.2.2.length d120) p114.2.2.2.2.2.length (p114.2.2.2.2.2.flatMap eB), .row 32 4 (.slice B111 p110.length d113) p110.length (p110.flatMap eCommand), .row 4 1 (.slice B107 p106.1.length d109) p106.1.length (p106.1.flatMap eB), .box g101 24 #[.slice A0 x0.length c0, .int .i64 x1, .int .i64 x2, .bool x3, .int .i64 x4]] from S.sel [5, 0, 1, 2, 3, 4, 6, 7, 8, 9, 10, 11, 12, 13] rfl rfl) h163) ?_
                rintro e u ⟨rfl, hn164, T⟩
                refine ⟨_, rfl, ?_⟩
                clear hF; intro a hF
                clear S; have S := T; clear T
                refine op_val (v := .int .i64 p163.1) rfl rfl hF rfl (run_assign rfl (hF.ev rfl)) ?_; clear hF; intro a hF
                refine wpList_nil ?_
                refine wp_seq ?_
                refine wp_region_lit ?_
                refine op_val (v := .slice B135 p131.2.2.2.2.2.length d137) rfl rfl hF rfl (run_move rfl (hF.ev rfl)) ?_; clear hF; intro a hF
                refine op_val (v := .int .i64 p163.1) rfl rfl hF rfl (run_move rfl (hF.ev rfl)) ?_; clear hF; intro a hF
                obtain ⟨p165, h165, hM⟩ := bind_ex hM
                refine op_call rfl rfl hF rfl (run_call (vs := [.slice B135 p131.2.2.2.2.2.length d137, .int .i64 p163.1]) rfl rfl co21 ⟨(hF.ev rfl), (hF.ev rfl), trivial⟩) (c_laws_markBoolS (x0 := p131.2.2.2.2.2) (x1 := p163.1) rfl (show St w _ [.row 4 1 (.slice B135 p131.2.2.2.2.2.length d137) p131.2.2.2.2.2.length (p131.2.2.2.2.2.flatMap eB), .row 4 1 (.slice B132 p131.1.length d134) p131.1.length (p163.2.flatMap eB), .row 32 4 (.slice B128 p127.length d130) p127.length (p158.2.flatMap eCommand), .row 4 1 (.slice B123 p122.1.length d125) p122.1.length (p156.2.flatMap eB), .row 32 4 (.slice B151 p150.length d153) p150.length (p150.flatMap eCommand), .row 4 1 (.slice B147 p142.1.length d148) p142.1.length (p142.1.flatMap eB), .box g138 28 #[.slice B132 p131.1.length d134, .int .i64 p131.2.1, .int .i64 p131.2.2.1, .bool p131.2.2.2.1, .int .i64 p131.2.2.2.2.1], .box g126 28 #[.slice B123 p122.1.length d125, .int .i64 p122.2.1, .int .i64 p122.2.2.1, .bool p122.2.2.2.1, .int .i64 p122.2.2.2.2], .box g121 28 #[.slice B115 p114.1.length d117, .int .i64 p114.2.1, .int .i64 p114.2.2.1, .bool p114.2.2.2.1, .int .i64 p114.2.2.2.2.1], .row 4 1 (.slice B115 p114.1.length d117) p114.1.length (p114.1.flatMap eB), .row 4 1 (.slice B118 p114.2.2.2.2.2.length d120) p114.2.2.2.2.2.length (p114.2.2.2.2.2.flatMap eB), .row 32 4 (.slice B111 p110.length d113) p110.length (p110.flatMap eCommand), .row 4 1 (.slice B107 p106.1.length d109) p106.1.length (p106.1.flatMap eB), .box g101 24 #[.slice A0 x0.length c0, .int .i64 x1, .int .i64 x2, .bool x3, .int .i64 x4]] from S.sel [6, 0, 1, 2, 3, 4, 5, 7, 8, 9, 10, 11, 12, 13] rfl rfl) h165) ?_
                rintro e u ⟨rfl, hn166, T⟩
                refine ⟨_, rfl, ?_⟩
                clear hF; intro a hF
                clear S; have S := T; clear T
                refine op_val (v := .int .i64 p165.1) rfl rfl hF rfl (run_assign rfl (hF.ev rfl)) ?_; clear hF; intro a hF
                refine wpList_nil ?_
                refine wp_seq ?_
                refine wp_region_lit ?_
                refine op_val (v := .int .i64 1) rfl rfl hF rfl (run_assign rfl rfl) ?_; clear hF; intro a hF
                refine wpList_nil ?_
                refine wp_seq ?_
                refine wp_region_lit ?_
                refine op_val (v := .agg #[.slice B132 p131.1.length d134, .int .i64 p131.2.1, .int .i64 p131.2.2.1, .bool p131.2.2.2.1, .int .i64 p131.2.2.2.2.1]) rfl rfl hF rfl (run_loadN rfl ag28 (hF.ev rfl) rfl ((S.free 6 rfl).cells 0 #[.slice B132 p131.1.length d134, .int .i64 p131.2.1, .int .i64 p131.2.2.1, .bool p131.2.2.2.1, .int .i64 p131.2.2.2.2.1] rfl)) ?_; clear hF; intro a hF
                refine op_val (v := .int .i64 1) rfl rfl hF rfl (run_move rfl (hF.ev rfl)) ?_; clear hF; intro a hF
                obtain ⟨p167, h167, hM⟩ := bind_ex hM
                refine op_call rfl rfl hF rfl (run_call (vs := [.agg #[.slice B132 p131.1.length d134, .int .i64 p131.2.1, .int .i64 p131.2.2.1, .bool p131.2.2.2.1, .int .i64 p131.2.2.2.2.1], .int .i64 1]) rfl rfl co13 ⟨(hF.ev rfl), (hF.ev rfl), trivial⟩) (c_laws_heldPanel (x0 := p163.2) (x1 := p131.2.1) (x2 := p131.2.2.1) (x3 := p131.2.2.2.1) (x4 := p131.2.2.2.2.1) (x5 := 1) ⟨(S.rc 1 rfl), hn164⟩ h167) ?_
                rintro e u ⟨rfl, T⟩
                refine ⟨_, rfl, ?_⟩
                clear hF; intro a hF
                replace S := S.call0 T; clear T
                refine op_val (v := .int .i64 p167) rfl rfl hF rfl (run_assign rfl (hF.ev rfl)) ?_; clear hF; intro a hF
                refine wpList_nil ?_
                refine wp_seq ?_
                refine wp_seq ?_
                refine wp_region_lit ?_
                refine op_val (v := .int .i64 p167) rfl rfl hF rfl (run_move rfl (hF.ev rfl)) ?_; clear hF; intro a hF
                refine op_val (v := .bool (ltB p167 0)) rfl rfl hF rfl (run_lss (hF.ev rfl) rfl rfl) ?_; clear hF; intro a hF
                refine wpList_nil ?_
                cases hc168 : (ltB p167 0)
                · replace hM := bif_f hc168 hM
                  refine cond_f hF rfl hc168 ?_
                  refine wp_skip ?_
                  refine wp_seq ?_
                  refine wp_region_lit ?_
                  refine op_val (v := .slice B135 p131.2.2.2.2.2.length d137) rfl rfl hF rfl (run_move rfl (hF.ev rfl)) ?_; clear hF; intro a hF
                  refine op_val (v := .int .i64 p167) rfl rfl hF rfl (run_move rfl (hF.ev rfl)) ?_; clear hF; intro a hF
                  obtain ⟨p169, h169, hM⟩ := bind_ex hM
                  refine op_call rfl rfl hF rfl (run_call (vs := [.slice B135 p131.2.2.2.2.2.length d137, .int .i64 p167]) rfl rfl co22 ⟨(hF.ev rfl), (hF.ev rfl), trivial⟩) (c_laws_heldBoolS (x0 := p165.2) (x1 := p167) ⟨(S.rc 0 rfl), hn166⟩ h169) ?_
                  rintro e u ⟨rfl, T⟩
                  refine ⟨_, rfl, ?_⟩
                  clear hF; intro a hF
                  replace S := S.call0 T; clear T
                  refine op_val (v := .int .i64 p169) rfl rfl hF rfl (run_assign rfl (hF.ev rfl)) ?_; clear hF; intro a hF
                  refine wpList_nil ?_
                  refine wp_seq ?_
                  refine wp_seq ?_
                  refine wp_region_lit ?_
                  refine op_val (v := .int .i64 p169) rfl rfl hF rfl (run_move rfl (hF.ev rfl)) ?_; clear hF; intro a hF
                  refine op_val (v := .bool (ltB p169 0)) rfl rfl hF rfl (run_lss (hF.ev rfl) rfl rfl) ?_; clear hF; intro a hF
                  refine wpList_nil ?_
                  cases hc170 : (ltB p169 0)
                  · replace hM := bif_f hc170 hM
                    refine cond_f hF rfl hc170 ?_
                    refine wp_skip ?_
                    refine wp_seq ?_
                    refine wp_seq ?_
                    refine wp_region_lit ?_
                    refine op_val (v := .int .i64 p169) rfl rfl hF rfl (run_move rfl (hF.ev rfl)) ?_; clear hF; intro a hF
                    refine op_val (v := .int .i64 p165.1) rfl rfl hF rfl (run_move rfl (hF.ev rfl)) ?_; clear hF; intro a hF
                    refine op_val (v := .bool (p169 != p165.1)) rfl rfl hF rfl (run_neq (hF.ev rfl) (hF.ev rfl) rfl) ?_; clear hF; intro a hF
                    refine wpList_nil ?_
                    cases hc171 : (p169 != p165.1)
                    · replace hM := bif_f hc171 hM
                      refine cond_f hF rfl hc171 ?_
                      refine wp_skip ?_
                      refine wp_seq ?_
                      refine wp_region_lit ?_
                      refine op_val (v := .agg #[.slice A0 x0.length c0, .int .i64 x1, .int .i64 x2, .bool x3, .int .i64 x4]) rfl rfl hF rfl (run_loadN rfl ag24 (hF.ev rfl) rfl ((S.free 13 rfl).cells 0 #[.slice A0 x0.length c0, .int .i64 x1, .int .i64 x2, .bool x3, .int .i64 x4] rfl)) ?_; clear hF; intro a hF
                      obtain ⟨p172, h172, hM⟩ := bind_ex hM
                      refine op_call rfl rfl hF rfl (run_call (vs := [.agg #[.slice A0 x0.length c0, .int .i64 x1, .int .i64 x2, .bool x3, .int .i64 x4]]) rfl rfl co8 ⟨(hF.ev rfl), trivial⟩) (c_laws_toPanel (x0 := x0) (x1 := x1) (x2 := x2) (x3 := x3) (x4 := x4) ⟨(S.rc0 h0.rc), rfl⟩ h172) ?_
                      rintro e u ⟨B173, n174, d175, rfl, rfl, T⟩
                      refine ⟨_, rfl, ?_⟩
                      clear hF; intro a hF
                      replace S := S.call1 T; clear T
                      refine op_val (v := .slice A5 x5.length c5) rfl rfl hF rfl (run_move rfl (hF.ev rfl)) ?_; clear hF; intro a hF
                      obtain ⟨p176, h176, hM⟩ := bind_ex hM
                      refine op_call rfl rfl hF rfl (run_call (vs := [.slice A5 x5.length c5]) rfl rfl co16 ⟨(hF.ev rfl), trivial⟩) (c_laws_toCommandS (x0 := x5) ⟨(S.rc0 h5.rc), rfl⟩ h176) ?_
                      rintro e u ⟨B177, n178, d179, rfl, rfl, T⟩
                      refine ⟨_, rfl, ?_⟩
                      clear hF; intro a hF
                      replace S := S.call1 T; clear T
                      obtain ⟨p180, h180, hM⟩ := bind_ex hM
                      refine op_call rfl rfl hF rfl (run_call (vs := [.agg #[.slice B173 p172.1.length d175, .int .i64 p172.2.1, .int .i64 p172.2.2.1, .bool p172.2.2.2.1, .int .i64 p172.2.2.2.2], .slice B177 p176.length d179]) rfl rfl co17 ⟨(hF.ev rfl), (hF.ev rfl), trivial⟩) (c_impl_PanelRun (x0 := p172.1) (x1 := p172.2.1) (x2 := p172.2.2.1) (x3 := p172.2.2.2.1) (x4 := p172.2.2.2.2) (x5 := p176) ⟨(S.rc 1 rfl), rfl⟩ ⟨(S.rc 0 rfl), rfl⟩ h180) ?_
                      rintro e u ⟨B181, n182, d183, B184, n185, d186, rfl, rfl, rfl, T⟩
                      refine ⟨_, rfl, ?_⟩
                      clear hF; intro a hF
                      replace S := S.call2 T; clear T
                      refine op_val (v := .tuple #[.agg #[.slice B181 p180.1.length d183, .int .i64 p180.2.1, .int .i64 p180.2.2.1, .bool p180.2.2.2.1, .int .i64 p180.2.2.2.2.1], .slice B184 p180.2.2.2.2.2.length d186]) rfl rfl hF rfl (run_move rfl (hF.ev rfl)) ?_; clear hF; intro a hF
                      refine op_val (v := .agg #[.slice B181 p180.1.length d183, .int .i64 p180.2.1, .int .i64 p180.2.2.1, .bool p180.2.2.2.1, .int .i64 p180.2.2.2.2.1]) rfl rfl hF rfl (run_extract rfl (hF.ev rfl) rfl) ?_; clear hF; intro a hF
                      refine op_val (v := .slice B184 p180.2.2.2.2.2.length d186) rfl rfl hF rfl (run_extract rfl (hF.ev rfl) rfl) ?_; clear hF; intro a hF
                      refine op_new (cs := #[.slice none 0 0, .int .i64 0, .int .i64 0, .bool false, .int .i64 0]) rfl rfl hF rfl S (run_allocZ rfl zr28) ?_; clear hF S; intro a g187 u hF S
                      refine op_do rfl rfl (run_store (cs' := #[.slice B181 p180.1.length d183, .int .i64 p180.2.1, .int .i64 p180.2.2.1, .bool p180.2.2.2.1, .int .i64 p180.2.2.2.2.1]) rfl sz28 (hF.ev rfl) (hF.ev rfl) rfl rfl rfl (S.free 0 rfl) rfl rfl) ?_; replace S := S.put 0 rfl (#[.slice B181 p180.1.length d183, .int .i64 p180.2.1, .int .i64 p180.2.2.1, .bool p180.2.2.2.1, .int .i64 p180.2.2.2.2.1])
                      generalize World.setRow _ _ _ = u at S ⊢
                      refine op_val (v := .slice B184 p180.2.2.2.2.2.length d186) rfl rfl hF rfl (run_assign rfl (hF.ev rfl)) ?_; clear hF; intro a hF
                      refine wpList_nil ?_
                      refine wp_seq ?_
                      refine wp_seq ?_
                      refine wp_region_lit ?_
                      refine op_val (v := .agg #[.slice B181 p180.1.length d183, .int .i64 p180.2.1, .int .i64 p180.2.2.1, .bool p180.2.2.2.1, .int .i64 p180.2.2.2.2.1]) rfl rfl hF rfl (run_loadN rfl ag28 (hF.ev rfl) rfl ((S.free 0 rfl).cells 0 #[.slice B181 p180.1.length d183, .int .i64 p180.2.1, .int .i64 p180.2.2.1, .bool p180.2.2.2.1, .int .i64 p180.2.2.2.2.1] rfl)) ?_; clear hF; intro a hF
                      refine op_val (v := .agg #[.slice B115 p114.1.length d117, .int .i64 p114.2.1, .int .i64 p114.2.2.1, .bool p114.2.2.2.1, .int .i64 p114.2.2.2.2.1]) rfl rfl hF rfl (run_loadN rfl ag28 (hF.ev rfl) rfl ((S.free 13 rfl).cells 0 #[.slice B115 p114.1.length d117, .int .i64 p114.2.1, .int .i64 p114.2.2.1, .bool p114.2.2.2.1, .int .i64 p114.2.2.2.2.1] rfl)) ?_; clear hF; intro a hF
                      obtain ⟨p188, h188, hM⟩ := bind_ex hM
                      refine op_call rfl rfl hF rfl (run_call (vs := [.agg #[.slice B181 p180.1.length d183, .int .i64 p180.2.1, .int .i64 p180.2.2.1, .bool p180.2.2.2.1, .int .i64 p180.2.2.2.2.1], .agg #[.slice B115 p114.1.length d117, .int .i64 p114.2.1, .int .i64 p114.2.2.1, .bool p114.2.2.2.1, .int .i64 p114.2.2.2.2.1]]) rfl rfl co11 ⟨(hF.ev rfl), (hF.ev rfl), trivial⟩) (c_laws_eqPanel (x0 := p180.1) (x1 := p180.2.1) (x2 := p180.2.2.1) (x3 := p180.2.2.2.1) (x4 := p180.2.2.2.2.1) (x5 := p114.1) (x6 := p114.2.1) (x7 := p114.2.2.1) (x8 := p114.2.2.2.1) (x9 := p114.2.2.2.2.1) ⟨(S.rc 1 rfl), rfl⟩ ⟨(S.rc 14 rfl), rfl⟩ h188) ?_
                      rintro e u ⟨rfl, T⟩
                      refine ⟨_, rfl, ?_⟩
                      clear hF; intro a hF
                      replace S := S.call0 T; clear T
                      refine op_val (v := .bool (!p188)) rfl rfl hF rfl (run_not rfl (hF.ev rfl)) ?_; clear hF; intro a hF
                      refine op_val (v := .bool (!p188)) rfl rfl hF rfl (run_move rfl (hF.ev rfl)) ?_; clear hF; intro a hF
                      refine op_gv (v := .slice B184 p180.2.2.2.2.2.length d186) rfl rfl hF rfl (yf (gw_yield hF rfl rfl rfl)) (fun hg => (run_move rfl (hF.ev rfl))) ?_; clear hF; intro a hF
                      refine op_gv (v := .slice B118 p114.2.2.2.2.2.length d120) rfl rfl hF rfl (yf (gw_yield hF rfl rfl rfl)) (fun hg => (run_move rfl (hF.ev rfl))) ?_; clear hF; intro a hF
                      obtain ⟨p189, h189, hM⟩ := bind_ex hM
                      refine op_gcall (v := .bool p189) rfl rfl hF rfl S (yf (gw_yield hF rfl rfl rfl)) (fun hg => (run_call (vs := [.slice B184 p180.2.2.2.2.2.length d186, .slice B118 p114.2.2.2.2.2.length d120]) rfl rfl co18 ⟨((hF.ev rfl).trans (gv_t hg)), ((hF.ev rfl).trans (gv_t hg)), trivial⟩)) (fun hg => c_laws_eqBoolS (x0 := p180.2.2.2.2.2) (x1 := p114.2.2.2.2.2) ⟨(S.rc 2 rfl), rfl⟩ ⟨(S.rc 15 rfl), rfl⟩ (gb_t h189 hg)) ?_; clear hF S; intro a u hF S
                      refine op_gv (v := .bool (!p189)) rfl rfl hF rfl (yf (gw_yield hF rfl rfl rfl)) (fun hg => (run_not rfl ((hF.ev rfl).trans (gv_t hg)))) ?_; clear hF; intro a hF
                      refine op_val (v := .bool ((!p188) || (!p189))) rfl rfl hF rfl (run_pick_or rfl (hF.ev rfl) rfl (fun hp => ((hF.ev rfl).trans (gv_t (not_t hp))))) ?_; clear hF; intro a hF
                      refine wpList_nil ?_
                      cases hc190 : ((!p188) || (!p189))
                      · replace hM := bif_f hc190 hM
                        refine cond_f hF rfl hc190 ?_
                        refine wp_skip ?_
                        refine wp_seq ?_
                        refine wp_region_lit ?_
                        refine op_val (v := .int .i64 1) rfl rfl hF rfl (run_assign rfl rfl) ?_; clear hF; intro a hF
                        refine wpList_nil ?_
                        refine wp_seq ?_
                        refine wp_region_lit ?_
                        refine op_val (v := .agg #[.slice B132 p131.1.length d134, .int .i64 p131.2.1, .int .i64 p131.2.2.1, .bool p131.2.2.2.1, .int .i64 p131.2.2.2.2.1]) rfl rfl hF rfl (run_loadN rfl ag28 (hF.ev rfl) rfl ((S.free 11 rfl).cells 0 #[.slice B132 p131.1.length d134, .int .i64 p131.2.1, .int .i64 p131.2.2.1, .bool p131.2.2.2.1, .int .i64 p131.2.2.2.2.1] rfl)) ?_; clear hF; intro a hF
                        refine op_val (v := .int .i64 1) rfl rfl hF rfl (run_move rfl (hF.ev rfl)) ?_; clear hF; intro a hF
                        obtain ⟨p191, h191, hM⟩ := bind_ex hM
                        refine op_call rfl rfl hF rfl (run_call (vs := [.agg #[.slice B132 p131.1.length d134, .int .i64 p131.2.1, .int .i64 p131.2.2.1, .bool p131.2.2.2.1, .int .i64 p131.2.2.2.2.1], .int .i64 1]) rfl rfl co13 ⟨(hF.ev rfl), (hF.ev rfl), trivial⟩) (c_laws_heldPanel (x0 := p163.2) (x1 := p131.2.1) (x2 := p131.2.2.1) (x3 := p131.2.2.2.1) (x4 := p131.2.2.2.2.1) (x5 := 1) ⟨(S.rc 6 rfl), hn164⟩ h191) ?_
                        rintro e u ⟨rfl, T⟩
                        refine ⟨_, rfl, ?_⟩
                        clear hF; intro a hF
                        replace S := S.call0 T; clear T
                        refine op_val (v := .int .i64 p191) rfl rfl hF rfl (run_assign rfl (hF.ev rfl)) ?_; clear hF; intro a hF
                        refine wpList_nil ?_
                        refine wp_seq ?_
                        refine wp_seq ?_
                        refine wp_region_lit ?_
                        refine op_val (v := .int .i64 p191) rfl rfl hF rfl (run_move rfl (hF.ev rfl)) ?_; clear hF; intro a hF
                        refine op_val (v := .bool (ltB p191 0)) rfl rfl hF rfl (run_lss (hF.ev rfl) rfl rfl) ?_; clear hF; intro a hF
                        refine wpList_nil ?_
                        cases hc192 : (ltB p191 0)
                        · replace hM := bif_f hc192 hM
                          refine cond_f hF rfl hc192 ?_
                          refine wp_skip ?_
                          refine wp_seq ?_
                          refine wp_region_lit ?_
                          refine op_val (v := .slice B135 p131.2.2.2.2.2.length d137) rfl rfl hF rfl (run_move rfl (hF.ev rfl)) ?_; clear hF; intro a hF
                          refine op_val (v := .int .i64 p191) rfl rfl hF rfl (run_move rfl (hF.ev rfl)) ?_; clear hF; intro a hF
                          obtain ⟨p193, h193, hM⟩ := bind_ex hM
                          refine op_call rfl rfl hF rfl (run_call (vs := [.slice B135 p131.2.2.2.2.2.length d137, .int .i64 p191]) rfl rfl co22 ⟨(hF.ev rfl), (hF.ev rfl), trivial⟩) (c_laws_heldBoolS (x0 := p165.2) (x1 := p191) ⟨(S.rc 5 rfl), hn166⟩ h193) ?_
                          rintro e u ⟨rfl, T⟩
                          refine ⟨_, rfl, ?_⟩
                          clear hF; intro a hF
                          replace S := S.call0 T; clear T
                          refine op_val (v := .int .i64 p193) rfl rfl hF rfl (run_assign rfl (hF.ev rfl)) ?_; clear hF; intro a hF
                          refine wpList_nil ?_
                          refine wp_seq ?_
                          refine wp_seq ?_
                          refine wp_region_lit ?_
                          refine op_val (v := .int .i64 p193) rfl rfl hF rfl (run_move rfl (hF.ev rfl)) ?_; clear hF; intro a hF
                          refine op_val (v := .bool (ltB p193 0)) rfl rfl hF rfl (run_lss (hF.ev rfl) rfl rfl) ?_; clear hF; intro a hF
                          refine wpList_nil ?_
                          cases hc194 : (ltB p193 0)
                          · replace hM := bif_f hc194 hM
                            refine cond_f hF rfl hc194 ?_
                            refine wp_skip ?_
                            refine wp_seq ?_
                            refine wp_seq ?_
                            refine wp_region_lit ?_
                            refine op_val (v := .int .i64 p193) rfl rfl hF rfl (run_move rfl (hF.ev rfl)) ?_; clear hF; intro a hF
                            refine op_val (v := .int .i64 p165.1) rfl rfl hF rfl (run_move rfl (hF.ev rfl)) ?_; clear hF; intro a hF
                            refine op_val (v := .bool (p193 != p165.1)) rfl rfl hF rfl (run_neq (hF.ev rfl) (hF.ev rfl) rfl) ?_; clear hF; intro a hF
                            refine wpList_nil ?_
                            cases hc195 : (p193 != p165.1)
                            · replace hM := bif_f hc195 hM
                              refine cond_f hF rfl hc195 ?_
                              refine wp_skip ?_
                              refine wp_seq ?_
                              refine wp_region_lit ?_
                              refine op_val (v := .bool true) rfl rfl hF rfl (run_assign rfl rfl) ?_; clear hF; intro a hF
                              refine wpList_nil ?_
                              refine wp_ret ?_
                              repeat with_reducible (first | refine then_ret ?_ | refine in_ret ?_ | refine in_nrm ?_)
                              refine ret1_gw (.inl rfl) hF rfl (res_tmp (hF.ev rfl)) ?_
                              obtain rfl := Option.some.inj hM
                              exact ⟨rfl, S.sel [] rfl rfl⟩
                            · replace hM := bif_t hc195 hM
                              refine cond_t hF rfl hc195 ?_
                              refine wp_seq ?_
                              refine wp_region_lit ?_
                              refine op_val (v := .bool false) rfl rfl hF rfl (run_assign rfl rfl) ?_; clear hF; intro a hF
                              refine wpList_nil ?_
                              refine wp_ret ?_
                              repeat with_reducible (first | refine then_ret ?_ | refine in_ret ?_ | refine in_nrm ?_)
                              refine ret1_gw (.inl rfl) hF rfl (res_tmp (hF.ev rfl)) ?_
                              obtain rfl := Option.some.inj hM
                              exact ⟨rfl, S.sel [] rfl rfl⟩
                          · replace hM := bif_t hc194 hM
                            refine cond_t hF rfl hc194 ?_
                            refine wp_seq ?_
                            refine wp_region_lit ?_
                            refine op_val (v := .bool false) rfl rfl hF rfl (run_assign rfl rfl) ?_; clear hF; intro a hF
                            refine wpList_nil ?_
                            refine wp_ret ?_
                            repeat with_reducible (first | refine then_ret ?_ | refine in_ret ?_ | refine in_nrm ?_)
                            refine ret1_gw (.inl rfl) hF rfl (res_tmp (hF.ev rfl)) ?_
                            obtain rfl := Option.some.inj hM
                            exact ⟨rfl, S.sel [] rfl rfl⟩
                        · replace hM := bif_t hc192 hM
                          refine cond_t hF rfl hc192 ?_
                          refine wp_seq ?_
                          refine wp_region_lit ?_
                          refine op_val (v := .bool false) rfl rfl hF rfl (run_assign rfl rfl) ?_; clear hF; intro a hF
                          refine wpList_nil ?_
                          refine wp_ret ?_
                          repeat with_reducible (first | refine then_ret ?_ | refine in_ret ?_ | refine in_nrm ?_)
                          refine ret1_gw (.inl rfl) hF rfl (res_tmp (hF.ev rfl)) ?_
                          obtain rfl := Option.some.inj hM
                          exact ⟨rfl, S.sel [] rfl rfl⟩
                      · replace hM := bif_t hc190 hM
                        refine cond_t hF rfl hc190 ?_
                        refine wp_seq ?_
                        refine wp_region_lit ?_
                        refine op_val (v := .bool false) rfl rfl hF rfl (run_assign rfl rfl) ?_; clear hF; intro a hF
                        refine wpList_nil ?_
                        refine wp_ret ?_
                        repeat with_reducible (first | refine then_ret ?_ | refine in_ret ?_ | refine in_nrm ?_)
                        refine ret1_gw (.inl rfl) hF rfl (res_tmp (hF.ev rfl)) ?_
                        obtain rfl := Option.some.inj hM
                        exact ⟨rfl, S.sel [] rfl rfl⟩
                    · replace hM := bif_t hc171 hM
                      refine cond_t hF rfl hc171 ?_
                      refine wp_seq ?_
                      refine wp_region_lit ?_
                      refine op_val (v := .bool false) rfl rfl hF rfl (run_assign rfl rfl) ?_; clear hF; intro a hF
                      refine wpList_nil ?_
                      refine wp_ret ?_
                      repeat with_reducible (first | refine then_ret ?_ | refine in_ret ?_ | refine in_nrm ?_)
                      refine ret1_gw (.inl rfl) hF rfl (res_tmp (hF.ev rfl)) ?_
                      obtain rfl := Option.some.inj hM
                      exact ⟨rfl, S.sel [] rfl rfl⟩
                  · replace hM := bif_t hc170 hM
                    refine cond_t hF rfl hc170 ?_
                    refine wp_seq ?_
                    refine wp_region_lit ?_
                    refine op_val (v := .bool false) rfl rfl hF rfl (run_assign rfl rfl) ?_; clear hF; intro a hF
                    refine wpList_nil ?_
                    refine wp_ret ?_
                    repeat with_reducible (first | refine then_ret ?_ | refine in_ret ?_ | refine in_nrm ?_)
                    refine ret1_gw (.inl rfl) hF rfl (res_tmp (hF.ev rfl)) ?_
                    obtain rfl := Option.some.inj hM
                    exact ⟨rfl, S.sel [] rfl rfl⟩
                · replace hM := bif_t hc168 hM
                  refine cond_t hF rfl hc168 ?_
                  refine wp_seq ?_
                  refine wp_region_lit ?_
                  refine op_val (v := .bool false) rfl rfl hF rfl (run_assign rfl rfl) ?_; clear hF; intro a hF
                  refine wpList_nil ?_
                  refine wp_ret ?_
                  repeat with_reducible (first | refine then_ret ?_ | refine in_ret ?_ | refine in_nrm ?_)
                  refine ret1_gw (.inl rfl) hF rfl (res_tmp (hF.ev rfl)) ?_
                  obtain rfl := Option.some.inj hM
                  exact ⟨rfl, S.sel [] rfl rfl⟩
              · replace hM := bif_t hc162 hM
                refine cond_t hF rfl hc162 ?_
                refine wp_seq ?_
                refine wp_region_lit ?_
                refine op_val (v := .bool false) rfl rfl hF rfl (run_assign rfl rfl) ?_; clear hF; intro a hF
                refine wpList_nil ?_
                refine wp_ret ?_
                repeat with_reducible (first | refine then_ret ?_ | refine in_ret ?_ | refine in_nrm ?_)
                refine ret1_gw (.inl rfl) hF rfl (res_tmp (hF.ev rfl)) ?_
                obtain rfl := Option.some.inj hM
                exact ⟨rfl, S.sel [] rfl rfl⟩
      · replace hM := bif_t hc141 hM
        refine cond_t hF rfl hc141 ?_
        refine wp_seq ?_
        refine wp_region_lit ?_
        refine op_val (v := .bool false) rfl rfl hF rfl (run_assign rfl rfl) ?_; clear hF; intro a hF
        refine wpList_nil ?_
        refine wp_ret ?_
        repeat with_reducible (first | refine then_ret ?_ | refine in_ret ?_ | refine in_nrm ?_)
        refine ret1_gw (.inl rfl) hF rfl (res_tmp (hF.ev rfl)) ?_
        obtain rfl := Option.some.inj hM
        exact ⟨rfl, S.sel [] rfl rfl⟩
    · replace hM := bif_t hc105 hM
      refine cond_t hF rfl hc105 ?_
      refine wp_seq ?_
      refine wp_region_lit ?_
      refine op_val (v := .bool true) rfl rfl hF rfl (run_assign rfl rfl) ?_; clear hF; intro a hF
      refine wpList_nil ?_
      refine wp_ret ?_
      repeat with_reducible (first | refine then_ret ?_ | refine in_ret ?_ | refine in_nrm ?_)
      refine ret1_gw (.inl rfl) hF rfl (res_tmp (hF.ev rfl)) ?_
      obtain rfl := Option.some.inj hM
      exact ⟨rfl, S.sel [] rfl rfl⟩
  · replace hM := bif_t hc103 hM
    refine cond_t hF rfl hc103 ?_
    refine wp_seq ?_
    refine wp_region_lit ?_
    refine op_val (v := .bool true) rfl rfl hF rfl (run_assign rfl rfl) ?_; clear hF; intro a hF
    refine wpList_nil ?_
    refine wp_ret ?_
    repeat with_reducible (first | refine then_ret ?_ | refine in_ret ?_ | refine in_nrm ?_)
    refine ret1_gw (.inl rfl) hF rfl (res_tmp (hF.ev rfl)) ?_
    obtain rfl := Option.some.inj hM
    exact ⟨rfl, S.sel [] rfl rfl⟩

set_option maxHeartbeats 4000000 in
theorem c_spec_Operations {x0 : List Bool} {x1 : Int} {x2 : Int} {x3 : Bool} {x4 : Int} {x5 : List (Int × Int × Int × Bool)} {A0 : Option Addr} {n0 c0 : Nat} {A5 : Option Addr} {n5 c5 : Nat} {w : World} {r : List (Int × Bool)} (h0 : Rt w 1 eB A0 n0 c0 x0) (h5 : Rt w 4 eCommand A5 n5 c5 x5) (hM : m_spec_Operations x0 x1 x2 x3 x4 x5 = some r) :
    Calls Try.prog 23 #[.agg #[.slice A0 n0 c0, .int .i64 x1, .int .i64 x2, .bool x3, .int .i64 x4], .slice A5 n5 c5] w (fun e w' => ∃ (B0 : Option Addr) (N0 D0 : Nat), e = .returned (.slice B0 N0 D0) ∧ N0 = r.length ∧ St w w' [.row 59 2 (.slice B0 N0 D0) N0 (r.flatMap eStep)]) := by
  obtain rfl := h0.len
  obtain rfl := h5.len
  unfold m_spec_Operations at hM
  refine calls_gw Try.func23 Try.ntmps23 rfl [(0, .agg #[.slice A0 x0.length c0, .int .i64 x1, .int .i64 x2, .bool x3, .int .i64 x4]), (1, .slice A5 x5.length c5)] ⟨rfl, rfl, trivial⟩ rfl ?_
  intro a hF
  have S := St.nil w
  refine wp_seq ?_
  refine wp_region_lit ?_
  refine op_new (cs := #[.slice A0 x0.length c0, .int .i64 x1, .int .i64 x2, .bool x3, .int .i64 x4]) rfl rfl hF rfl S (run_box rfl (hF.ev rfl) rfl) ?_; clear hF S; intro a g101 u hF S
  refine op_val (v := .slice none 0 0) rfl rfl hF rfl (run_assign rfl rfl) ?_; clear hF; intro a hF
  refine wpList_nil ?_
  refine wp_seq ?_
  refine wp_region_lit ?_
  refine op_newrow (cs := #[]) (size := 2) rfl rfl hF rfl S (run_buildSlice0 rfl Try.underlying48 rfl) rfl (Nat.zero_le _) ?_; clear hF S; intro a g102 u hF S
  refine op_val (v := .slice (some ⟨g102, 0, none⟩) 0 0) rfl rfl hF rfl (run_assign rfl (hF.ev rfl)) ?_; clear hF; intro a hF
  refine wpList_nil ?_
  refine wp_seq ?_
  refine wp_region_lit ?_
  refine op_val (v := .agg #[.slice A0 x0.length c0, .int .i64 x1, .int .i64 x2, .bool x3, .int .i64 x4]) rfl rfl hF rfl (run_loadN rfl ag28 (hF.ev rfl) rfl ((S.free 1 rfl).cells 0 #[.slice A0 x0.length c0, .int .i64 x1, .int .i64 x2, .bool x3, .int .i64 x4] rfl)) ?_; clear hF; intro a hF
  refine op_val (v := .slice A5 x5.length c5) rfl rfl hF rfl (run_move rfl (hF.ev rfl)) ?_; clear hF; intro a hF
  obtain ⟨p103, h103, hM⟩ := bind_ex hM
  refine op_call rfl rfl hF rfl (run_call (vs := [.agg #[.slice A0 x0.length c0, .int .i64 x1, .int .i64 x2, .bool x3, .int .i64 x4], .slice A5 x5.length c5]) rfl rfl co15 ⟨(hF.ev rfl), (hF.ev rfl), trivial⟩) (c_spec_PanelRun (x0 := x0) (x1 := x1) (x2 := x2) (x3 := x3) (x4 := x4) (x5 := x5) ⟨(S.rc0 h0.rc), rfl⟩ ⟨(S.rc0 h5.rc), rfl⟩ h103) ?_
  rintro e u ⟨B104, n105, d106, B107, n108, d109, rfl, rfl, rfl, T⟩
  refine ⟨_, rfl, ?_⟩
  clear hF; intro a hF
  replace S := S.call2 T; clear T
  refine op_val (v := .tuple #[.agg #[.slice B104 p103.1.length d106, .int .i64 p103.2.1, .int .i64 p103.2.2.1, .bool p103.2.2.2.1, .int .i64 p103.2.2.2.2.1], .slice B107 p103.2.2.2.2.2.length d109]) rfl rfl hF rfl (run_move rfl (hF.ev rfl)) ?_; clear hF; intro a hF
  refine op_val (v := .agg #[.slice B104 p103.1.length d106, .int .i64 p103.2.1, .int .i64 p103.2.2.1, .bool p103.2.2.2.1, .int .i64 p103.2.2.2.2.1]) rfl rfl hF rfl (run_extract rfl (hF.ev rfl) rfl) ?_; clear hF; intro a hF
  refine op_val (v := .slice B107 p103.2.2.2.2.2.length d109) rfl rfl hF rfl (run_extract rfl (hF.ev rfl) rfl) ?_; clear hF; intro a hF
  refine op_new (cs := #[.slice none 0 0, .int .i64 0, .int .i64 0, .bool false, .int .i64 0]) rfl rfl hF rfl S (run_allocZ rfl zr28) ?_; clear hF S; intro a g110 u hF S
  refine op_do rfl rfl (run_store (cs' := #[.slice B104 p103.1.length d106, .int .i64 p103.2.1, .int .i64 p103.2.2.1, .bool p103.2.2.2.1, .int .i64 p103.2.2.2.2.1]) rfl sz28 (hF.ev rfl) (hF.ev rfl) rfl rfl rfl (S.free 0 rfl) rfl rfl) ?_; replace S := S.put 0 rfl (#[.slice B104 p103.1.length d106, .int .i64 p103.2.1, .int .i64 p103.2.2.1, .bool p103.2.2.2.1, .int .i64 p103.2.2.2.2.1])
  generalize World.setRow _ _ _ = u at S ⊢
  refine op_val (v := .slice B107 p103.2.2.2.2.2.length d109) rfl rfl hF rfl (run_assign rfl (hF.ev rfl)) ?_; clear hF; intro a hF
  refine wpList_nil ?_
  refine wp_seq ?_
  refine wp_seq ?_
  refine wp_region_lit ?_
  refine op_val (v := .int .i64 0) rfl rfl hF rfl (run_assign rfl rfl) ?_; clear hF; intro a hF
  refine wpList_nil ?_
  obtain ⟨o112, hM115, hM⟩ := bind_ex hM
  refine wp_cut (fun a u => ∃ (p111 : List (Int × Bool)) (B113 : Option Addr) (d114 : Nat), p111 = o112 ∧ Fr a 49 [(4, .slice none 0 0), (5, .slice B113 p111.length d114)] ∧ St w u [.box g110 28 #[.slice B104 p103.1.length d106, .int .i64 p103.2.1, .int .i64 p103.2.2.1, .bool p103.2.2.2.1, .int .i64 p103.2.2.2.2.1], .box g101 28 #[.slice A0 x0.length c0, .int .i64 x1, .int .i64 x2, .bool x3, .int .i64 x4], .row 59 2 (.slice B113 p111.length d114) p111.length (p111.flatMap eStep), .row 4 1 (.slice B104 p103.1.length d106) p103.1.length (p103.1.flatMap eB)]) ?_ ?_
  · have _ := trivial
    refine wp_block ?_
    refine loop_gw (fun m a u => ∃ (p116 : List (Int × Bool) × Int) (B117 : Option Addr) (d118 : Nat), m_spec_Operations_l1 x5 p103 m p116 = some _ ∧ Fr a 49 [(1, .slice A5 x5.length c5), (4, .slice none 0 0), (5, .slice B117 p116.1.length d118), (7, .slice B107 p103.2.2.2.2.2.length d109), (8, .int .i64 p116.2)] ∧ St w u [.box g110 28 #[.slice B104 p103.1.length d106, .int .i64 p103.2.1, .int .i64 p103.2.2.1, .bool p103.2.2.2.1, .int .i64 p103.2.2.2.2.1], .box g101 28 #[.slice A0 x0.length c0, .int .i64 x1, .int .i64 x2, .bool x3, .int .i64 x4], .row 59 2 (.slice B117 p116.1.length d118) p116.1.length (p116.1.flatMap eStep), .row 4 1 (.slice B107 p103.2.2.2.2.2.length d109) p103.2.2.2.2.2.length (p103.2.2.2.2.2.flatMap eB), .row 4 1 (.slice B104 p103.1.length d106) p103.1.length (p103.1.flatMap eB)]) FUEL ⟨(([] : List (Int × Bool)), 0), (some ⟨g102, 0, none⟩), 0, hM115, hF.keep _ ⟨rfl, rfl, rfl, rfl, rfl, trivial⟩, S.sel [0, 4, 3, 2, 1] rfl rfl⟩ ?_
    clear hF S hM115; rintro m a u ⟨p116, B117, d118, hM115, hF, S⟩
    rcases m with _ | f1
    · exact none_some hM115
    rw [m_spec_Operations_l1.eq_2] at hM115
    refine wp_seq ?_
    refine wp_seq ?_
    refine wp_region_lit ?_
    refine op_val (v := .int .i64 p116.2) rfl rfl hF rfl (run_move rfl (hF.ev rfl)) ?_; clear hF; intro a hF
    refine op_val (v := .slice B107 p103.2.2.2.2.2.length d109) rfl rfl hF rfl (run_move rfl (hF.ev rfl)) ?_; clear hF; intro a hF
    refine op_val (v := .int .i64 (p103.2.2.2.2.2.length : Int)) rfl rfl hF rfl (run_lenL rfl rfl Try.underlying22 (hF.ev rfl)) ?_; clear hF; intro a hF
    refine op_val (v := .bool (ltB p116.2 (p103.2.2.2.2.2.length : Int))) rfl rfl hF rfl (run_lss (hF.ev rfl) (hF.ev rfl) rfl) ?_; clear hF; intro a hF
    refine wpList_nil ?_
    cases hc119 : (ltB p116.2 (p103.2.2.2.2.2.length : Int))
    · replace hM115 := bif_f hc119 hM115
      refine cond_f hF rfl hc119 ?_
      refine wp_exit ?_
      repeat with_reducible (first | refine then_exit ?_ | refine in_hit ?_ | refine in_miss rfl ?_)
      obtain rfl := Option.some.inj hM115
      exact ⟨p116.1, B117, d118, rfl, hF.keep _ ⟨rfl, rfl, trivial⟩, S.sel [0, 1, 2, 4] rfl rfl⟩
    · replace hM115 := bif_t hc119 hM115
      refine cond_t hF rfl hc119 ?_
      refine wp_skip ?_
      refine wp_seq ?_
      refine wp_block ?_
      refine wp_seq ?_
      refine wp_region_lit ?_
      refine op_val (v := .slice B107 p103.2.2.2.2.2.length d109) rfl rfl hF rfl (run_move rfl (hF.ev rfl)) ?_; clear hF; intro a hF
      refine op_val (v := .int .i64 p116.2) rfl rfl hF rfl (run_move rfl (hF.ev rfl)) ?_; clear hF; intro a hF
      obtain ⟨hk120, hM115⟩ := chk_ex hM115
      replace hk120 := ixB_t hk120
      refine op_val (v := .pointer (some ⟨adB B107, adO B107 + p116.2.toNat * 1, none⟩)) rfl rfl hF rfl (run_indexAddr (b := adB B107) (off := adO B107) rfl Try.underlying22 sz4 ((hF.ev rfl).trans (congrArg (fun A => Value.slice A p103.2.2.2.2.2.length d109) ((S.rc 3 rfl).rd.ad (ix_pos hk120)))) (hF.ev rfl) hk120.1 hk120.2 (k' := adO B107 + p116.2.toNat * 1) rfl) ?_; clear hF; intro a hF
      refine op_val (v := .bool (p103.2.2.2.2.2.getD p116.2.toNat false)) rfl rfl hF rfl (run_load1 rfl one4 (hF.ev rfl) (rd_el0 (l := p103.2.2.2.2.2) (S.rc 3 rfl).rd rfl eB_len false (ix_ltn hk120 rfl) rfl)) ?_; clear hF; intro a hF
      refine op_val (v := .bool (p103.2.2.2.2.2.getD p116.2.toNat false)) rfl rfl hF rfl (run_move rfl (hF.ev rfl)) ?_; clear hF; intro a hF
      refine op_gv (v := .slice A5 x5.length c5) rfl rfl hF rfl (yt (gw_yield hF rfl rfl rfl)) (fun hg => (run_move rfl (hF.ev rfl))) ?_; clear hF; intro a hF
      refine op_gv (v := .int .i64 p116.2) rfl rfl hF rfl (yt (gw_yield hF rfl rfl rfl)) (fun hg => (run_move rfl (hF.ev rfl))) ?_; clear hF; intro a hF
      obtain ⟨hk121, hM115⟩ := chk_ex hM115
      replace hk121 := fun hg => ixB_t (imp_t hk121 hg)
      refine op_gv (v := .pointer (some ⟨adB A5, adO A5 + p116.2.toNat * 4, none⟩)) rfl rfl hF rfl (yt (gw_yield hF rfl rfl rfl)) (fun hg => (run_indexAddr (b := adB A5) (off := adO A5) rfl Try.underlying41 sz32 (((hF.ev rfl).trans (gv_t hg)).trans (congrArg (fun A => Value.slice A x5.length c5) ((S.rc0 h5.rc).rd.ad (ix_pos (hk121 hg))))) ((hF.ev rfl).trans (gv_t hg)) (hk121 hg).1 (hk121 hg).2 (k' := adO A5 + p116.2.toNat * 4) rfl)) ?_; clear hF; intro a hF
      refine op_gv (v := .pointer (some ⟨adB A5, adO A5 + p116.2.toNat * 4, none⟩)) rfl rfl hF rfl (yt (gw_yield hF rfl rfl rfl)) (fun hg => (run_fieldAddr rfl fl32_0 ((hF.ev rfl).trans (gv_t hg)) rfl)) ?_; clear hF; intro a hF
      refine op_gv (v := .int .i64 ((x5.getD p116.2.toNat ((0, 0, 0, false) : Int × Int × Int × Bool)).1)) rfl rfl hF rfl (yt (gw_yield hF rfl rfl rfl)) (fun hg => (run_load1 rfl one3 ((hF.ev rfl).trans (gv_t hg)) (rd_el0 (l := x5) (S.rc0 h5.rc).rd rfl eCommand_len ((0, 0, 0, false) : Int × Int × Int × Bool) (ix_ltn (hk121 hg) rfl) rfl))) ?_; clear hF; intro a hF
      refine op_gv (v := .bool (((x5.getD p116.2.toNat ((0, 0, 0, false) : Int × Int × Int × Bool)).1) == 1)) rfl rfl hF rfl (yt (gw_yield hF rfl rfl rfl)) (fun hg => (run_eql ((hF.ev rfl).trans (gv_t hg)) rfl rfl)) ?_; clear hF; intro a hF
      refine op_val (v := .bool ((p103.2.2.2.2.2.getD p116.2.toNat false) && (((x5.getD p116.2.toNat ((0, 0, 0, false) : Int × Int × Int × Bool)).1) == 1))) rfl rfl hF rfl (run_pick_and rfl (hF.ev rfl) (fun hp => ((hF.ev rfl).trans (gv_t hp))) rfl) ?_; clear hF; intro a hF
      refine wpList_nil ?_
      obtain ⟨o123, hM126, hM115⟩ := bind_ex hM115
      refine wp_cut (fun a u => ∃ (p122 : List (Int × Bool)) (B124 : Option Addr) (d125 : Nat), p122 = o123 ∧ Fr a 49 [(1, .slice A5 x5.length c5), (4, .slice none 0 0), (5, .slice B124 p122.length d125), (7, .slice B107 p103.2.2.2.2.2.length d109), (8, .int .i64 p116.2)] ∧ St w u [.box g110 28 #[.slice B104 p103.1.length d106, .int .i64 p103.2.1, .int .i64 p103.2.2.1, .bool p103.2.2.2.1, .int .i64 p103.2.2.2.2.1], .box g101 28 #[.slice A0 x0.length c0, .int .i64 x1, .int .i64 x2, .bool x3, .int .i64 x4], .row 59 2 (.slice B124 p122.length d125) p122.length (p122.flatMap eStep), .row 4 1 (.slice B107 p103.2.2.2.2.2.length d109) p103.2.2.2.2.2.length (p103.2.2.2.2.2.flatMap eB), .row 4 1 (.slice B104 p103.1.length d106) p103.1.length (p103.1.flatMap eB)]) ?_ ?_
      · have _ := trivial
        cases hc127 : ((p103.2.2.2.2.2.getD p116.2.toNat false) && (((x5.getD p116.2.toNat ((0, 0, 0, false) : Int × Int × Int × Bool)).1) == 1))
        · replace hM126 := bif_f hc127 hM126
          refine cond_f hF rfl hc127 ?_
          refine wp_skip ?_
          obtain rfl := Option.some.inj hM126
          exact ⟨p116.1, B117, d118, rfl, hF.keep _ ⟨rfl, rfl, rfl, rfl, rfl, trivial⟩, S.sel [0, 1, 2, 3, 4] rfl rfl⟩
        · replace hM126 := bif_t hc127 hM126
          refine cond_t hF rfl hc127 ?_
          obtain ⟨hk128, hM126⟩ := chk_ex hM126
          replace hk128 := ixB_t hk128
          obtain ⟨hk129, hM126⟩ := chk_ex hM126
          replace hk129 := ixB_t hk129
          obtain ⟨hk130, hM126⟩ := chk_ex hM126
          replace hk130 := apB_t hk130
          refine region_gw (D := [34, 35, 36, 37, 38, 39, 40, 41, 42, 43, 44, 45, 46, 47, 5]) (Lr := [.box g110 28 #[.slice B104 p103.1.length d106, .int .i64 p103.2.1, .int .i64 p103.2.2.1, .bool p103.2.2.2.1, .int .i64 p103.2.2.2.2.1], .box g101 28 #[.slice A0 x0.length c0, .int .i64 x1, .int .i64 x2, .bool x3, .int .i64 x4], .row 4 1 (.slice B107 p103.2.2.2.2.2.length d109) p103.2.2.2.2.2.length (p103.2.2.2.2.2.flatMap eB), .row 4 1 (.slice B104 p103.1.length d106) p103.1.length (p103.1.flatMap eB)]) (deps := (fun | 0 => [34] | 1 => [35] | 2 => [36] | 3 => [37] | 4 => [38] | 5 => [39] | 6 => [40] | 7 => [41] | 8 => [42] | 9 => [43] | 10 => [44] | 11 => [45] | 12 => [46] | 13 => [47] | 14 => [5, 47] | _ => [])) (rd := (fun | 13 => [12] | _ => [])) (zr := (fun _ => []))
            (φ := fun i vs => match i, vs with | 0, [v34] => v34 = .slice B117 p116.1.length d118 | 1, [v35] => v35 = .slice A5 x5.length c5 | 2, [v36] => v36 = .int .i64 p116.2 | 3, [v37] => v37 = .pointer (some ⟨adB A5, adO A5 + p116.2.toNat * 4, none⟩) | 4, [v38] => v38 = .pointer (some ⟨adB A5, adO A5 + p116.2.toNat * 4 + 2, none⟩) | 5, [v39] => v39 = .int .i64 ((x5.getD p116.2.toNat ((0, 0, 0, false) : Int × Int × Int × Bool)).2.2.1) | 6, [v40] => v40 = .slice A5 x5.length c5 | 7, [v41] => v41 = .int .i64 p116.2 | 8, [v42] => v42 = .pointer (some ⟨adB A5, adO A5 + p116.2.toNat * 4, none⟩) | 9, [v43] => v43 = .pointer (some ⟨adB A5, adO A5 + p116.2.toNat * 4 + 3, none⟩) | 10, [v44] => v44 = .bool ((x5.getD p116.2.toNat ((0, 0, 0, false) : Int × Int × Int × Bool)).2.2.2) | 11, [v45] => v45 = .agg #[.int .i64 ((x5.getD p116.2.toNat ((0, 0, 0, false) : Int × Int × Int × Bool)).2.2.1), .bool ((x5.getD p116.2.toNat ((0, 0, 0, false) : Int × Int × Int × Bool)).2.2.2)] | 12, [v46] => v46 = .slice (slA v46) (([((x5.getD p116.2.toNat ((0, 0, 0, false) : Int × Int × Int × Bool)).2.2.1, (x5.getD p116.2.toNat ((0, 0, 0, false) : Int × Int × Int × Bool)).2.2.2)] : List (Int × Bool)).length) (([((x5.getD p116.2.toNat ((0, 0, 0, false) : Int × Int × Int × Bool)).2.2.1, (x5.getD p116.2.toNat ((0, 0, 0, false) : Int × Int × Int × Bool)).2.2.2)] : List (Int × Bool)).length) | 13, [v47] => v47 = .slice (slA v47) ((p116.1 ++ ([((x5.getD p116.2.toNat ((0, 0, 0, false) : Int × Int × Int × Bool)).2.2.1, (x5.getD p116.2.toNat ((0, 0, 0, false) : Int × Int × Int × Bool)).2.2.2)])).length) (slC v47) | 14, [v5, v47] => v5 = .slice (slA v47) ((p116.1 ++ ([((x5.getD p116.2.toNat ((0, 0, 0, false) : Int × Int × Int × Bool)).2.2.1, (x5.getD p116.2.toNat ((0, 0, 0, false) : Int × Int × Int × Bool)).2.2.2)])).length) (slC v47) | _, _ => True)
            (C := fun i vs => match i, vs with | 12, [v46] => [.row 59 2 (.slice (slA v46) (([((x5.getD p116.2.toNat ((0, 0, 0, false) : Int × Int × Int × Bool)).2.2.1, (x5.getD p116.2.toNat ((0, 0, 0, false) : Int × Int × Int × Bool)).2.2.2)] : List (Int × Bool)).length) (([((x5.getD p116.2.toNat ((0, 0, 0, false) : Int × Int × Int × Bool)).2.2.1, (x5.getD p116.2.toNat ((0, 0, 0, false) : Int × Int × Int × Bool)).2.2.2)] : List (Int × Bool)).length)) (([((x5.getD p116.2.toNat ((0, 0, 0, false) : Int × Int × Int × Bool)).2.2.1, (x5.getD p116.2.toNat ((0, 0, 0, false) : Int × Int × Int × Bool)).2.2.2)] : List (Int × Bool)).length) (([((x5.getD p116.2.toNat ((0, 0, 0, false) : Int × Int × Int × Bool)).2.2.1, (x5.getD p116.2.toNat ((0, 0, 0, false) : Int × Int × Int × Bool)).2.2.2)]).flatMap eStep)] | 13, [v47] => [.row 59 2 (.slice (slA v47) ((p116.1 ++ ([((x5.getD p116.2.toNat ((0, 0, 0, false) : Int × Int × Int × Bool)).2.2.1, (x5.getD p116.2.toNat ((0, 0, 0, false) : Int × Int × Int × Bool)).2.2.2)])).length) (slC v47)) ((p116.1 ++ ([((x5.getD p116.2.toNat ((0, 0, 0, false) : Int × Int × Int × Bool)).2.2.1, (x5.getD p116.2.toNat ((0, 0, 0, false) : Int × Int × Int × Bool)).2.2.2)])).length) ((p116.1 ++ ([((x5.getD p116.2.toNat ((0, 0, 0, false) : Int × Int × Int × Bool)).2.2.1, (x5.getD p116.2.toNat ((0, 0, 0, false) : Int × Int × Int × Bool)).2.2.2)])).flatMap eStep)] | _, _ => [])
            (κ := (fun _ => none)) (Z := (fun | 13 => [.row 59 2 (.slice B117 p116.1.length d118) p116.1.length (p116.1.flatMap eStep)] | _ => [])) mixed hF (by kernel_rfl) (show St w _ [.row 59 2 (.slice B117 p116.1.length d118) p116.1.length (p116.1.flatMap eStep), .box g110 28 #[.slice B104 p103.1.length d106, .int .i64 p103.2.1, .int .i64 p103.2.2.1, .bool p103.2.2.2.1, .int .i64 p103.2.2.2.2.1], .box g101 28 #[.slice A0 x0.length c0, .int .i64 x1, .int .i64 x2, .bool x3, .int .i64 x4], .row 4 1 (.slice B107 p103.2.2.2.2.2.length d109) p103.2.2.2.2.2.length (p103.2.2.2.2.2.flatMap eB), .row 4 1 (.slice B104 p103.1.length d106) p103.1.length (p103.1.flatMap eB)] from S.sel [2, 0, 1, 3, 4] rfl rfl) ?_ ?_
          · refine ⟨?_, ?_, ?_, ?_, ?_, ?_, ?_, ?_, ?_, ?_, ?_, ?_, ?_, ?_, ?_, trivial⟩
            · intro a u X hB hu hp hr hz hl S
              replace S : St w u ([] ++ X) := S
              exact .inl ⟨rfl, .slice B117 p116.1.length d118, u, (run_move rfl (hF.evU (hu 14 5 rfl rfl) rfl)), rfl, S⟩
            · intro a u X hB hu hp hr hz hl S
              replace S : St w u ([] ++ X) := S
              exact .inl ⟨rfl, .slice A5 x5.length c5, u, (run_move rfl (hF.evB hB rfl rfl)), rfl, S⟩
            · intro a u X hB hu hp hr hz hl S
              replace S : St w u ([] ++ X) := S
              exact .inl ⟨rfl, .int .i64 p116.2, u, (run_move rfl (hF.evB hB rfl rfl)), rfl, S⟩
            · intro a u X hB hu hp hr hz hl S
              replace S : St w u ([] ++ X) := S
              have e35 : sl a 35 = .slice A5 x5.length c5 := hp 1 rfl
              have e36 : sl a 36 = .int .i64 p116.2 := hp 2 rfl
              exact .inl ⟨rfl, .pointer (some ⟨adB A5, adO A5 + p116.2.toNat * 4, none⟩), u, (run_indexAddr (b := adB A5) (off := adO A5) rfl Try.underlying41 sz32 ((ev_sl e35).trans (congrArg (fun A => Value.slice A x5.length c5) ((S.rc0 h5.rc).rd.ad (ix_pos hk128)))) (ev_sl e36) hk128.1 hk128.2 (k' := adO A5 + p116.2.toNat * 4) rfl), rfl, S⟩
            · intro a u X hB hu hp hr hz hl S
              replace S : St w u ([] ++ X) := S
              have e37 : sl a 37 = .pointer (some ⟨adB A5, adO A5 + p116.2.toNat * 4, none⟩) := hp 3 rfl
              exact .inl ⟨rfl, .pointer (some ⟨adB A5, adO A5 + p116.2.toNat * 4 + 2, none⟩), u, (run_fieldAddr rfl fl32_2 (ev_sl e37) rfl), rfl, S⟩
            · intro a u X hB hu hp hr hz hl S
              replace S : St w u ([] ++ X) := S
              have e38 : sl a 38 = .pointer (some ⟨adB A5, adO A5 + p116.2.toNat * 4 + 2, none⟩) := hp 4 rfl
              exact .inl ⟨rfl, .int .i64 ((x5.getD p116.2.toNat ((0, 0, 0, false) : Int × Int × Int × Bool)).2.2.1), u, (run_load1 rfl one3 (ev_sl e38) (rd_el (l := x5) (S.rc0 h5.rc).rd rfl eCommand_len ((0, 0, 0, false) : Int × Int × Int × Bool) (ix_ltn hk128 rfl) rfl)), rfl, S⟩
            · intro a u X hB hu hp hr hz hl S
              replace S : St w u ([] ++ X) := S
              exact .inl ⟨rfl, .slice A5 x5.length c5, u, (run_move rfl (hF.evB hB rfl rfl)), rfl, S⟩
            · intro a u X hB hu hp hr hz hl S
              replace S : St w u ([] ++ X) := S
              exact .inl ⟨rfl, .int .i64 p116.2, u, (run_move rfl (hF.evB hB rfl rfl)), rfl, S⟩
            · intro a u X hB hu hp hr hz hl S
              replace S : St w u ([] ++ X) := S
              have e40 : sl a 40 = .slice A5 x5.length c5 := hp 6 rfl
              have e41 : sl a 41 = .int .i64 p116.2 := hp 7 rfl
              exact .inl ⟨rfl, .pointer (some ⟨adB A5, adO A5 + p116.2.toNat * 4, none⟩), u, (run_indexAddr (b := adB A5) (off := adO A5) rfl Try.underlying41 sz32 ((ev_sl e40).trans (congrArg (fun A => Value.slice A x5.length c5) ((S.rc0 h5.rc).rd.ad (ix_pos hk129)))) (ev_sl e41) hk129.1 hk129.2 (k' := adO A5 + p116.2.toNat * 4) rfl), rfl, S⟩
            · intro a u X hB hu hp hr hz hl S
              replace S : St w u ([] ++ X) := S
              have e42 : sl a 42 = .pointer (some ⟨adB A5, adO A5 + p116.2.toNat * 4, none⟩) := hp 8 rfl
              exact .inl ⟨rfl, .pointer (some ⟨adB A5, adO A5 + p116.2.toNat * 4 + 3, none⟩), u, (run_fieldAddr rfl fl32_3 (ev_sl e42) rfl), rfl, S⟩
            · intro a u X hB hu hp hr hz hl S
              replace S : St w u ([] ++ X) := S
              have e43 : sl a 43 = .pointer (some ⟨adB A5, adO A5 + p116.2.toNat * 4 + 3, none⟩) := hp 9 rfl
              exact .inl ⟨rfl, .bool ((x5.getD p116.2.toNat ((0, 0, 0, false) : Int × Int × Int × Bool)).2.2.2), u, (run_load1 rfl one4 (ev_sl e43) (rd_el (l := x5) (S.rc0 h5.rc).rd rfl eCommand_len ((0, 0, 0, false) : Int × Int × Int × Bool) (ix_ltn hk129 rfl) rfl)), rfl, S⟩
            · intro a u X hB hu hp hr hz hl S
              replace S : St w u ([] ++ X) := S
              have e39 : sl a 39 = .int .i64 ((x5.getD p116.2.toNat ((0, 0, 0, false) : Int × Int × Int × Bool)).2.2.1) := hp 5 rfl
              have e44 : sl a 44 = .bool ((x5.getD p116.2.toNat ((0, 0, 0, false) : Int × Int × Int × Bool)).2.2.2) := hp 10 rfl
              exact .inl ⟨rfl, .agg #[.int .i64 ((x5.getD p116.2.toNat ((0, 0, 0, false) : Int × Int × Int × Bool)).2.2.1), .bool ((x5.getD p116.2.toNat ((0, 0, 0, false) : Int × Int × Int × Bool)).2.2.2)], u, (run_build (vs := [(0, .int .i64 ((x5.getD p116.2.toNat ((0, 0, 0, false) : Int × Int × Int × Bool)).2.2.1)), (1, .bool ((x5.getD p116.2.toNat ((0, 0, 0, false) : Int × Int × Int × Bool)).2.2.2))]) rfl ⟨⟨rfl, (ev_sl e39)⟩, ⟨rfl, (ev_sl e44)⟩, trivial⟩ (bd59_0_1 rfl rfl)), rfl, S⟩
            · intro a u X hB hu hp hr hz hl S
              replace S : St w u ([] ++ X) := S
              have e45 : sl a 45 = .agg #[.int .i64 ((x5.getD p116.2.toNat ((0, 0, 0, false) : Int × Int × Int × Bool)).2.2.1), .bool ((x5.getD p116.2.toNat ((0, 0, 0, false) : Int × Int × Int × Bool)).2.2.2)] := hp 11 rfl
              exact .inl ⟨rfl, _, _, run_buildS (vs := [(0, .agg #[.int .i64 ((x5.getD p116.2.toNat ((0, 0, 0, false) : Int × Int × Int × Bool)).2.2.1), .bool ((x5.getD p116.2.toNat ((0, 0, 0, false) : Int × Int × Int × Bool)).2.2.2)])]) rfl ⟨⟨rfl, (ev_sl e45)⟩, trivial⟩ (bs48_1_2 ), rfl, S.newrowL (e := eStep) (ls := [((x5.getD p116.2.toNat ((0, 0, 0, false) : Int × Int × Int × Bool)).2.2.1, (x5.getD p116.2.toNat ((0, 0, 0, false) : Int × Int × Int × Bool)).2.2.2)]) rfl eStep_len (Nat.le_of_ble_eq_true rfl)⟩
            · intro a u X hB hu hp hr hz hl S
              replace S : St w u ([.row 59 2 (.slice B117 p116.1.length d118) p116.1.length (p116.1.flatMap eStep)] ++ X) := S
              have e34 : sl a 34 = .slice B117 p116.1.length d118 := hp 0 rfl
              have e46 : sl a 46 = .slice (slA (sl a 46)) (([((x5.getD p116.2.toNat ((0, 0, 0, false) : Int × Int × Int × Bool)).2.2.1, (x5.getD p116.2.toNat ((0, 0, 0, false) : Int × Int × Int × Bool)).2.2.2)] : List (Int × Bool)).length) (([((x5.getD p116.2.toNat ((0, 0, 0, false) : Int × Int × Int × Bool)).2.2.1, (x5.getD p116.2.toNat ((0, 0, 0, false) : Int × Int × Int × Bool)).2.2.2)] : List (Int × Bool)).length) := hp 12 rfl
              obtain ⟨B, d, w', hrun, S'⟩ := S.appendL (i := 0) (P := Try.prog) (ty := 48) (lx := p116.1) (ly := [((x5.getD p116.2.toNat ((0, 0, 0, false) : Int × Int × Int × Bool)).2.2.1, (x5.getD p116.2.toNat ((0, 0, 0, false) : Int × Int × Int × Bool)).2.2.2)]) (c' := (([((x5.getD p116.2.toNat ((0, 0, 0, false) : Int × Int × Int × Bool)).2.2.1, (x5.getD p116.2.toNat ((0, 0, 0, false) : Int × Int × Int × Bool)).2.2.2)] : List (Int × Bool)).length)) rfl rfl Try.underlying48 inf59 rfl (by decide) (own_rc (show World.ownsRow _ 0 _ _ _ _ _ from S.mem (List.mem_append_right _ (hr 12 (List.mem_of_getElem? (i := 0) rfl) _ (List.mem_of_getElem? (i := 0) rfl))))).rd rfl eStep_one hk130 (by decide)
              exact .inl ⟨rfl, _, w', run_append rfl (ev_sl e34) (ev_sl e46) hrun, rfl, S'⟩
            · intro a u X hB hu hp hr hz hl S
              replace S : St w u ([] ++ X) := S
              have e47 : sl a 47 = .slice (slA (sl a 47)) ((p116.1 ++ ([((x5.getD p116.2.toNat ((0, 0, 0, false) : Int × Int × Int × Bool)).2.2.1, (x5.getD p116.2.toNat ((0, 0, 0, false) : Int × Int × Int × Bool)).2.2.2)])).length) (slC (sl a 47)) := hp 13 rfl
              exact .inl ⟨rfl, .slice (slA (sl a 47)) ((p116.1 ++ ([((x5.getD p116.2.toNat ((0, 0, 0, false) : Int × Int × Int × Bool)).2.2.1, (x5.getD p116.2.toNat ((0, 0, 0, false) : Int × Int × Int × Bool)).2.2.2)])).length) (slC (sl a 47)), u, (run_assign rfl (ev_sl e47)), rfl, S⟩
          · intro a u hB hp S
            obtain ⟨q0, q1, q2, q3, q4, q5, q6, q7, q8, q9, q10, q11, q12, q13, q14, _⟩ := hp
            have e34 : sl a 34 = .slice B117 p116.1.length d118 := q0
            have e35 : sl a 35 = .slice A5 x5.length c5 := q1
            have e36 : sl a 36 = .int .i64 p116.2 := q2
            have e37 : sl a 37 = .pointer (some ⟨adB A5, adO A5 + p116.2.toNat * 4, none⟩) := q3
            have e38 : sl a 38 = .pointer (some ⟨adB A5, adO A5 + p116.2.toNat * 4 + 2, none⟩) := q4
            have e39 : sl a 39 = .int .i64 ((x5.getD p116.2.toNat ((0, 0, 0, false) : Int × Int × Int × Bool)).2.2.1) := q5
            have e40 : sl a 40 = .slice A5 x5.length c5 := q6
            have e41 : sl a 41 = .int .i64 p116.2 := q7
            have e42 : sl a 42 = .pointer (some ⟨adB A5, adO A5 + p116.2.toNat * 4, none⟩) := q8
            have e43 : sl a 43 = .pointer (some ⟨adB A5, adO A5 + p116.2.toNat * 4 + 3, none⟩) := q9
            have e44 : sl a 44 = .bool ((x5.getD p116.2.toNat ((0, 0, 0, false) : Int × Int × Int × Bool)).2.2.2) := q10
            have e45 : sl a 45 = .agg #[.int .i64 ((x5.getD p116.2.toNat ((0, 0, 0, false) : Int × Int × Int × Bool)).2.2.1), .bool ((x5.getD p116.2.toNat ((0, 0, 0, false) : Int × Int × Int × Bool)).2.2.2)] := q11
            have e46 : sl a 46 = .slice (slA (sl a 46)) (([((x5.getD p116.2.toNat ((0, 0, 0, false) : Int × Int × Int × Bool)).2.2.1, (x5.getD p116.2.toNat ((0, 0, 0, false) : Int × Int × Int × Bool)).2.2.2)] : List (Int × Bool)).length) (([((x5.getD p116.2.toNat ((0, 0, 0, false) : Int × Int × Int × Bool)).2.2.1, (x5.getD p116.2.toNat ((0, 0, 0, false) : Int × Int × Int × Bool)).2.2.2)] : List (Int × Bool)).length) := q12
            have e47 : sl a 47 = .slice (slA (sl a 47)) ((p116.1 ++ ([((x5.getD p116.2.toNat ((0, 0, 0, false) : Int × Int × Int × Bool)).2.2.1, (x5.getD p116.2.toNat ((0, 0, 0, false) : Int × Int × Int × Bool)).2.2.2)])).length) (slC (sl a 47)) := q13
            have e5 : sl a 5 = .slice (slA (sl a 47)) ((p116.1 ++ ([((x5.getD p116.2.toNat ((0, 0, 0, false) : Int × Int × Int × Bool)).2.2.1, (x5.getD p116.2.toNat ((0, 0, 0, false) : Int × Int × Int × Bool)).2.2.2)])).length) (slC (sl a 47)) := q14
            replace S : St w u [.row 59 2 (.slice (slA (sl a 46)) (([((x5.getD p116.2.toNat ((0, 0, 0, false) : Int × Int × Int × Bool)).2.2.1, (x5.getD p116.2.toNat ((0, 0, 0, false) : Int × Int × Int × Bool)).2.2.2)] : List (Int × Bool)).length) (([((x5.getD p116.2.toNat ((0, 0, 0, false) : Int × Int × Int × Bool)).2.2.1, (x5.getD p116.2.toNat ((0, 0, 0, false) : Int × Int × Int × Bool)).2.2.2)] : List (Int × Bool)).length)) (([((x5.getD p116.2.toNat ((0, 0, 0, false) : Int × Int × Int × Bool)).2.2.1, (x5.getD p116.2.toNat ((0, 0, 0, false) : Int × Int × Int × Bool)).2.2.2)] : List (Int × Bool)).length) (([((x5.getD p116.2.toNat ((0, 0, 0, false) : Int × Int × Int × Bool)).2.2.1, (x5.getD p116.2.toNat ((0, 0, 0, false) : Int × Int × Int × Bool)).2.2.2)]).flatMap eStep), .row 59 2 (.slice (slA (sl a 47)) ((p116.1 ++ ([((x5.getD p116.2.toNat ((0, 0, 0, false) : Int × Int × Int × Bool)).2.2.1, (x5.getD p116.2.toNat ((0, 0, 0, false) : Int × Int × Int × Bool)).2.2.2)])).length) (slC (sl a 47))) ((p116.1 ++ ([((x5.getD p116.2.toNat ((0, 0, 0, false) : Int × Int × Int × Bool)).2.2.1, (x5.getD p116.2.toNat ((0, 0, 0, false) : Int × Int × Int × Bool)).2.2.2)])).length) ((p116.1 ++ ([((x5.getD p116.2.toNat ((0, 0, 0, false) : Int × Int × Int × Bool)).2.2.1, (x5.getD p116.2.toNat ((0, 0, 0, false) : Int × Int × Int × Bool)).2.2.2)])).flatMap eStep), .box g110 28 #[.slice B104 p103.1.length d106, .int .i64 p103.2.1, .int .i64 p103.2.2.1, .bool p103.2.2.2.1, .int .i64 p103.2.2.2.2.1], .box g101 28 #[.slice A0 x0.length c0, .int .i64 x1, .int .i64 x2, .bool x3, .int .i64 x4], .row 4 1 (.slice B107 p103.2.2.2.2.2.length d109) p103.2.2.2.2.2.length (p103.2.2.2.2.2.flatMap eB), .row 4 1 (.slice B104 p103.1.length d106) p103.1.length (p103.1.flatMap eB)] := S
            clear q0 q1 q2 q3 q4 q5 q6 q7 q8 q9 q10 q11 q12 q13 q14
            generalize slA (sl a 46) = B131 at *
            generalize slA (sl a 47) = B132 at *
            generalize slC (sl a 47) = d133 at *
            have hF := hF.region hB [(34, .slice B117 p116.1.length d118), (35, .slice A5 x5.length c5), (36, .int .i64 p116.2), (37, .pointer (some ⟨adB A5, adO A5 + p116.2.toNat * 4, none⟩)), (38, .pointer (some ⟨adB A5, adO A5 + p116.2.toNat * 4 + 2, none⟩)), (39, .int .i64 ((x5.getD p116.2.toNat ((0, 0, 0, false) : Int × Int × Int × Bool)).2.2.1)), (40, .slice A5 x5.length c5), (41, .int .i64 p116.2), (42, .pointer (some ⟨adB A5, adO A5 + p116.2.toNat * 4, none⟩)), (43, .pointer (some ⟨adB A5, adO A5 + p116.2.toNat * 4 + 3, none⟩)), (44, .bool ((x5.getD p116.2.toNat ((0, 0, 0, false) : Int × Int × Int × Bool)).2.2.2)), (45, .agg #[.int .i64 ((x5.getD p116.2.toNat ((0, 0, 0, false) : Int × Int × Int × Bool)).2.2.1), .bool ((x5.getD p116.2.toNat ((0, 0, 0, false) : Int × Int × Int × Bool)).2.2.2)]), (46, .slice B131 (([((x5.getD p116.2.toNat ((0, 0, 0, false) : Int × Int × Int × Bool)).2.2.1, (x5.getD p116.2.toNat ((0, 0, 0, false) : Int × Int × Int × Bool)).2.2.2)] : List (Int × Bool)).length) (([((x5.getD p116.2.toNat ((0, 0, 0, false) : Int × Int × Int × Bool)).2.2.1, (x5.getD p116.2.toNat ((0, 0, 0, false) : Int × Int × Int × Bool)).2.2.2)] : List (Int × Bool)).length)), (47, .slice B132 ((p116.1 ++ ([((x5.getD p116.2.toNat ((0, 0, 0, false) : Int × Int × Int × Bool)).2.2.1, (x5.getD p116.2.toNat ((0, 0, 0, false) : Int × Int × Int × Bool)).2.2.2)])).length) d133), (5, .slice B132 ((p116.1 ++ ([((x5.getD p116.2.toNat ((0, 0, 0, false) : Int × Int × Int × Bool)).2.2.1, (x5.getD p116.2.toNat ((0, 0, 0, false) : Int × Int × Int × Bool)).2.2.2)])).length) d133)] (allSl_mem ⟨e34, e35, e36, e37, e38, e39, e40, e41, e42, e43, e44, e45, e46, e47, e5, trivial⟩) rfl
            clear hB e34 e35 e36 e37 e38 e39 e40 e41 e42 e43 e44 e45 e46 e47 e5
            obtain rfl := Option.some.inj hM126
            exact ⟨p116.1 ++ ([((x5.getD p116.2.toNat ((0, 0, 0, false) : Int × Int × Int × Bool)).2.2.1, (x5.getD p116.2.toNat ((0, 0, 0, false) : Int × Int × Int × Bool)).2.2.2)]), B132, d133, rfl, hF.keep _ ⟨rfl, rfl, rfl, rfl, rfl, trivial⟩, S.sel [2, 3, 1, 4, 5] rfl rfl⟩
      · rintro a u ⟨p122, B124, d125, rfl, hF, S⟩
        refine wp_region_lit ?_
        refine op_val (v := .int .i64 p116.2) rfl rfl hF rfl (run_move rfl (hF.ev rfl)) ?_; clear hF; intro a hF
        refine op_val (v := .int .i64 (w64 (p116.2 + 1))) rfl rfl hF rfl (run_add (z := w64 (p116.2 + 1)) (hF.ev rfl) rfl rfl rfl) ?_; clear hF; intro a hF
        refine op_val (v := .int .i64 (w64 (p116.2 + 1))) rfl rfl hF rfl (run_assign rfl (hF.ev rfl)) ?_; clear hF; intro a hF
        refine wpList_nil ?_
        exact ⟨f1, Nat.lt_succ_self _, (p122, w64 (p116.2 + 1)), B124, d125, hM115, hF.keep _ ⟨rfl, rfl, rfl, rfl, rfl, trivial⟩, S.sel [0, 1, 2, 3, 4] rfl rfl⟩
  · rintro a u ⟨p111, B113, d114, rfl, hF, S⟩
    refine wp_seq ?_
    refine wp_region_lit ?_
    refine op_val (v := .slice B113 p111.length d114) rfl rfl hF rfl (run_move rfl (hF.ev rfl)) ?_; clear hF; intro a hF
    refine op_val (v := .slice B113 p111.length d114) rfl rfl hF rfl (run_assign rfl (hF.ev rfl)) ?_; clear hF; intro a hF
    refine wpList_nil ?_
    refine wp_ret ?_
    repeat with_reducible (first | refine then_ret ?_ | refine in_ret ?_ | refine in_nrm ?_)
    refine ret1_gw (.inl rfl) hF rfl (res_tmp (hF.ev rfl)) ?_
    obtain rfl := Option.some.inj hM
    exact ⟨B113, p111.length, d114, rfl, rfl, S.sel [2] rfl rfl⟩

set_option maxHeartbeats 4000000 in
theorem c_impl_Operations {x0 : List Bool} {x1 : Int} {x2 : Int} {x3 : Bool} {x4 : Int} {x5 : List (Int × Int × Int × Bool)} {A0 : Option Addr} {n0 c0 : Nat} {A5 : Option Addr} {n5 c5 : Nat} {w : World} {r : List (Int × Bool)} (h0 : Rt w 1 eB A0 n0 c0 x0) (h5 : Rt w 4 eCommand A5 n5 c5 x5) (hM : m_impl_Operations x0 x1 x2 x3 x4 x5 = some r) :
    Calls Try.prog 24 #[.agg #[.slice A0 n0 c0, .int .i64 x1, .int .i64 x2, .bool x3, .int .i64 x4], .slice A5 n5 c5] w (fun e w' => ∃ (B0 : Option Addr) (N0 D0 : Nat), e = .returned (.slice B0 N0 D0) ∧ N0 = r.length ∧ St w w' [.row 59 2 (.slice B0 N0 D0) N0 (r.flatMap eStep)]) := by
  obtain rfl := h0.len
  obtain rfl := h5.len
  unfold m_impl_Operations at hM
  refine calls_gw Try.func24 Try.ntmps24 rfl [(0, .agg #[.slice A0 x0.length c0, .int .i64 x1, .int .i64 x2, .bool x3, .int .i64 x4]), (1, .slice A5 x5.length c5)] ⟨rfl, rfl, trivial⟩ rfl ?_
  intro a hF
  have S := St.nil w
  refine wp_seq ?_
  refine wp_region_lit ?_
  refine op_new (cs := #[.slice A0 x0.length c0, .int .i64 x1, .int .i64 x2, .bool x3, .int .i64 x4]) rfl rfl hF rfl S (run_box rfl (hF.ev rfl) rfl) ?_; clear hF S; intro a g101 u hF S
  refine op_val (v := .slice none 0 0) rfl rfl hF rfl (run_assign rfl rfl) ?_; clear hF; intro a hF
  refine wpList_nil ?_
  refine wp_seq ?_
  refine wp_region_lit ?_
  refine op_val (v := .agg #[.slice A0 x0.length c0, .int .i64 x1, .int .i64 x2, .bool x3, .int .i64 x4]) rfl rfl hF rfl (run_loadN rfl ag28 (hF.ev rfl) rfl ((S.free 0 rfl).cells 0 #[.slice A0 x0.length c0, .int .i64 x1, .int .i64 x2, .bool x3, .int .i64 x4] rfl)) ?_; clear hF; intro a hF
  refine op_val (v := .slice A5 x5.length c5) rfl rfl hF rfl (run_move rfl (hF.ev rfl)) ?_; clear hF; intro a hF
  obtain ⟨p102, h102, hM⟩ := bind_ex hM
  refine op_call rfl rfl hF rfl (run_call (vs := [.agg #[.slice A0 x0.length c0, .int .i64 x1, .int .i64 x2, .bool x3, .int .i64 x4], .slice A5 x5.length c5]) rfl rfl co17 ⟨(hF.ev rfl), (hF.ev rfl), trivial⟩) (c_impl_PanelRun (x0 := x0) (x1 := x1) (x2 := x2) (x3 := x3) (x4 := x4) (x5 := x5) ⟨(S.rc0 h0.rc), rfl⟩ ⟨(S.rc0 h5.rc), rfl⟩ h102) ?_
  rintro e u ⟨B103, n104, d105, B106, n107, d108, rfl, rfl, rfl, T⟩
  refine ⟨_, rfl, ?_⟩
  clear hF; intro a hF
  replace S := S.call2 T; clear T
  refine op_val (v := .tuple #[.agg #[.slice B103 p102.1.length d105, .int .i64 p102.2.1, .int .i64 p102.2.2.1, .bool p102.2.2.2.1, .int .i64 p102.2.2.2.2.1], .slice B106 p102.2.2.2.2.2.length d108]) rfl rfl hF rfl (run_move rfl (hF.ev rfl)) ?_; clear hF; intro a hF
  refine op_val (v := .agg #[.slice B103 p102.1.length d105, .int .i64 p102.2.1, .int .i64 p102.2.2.1, .bool p102.2.2.2.1, .int .i64 p102.2.2.2.2.1]) rfl rfl hF rfl (run_extract rfl (hF.ev rfl) rfl) ?_; clear hF; intro a hF
  refine op_val (v := .slice B106 p102.2.2.2.2.2.length d108) rfl rfl hF rfl (run_extract rfl (hF.ev rfl) rfl) ?_; clear hF; intro a hF
  refine op_new (cs := #[.slice none 0 0, .int .i64 0, .int .i64 0, .bool false, .int .i64 0]) rfl rfl hF rfl S (run_allocZ rfl zr28) ?_; clear hF S; intro a g109 u hF S
  refine op_do rfl rfl (run_store (cs' := #[.slice B103 p102.1.length d105, .int .i64 p102.2.1, .int .i64 p102.2.2.1, .bool p102.2.2.2.1, .int .i64 p102.2.2.2.2.1]) rfl sz28 (hF.ev rfl) (hF.ev rfl) rfl rfl rfl (S.free 0 rfl) rfl rfl) ?_; replace S := S.put 0 rfl (#[.slice B103 p102.1.length d105, .int .i64 p102.2.1, .int .i64 p102.2.2.1, .bool p102.2.2.2.1, .int .i64 p102.2.2.2.2.1])
  generalize World.setRow _ _ _ = u at S ⊢
  refine op_val (v := .slice B106 p102.2.2.2.2.2.length d108) rfl rfl hF rfl (run_assign rfl (hF.ev rfl)) ?_; clear hF; intro a hF
  refine wpList_nil ?_
  refine wp_seq ?_
  refine wp_region_lit ?_
  refine op_val (v := .slice none 0 0) rfl rfl hF rfl (run_assign rfl rfl) ?_; clear hF; intro a hF
  refine wpList_nil ?_
  refine wp_seq ?_
  refine wp_seq ?_
  refine wp_region_lit ?_
  refine op_val (v := .slice A5 x5.length c5) rfl rfl hF rfl (run_move rfl (hF.ev rfl)) ?_; clear hF; intro a hF
  refine op_val (v := .int .i64 (x5.length : Int)) rfl rfl hF rfl (run_lenL rfl rfl Try.underlying41 (hF.ev rfl)) ?_; clear hF; intro a hF
  refine op_val (v := .int .i64 0) rfl rfl hF rfl (run_move rfl rfl) ?_; clear hF; intro a hF
  refine wpList_nil ?_
  obtain ⟨o111, hM114, hM⟩ := bind_ex hM
  refine wp_cut (fun a u => ∃ (p110 : List (Int × Bool)) (B112 : Option Addr) (d113 : Nat), p110 = o111 ∧ Fr a 48 [(4, .slice none 0 0), (7, .slice B112 p110.length d113)] ∧ St w u [.box g109 28 #[.slice B103 p102.1.length d105, .int .i64 p102.2.1, .int .i64 p102.2.2.1, .bool p102.2.2.2.1, .int .i64 p102.2.2.2.2.1], .box g101 28 #[.slice A0 x0.length c0, .int .i64 x1, .int .i64 x2, .bool x3, .int .i64 x4], .row 59 2 (.slice B112 p110.length d113) p110.length (p110.flatMap eStep), .row 4 1 (.slice B103 p102.1.length d105) p102.1.length (p102.1.flatMap eB)]) ?_ ?_
  · have _ := trivial
    refine wp_block ?_
    replace S := S.nilrow 59 2
    refine loop_gw (fun m a u => ∃ (p115 : List (Int × Bool) × Int) (B116 : Option Addr) (d117 : Nat), m_impl_Operations_l1 x5 p102 m p115 = some _ ∧ Fr a 48 [(4, .slice none 0 0), (6, .slice B106 p102.2.2.2.2.2.length d108), (7, .slice B116 p115.1.length d117), (16, .slice A5 x5.length c5), (17, .int .i64 (x5.length : Int)), (18, .int .i64 p115.2)] ∧ St w u [.box g109 28 #[.slice B103 p102.1.length d105, .int .i64 p102.2.1, .int .i64 p102.2.2.1, .bool p102.2.2.2.1, .int .i64 p102.2.2.2.2.1], .box g101 28 #[.slice A0 x0.length c0, .int .i64 x1, .int .i64 x2, .bool x3, .int .i64 x4], .row 4 1 (.slice B106 p102.2.2.2.2.2.length d108) p102.2.2.2.2.2.length (p102.2.2.2.2.2.flatMap eB), .row 59 2 (.slice B116 p115.1.length d117) p115.1.length (p115.1.flatMap eStep), .row 4 1 (.slice B103 p102.1.length d105) p102.1.length (p102.1.flatMap eB)]) FUEL ⟨(([] : List (Int × Bool)), 0), none, 0, hM114, hF.keep _ ⟨rfl, rfl, rfl, rfl, rfl, rfl, trivial⟩, S.sel [1, 4, 3, 0, 2] rfl rfl⟩ ?_
    clear hF S hM114; rintro m a u ⟨p115, B116, d117, hM114, hF, S⟩
    rcases m with _ | f1
    · exact none_some hM114
    rw [m_impl_Operations_l1.eq_2] at hM114
    refine wp_seq ?_
    refine wp_region_lit ?_
    refine op_val (v := .bool (ltB p115.2 (x5.length : Int))) rfl rfl hF rfl (run_lss (hF.ev rfl) (hF.ev rfl) rfl) ?_; clear hF; intro a hF
    refine wpList_nil ?_
    refine wp_seq ?_
    cases hc118 : (ltB p115.2 (x5.length : Int))
    · replace hM114 := bif_f hc118 hM114
      refine cond_f hF rfl hc118 ?_
      refine wp_exit ?_
      repeat with_reducible (first | refine then_exit ?_ | refine in_hit ?_ | refine in_miss rfl ?_)
      obtain rfl := Option.some.inj hM114
      exact ⟨p115.1, B116, d117, rfl, hF.keep _ ⟨rfl, rfl, trivial⟩, S.sel [0, 1, 3, 4] rfl rfl⟩
    · replace hM114 := bif_t hc118 hM114
      refine cond_t hF rfl hc118 ?_
      refine wp_skip ?_
      refine wp_seq ?_
      refine wp_block ?_
      refine wp_seq ?_
      refine wp_region_lit ?_
      refine op_val (v := .int .i64 p115.2) rfl rfl hF rfl (run_move rfl (hF.ev rfl)) ?_; clear hF; intro a hF
      obtain ⟨hk119, hM114⟩ := chk_ex hM114
      replace hk119 := ixB_t hk119
      refine op_val (v := .pointer (some ⟨adB A5, adO A5 + p115.2.toNat * 4, none⟩)) rfl rfl hF rfl (run_indexAddr (b := adB A5) (off := adO A5) rfl Try.underlying41 sz32 ((hF.ev rfl).trans (congrArg (fun A => Value.slice A x5.length c5) ((S.rc0 h5.rc).rd.ad (ix_pos hk119)))) (hF.ev rfl) hk119.1 hk119.2 (k' := adO A5 + p115.2.toNat * 4) rfl) ?_; clear hF; intro a hF
      refine op_val (v := .agg #[.int .i64 ((x5.getD p115.2.toNat ((0, 0, 0, false) : Int × Int × Int × Bool)).1), .int .i64 ((x5.getD p115.2.toNat ((0, 0, 0, false) : Int × Int × Int × Bool)).2.1), .int .i64 ((x5.getD p115.2.toNat ((0, 0, 0, false) : Int × Int × Int × Bool)).2.2.1), .bool ((x5.getD p115.2.toNat ((0, 0, 0, false) : Int × Int × Int × Bool)).2.2.2)]) rfl rfl hF rfl (run_loadN (cs := #[.int .i64 ((x5.getD p115.2.toNat ((0, 0, 0, false) : Int × Int × Int × Bool)).1), .int .i64 ((x5.getD p115.2.toNat ((0, 0, 0, false) : Int × Int × Int × Bool)).2.1), .int .i64 ((x5.getD p115.2.toNat ((0, 0, 0, false) : Int × Int × Int × Bool)).2.2.1), .bool ((x5.getD p115.2.toNat ((0, 0, 0, false) : Int × Int × Int × Bool)).2.2.2)]) rfl ag32 (hF.ev rfl) rfl (rd_elN (l := x5) (S.rc0 h5.rc).rd rfl eCommand_len ((0, 0, 0, false) : Int × Int × Int × Bool) (ix_ltn hk119 rfl) rfl)) ?_; clear hF; intro a hF
      refine op_new (cs := #[.int .i64 0, .int .i64 0, .int .i64 0, .bool false]) rfl rfl hF rfl S (run_allocZ rfl zr32) ?_; clear hF S; intro a g120 u hF S
      refine op_val (v := .int .i64 p115.2) rfl rfl hF rfl (run_assign rfl (hF.ev rfl)) ?_; clear hF; intro a hF
      refine op_do rfl rfl (run_store (cs' := #[.int .i64 ((x5.getD p115.2.toNat ((0, 0, 0, false) : Int × Int × Int × Bool)).1), .int .i64 ((x5.getD p115.2.toNat ((0, 0, 0, false) : Int × Int × Int × Bool)).2.1), .int .i64 ((x5.getD p115.2.toNat ((0, 0, 0, false) : Int × Int × Int × Bool)).2.2.1), .bool ((x5.getD p115.2.toNat ((0, 0, 0, false) : Int × Int × Int × Bool)).2.2.2)]) rfl sz32 (hF.ev rfl) (hF.ev rfl) rfl rfl rfl (S.free 0 rfl) rfl rfl) ?_; replace S := S.put 0 rfl (#[.int .i64 ((x5.getD p115.2.toNat ((0, 0, 0, false) : Int × Int × Int × Bool)).1), .int .i64 ((x5.getD p115.2.toNat ((0, 0, 0, false) : Int × Int × Int × Bool)).2.1), .int .i64 ((x5.getD p115.2.toNat ((0, 0, 0, false) : Int × Int × Int × Bool)).2.2.1), .bool ((x5.getD p115.2.toNat ((0, 0, 0, false) : Int × Int × Int × Bool)).2.2.2)])
      generalize World.setRow _ _ _ = u at S ⊢
      refine wpList_nil ?_
      refine wp_seq ?_
      refine wp_region_lit ?_
      refine op_val (v := .slice B106 p102.2.2.2.2.2.length d108) rfl rfl hF rfl (run_move rfl (hF.ev rfl)) ?_; clear hF; intro a hF
      refine op_val (v := .int .i64 (p102.2.2.2.2.2.length : Int)) rfl rfl hF rfl (run_lenL rfl rfl Try.underlying22 (hF.ev rfl)) ?_; clear hF; intro a hF
      refine op_val (v := .int .i64 p115.2) rfl rfl hF rfl (run_move rfl (hF.ev rfl)) ?_; clear hF; intro a hF
      refine op_val (v := .bool (ltB p115.2 (p102.2.2.2.2.2.length : Int))) rfl rfl hF rfl (run_gtr (hF.ev rfl) (hF.ev rfl) rfl) ?_; clear hF; intro a hF
      refine op_val (v := .bool (ltB p115.2 (p102.2.2.2.2.2.length : Int))) rfl rfl hF rfl (run_move rfl (hF.ev rfl)) ?_; clear hF; intro a hF
      refine op_gv (v := .slice B106 p102.2.2.2.2.2.length d108) rfl rfl hF rfl (yt (gw_yield hF rfl rfl rfl)) (fun hg => (run_move rfl (hF.ev rfl))) ?_; clear hF; intro a hF
      refine op_gv (v := .int .i64 p115.2) rfl rfl hF rfl (yt (gw_yield hF rfl rfl rfl)) (fun hg => (run_move rfl (hF.ev rfl))) ?_; clear hF; intro a hF
      obtain ⟨hk121, hM114⟩ := chk_ex hM114
      replace hk121 := fun hg => ixB_t (imp_t hk121 hg)
      refine op_gv (v := .pointer (some ⟨adB B106, adO B106 + p115.2.toNat * 1, none⟩)) rfl rfl hF rfl (yt (gw_yield hF rfl rfl rfl)) (fun hg => (run_indexAddr (b := adB B106) (off := adO B106) rfl Try.underlying22 sz4 (((hF.ev rfl).trans (gv_t hg)).trans (congrArg (fun A => Value.slice A p102.2.2.2.2.2.length d108) ((S.rc 3 rfl).rd.ad (ix_pos (hk121 hg))))) ((hF.ev rfl).trans (gv_t hg)) (hk121 hg).1 (hk121 hg).2 (k' := adO B106 + p115.2.toNat * 1) rfl)) ?_; clear hF; intro a hF
      refine op_gv (v := .bool (p102.2.2.2.2.2.getD p115.2.toNat false)) rfl rfl hF rfl (yt (gw_yield hF rfl rfl rfl)) (fun hg => (run_load1 rfl one4 ((hF.ev rfl).trans (gv_t hg)) (rd_el0 (l := p102.2.2.2.2.2) (S.rc 3 rfl).rd rfl eB_len false (ix_ltn (hk121 hg) rfl) rfl))) ?_; clear hF; intro a hF
      refine op_val (v := .bool ((ltB p115.2 (p102.2.2.2.2.2.length : Int)) && (p102.2.2.2.2.2.getD p115.2.toNat false))) rfl rfl hF rfl (run_pick_and rfl (hF.ev rfl) (fun hp => ((hF.ev rfl).trans (gv_t hp))) rfl) ?_; clear hF; intro a hF
      refine op_val (v := .bool ((ltB p115.2 (p102.2.2.2.2.2.length : Int)) && (p102.2.2.2.2.2.getD p115.2.toNat false))) rfl rfl hF rfl (run_move rfl (hF.ev rfl)) ?_; clear hF; intro a hF
      refine op_gv (v := .pointer (some ⟨g120, 0, none⟩)) rfl rfl hF rfl (yt (gw_yield hF rfl rfl rfl)) (fun hg => (run_fieldAddr rfl fl32_0 (hF.ev rfl) rfl)) ?_; clear hF; intro a hF
      refine op_gv (v := .int .i64 ((x5.getD p115.2.toNat ((0, 0, 0, false) : Int × Int × Int × Bool)).1)) rfl rfl hF rfl (yt (gw_yield hF rfl rfl rfl)) (fun hg => (run_load1 rfl one3 ((hF.ev rfl).trans (gv_t hg)) ((S.free 0 rfl).cell rfl))) ?_; clear hF; intro a hF
      refine op_gv (v := .bool (((x5.getD p115.2.toNat ((0, 0, 0, false) : Int × Int × Int × Bool)).1) == 1)) rfl rfl hF rfl (yt (gw_yield hF rfl rfl rfl)) (fun hg => (run_eql ((hF.ev rfl).trans (gv_t hg)) rfl rfl)) ?_; clear hF; intro a hF
      refine op_val (v := .bool (((ltB p115.2 (p102.2.2.2.2.2.length : Int)) && (p102.2.2.2.2.2.getD p115.2.toNat false)) && (((x5.getD p115.2.toNat ((0, 0, 0, false) : Int × Int × Int × Bool)).1) == 1))) rfl rfl hF rfl (run_pick_and rfl (hF.ev rfl) (fun hp => ((hF.ev rfl).trans (gv_t hp))) rfl) ?_; clear hF; intro a hF
      refine wpList_nil ?_
      obtain ⟨o123, hM126, hM114⟩ := bind_ex hM114
      refine wp_cut (fun a u => ∃ (p122 : List (Int × Bool)) (B124 : Option Addr) (d125 : Nat), p122 = o123 ∧ Fr a 48 [(4, .slice none 0 0), (6, .slice B106 p102.2.2.2.2.2.length d108), (7, .slice B124 p122.length d125), (16, .slice A5 x5.length c5), (17, .int .i64 (x5.length : Int)), (18, .int .i64 p115.2)] ∧ St w u [.box g120 32 #[.int .i64 ((x5.getD p115.2.toNat ((0, 0, 0, false) : Int × Int × Int × Bool)).1), .int .i64 ((x5.getD p115.2.toNat ((0, 0, 0, false) : Int × Int × Int × Bool)).2.1), .int .i64 ((x5.getD p115.2.toNat ((0, 0, 0, false) : Int × Int × Int × Bool)).2.2.1), .bool ((x5.getD p115.2.toNat ((0, 0, 0, false) : Int × Int × Int × Bool)).2.2.2)], .box g109 28 #[.slice B103 p102.1.length d105, .int .i64 p102.2.1, .int .i64 p102.2.2.1, .bool p102.2.2.2.1, .int .i64 p102.2.2.2.2.1], .box g101 28 #[.slice A0 x0.length c0, .int .i64 x1, .int .i64 x2, .bool x3, .int .i64 x4], .row 4 1 (.slice B106 p102.2.2.2.2.2.length d108) p102.2.2.2.2.2.length (p102.2.2.2.2.2.flatMap eB), .row 59 2 (.slice B124 p122.length d125) p122.length (p122.flatMap eStep), .row 4 1 (.slice B103 p102.1.length d105) p102.1.length (p102.1.flatMap eB)]) ?_ ?_
      · have _ := trivial
        cases hc127 : (((ltB p115.2 (p102.2.2.2.2.2.length : Int)) && (p102.2.2.2.2.2.getD p115.2.toNat false)) && (((x5.getD p115.2.toNat ((0, 0, 0, false) : Int × Int × Int × Bool)).1) == 1))
        · replace hM126 := bif_f hc127 hM126
          refine cond_f hF rfl hc127 ?_
          refine wp_skip ?_
          obtain rfl := Option.some.inj hM126
          exact ⟨p115.1, B116, d117, rfl, hF.keep _ ⟨rfl, rfl, rfl, rfl, rfl, rfl, trivial⟩, S.sel [0, 1, 2, 3, 4, 5] rfl rfl⟩
        · replace hM126 := bif_t hc127 hM126
          refine cond_t hF rfl hc127 ?_
          refine wp_region_lit ?_
          refine op_val (v := .slice B116 p115.1.length d117) rfl rfl hF rfl (run_move rfl (hF.ev rfl)) ?_; clear hF; intro a hF
          refine op_val (v := .pointer (some ⟨g120, 2, none⟩)) rfl rfl hF rfl (run_fieldAddr rfl fl32_2 (hF.ev rfl) rfl) ?_; clear hF; intro a hF
          refine op_val (v := .int .i64 ((x5.getD p115.2.toNat ((0, 0, 0, false) : Int × Int × Int × Bool)).2.2.1)) rfl rfl hF rfl (run_load1 rfl one3 (hF.ev rfl) ((S.free 0 rfl).cell rfl)) ?_; clear hF; intro a hF
          refine op_val (v := .pointer (some ⟨g120, 3, none⟩)) rfl rfl hF rfl (run_fieldAddr rfl fl32_3 (hF.ev rfl) rfl) ?_; clear hF; intro a hF
          refine op_val (v := .bool ((x5.getD p115.2.toNat ((0, 0, 0, false) : Int × Int × Int × Bool)).2.2.2)) rfl rfl hF rfl (run_load1 rfl one4 (hF.ev rfl) ((S.free 0 rfl).cell rfl)) ?_; clear hF; intro a hF
          refine op_val (v := .agg #[.int .i64 ((x5.getD p115.2.toNat ((0, 0, 0, false) : Int × Int × Int × Bool)).2.2.1), .bool ((x5.getD p115.2.toNat ((0, 0, 0, false) : Int × Int × Int × Bool)).2.2.2)]) rfl rfl hF rfl (run_build (vs := [(0, .int .i64 ((x5.getD p115.2.toNat ((0, 0, 0, false) : Int × Int × Int × Bool)).2.2.1)), (1, .bool ((x5.getD p115.2.toNat ((0, 0, 0, false) : Int × Int × Int × Bool)).2.2.2))]) rfl ⟨⟨rfl, (hF.ev rfl)⟩, ⟨rfl, (hF.ev rfl)⟩, trivial⟩ (bd59_0_1 rfl rfl)) ?_; clear hF; intro a hF
          refine op_newrowL (ls := ([((x5.getD p115.2.toNat ((0, 0, 0, false) : Int × Int × Int × Bool)).2.2.1, (x5.getD p115.2.toNat ((0, 0, 0, false) : Int × Int × Int × Bool)).2.2.2)] : List (Int × Bool))) (e := eStep) rfl rfl hF rfl S (run_buildS (vs := [(0, .agg #[.int .i64 ((x5.getD p115.2.toNat ((0, 0, 0, false) : Int × Int × Int × Bool)).2.2.1), .bool ((x5.getD p115.2.toNat ((0, 0, 0, false) : Int × Int × Int × Bool)).2.2.2)])]) rfl ⟨⟨rfl, (hF.ev rfl)⟩, trivial⟩ (bs48_1_2 )) rfl eStep_len (Nat.le_of_ble_eq_true rfl) ?_; clear hF S; intro a g128 u hF S
          obtain ⟨hk131, hM126⟩ := chk_ex hM126
          replace hk131 := apB_t hk131
          refine op_appendL (lx := p115.1) (ly := [((x5.getD p115.2.toNat ((0, 0, 0, false) : Int × Int × Int × Bool)).2.2.1, (x5.getD p115.2.toNat ((0, 0, 0, false) : Int × Int × Int × Bool)).2.2.2)]) rfl rfl hF rfl S rfl (hF.ev rfl) (hF.ev rfl) (i := 5) rfl rfl Try.underlying48 inf59 rfl (by decide) (S.rc 0 rfl).rd rfl eStep_one hk131 (by decide) ?_; clear hF S; intro a B129 d130 u hF S
          refine op_val (v := .slice B129 ((p115.1 ++ ([((x5.getD p115.2.toNat ((0, 0, 0, false) : Int × Int × Int × Bool)).2.2.1, (x5.getD p115.2.toNat ((0, 0, 0, false) : Int × Int × Int × Bool)).2.2.2)])).length) d130) rfl rfl hF rfl (run_assign rfl (hF.ev rfl)) ?_; clear hF; intro a hF
          refine wpList_nil ?_
          obtain rfl := Option.some.inj hM126
          exact ⟨p115.1 ++ ([((x5.getD p115.2.toNat ((0, 0, 0, false) : Int × Int × Int × Bool)).2.2.1, (x5.getD p115.2.toNat ((0, 0, 0, false) : Int × Int × Int × Bool)).2.2.2)]), B129, d130, rfl, hF.keep _ ⟨rfl, rfl, rfl, rfl, rfl, rfl, trivial⟩, S.sel [1, 2, 3, 4, 5, 6] rfl rfl⟩
      · rintro a u ⟨p122, B124, d125, rfl, hF, S⟩
        refine wp_region_lit ?_
        refine op_val (v := .int .i64 (w64 (p115.2 + 1))) rfl rfl hF rfl (run_add (z := w64 (p115.2 + 1)) (hF.ev rfl) rfl rfl rfl) ?_; clear hF; intro a hF
        refine op_val (v := .int .i64 (w64 (p115.2 + 1))) rfl rfl hF rfl (run_move rfl (hF.ev rfl)) ?_; clear hF; intro a hF
        refine wpList_nil ?_
        exact ⟨f1, Nat.lt_succ_self _, (p122, w64 (p115.2 + 1)), B124, d125, hM114, hF.keep _ ⟨rfl, rfl, rfl, rfl, rfl, rfl, trivial⟩, S.sel [1, 2, 3, 4, 5] rfl rfl⟩
  · rintro a u ⟨p110, B112, d113, rfl, hF, S⟩
    refine wp_seq ?_
    refine wp_region_lit ?_
    refine op_val (v := .slice B112 p110.length d113) rfl rfl hF rfl (run_move rfl (hF.ev rfl)) ?_; clear hF; intro a hF
    refine op_val (v := .slice B112 p110.length d113) rfl rfl hF rfl (run_assign rfl (hF.ev rfl)) ?_; clear hF; intro a hF
    refine wpList_nil ?_
    refine wp_ret ?_
    repeat with_reducible (first | refine then_ret ?_ | refine in_ret ?_ | refine in_nrm ?_)
    refine ret1_gw (.inl rfl) hF rfl (res_tmp (hF.ev rfl)) ?_
    obtain rfl := Option.some.inj hM
    exact ⟨B112, p110.length, d113, rfl, rfl, S.sel [2] rfl rfl⟩

set_option maxHeartbeats 4000000 in
theorem c_laws_eqStep {x0 : Int} {x1 : Bool} {x2 : Int} {x3 : Bool} {w : World} {r : Bool}  (hM : m_laws_eqStep x0 x1 x2 x3 = some r) :
    Calls Try.prog 38 #[.agg #[.int .i64 x0, .bool x1], .agg #[.int .i64 x2, .bool x3]] w (fun e w' => e = .returned (.bool r) ∧ St w w' []) := by
  unfold m_laws_eqStep at hM
  refine calls_gw Try.func38 Try.ntmps38 rfl [(0, .agg #[.int .i64 x0, .bool x1]), (1, .agg #[.int .i64 x2, .bool x3])] ⟨rfl, rfl, trivial⟩ rfl ?_
  intro a hF
  have S := St.nil w
  refine wp_seq ?_
  refine wp_region_lit ?_
  refine op_new (cs := #[.int .i64 x0, .bool x1]) rfl rfl hF rfl S (run_box rfl (hF.ev rfl) rfl) ?_; clear hF S; intro a g101 u hF S
  refine op_new (cs := #[.int .i64 x2, .bool x3]) rfl rfl hF rfl S (run_box rfl (hF.ev rfl) rfl) ?_; clear hF S; intro a g102 u hF S
  refine op_val (v := .bool false) rfl rfl hF rfl (run_assign rfl rfl) ?_; clear hF; intro a hF
  refine wpList_nil ?_
  refine wp_seq ?_
  refine wp_seq ?_
  refine wp_region_lit ?_
  refine op_val (v := .pointer (some ⟨g101, 0, none⟩)) rfl rfl hF rfl (run_fieldAddr rfl fl59_0 (hF.ev rfl) rfl) ?_; clear hF; intro a hF
  refine op_val (v := .int .i64 x0) rfl rfl hF rfl (run_load1 rfl one3 (hF.ev rfl) ((S.free 1 rfl).cell rfl)) ?_; clear hF; intro a hF
  refine op_val (v := .pointer (some ⟨g102, 0, none⟩)) rfl rfl hF rfl (run_fieldAddr rfl fl59_0 (hF.ev rfl) rfl) ?_; clear hF; intro a hF
  refine op_val (v := .int .i64 x2) rfl rfl hF rfl (run_load1 rfl one3 (hF.ev rfl) ((S.free 0 rfl).cell rfl)) ?_; clear hF; intro a hF
  refine op_val (v := .bool (x0 != x2)) rfl rfl hF rfl (run_neq (hF.ev rfl) (hF.ev rfl) rfl) ?_; clear hF; intro a hF
  refine wpList_nil ?_
  cases hc103 : (x0 != x2)
  · replace hM := bif_f hc103 hM
    refine cond_f hF rfl hc103 ?_
    refine wp_skip ?_
    refine wp_seq ?_
    refine wp_seq ?_
    refine wp_region_lit ?_
    refine op_val (v := .pointer (some ⟨g101, 1, none⟩)) rfl rfl hF rfl (run_fieldAddr rfl fl59_1 (hF.ev rfl) rfl) ?_; clear hF; intro a hF
    refine op_val (v := .bool x1) rfl rfl hF rfl (run_load1 rfl one4 (hF.ev rfl) ((S.free 1 rfl).cell rfl)) ?_; clear hF; intro a hF
    refine op_val (v := .pointer (some ⟨g102, 1, none⟩)) rfl rfl hF rfl (run_fieldAddr rfl fl59_1 (hF.ev rfl) rfl) ?_; clear hF; intro a hF
    refine op_val (v := .bool x3) rfl rfl hF rfl (run_load1 rfl one4 (hF.ev rfl) ((S.free 0 rfl).cell rfl)) ?_; clear hF; intro a hF
    refine op_val (v := .bool (x1 != x3)) rfl rfl hF rfl (run_neqB (hF.ev rfl) (hF.ev rfl) Try.underlying4 rfl) ?_; clear hF; intro a hF
    refine wpList_nil ?_
    cases hc104 : (x1 != x3)
    · replace hM := bif_f hc104 hM
      refine cond_f hF rfl hc104 ?_
      refine wp_skip ?_
      refine wp_seq ?_
      refine wp_region_lit ?_
      refine op_val (v := .bool true) rfl rfl hF rfl (run_assign rfl rfl) ?_; clear hF; intro a hF
      refine wpList_nil ?_
      refine wp_ret ?_
      repeat with_reducible (first | refine then_ret ?_ | refine in_ret ?_ | refine in_nrm ?_)
      refine ret1_gw (.inl rfl) hF rfl (res_tmp (hF.ev rfl)) ?_
      obtain rfl := Option.some.inj hM
      exact ⟨rfl, S.sel [] rfl rfl⟩
    · replace hM := bif_t hc104 hM
      refine cond_t hF rfl hc104 ?_
      refine wp_seq ?_
      refine wp_region_lit ?_
      refine op_val (v := .bool false) rfl rfl hF rfl (run_assign rfl rfl) ?_; clear hF; intro a hF
      refine wpList_nil ?_
      refine wp_ret ?_
      repeat with_reducible (first | refine then_ret ?_ | refine in_ret ?_ | refine in_nrm ?_)
      refine ret1_gw (.inl rfl) hF rfl (res_tmp (hF.ev rfl)) ?_
      obtain rfl := Option.some.inj hM
      exact ⟨rfl, S.sel [] rfl rfl⟩
  · replace hM := bif_t hc103 hM
    refine cond_t hF rfl hc103 ?_
    refine wp_seq ?_
    refine wp_region_lit ?_
    refine op_val (v := .bool false) rfl rfl hF rfl (run_assign rfl rfl) ?_; clear hF; intro a hF
    refine wpList_nil ?_
    refine wp_ret ?_
    repeat with_reducible (first | refine then_ret ?_ | refine in_ret ?_ | refine in_nrm ?_)
    refine ret1_gw (.inl rfl) hF rfl (res_tmp (hF.ev rfl)) ?_
    obtain rfl := Option.some.inj hM
    exact ⟨rfl, S.sel [] rfl rfl⟩

set_option maxHeartbeats 4000000 in
theorem c_laws_eqStepS {x0 : List (Int × Bool)} {x1 : List (Int × Bool)} {A0 : Option Addr} {n0 c0 : Nat} {A1 : Option Addr} {n1 c1 : Nat} {w : World} {r : Bool} (h0 : Rt w 2 eStep A0 n0 c0 x0) (h1 : Rt w 2 eStep A1 n1 c1 x1) (hM : m_laws_eqStepS x0 x1 = some r) :
    Calls Try.prog 25 #[.slice A0 n0 c0, .slice A1 n1 c1] w (fun e w' => e = .returned (.bool r) ∧ St w w' []) := by
  obtain rfl := h0.len
  obtain rfl := h1.len
  unfold m_laws_eqStepS at hM
  refine calls_gw Try.func25 Try.ntmps25 rfl [(0, .slice A0 x0.length c0), (1, .slice A1 x1.length c1)] ⟨rfl, rfl, trivial⟩ rfl ?_
  intro a hF
  have S := St.nil w
  refine wp_seq ?_
  refine wp_region_lit ?_
  refine op_val (v := .bool false) rfl rfl hF rfl (run_assign rfl rfl) ?_; clear hF; intro a hF
  refine wpList_nil ?_
  refine wp_seq ?_
  refine wp_seq ?_
  refine wp_region_lit ?_
  refine op_val (v := .slice A0 x0.length c0) rfl rfl hF rfl (run_move rfl (hF.ev rfl)) ?_; clear hF; intro a hF
  refine op_val (v := .int .i64 (x0.length : Int)) rfl rfl hF rfl (run_lenL rfl rfl Try.underlying48 (hF.ev rfl)) ?_; clear hF; intro a hF
  refine op_val (v := .slice A1 x1.length c1) rfl rfl hF rfl (run_move rfl (hF.ev rfl)) ?_; clear hF; intro a hF
  refine op_val (v := .int .i64 (x1.length : Int)) rfl rfl hF rfl (run_lenL rfl rfl Try.underlying48 (hF.ev rfl)) ?_; clear hF; intro a hF
  refine op_val (v := .bool ((x0.length : Int) != (x1.length : Int))) rfl rfl hF rfl (run_neq (hF.ev rfl) (hF.ev rfl) rfl) ?_; clear hF; intro a hF
  refine wpList_nil ?_
  cases hc101 : ((x0.length : Int) != (x1.length : Int))
  · replace hM := bif_f hc101 hM
    refine cond_f hF rfl hc101 ?_
    refine wp_skip ?_
    refine wp_seq ?_
    refine wp_seq ?_
    refine wp_region_lit ?_
    refine op_val (v := .int .i64 0) rfl rfl hF rfl (run_assign rfl rfl) ?_; clear hF; intro a hF
    refine wpList_nil ?_
    obtain ⟨o103, hM104, hM⟩ := bind_ex hM
    refine wp_cut (fun a u => ∃ (p102 : Unit), (Sum.inl p102) = o103 ∧ Fr a 27 [(4, .bool false)] ∧ St w u []) ?_ ?_
    · have _ := trivial
      refine wp_block ?_
      refine loop_gw (fun m a u => ∃ (p105 : Int), m_laws_eqStepS_l1 x0 x1 m p105 = some _ ∧ Fr a 27 [(0, .slice A0 x0.length c0), (1, .slice A1 x1.length c1), (4, .bool false), (5, .int .i64 p105)] ∧ St w u []) FUEL ⟨0, hM104, hF.keep _ ⟨rfl, rfl, rfl, rfl, trivial⟩, S.sel [] rfl rfl⟩ ?_
      clear hF S hM104; rintro m a u ⟨p105, hM104, hF, S⟩
      rcases m with _ | f1
      · exact none_some hM104
      rw [m_laws_eqStepS_l1.eq_2] at hM104
      refine wp_seq ?_
      refine wp_seq ?_
      refine wp_region_lit ?_
      refine op_val (v := .int .i64 p105) rfl rfl hF rfl (run_move rfl (hF.ev rfl)) ?_; clear hF; intro a hF
      refine op_val (v := .slice A0 x0.length c0) rfl rfl hF rfl (run_move rfl (hF.ev rfl)) ?_; clear hF; intro a hF
      refine op_val (v := .int .i64 (x0.length : Int)) rfl rfl hF rfl (run_lenL rfl rfl Try.underlying48 (hF.ev rfl)) ?_; clear hF; intro a hF
      refine op_val (v := .bool (ltB p105 (x0.length : Int))) rfl rfl hF rfl (run_lss (hF.ev rfl) (hF.ev rfl) rfl) ?_; clear hF; intro a hF
      refine wpList_nil ?_
      cases hc106 : (ltB p105 (x0.length : Int))
      · replace hM104 := bif_f hc106 hM104
        refine cond_f hF rfl hc106 ?_
        refine wp_exit ?_
        repeat with_reducible (first | refine then_exit ?_ | refine in_hit ?_ | refine in_miss rfl ?_)
        obtain rfl := Option.some.inj hM104
        exact ⟨(), rfl, hF.keep _ ⟨rfl, trivial⟩, S.sel [] rfl rfl⟩
      · replace hM104 := bif_t hc106 hM104
        refine cond_t hF rfl hc106 ?_
        refine wp_skip ?_
        refine wp_seq ?_
        refine wp_block ?_
        refine wp_seq ?_
        obtain ⟨hk107, hM104⟩ := chk_ex hM104
        replace hk107 := ixB_t hk107
        obtain ⟨hk108, hM104⟩ := chk_ex hM104
        replace hk108 := ixB_t hk108
        obtain ⟨p109, h109, hM104⟩ := bind_ex hM104
        refine region_gw (D := [17, 18, 19, 20, 21, 22, 23, 24, 25, 26]) (Lr := []) (deps := (fun | 0 => [17] | 1 => [18] | 2 => [19] | 3 => [20] | 4 => [21] | 5 => [22] | 6 => [23] | 7 => [24] | 8 => [25] | 9 => [26] | _ => [])) (rd := (fun _ => [])) (zr := (fun _ => []))
          (φ := fun i vs => match i, vs with | 0, [v17] => v17 = .slice A0 x0.length c0 | 1, [v18] => v18 = .int .i64 p105 | 2, [v19] => v19 = .pointer (some ⟨adB A0, adO A0 + p105.toNat * 2, none⟩) | 3, [v20] => v20 = .agg #[.int .i64 ((x0.getD p105.toNat ((0, false) : Int × Bool)).1), .bool ((x0.getD p105.toNat ((0, false) : Int × Bool)).2)] | 4, [v21] => v21 = .slice A1 x1.length c1 | 5, [v22] => v22 = .int .i64 p105 | 6, [v23] => v23 = .pointer (some ⟨adB A1, adO A1 + p105.toNat * 2, none⟩) | 7, [v24] => v24 = .agg #[.int .i64 ((x1.getD p105.toNat ((0, false) : Int × Bool)).1), .bool ((x1.getD p105.toNat ((0, false) : Int × Bool)).2)] | 8, [v25] => v25 = .bool p109 | 9, [v26] => v26 = .bool (!p109) | _, _ => True)
          (C := fun _ _ => [])
          (κ := (fun _ => none)) (Z := (fun _ => [])) mixed hF (by kernel_rfl) S ?_ ?_
        · refine ⟨?_, ?_, ?_, ?_, ?_, ?_, ?_, ?_, ?_, ?_, trivial⟩
          · intro a u X hB hu hp hr hz hl S
            replace S : St w u ([] ++ X) := S
            exact .inl ⟨rfl, .slice A0 x0.length c0, u, (run_move rfl (hF.evB hB rfl rfl)), rfl, S⟩
          · intro a u X hB hu hp hr hz hl S
            replace S : St w u ([] ++ X) := S
            exact .inl ⟨rfl, .int .i64 p105, u, (run_move rfl (hF.evB hB rfl rfl)), rfl, S⟩
          · intro a u X hB hu hp hr hz hl S
            replace S : St w u ([] ++ X) := S
            have e17 : sl a 17 = .slice A0 x0.length c0 := hp 0 rfl
            have e18 : sl a 18 = .int .i64 p105 := hp 1 rfl
            exact .inl ⟨rfl, .pointer (some ⟨adB A0, adO A0 + p105.toNat * 2, none⟩), u, (run_indexAddr (b := adB A0) (off := adO A0) rfl Try.underlying48 sz59 ((ev_sl e17).trans (congrArg (fun A => Value.slice A x0.length c0) ((S.rc0 h0.rc).rd.ad (ix_pos hk107)))) (ev_sl e18) hk107.1 hk107.2 (k' := adO A0 + p105.toNat * 2) rfl), rfl, S⟩
          · intro a u X hB hu hp hr hz hl S
            replace S : St w u ([] ++ X) := S
            have e19 : sl a 19 = .pointer (some ⟨adB A0, adO A0 + p105.toNat * 2, none⟩) := hp 2 rfl
            exact .inl ⟨rfl, .agg #[.int .i64 ((x0.getD p105.toNat ((0, false) : Int × Bool)).1), .bool ((x0.getD p105.toNat ((0, false) : Int × Bool)).2)], u, (run_loadN (cs := #[.int .i64 ((x0.getD p105.toNat ((0, false) : Int × Bool)).1), .bool ((x0.getD p105.toNat ((0, false) : Int × Bool)).2)]) rfl ag59 (ev_sl e19) rfl (rd_elN (l := x0) (S.rc0 h0.rc).rd rfl eStep_len ((0, false) : Int × Bool) (ix_ltn hk107 rfl) rfl)), rfl, S⟩
          · intro a u X hB hu hp hr hz hl S
            replace S : St w u ([] ++ X) := S
            exact .inl ⟨rfl, .slice A1 x1.length c1, u, (run_move rfl (hF.evB hB rfl rfl)), rfl, S⟩
          · intro a u X hB hu hp hr hz hl S
            replace S : St w u ([] ++ X) := S
            exact .inl ⟨rfl, .int .i64 p105, u, (run_move rfl (hF.evB hB rfl rfl)), rfl, S⟩
          · intro a u X hB hu hp hr hz hl S
            replace S : St w u ([] ++ X) := S
            have e21 : sl a 21 = .slice A1 x1.length c1 := hp 4 rfl
            have e22 : sl a 22 = .int .i64 p105 := hp 5 rfl
            exact .inl ⟨rfl, .pointer (some ⟨adB A1, adO A1 + p105.toNat * 2, none⟩), u, (run_indexAddr (b := adB A1) (off := adO A1) rfl Try.underlying48 sz59 ((ev_sl e21).trans (congrArg (fun A => Value.slice A x1.length c1) ((S.rc0 h1.rc).rd.ad (ix_pos hk108)))) (ev_sl e22) hk108.1 hk108.2 (k' := adO A1 + p105.toNat * 2) rfl), rfl, S⟩
          · intro a u X hB hu hp hr hz hl S
            replace S : St w u ([] ++ X) := S
            have e23 : sl a 23 = .pointer (some ⟨adB A1, adO A1 + p105.toNat * 2, none⟩) := hp 6 rfl
            exact .inl ⟨rfl, .agg #[.int .i64 ((x1.getD p105.toNat ((0, false) : Int × Bool)).1), .bool ((x1.getD p105.toNat ((0, false) : Int × Bool)).2)], u, (run_loadN (cs := #[.int .i64 ((x1.getD p105.toNat ((0, false) : Int × Bool)).1), .bool ((x1.getD p105.toNat ((0, false) : Int × Bool)).2)]) rfl ag59 (ev_sl e23) rfl (rd_elN (l := x1) (S.rc0 h1.rc).rd rfl eStep_len ((0, false) : Int × Bool) (ix_ltn hk108 rfl) rfl)), rfl, S⟩
          · intro a u X hB hu hp hr hz hl S
            replace S : St w u ([] ++ X) := S
            have e20 : sl a 20 = .agg #[.int .i64 ((x0.getD p105.toNat ((0, false) : Int × Bool)).1), .bool ((x0.getD p105.toNat ((0, false) : Int × Bool)).2)] := hp 3 rfl
            have e24 : sl a 24 = .agg #[.int .i64 ((x1.getD p105.toNat ((0, false) : Int × Bool)).1), .bool ((x1.getD p105.toNat ((0, false) : Int × Bool)).2)] := hp 7 rfl
            refine .inr (.inr (.inl ⟨rfl, _, _, (run_call (vs := [.agg #[.int .i64 ((x0.getD p105.toNat ((0, false) : Int × Bool)).1), .bool ((x0.getD p105.toNat ((0, false) : Int × Bool)).2)], .agg #[.int .i64 ((x1.getD p105.toNat ((0, false) : Int × Bool)).1), .bool ((x1.getD p105.toNat ((0, false) : Int × Bool)).2)]]) rfl rfl co38 ⟨(ev_sl e20), (ev_sl e24), trivial⟩), ?_⟩))
            refine Calls.mono (c_laws_eqStep (x0 := (x0.getD p105.toNat ((0, false) : Int × Bool)).1) (x1 := (x0.getD p105.toNat ((0, false) : Int × Bool)).2) (x2 := (x1.getD p105.toNat ((0, false) : Int × Bool)).1) (x3 := (x1.getD p105.toNat ((0, false) : Int × Bool)).2)  h109) ?_
            rintro e w1 ⟨rfl, T⟩
            exact ⟨_, rfl, rfl, S.call0 T⟩
          · intro a u X hB hu hp hr hz hl S
            replace S : St w u ([] ++ X) := S
            have e25 : sl a 25 = .bool p109 := hp 8 rfl
            exact .inl ⟨rfl, .bool (!p109), u, (run_not rfl (ev_sl e25)), rfl, S⟩
        · intro a u hB hp S
          obtain ⟨q0, q1, q2, q3, q4, q5, q6, q7, q8, q9, _⟩ := hp
          have e17 : sl a 17 = .slice A0 x0.length c0 := q0
          have e18 : sl a 18 = .int .i64 p105 := q1
          have e19 : sl a 19 = .pointer (some ⟨adB A0, adO A0 + p105.toNat * 2, none⟩) := q2
          have e20 : sl a 20 = .agg #[.int .i64 ((x0.getD p105.toNat ((0, false) : Int × Bool)).1), .bool ((x0.getD p105.toNat ((0, false) : Int × Bool)).2)] := q3
          have e21 : sl a 21 = .slice A1 x1.length c1 := q4
          have e22 : sl a 22 = .int .i64 p105 := q5
          have e23 : sl a 23 = .pointer (some ⟨adB A1, adO A1 + p105.toNat * 2, none⟩) := q6
          have e24 : sl a 24 = .agg #[.int .i64 ((x1.getD p105.toNat ((0, false) : Int × Bool)).1), .bool ((x1.getD p105.toNat ((0, false) : Int × Bool)).2)] := q7
          have e25 : sl a 25 = .bool p109 := q8
          have e26 : sl a 26 = .bool (!p109) := q9
          replace S : St w u [] := S
          clear q0 q1 q2 q3 q4 q5 q6 q7 q8 q9
          have hF := hF.region hB [(17, .slice A0 x0.length c0), (18, .int .i64 p105), (19, .pointer (some ⟨adB A0, adO A0 + p105.toNat * 2, none⟩)), (20, .agg #[.int .i64 ((x0.getD p105.toNat ((0, false) : Int × Bool)).1), .bool ((x0.getD p105.toNat ((0, false) : Int × Bool)).2)]), (21, .slice A1 x1.length c1), (22, .int .i64 p105), (23, .pointer (some ⟨adB A1, adO A1 + p105.toNat * 2, none⟩)), (24, .agg #[.int .i64 ((x1.getD p105.toNat ((0, false) : Int × Bool)).1), .bool ((x1.getD p105.toNat ((0, false) : Int × Bool)).2)]), (25, .bool p109), (26, .bool (!p109))] (allSl_mem ⟨e17, e18, e19, e20, e21, e22, e23, e24, e25, e26, trivial⟩) rfl
          clear hB e17 e18 e19 e20 e21 e22 e23 e24 e25 e26
          cases hc110 : (p109)
          · replace hM104 := bif_f hc110 hM104
            refine cond_t hF rfl (not_t hc110) ?_
            refine wp_seq ?_
            refine wp_region_lit ?_
            refine op_val (v := .bool false) rfl rfl hF rfl (run_assign rfl rfl) ?_; clear hF; intro a hF
            refine wpList_nil ?_
            refine wp_ret ?_
            repeat with_reducible (first | refine then_ret ?_ | refine in_ret ?_ | refine in_nrm ?_)
            refine ret1_gw (.inl rfl) hF rfl (res_tmp (hF.ev rfl)) ?_
            obtain rfl := Option.some.inj hM104
            obtain rfl := Option.some.inj hM
            exact ⟨rfl, S.sel [] rfl rfl⟩
          · replace hM104 := bif_t hc110 hM104
            refine cond_f hF rfl (not_f hc110) ?_
            refine wp_skip ?_
            refine wp_region_lit ?_
            refine op_val (v := .int .i64 p105) rfl rfl hF rfl (run_move rfl (hF.ev rfl)) ?_; clear hF; intro a hF
            refine op_val (v := .int .i64 (w64 (p105 + 1))) rfl rfl hF rfl (run_add (z := w64 (p105 + 1)) (hF.ev rfl) rfl rfl rfl) ?_; clear hF; intro a hF
            refine op_val (v := .int .i64 (w64 (p105 + 1))) rfl rfl hF rfl (run_assign rfl (hF.ev rfl)) ?_; clear hF; intro a hF
            refine wpList_nil ?_
            exact ⟨f1, Nat.lt_succ_self _, w64 (p105 + 1), hM104, hF.keep _ ⟨rfl, rfl, rfl, rfl, trivial⟩, S.sel [] rfl rfl⟩
    · rintro a u ⟨p102, rfl, hF, S⟩
      replace hM := elim_l hM
      refine wp_seq ?_
      refine wp_region_lit ?_
      refine op_val (v := .bool true) rfl rfl hF rfl (run_assign rfl rfl) ?_; clear hF; intro a hF
      refine wpList_nil ?_
      refine wp_ret ?_
      repeat with_reducible (first | refine then_ret ?_ | refine in_ret ?_ | refine in_nrm ?_)
      refine ret1_gw (.inl rfl) hF rfl (res_tmp (hF.ev rfl)) ?_
      obtain rfl := Option.some.inj hM
      exact ⟨rfl, S.sel [] rfl rfl⟩
  · replace hM := bif_t hc101 hM
    refine cond_t hF rfl hc101 ?_
    refine wp_seq ?_
    refine wp_region_lit ?_
    refine op_val (v := .bool false) rfl rfl hF rfl (run_assign rfl rfl) ?_; clear hF; intro a hF
    refine wpList_nil ?_
    refine wp_ret ?_
    repeat with_reducible (first | refine then_ret ?_ | refine in_ret ?_ | refine in_nrm ?_)
    refine ret1_gw (.inl rfl) hF rfl (res_tmp (hF.ev rfl)) ?_
    obtain rfl := Option.some.inj hM
    exact ⟨rfl, S.sel [] rfl rfl⟩

set_option maxHeartbeats 4000000 in
theorem c_laws_markStepS {x0 : List (Int × Bool)} {x1 : Int} {A0 : Option Addr} {n0 c0 : Nat} {w : World} {r : Int × List (Int × Bool)} {w0 : World} {X : List Asn} (h0 : n0 = x0.length) (S : St w0 w (Asn.row 59 2 (.slice A0 n0 c0) n0 (x0.flatMap eStep) :: X)) (hM : m_laws_markStepS x0 x1 = some r) :
    Calls Try.prog 26 #[.slice A0 n0 c0, .int .i64 x1] w (fun e w' => e = .returned (.int .i64 r.1) ∧ n0 = r.2.length ∧ St w0 w' (Asn.row 59 2 (.slice A0 n0 c0) n0 (r.2.flatMap eStep) :: X)) := by
  obtain rfl := h0
  unfold m_laws_markStepS at hM
  refine calls_gw Try.func26 Try.ntmps26 rfl [(0, .slice A0 x0.length c0), (1, .int .i64 x1)] ⟨rfl, rfl, trivial⟩ rfl ?_
  intro a hF
  refine wp_seq ?_
  refine wp_region_lit ?_
  refine op_val (v := .int .i64 0) rfl rfl hF rfl (run_assign rfl rfl) ?_; clear hF; intro a hF
  refine wpList_nil ?_
  refine wp_seq ?_
  refine wp_seq ?_
  refine wp_region_lit ?_
  refine op_val (v := .int .i64 0) rfl rfl hF rfl (run_assign rfl rfl) ?_; clear hF; intro a hF
  refine wpList_nil ?_
  obtain ⟨o102, hM104, hM⟩ := bind_ex hM
  refine wp_cut (fun a u => ∃ (p101 : Int × List (Int × Bool)), p101 = o102 ∧ x0.length = p101.2.length ∧ Fr a 29 [(1, .int .i64 p101.1), (4, .int .i64 0)] ∧ St w0 u (Asn.row 59 2 (.slice A0 x0.length c0) x0.length (p101.2.flatMap eStep) :: X)) ?_ ?_
  · have _ := trivial
    refine wp_block ?_
    refine loop_gw (fun m a u => ∃ (p105 : List (Int × Bool) × Int × Int), m_laws_markStepS_l1 x0 m p105 = some _ ∧ x0.length = p105.1.length ∧ Fr a 29 [(0, .slice A0 x0.length c0), (1, .int .i64 p105.2.1), (4, .int .i64 0), (5, .int .i64 p105.2.2)] ∧ St w0 u (Asn.row 59 2 (.slice A0 x0.length c0) x0.length (p105.1.flatMap eStep) :: X)) FUEL ⟨(x0, x1, 0), hM104, rfl, hF.keep _ ⟨rfl, rfl, rfl, rfl, trivial⟩, S.selT (M := [.row 59 2 (.slice A0 x0.length c0) x0.length (x0.flatMap eStep)]) 1 [0] rfl rfl rfl⟩ ?_
    clear hF S hM104; rintro m a u ⟨p105, hM104, hn106, hF, S⟩
    rcases m with _ | f1
    · exact none_some hM104
    rw [m_laws_markStepS_l1.eq_2] at hM104
    refine wp_seq ?_
    refine wp_seq ?_
    refine wp_region_lit ?_
    refine op_val (v := .int .i64 p105.2.2) rfl rfl hF rfl (run_move rfl (hF.ev rfl)) ?_; clear hF; intro a hF
    refine op_val (v := .slice A0 x0.length c0) rfl rfl hF rfl (run_move rfl (hF.ev rfl)) ?_; clear hF; intro a hF
    refine op_val (v := .int .i64 (x0.length : Int)) rfl rfl hF rfl (run_lenL rfl rfl Try.underlying48 (hF.ev rfl)) ?_; clear hF; intro a hF
    refine op_val (v := .bool (ltB p105.2.2 (x0.length : Int))) rfl rfl hF rfl (run_lss (hF.ev rfl) (hF.ev rfl) rfl) ?_; clear hF; intro a hF
    refine wpList_nil ?_
    cases hc107 : (ltB p105.2.2 (x0.length : Int))
    · replace hM104 := bif_f hc107 hM104
      refine cond_f hF rfl hc107 ?_
      refine wp_exit ?_
      repeat with_reducible (first | refine then_exit ?_ | refine in_hit ?_ | refine in_miss rfl ?_)
      obtain rfl := Option.some.inj hM104
      exact ⟨(p105.2.1, p105.1), rfl, hn106, hF.keep _ ⟨rfl, rfl, trivial⟩, S.selT (M := [.row 59 2 (.slice A0 x0.length c0) x0.length (p105.1.flatMap eStep)]) 1 [0] rfl rfl rfl⟩
    · replace hM104 := bif_t hc107 hM104
      refine cond_t hF rfl hc107 ?_
      refine wp_skip ?_
      refine wp_seq ?_
      refine wp_block ?_
      refine wp_seq ?_
      refine wp_region_lit ?_
      refine op_val (v := .slice A0 x0.length c0) rfl rfl hF rfl (run_move rfl (hF.ev rfl)) ?_; clear hF; intro a hF
      refine op_val (v := .int .i64 p105.2.2) rfl rfl hF rfl (run_move rfl (hF.ev rfl)) ?_; clear hF; intro a hF
      refine op_val (v := .int .i64 p105.2.1) rfl rfl hF rfl (run_move rfl (hF.ev rfl)) ?_; clear hF; intro a hF
      obtain ⟨hk108, hM104⟩ := chk_ex hM104
      replace hk108 := ixB_t hk108
      refine op_val (v := .pointer (some ⟨adB A0, adO A0 + p105.2.2.toNat * 2, none⟩)) rfl rfl hF rfl (run_indexAddr (b := adB A0) (off := adO A0) rfl Try.underlying48 sz59 ((hF.ev rfl).trans (congrArg (fun A => Value.slice A x0.length c0) ((S.rc 0 rfl).rd.ad (ix_pos hk108)))) (hF.ev rfl) hk108.1 hk108.2 (k' := adO A0 + p105.2.2.toNat * 2) rfl) ?_; clear hF; intro a hF
      refine op_val (v := .pointer (some ⟨adB A0, adO A0 + p105.2.2.toNat * 2, none⟩)) rfl rfl hF rfl (run_fieldAddr rfl fl59_0 (hF.ev rfl) rfl) ?_; clear hF; intro a hF
      obtain ⟨w', hrun, S'⟩ := run_storeElN (P := Try.prog) (ρ := a.eval) (y0 := (p105.2.1, (p105.1.getD p105.2.2.toNat ((0, false) : Int × Bool)).2)) (off := 0) S 3 (.tmp 16) (.tmp 14) (i := 0) sz3 (hF.ev rfl) (hF.ev rfl) rfl rfl rfl rfl hn106 eStep_len ((0, false) : Int × Bool) (ix_ltn hk108 hn106) rfl rfl
      refine op_do rfl rfl (hrun _ rfl) ?_; clear hrun S; have S := S'; clear S'; generalize w' = u at S ⊢
      refine wpList_nil ?_
      refine wp_seq ?_
      refine wp_region_lit ?_
      refine op_val (v := .int .i64 p105.2.1) rfl rfl hF rfl (run_move rfl (hF.ev rfl)) ?_; clear hF; intro a hF
      refine op_val (v := .int .i64 (w64 (p105.2.1 + 1))) rfl rfl hF rfl (run_add (z := w64 (p105.2.1 + 1)) (hF.ev rfl) rfl rfl rfl) ?_; clear hF; intro a hF
      refine op_val (v := .int .i64 (w64 (p105.2.1 + 1))) rfl rfl hF rfl (run_assign rfl (hF.ev rfl)) ?_; clear hF; intro a hF
      refine wpList_nil ?_
      refine wp_seq ?_
      refine wp_region_lit ?_
      refine op_val (v := .slice A0 x0.length c0) rfl rfl hF rfl (run_move rfl (hF.ev rfl)) ?_; clear hF; intro a hF
      refine op_val (v := .int .i64 p105.2.2) rfl rfl hF rfl (run_move rfl (hF.ev rfl)) ?_; clear hF; intro a hF
      refine op_val (v := .int .i64 (w64 (p105.2.1 + 1))) rfl rfl hF rfl (run_move rfl (hF.ev rfl)) ?_; clear hF; intro a hF
      refine op_val (v := .int .i64 (Int.tmod (w64 (p105.2.1 + 1)) 3)) rfl rfl hF rfl (run_rem (z := Int.tmod (w64 (p105.2.1 + 1)) 3) (hF.ev rfl) rfl rfl (by decide) rfl) ?_; clear hF; intro a hF
      refine op_val (v := .bool ((Int.tmod (w64 (p105.2.1 + 1)) 3) == 0)) rfl rfl hF rfl (run_eql (hF.ev rfl) rfl rfl) ?_; clear hF; intro a hF
      obtain ⟨hk109, hM104⟩ := chk_ex hM104
      replace hk109 := ixB_t hk109
      refine op_val (v := .pointer (some ⟨adB A0, adO A0 + p105.2.2.toNat * 2, none⟩)) rfl rfl hF rfl (run_indexAddr (b := adB A0) (off := adO A0) rfl Try.underlying48 sz59 ((hF.ev rfl).trans (congrArg (fun A => Value.slice A x0.length c0) ((S.rc 0 rfl).rd.ad (ix_pos hk109)))) (hF.ev rfl) hk109.1 hk109.2 (k' := adO A0 + p105.2.2.toNat * 2) rfl) ?_; clear hF; intro a hF
      refine op_val (v := .pointer (some ⟨adB A0, adO A0 + p105.2.2.toNat * 2 + 1, none⟩)) rfl rfl hF rfl (run_fieldAddr rfl fl59_1 (hF.ev rfl) rfl) ?_; clear hF; intro a hF
      obtain ⟨w', hrun, S'⟩ := run_storeEl2 (P := Try.prog) (ρ := a.eval) (l := p105.1) (y0 := (p105.2.1, (p105.1.getD p105.2.2.toNat ((0, false) : Int × Bool)).2)) (y1 := (p105.2.1, (Int.tmod (w64 (p105.2.1 + 1)) 3) == 0)) (off := 1) S 4 (.tmp 25) (.tmp 23) (i := 0) sz4 (hF.ev rfl) (hF.ev rfl) rfl rfl rfl rfl hn106 eStep_len (ix_ltn hk109 hn106) rfl rfl
      refine op_do rfl rfl (hrun _ rfl) ?_; clear hrun S; have S := S'; clear S'; generalize w' = u at S ⊢
      refine wpList_nil ?_
      refine wp_region_lit ?_
      refine op_val (v := .int .i64 (w64 (p105.2.1 + 1))) rfl rfl hF rfl (run_move rfl (hF.ev rfl)) ?_; clear hF; intro a hF
      refine op_val (v := .int .i64 (w64 ((w64 (p105.2.1 + 1)) + 1))) rfl rfl hF rfl (run_add (z := w64 ((w64 (p105.2.1 + 1)) + 1)) (hF.ev rfl) rfl rfl rfl) ?_; clear hF; intro a hF
      refine op_val (v := .int .i64 (w64 ((w64 (p105.2.1 + 1)) + 1))) rfl rfl hF rfl (run_assign rfl (hF.ev rfl)) ?_; clear hF; intro a hF
      refine wpList_nil ?_
      refine wp_region_lit ?_
      refine op_val (v := .int .i64 p105.2.2) rfl rfl hF rfl (run_move rfl (hF.ev rfl)) ?_; clear hF; intro a hF
      refine op_val (v := .int .i64 (w64 (p105.2.2 + 1))) rfl rfl hF rfl (run_add (z := w64 (p105.2.2 + 1)) (hF.ev rfl) rfl rfl rfl) ?_; clear hF; intro a hF
      refine op_val (v := .int .i64 (w64 (p105.2.2 + 1))) rfl rfl hF rfl (run_assign rfl (hF.ev rfl)) ?_; clear hF; intro a hF
      refine wpList_nil ?_
      exact ⟨f1, Nat.lt_succ_self _, (p105.1.set p105.2.2.toNat (p105.2.1, (Int.tmod (w64 (p105.2.1 + 1)) 3) == 0), w64 ((w64 (p105.2.1 + 1)) + 1), w64 (p105.2.2 + 1)), hM104, (len_set hn106), hF.keep _ ⟨rfl, rfl, rfl, rfl, trivial⟩, S.selT (M := [.row 59 2 (.slice A0 x0.length c0) x0.length ((p105.1.set p105.2.2.toNat (p105.2.1, (Int.tmod (w64 (p105.2.1 + 1)) 3) == 0)).flatMap eStep)]) 1 [0] rfl rfl rfl⟩
  · rintro a u ⟨p101, rfl, hn103, hF, S⟩
    refine wp_seq ?_
    refine wp_region_lit ?_
    refine op_val (v := .int .i64 p101.1) rfl rfl hF rfl (run_move rfl (hF.ev rfl)) ?_; clear hF; intro a hF
    refine op_val (v := .int .i64 p101.1) rfl rfl hF rfl (run_assign rfl (hF.ev rfl)) ?_; clear hF; intro a hF
    refine wpList_nil ?_
    refine wp_ret ?_
    repeat with_reducible (first | refine then_ret ?_ | refine in_ret ?_ | refine in_nrm ?_)
    refine ret1_gw (.inl rfl) hF rfl (res_tmp (hF.ev rfl)) ?_
    obtain rfl := Option.some.inj hM
    exact ⟨rfl, hn103, S.selT (M := [.row 59 2 (.slice A0 x0.length c0) x0.length (p101.2.flatMap eStep)]) 1 [0] rfl rfl rfl⟩

end Go.Proofs.Ytapkaobelejkkaa
