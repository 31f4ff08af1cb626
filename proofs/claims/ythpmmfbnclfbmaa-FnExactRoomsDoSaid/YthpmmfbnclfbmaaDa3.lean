/- Calls return what the models say. -/
import Derived.Test.YthpmmfbnclfbmaaDa2
namespace Go.Proofs.Ythpmmfbnclfbmaa
open Go.ChangeShapes Go.WideShapes Go.ChangeAt Go.RowKit
set_option linter.unusedVariables false
set_option linter.unusedSimpArgs false

set_option maxHeartbeats 4000000 in
theorem c_spec_RoomsRun {x0 : Int} {x1 : Int} {x2 : List Int} {x3 : List (Int × Int × Int)} {A2 : Option Addr} {n2 c2 : Nat} {A3 : Option Addr} {n3 c3 : Nat} {w : World} {r : Int × Int × List Int} (h2 : Rt w 1 eI A2 n2 c2 x2) (h3 : Rt w 3 eRoomDeed A3 n3 c3 x3) (hM : m_spec_RoomsRun x0 x1 x2 x3 = some r) :
    Calls Try.prog 17 #[.agg #[.int .i64 x0, .int .i64 x1, .slice A2 n2 c2], .slice A3 n3 c3] w (fun e w' => ∃ (B0 : Option Addr) (N0 D0 : Nat), e = .returned (.agg #[.int .i64 r.1, .int .i64 r.2.1, .slice B0 N0 D0]) ∧ N0 = r.2.2.length ∧ St w w' [.row 3 1 (.slice B0 N0 D0) N0 (r.2.2.flatMap eI)]) := by
  obtain rfl := h2.len
  obtain rfl := h3.len
  unfold m_spec_RoomsRun at hM
  refine calls_gw Try.func17 Try.ntmps17 rfl [(0, .agg #[.int .i64 x0, .int .i64 x1, .slice A2 x2.length c2]), (1, .slice A3 x3.length c3)] ⟨rfl, rfl, trivial⟩ rfl ?_
  intro a hF
  have S := St.nil w
  refine wp_seq ?_
  refine wp_region_lit ?_
  refine op_new (cs := #[.int .i64 x0, .int .i64 x1, .slice A2 x2.length c2]) rfl rfl hF rfl S (run_box rfl (hF.ev rfl) rfl) ?_; clear hF S; intro a g101 u hF S
  refine op_new (cs := #[.int .i64 0, .int .i64 0, .slice none 0 0]) rfl rfl hF rfl S (run_allocZ rfl zr28) ?_; clear hF S; intro a g102 u hF S
  refine wpList_nil ?_
  refine wp_seq ?_
  refine wp_seq ?_
  refine wp_region_lit ?_
  refine op_val (v := .agg #[.int .i64 x0, .int .i64 x1, .slice A2 x2.length c2]) rfl rfl hF rfl (run_loadN rfl ag28 (hF.ev rfl) rfl ((S.free 1 rfl).cells 0 #[.int .i64 x0, .int .i64 x1, .slice A2 x2.length c2] rfl)) ?_; clear hF; intro a hF
  obtain ⟨p103, h103, hM⟩ := bind_ex hM
  refine op_call rfl rfl hF rfl (run_call (vs := [.agg #[.int .i64 x0, .int .i64 x1, .slice A2 x2.length c2]]) rfl rfl co23 ⟨(hF.ev rfl), trivial⟩) (c_spec_RoomsValid (x0 := x0) (x1 := x1) (x2 := x2) ⟨(S.rc0 h2.rc), rfl⟩ h103) ?_
  rintro e u ⟨rfl, T⟩
  refine ⟨_, rfl, ?_⟩
  clear hF; intro a hF
  replace S := S.call0 T; clear T
  refine op_val (v := .bool (!p103)) rfl rfl hF rfl (run_not rfl (hF.ev rfl)) ?_; clear hF; intro a hF
  refine wpList_nil ?_
  cases hc104 : (p103)
  · replace hM := bif_f hc104 hM
    refine cond_t hF rfl (not_t hc104) ?_
    refine wp_seq ?_
    refine wp_region_lit ?_
    refine op_val (v := .agg #[.int .i64 0, .int .i64 0, .slice none 0 0]) rfl rfl hF rfl (run_build (vs := []) rfl trivial (bd28 )) ?_; clear hF; intro a hF
    refine op_do rfl rfl (run_store (cs' := #[.int .i64 0, .int .i64 0, .slice none 0 0]) rfl sz28 (hF.ev rfl) (hF.ev rfl) rfl rfl rfl (S.free 0 rfl) rfl rfl) ?_; replace S := S.put 0 rfl (#[.int .i64 0, .int .i64 0, .slice none 0 0])
    generalize World.setRow _ _ _ = u at S ⊢
    refine wpList_nil ?_
    refine wp_ret ?_
    repeat with_reducible (first | refine then_ret ?_ | refine in_ret ?_ | refine in_nrm ?_)
    refine ret1_gw (.inl rfl) hF rfl (res_cell (hF.ev rfl) (res_loadN ag28 rfl (S.cells 0 rfl 0 #[.int .i64 0, .int .i64 0, .slice none 0 0] rfl))) ?_
    obtain rfl := Option.some.inj hM
    replace S := S.nilrow 3 1
    exact ⟨none, 0, 0, rfl, rfl, S.sel [0] rfl rfl⟩
  · replace hM := bif_t hc104 hM
    refine cond_f hF rfl (not_f hc104) ?_
    refine wp_skip ?_
    refine wp_seq ?_
    refine wp_region_lit ?_
    refine op_val (v := .agg #[.int .i64 x0, .int .i64 x1, .slice A2 x2.length c2]) rfl rfl hF rfl (run_loadN rfl ag28 (hF.ev rfl) rfl ((S.free 1 rfl).cells 0 #[.int .i64 x0, .int .i64 x1, .slice A2 x2.length c2] rfl)) ?_; clear hF; intro a hF
    refine op_val (v := .pointer (some ⟨g101, 0, none⟩)) rfl rfl hF rfl (run_fieldAddr rfl fl28_0 (hF.ev rfl) rfl) ?_; clear hF; intro a hF
    refine op_val (v := .int .i64 x0) rfl rfl hF rfl (run_load1 rfl one3 (hF.ev rfl) ((S.free 1 rfl).cell rfl)) ?_; clear hF; intro a hF
    obtain ⟨p105, h105, hM⟩ := bind_ex hM
    refine op_call rfl rfl hF rfl (run_call (vs := [.agg #[.int .i64 x0, .int .i64 x1, .slice A2 x2.length c2], .int .i64 0, .int .i64 x0]) rfl rfl co24 ⟨(hF.ev rfl), rfl, (hF.ev rfl), trivial⟩) (c_spec_l32Set (x0 := x0) (x1 := x1) (x2 := x2) (x3 := 0) (x4 := x0) ⟨(S.rc0 h2.rc), rfl⟩ h105) ?_
    rintro e u ⟨B106, n107, d108, rfl, rfl, T⟩
    refine ⟨_, rfl, ?_⟩
    clear hF; intro a hF
    replace S := S.call1 T; clear T
    refine op_new (cs := #[.int .i64 0, .int .i64 0, .slice none 0 0]) rfl rfl hF rfl S (run_allocZ rfl zr28) ?_; clear hF S; intro a g109 u hF S
    refine op_do rfl rfl (run_store (cs' := #[.int .i64 p105.1, .int .i64 p105.2.1, .slice B106 p105.2.2.length d108]) rfl sz28 (hF.ev rfl) (hF.ev rfl) rfl rfl rfl (S.free 0 rfl) rfl rfl) ?_; replace S := S.put 0 rfl (#[.int .i64 p105.1, .int .i64 p105.2.1, .slice B106 p105.2.2.length d108])
    generalize World.setRow _ _ _ = u at S ⊢
    refine wpList_nil ?_
    refine wp_seq ?_
    refine wp_seq ?_
    refine wp_region_lit ?_
    refine op_val (v := .int .i64 0) rfl rfl hF rfl (run_assign rfl rfl) ?_; clear hF; intro a hF
    refine wpList_nil ?_
    obtain ⟨o111, hM114, hM⟩ := bind_ex hM
    refine wp_cut (fun a u => ∃ (p110 : Int × Int × List Int) (B112 : Option Addr) (d113 : Nat), p110 = o111 ∧ Fr a 34 [(4, .pointer (some ⟨g102, 0, none⟩)), (5, .pointer (some ⟨g109, 0, none⟩))] ∧ St w u [.box g109 28 #[.int .i64 p110.1, .int .i64 p110.2.1, .slice B112 p110.2.2.length d113], .box g102 28 #[.int .i64 0, .int .i64 0, .slice none 0 0], .box g101 28 #[.int .i64 x0, .int .i64 x1, .slice A2 x2.length c2], .row 3 1 (.slice B112 p110.2.2.length d113) p110.2.2.length (p110.2.2.flatMap eI)]) ?_ ?_
    · have _ := trivial
      refine wp_block ?_
      refine loop_gw (fun m a u => ∃ (p115 : Int × Int × Int × List Int) (B116 : Option Addr) (d117 : Nat), m_spec_RoomsRun_l1 x3 m p115 = some _ ∧ Fr a 34 [(1, .slice A3 x3.length c3), (4, .pointer (some ⟨g102, 0, none⟩)), (5, .pointer (some ⟨g109, 0, none⟩)), (6, .int .i64 p115.1)] ∧ St w u [.box g109 28 #[.int .i64 p115.2.1, .int .i64 p115.2.2.1, .slice B116 p115.2.2.2.length d117], .box g102 28 #[.int .i64 0, .int .i64 0, .slice none 0 0], .box g101 28 #[.int .i64 x0, .int .i64 x1, .slice A2 x2.length c2], .row 3 1 (.slice B116 p115.2.2.2.length d117) p115.2.2.2.length (p115.2.2.2.flatMap eI)]) FUEL ⟨(0, p105.1, p105.2.1, p105.2.2), B106, d108, hM114, hF.keep _ ⟨rfl, rfl, rfl, rfl, trivial⟩, S.sel [0, 2, 3, 1] rfl rfl⟩ ?_
      clear hF S hM114; rintro m a u ⟨p115, B116, d117, hM114, hF, S⟩
      rcases m with _ | f1
      · exact none_some hM114
      rw [m_spec_RoomsRun_l1.eq_2] at hM114
      refine wp_seq ?_
      refine wp_seq ?_
      refine wp_region_lit ?_
      refine op_val (v := .int .i64 p115.1) rfl rfl hF rfl (run_move rfl (hF.ev rfl)) ?_; clear hF; intro a hF
      refine op_val (v := .slice A3 x3.length c3) rfl rfl hF rfl (run_move rfl (hF.ev rfl)) ?_; clear hF; intro a hF
      refine op_val (v := .int .i64 (x3.length : Int)) rfl rfl hF rfl (run_lenL rfl rfl Try.underlying42 (hF.ev rfl)) ?_; clear hF; intro a hF
      refine op_val (v := .bool (ltB p115.1 (x3.length : Int))) rfl rfl hF rfl (run_lss (hF.ev rfl) (hF.ev rfl) rfl) ?_; clear hF; intro a hF
      refine wpList_nil ?_
      cases hc118 : (ltB p115.1 (x3.length : Int))
      · replace hM114 := bif_f hc118 hM114
        refine cond_f hF rfl hc118 ?_
        refine wp_exit ?_
        repeat with_reducible (first | refine then_exit ?_ | refine in_hit ?_ | refine in_miss rfl ?_)
        obtain rfl := Option.some.inj hM114
        exact ⟨(p115.2.1, p115.2.2.1, p115.2.2.2), B116, d117, rfl, hF.keep _ ⟨rfl, rfl, trivial⟩, S.sel [0, 1, 2, 3] rfl rfl⟩
      · replace hM114 := bif_t hc118 hM114
        refine cond_t hF rfl hc118 ?_
        refine wp_skip ?_
        refine wp_seq ?_
        refine wp_block ?_
        refine wp_seq ?_
        obtain ⟨hk119, hM114⟩ := chk_ex hM114
        replace hk119 := ixB_t hk119
        obtain ⟨p120, h120, hM114⟩ := bind_ex hM114
        refine region_gw (D := [24, 25, 26, 27, 28, 29, 23, 30, 31, 7, 8]) (Lr := [.box g109 28 #[.int .i64 p115.2.1, .int .i64 p115.2.2.1, .slice B116 p115.2.2.2.length d117], .box g102 28 #[.int .i64 0, .int .i64 0, .slice none 0 0], .box g101 28 #[.int .i64 x0, .int .i64 x1, .slice A2 x2.length c2], .row 3 1 (.slice B116 p115.2.2.2.length d117) p115.2.2.2.length (p115.2.2.2.flatMap eI)]) (deps := (fun | 0 => [24] | 1 => [25] | 2 => [26] | 3 => [27] | 4 => [28] | 5 => [29] | 6 => [23, 29] | 7 => [30, 29] | 8 => [31] | 9 => [7] | 10 => [7, 29] | 11 => [8] | _ => [])) (rd := (fun _ => [])) (zr := (fun _ => []))
          (φ := fun i vs => match i, vs with | 0, [v24] => v24 = .agg #[.int .i64 p115.2.1, .int .i64 p115.2.2.1, .slice B116 p115.2.2.2.length d117] | 1, [v25] => v25 = .slice A3 x3.length c3 | 2, [v26] => v26 = .int .i64 p115.1 | 3, [v27] => v27 = .pointer (some ⟨adB A3, adO A3 + p115.1.toNat * 3, none⟩) | 4, [v28] => v28 = .agg #[.int .i64 ((x3.getD p115.1.toNat ((0, 0, 0) : Int × Int × Int)).1), .int .i64 ((x3.getD p115.1.toNat ((0, 0, 0) : Int × Int × Int)).2.1), .int .i64 ((x3.getD p115.1.toNat ((0, 0, 0) : Int × Int × Int)).2.2)] | 5, [v29] => v29 = .tuple #[.agg #[.int .i64 p120.1, .int .i64 p120.2.1, .slice (slA (vtup (vtup v29 0) 2)) p120.2.2.1.length (slC (vtup (vtup v29 0) 2))], .bool p120.2.2.2] | 6, [v23, v29] => v23 = .tuple #[.agg #[.int .i64 p120.1, .int .i64 p120.2.1, .slice (slA (vtup (vtup v29 0) 2)) p120.2.2.1.length (slC (vtup (vtup v29 0) 2))], .bool p120.2.2.2] | 7, [v30, v29] => v30 = .agg #[.int .i64 p120.1, .int .i64 p120.2.1, .slice (slA (vtup (vtup v29 0) 2)) p120.2.2.1.length (slC (vtup (vtup v29 0) 2))] | 8, [v31] => v31 = .bool p120.2.2.2 | 9, [v7] => v7 = .pointer (some ⟨ptB v7, 0, none⟩) | 11, [v8] => v8 = .bool p120.2.2.2 | _, _ => True)
          (C := fun i vs => match i, vs with | 5, [v29] => [.row 3 1 (.slice (slA (vtup (vtup v29 0) 2)) p120.2.2.1.length (slC (vtup (vtup v29 0) 2))) p120.2.2.1.length (p120.2.2.1.flatMap eI)] | 9, [v7] => [.box (ptB v7) 28 #[.int .i64 0, .int .i64 0, .slice none 0 0]] | 10, [v7, v29] => [.box (ptB v7) 28 #[.int .i64 p120.1, .int .i64 p120.2.1, .slice (slA (vtup (vtup v29 0) 2)) p120.2.2.1.length (slC (vtup (vtup v29 0) 2))]] | _, _ => [])
          (κ := (fun | 9 => some 10 | _ => none)) (Z := (fun _ => [])) mixed hF (by kernel_rfl) S ?_ ?_
        · refine ⟨?_, ?_, ?_, ?_, ?_, ?_, ?_, ?_, ?_, ?_, ?_, ?_, trivial⟩
          · intro a u X hB hp hr hz hl S
            replace S : St w u ([] ++ X) := S
            exact .inl ⟨rfl, .agg #[.int .i64 p115.2.1, .int .i64 p115.2.2.1, .slice B116 p115.2.2.2.length d117], u, (run_loadN rfl ag28 (hF.evB hB rfl rfl) rfl ((gr_box S hl 0 rfl).cells 0 #[.int .i64 p115.2.1, .int .i64 p115.2.2.1, .slice B116 p115.2.2.2.length d117] rfl)), rfl, S⟩
          · intro a u X hB hp hr hz hl S
            replace S : St w u ([] ++ X) := S
            exact .inl ⟨rfl, .slice A3 x3.length c3, u, (run_move rfl (hF.evB hB rfl rfl)), rfl, S⟩
          · intro a u X hB hp hr hz hl S
            replace S : St w u ([] ++ X) := S
            exact .inl ⟨rfl, .int .i64 p115.1, u, (run_move rfl (hF.evB hB rfl rfl)), rfl, S⟩
          · intro a u X hB hp hr hz hl S
            replace S : St w u ([] ++ X) := S
            have e25 : sl a 25 = .slice A3 x3.length c3 := hp 1 rfl
            have e26 : sl a 26 = .int .i64 p115.1 := hp 2 rfl
            exact .inl ⟨rfl, .pointer (some ⟨adB A3, adO A3 + p115.1.toNat * 3, none⟩), u, (run_indexAddr (b := adB A3) (off := adO A3) rfl Try.underlying42 sz32 ((ev_sl e25).trans (congrArg (fun A => Value.slice A x3.length c3) ((S.rc0 h3.rc).rd.ad (ix_pos hk119)))) (ev_sl e26) hk119.1 hk119.2 (k' := adO A3 + p115.1.toNat * 3) rfl), rfl, S⟩
          · intro a u X hB hp hr hz hl S
            replace S : St w u ([] ++ X) := S
            have e27 : sl a 27 = .pointer (some ⟨adB A3, adO A3 + p115.1.toNat * 3, none⟩) := hp 3 rfl
            exact .inl ⟨rfl, .agg #[.int .i64 ((x3.getD p115.1.toNat ((0, 0, 0) : Int × Int × Int)).1), .int .i64 ((x3.getD p115.1.toNat ((0, 0, 0) : Int × Int × Int)).2.1), .int .i64 ((x3.getD p115.1.toNat ((0, 0, 0) : Int × Int × Int)).2.2)], u, (run_loadN (cs := #[.int .i64 ((x3.getD p115.1.toNat ((0, 0, 0) : Int × Int × Int)).1), .int .i64 ((x3.getD p115.1.toNat ((0, 0, 0) : Int × Int × Int)).2.1), .int .i64 ((x3.getD p115.1.toNat ((0, 0, 0) : Int × Int × Int)).2.2)]) rfl ag32 (ev_sl e27) rfl (rd_elN (l := x3) (S.rc0 h3.rc).rd rfl eRoomDeed_len ((0, 0, 0) : Int × Int × Int) (ix_ltn hk119 rfl) rfl)), rfl, S⟩
          · intro a u X hB hp hr hz hl S
            replace S : St w u ([] ++ X) := S
            have e24 : sl a 24 = .agg #[.int .i64 p115.2.1, .int .i64 p115.2.2.1, .slice B116 p115.2.2.2.length d117] := hp 0 rfl
            have e28 : sl a 28 = .agg #[.int .i64 ((x3.getD p115.1.toNat ((0, 0, 0) : Int × Int × Int)).1), .int .i64 ((x3.getD p115.1.toNat ((0, 0, 0) : Int × Int × Int)).2.1), .int .i64 ((x3.getD p115.1.toNat ((0, 0, 0) : Int × Int × Int)).2.2)] := hp 4 rfl
            refine .inr (.inr (.inl ⟨rfl, _, _, (run_call (vs := [.agg #[.int .i64 p115.2.1, .int .i64 p115.2.2.1, .slice B116 p115.2.2.2.length d117], .agg #[.int .i64 ((x3.getD p115.1.toNat ((0, 0, 0) : Int × Int × Int)).1), .int .i64 ((x3.getD p115.1.toNat ((0, 0, 0) : Int × Int × Int)).2.1), .int .i64 ((x3.getD p115.1.toNat ((0, 0, 0) : Int × Int × Int)).2.2)]]) rfl rfl co7 ⟨(ev_sl e24), (ev_sl e28), trivial⟩), ?_⟩))
            refine Calls.mono (c_spec_RoomsDo (x0 := p115.2.1) (x1 := p115.2.2.1) (x2 := p115.2.2.2) (x3 := (x3.getD p115.1.toNat ((0, 0, 0) : Int × Int × Int)).1) (x4 := (x3.getD p115.1.toNat ((0, 0, 0) : Int × Int × Int)).2.1) (x5 := (x3.getD p115.1.toNat ((0, 0, 0) : Int × Int × Int)).2.2) ⟨(gr_rc S hl 3 rfl), rfl⟩ h120) ?_
            rintro e w1 ⟨B121, n122, d123, rfl, rfl, T⟩
            exact ⟨_, rfl, rfl, S.call T⟩
          · intro a u X hB hp hr hz hl S
            replace S : St w u ([] ++ X) := S
            have e29 : sl a 29 = .tuple #[.agg #[.int .i64 p120.1, .int .i64 p120.2.1, .slice (slA (vtup (vtup (sl a 29) 0) 2)) p120.2.2.1.length (slC (vtup (vtup (sl a 29) 0) 2))], .bool p120.2.2.2] := hp 5 rfl
            exact .inl ⟨rfl, .tuple #[.agg #[.int .i64 p120.1, .int .i64 p120.2.1, .slice (slA (vtup (vtup (sl a 29) 0) 2)) p120.2.2.1.length (slC (vtup (vtup (sl a 29) 0) 2))], .bool p120.2.2.2], u, (run_move rfl (ev_sl e29)), rfl, S⟩
          · intro a u X hB hp hr hz hl S
            replace S : St w u ([] ++ X) := S
            have e23 : sl a 23 = .tuple #[.agg #[.int .i64 p120.1, .int .i64 p120.2.1, .slice (slA (vtup (vtup (sl a 29) 0) 2)) p120.2.2.1.length (slC (vtup (vtup (sl a 29) 0) 2))], .bool p120.2.2.2] := hp 6 rfl
            exact .inl ⟨rfl, .agg #[.int .i64 p120.1, .int .i64 p120.2.1, .slice (slA (vtup (vtup (sl a 29) 0) 2)) p120.2.2.1.length (slC (vtup (vtup (sl a 29) 0) 2))], u, (run_extract rfl (ev_sl e23) rfl), rfl, S⟩
          · intro a u X hB hp hr hz hl S
            replace S : St w u ([] ++ X) := S
            have e23 : sl a 23 = .tuple #[.agg #[.int .i64 p120.1, .int .i64 p120.2.1, .slice (slA (vtup (vtup (sl a 29) 0) 2)) p120.2.2.1.length (slC (vtup (vtup (sl a 29) 0) 2))], .bool p120.2.2.2] := hp 6 rfl
            exact .inl ⟨rfl, .bool p120.2.2.2, u, (run_extract rfl (ev_sl e23) rfl), rfl, S⟩
          · intro a u X hB hp hr hz hl S
            replace S : St w u ([] ++ X) := S
            exact .inl ⟨rfl, _, _, (run_allocZ rfl zr28), rfl, S.alloc _ _⟩
          · intro a u X hB hp hr hz hl S
            replace S : St w u ([.box (ptB (sl a 7)) 28 #[.int .i64 0, .int .i64 0, .slice none 0 0]] ++ X) := S
            have e7 : sl a 7 = .pointer (some ⟨ptB (sl a 7), 0, none⟩) := hp 9 rfl
            have e30 : sl a 30 = .agg #[.int .i64 p120.1, .int .i64 p120.2.1, .slice (slA (vtup (vtup (sl a 29) 0) 2)) p120.2.2.1.length (slC (vtup (vtup (sl a 29) 0) 2))] := hp 7 rfl
            exact .inr (.inl ⟨rfl, _, run_store (cs' := #[.int .i64 p120.1, .int .i64 p120.2.1, .slice (slA (vtup (vtup (sl a 29) 0) 2)) p120.2.2.1.length (slC (vtup (vtup (sl a 29) 0) 2))]) rfl sz28 (ev_sl e7) (ev_sl e30) rfl rfl rfl (S.free 0 rfl) rfl rfl, trivial, S.put 0 rfl (#[.int .i64 p120.1, .int .i64 p120.2.1, .slice (slA (vtup (vtup (sl a 29) 0) 2)) p120.2.2.1.length (slC (vtup (vtup (sl a 29) 0) 2))])⟩)
          · intro a u X hB hp hr hz hl S
            replace S : St w u ([] ++ X) := S
            have e31 : sl a 31 = .bool p120.2.2.2 := hp 8 rfl
            exact .inl ⟨rfl, .bool p120.2.2.2, u, (run_assign rfl (ev_sl e31)), rfl, S⟩
        · intro a u hB hp S
          obtain ⟨q0, q1, q2, q3, q4, q5, q6, q7, q8, q9, q10, q11, _⟩ := hp
          have e24 : sl a 24 = .agg #[.int .i64 p115.2.1, .int .i64 p115.2.2.1, .slice B116 p115.2.2.2.length d117] := q0
          have e25 : sl a 25 = .slice A3 x3.length c3 := q1
          have e26 : sl a 26 = .int .i64 p115.1 := q2
          have e27 : sl a 27 = .pointer (some ⟨adB A3, adO A3 + p115.1.toNat * 3, none⟩) := q3
          have e28 : sl a 28 = .agg #[.int .i64 ((x3.getD p115.1.toNat ((0, 0, 0) : Int × Int × Int)).1), .int .i64 ((x3.getD p115.1.toNat ((0, 0, 0) : Int × Int × Int)).2.1), .int .i64 ((x3.getD p115.1.toNat ((0, 0, 0) : Int × Int × Int)).2.2)] := q4
          have e29 : sl a 29 = .tuple #[.agg #[.int .i64 p120.1, .int .i64 p120.2.1, .slice (slA (vtup (vtup (sl a 29) 0) 2)) p120.2.2.1.length (slC (vtup (vtup (sl a 29) 0) 2))], .bool p120.2.2.2] := q5
          have e23 : sl a 23 = .tuple #[.agg #[.int .i64 p120.1, .int .i64 p120.2.1, .slice (slA (vtup (vtup (sl a 29) 0) 2)) p120.2.2.1.length (slC (vtup (vtup (sl a 29) 0) 2))], .bool p120.2.2.2] := q6
          have e30 : sl a 30 = .agg #[.int .i64 p120.1, .int .i64 p120.2.1, .slice (slA (vtup (vtup (sl a 29) 0) 2)) p120.2.2.1.length (slC (vtup (vtup (sl a 29) 0) 2))] := q7
          have e31 : sl a 31 = .bool p120.2.2.2 := q8
          have e7 : sl a 7 = .pointer (some ⟨ptB (sl a 7), 0, none⟩) := q9
          have e8 : sl a 8 = .bool p120.2.2.2 := q11
          replace S : St w u [.row 3 1 (.slice (slA (vtup (vtup (sl a 29) 0) 2)) p120.2.2.1.length (slC (vtup (vtup (sl a 29) 0) 2))) p120.2.2.1.length (p120.2.2.1.flatMap eI), .box (ptB (sl a 7)) 28 #[.int .i64 p120.1, .int .i64 p120.2.1, .slice (slA (vtup (vtup (sl a 29) 0) 2)) p120.2.2.1.length (slC (vtup (vtup (sl a 29) 0) 2))], .box g109 28 #[.int .i64 p115.2.1, .int .i64 p115.2.2.1, .slice B116 p115.2.2.2.length d117], .box g102 28 #[.int .i64 0, .int .i64 0, .slice none 0 0], .box g101 28 #[.int .i64 x0, .int .i64 x1, .slice A2 x2.length c2], .row 3 1 (.slice B116 p115.2.2.2.length d117) p115.2.2.2.length (p115.2.2.2.flatMap eI)] := S
          clear q0 q1 q2 q3 q4 q5 q6 q7 q8 q9 q10 q11
          generalize slA (vtup (vtup (sl a 29) 0) 2) = B124 at *
          generalize slC (vtup (vtup (sl a 29) 0) 2) = d125 at *
          generalize ptB (sl a 7) = g126 at *
          have hF := hF.region hB [(24, .agg #[.int .i64 p115.2.1, .int .i64 p115.2.2.1, .slice B116 p115.2.2.2.length d117]), (25, .slice A3 x3.length c3), (26, .int .i64 p115.1), (27, .pointer (some ⟨adB A3, adO A3 + p115.1.toNat * 3, none⟩)), (28, .agg #[.int .i64 ((x3.getD p115.1.toNat ((0, 0, 0) : Int × Int × Int)).1), .int .i64 ((x3.getD p115.1.toNat ((0, 0, 0) : Int × Int × Int)).2.1), .int .i64 ((x3.getD p115.1.toNat ((0, 0, 0) : Int × Int × Int)).2.2)]), (29, .tuple #[.agg #[.int .i64 p120.1, .int .i64 p120.2.1, .slice B124 p120.2.2.1.length d125], .bool p120.2.2.2]), (23, .tuple #[.agg #[.int .i64 p120.1, .int .i64 p120.2.1, .slice B124 p120.2.2.1.length d125], .bool p120.2.2.2]), (30, .agg #[.int .i64 p120.1, .int .i64 p120.2.1, .slice B124 p120.2.2.1.length d125]), (31, .bool p120.2.2.2), (7, .pointer (some ⟨g126, 0, none⟩)), (8, .bool p120.2.2.2)] (allSl_mem ⟨e24, e25, e26, e27, e28, e29, e23, e30, e31, e7, e8, trivial⟩) rfl
          clear hB e24 e25 e26 e27 e28 e29 e23 e30 e31 e7 e8
          refine wp_region_lit ?_
          refine op_val (v := .agg #[.int .i64 p120.1, .int .i64 p120.2.1, .slice B124 p120.2.2.1.length d125]) rfl rfl hF rfl (run_loadN rfl ag28 (hF.ev rfl) rfl ((S.free 1 rfl).cells 0 #[.int .i64 p120.1, .int .i64 p120.2.1, .slice B124 p120.2.2.1.length d125] rfl)) ?_; clear hF; intro a hF
          refine op_do rfl rfl (run_store (cs' := #[.int .i64 p120.1, .int .i64 p120.2.1, .slice B124 p120.2.2.1.length d125]) rfl sz28 (hF.ev rfl) (hF.ev rfl) rfl rfl rfl (S.free 2 rfl) rfl rfl) ?_; replace S := S.put 2 rfl (#[.int .i64 p120.1, .int .i64 p120.2.1, .slice B124 p120.2.2.1.length d125])
          generalize World.setRow _ _ _ = u at S ⊢
          refine wpList_nil ?_
          refine wp_region_lit ?_
          refine op_val (v := .int .i64 p115.1) rfl rfl hF rfl (run_move rfl (hF.ev rfl)) ?_; clear hF; intro a hF
          refine op_val (v := .int .i64 (w64 (p115.1 + 1))) rfl rfl hF rfl (run_add (z := w64 (p115.1 + 1)) (hF.ev rfl) rfl rfl rfl) ?_; clear hF; intro a hF
          refine op_val (v := .int .i64 (w64 (p115.1 + 1))) rfl rfl hF rfl (run_assign rfl (hF.ev rfl)) ?_; clear hF; intro a hF
          refine wpList_nil ?_
          exact ⟨f1, Nat.lt_succ_self _, (w64 (p115.1 + 1), p120.1, p120.2.1, p120.2.2.1), B124, d125, hM114, hF.keep _ ⟨rfl, rfl, rfl, rfl, trivial⟩, S.sel [2, 3, 4, 0] rfl rfl⟩
    · rintro a u ⟨p110, B112, d113, rfl, hF, S⟩
      refine wp_seq ?_
      refine wp_region_lit ?_
      refine op_val (v := .agg #[.int .i64 p110.1, .int .i64 p110.2.1, .slice B112 p110.2.2.length d113]) rfl rfl hF rfl (run_loadN rfl ag28 (hF.ev rfl) rfl ((S.free 0 rfl).cells 0 #[.int .i64 p110.1, .int .i64 p110.2.1, .slice B112 p110.2.2.length d113] rfl)) ?_; clear hF; intro a hF
      refine op_do rfl rfl (run_store (cs' := #[.int .i64 p110.1, .int .i64 p110.2.1, .slice B112 p110.2.2.length d113]) rfl sz28 (hF.ev rfl) (hF.ev rfl) rfl rfl rfl (S.free 1 rfl) rfl rfl) ?_; replace S := S.put 1 rfl (#[.int .i64 p110.1, .int .i64 p110.2.1, .slice B112 p110.2.2.length d113])
      generalize World.setRow _ _ _ = u at S ⊢
      refine wpList_nil ?_
      refine wp_ret ?_
      repeat with_reducible (first | refine then_ret ?_ | refine in_ret ?_ | refine in_nrm ?_)
      refine ret1_gw (.inl rfl) hF rfl (res_cell (hF.ev rfl) (res_loadN ag28 rfl (S.cells 1 rfl 0 #[.int .i64 p110.1, .int .i64 p110.2.1, .slice B112 p110.2.2.length d113] rfl))) ?_
      obtain rfl := Option.some.inj hM
      exact ⟨B112, p110.2.2.length, d113, rfl, rfl, S.sel [3] rfl rfl⟩

set_option maxHeartbeats 4000000 in
theorem c_impl_RoomsRun {x0 : Int} {x1 : Int} {x2 : List Int} {x3 : List (Int × Int × Int)} {A2 : Option Addr} {n2 c2 : Nat} {A3 : Option Addr} {n3 c3 : Nat} {w : World} {r : Int × Int × List Int} (h2 : Rt w 1 eI A2 n2 c2 x2) (h3 : Rt w 3 eRoomDeed A3 n3 c3 x3) (hM : m_impl_RoomsRun x0 x1 x2 x3 = some r) :
    Calls Try.prog 19 #[.agg #[.int .i64 x0, .int .i64 x1, .slice A2 n2 c2], .slice A3 n3 c3] w (fun e w' => ∃ (B0 : Option Addr) (N0 D0 : Nat), e = .returned (.agg #[.int .i64 r.1, .int .i64 r.2.1, .slice B0 N0 D0]) ∧ N0 = r.2.2.length ∧ St w w' [.row 3 1 (.slice B0 N0 D0) N0 (r.2.2.flatMap eI)]) := by
  obtain rfl := h2.len
  obtain rfl := h3.len
  unfold m_impl_RoomsRun at hM
  refine calls_gw Try.func19 Try.ntmps19 rfl [(0, .agg #[.int .i64 x0, .int .i64 x1, .slice A2 x2.length c2]), (1, .slice A3 x3.length c3)] ⟨rfl, rfl, trivial⟩ rfl ?_
  intro a hF
  have S := St.nil w
  refine wp_seq ?_
  refine wp_region_lit ?_
  refine op_new (cs := #[.int .i64 x0, .int .i64 x1, .slice A2 x2.length c2]) rfl rfl hF rfl S (run_box rfl (hF.ev rfl) rfl) ?_; clear hF S; intro a g101 u hF S
  refine op_new (cs := #[.int .i64 0, .int .i64 0, .slice none 0 0]) rfl rfl hF rfl S (run_allocZ rfl zr28) ?_; clear hF S; intro a g102 u hF S
  refine wpList_nil ?_
  refine wp_seq ?_
  refine wp_seq ?_
  refine wp_region_lit ?_
  refine op_val (v := .agg #[.int .i64 x0, .int .i64 x1, .slice A2 x2.length c2]) rfl rfl hF rfl (run_loadN rfl ag28 (hF.ev rfl) rfl ((S.free 1 rfl).cells 0 #[.int .i64 x0, .int .i64 x1, .slice A2 x2.length c2] rfl)) ?_; clear hF; intro a hF
  obtain ⟨p103, h103, hM⟩ := bind_ex hM
  refine op_call rfl rfl hF rfl (run_call (vs := [.agg #[.int .i64 x0, .int .i64 x1, .slice A2 x2.length c2]]) rfl rfl co28 ⟨(hF.ev rfl), trivial⟩) (c_impl_RoomsValid (x0 := x0) (x1 := x1) (x2 := x2) ⟨(S.rc0 h2.rc), rfl⟩ h103) ?_
  rintro e u ⟨rfl, T⟩
  refine ⟨_, rfl, ?_⟩
  clear hF; intro a hF
  replace S := S.call0 T; clear T
  refine op_val (v := .bool (!p103)) rfl rfl hF rfl (run_not rfl (hF.ev rfl)) ?_; clear hF; intro a hF
  refine wpList_nil ?_
  cases hc104 : (p103)
  · replace hM := bif_f hc104 hM
    refine cond_t hF rfl (not_t hc104) ?_
    refine wp_seq ?_
    refine wp_region_lit ?_
    refine op_val (v := .agg #[.int .i64 0, .int .i64 0, .slice none 0 0]) rfl rfl hF rfl (run_build (vs := []) rfl trivial (bd28 )) ?_; clear hF; intro a hF
    refine op_do rfl rfl (run_store (cs' := #[.int .i64 0, .int .i64 0, .slice none 0 0]) rfl sz28 (hF.ev rfl) (hF.ev rfl) rfl rfl rfl (S.free 0 rfl) rfl rfl) ?_; replace S := S.put 0 rfl (#[.int .i64 0, .int .i64 0, .slice none 0 0])
    generalize World.setRow _ _ _ = u at S ⊢
    refine wpList_nil ?_
    refine wp_ret ?_
    repeat with_reducible (first | refine then_ret ?_ | refine in_ret ?_ | refine in_nrm ?_)
    refine ret1_gw (.inl rfl) hF rfl (res_cell (hF.ev rfl) (res_loadN ag28 rfl (S.cells 0 rfl 0 #[.int .i64 0, .int .i64 0, .slice none 0 0] rfl))) ?_
    obtain rfl := Option.some.inj hM
    replace S := S.nilrow 3 1
    exact ⟨none, 0, 0, rfl, rfl, S.sel [0] rfl rfl⟩
  · replace hM := bif_t hc104 hM
    refine cond_f hF rfl (not_f hc104) ?_
    refine wp_skip ?_
    refine wp_seq ?_
    refine wp_region_lit ?_
    refine op_val (v := .agg #[.int .i64 x0, .int .i64 x1, .slice A2 x2.length c2]) rfl rfl hF rfl (run_loadN rfl ag28 (hF.ev rfl) rfl ((S.free 1 rfl).cells 0 #[.int .i64 x0, .int .i64 x1, .slice A2 x2.length c2] rfl)) ?_; clear hF; intro a hF
    obtain ⟨p105, h105, hM⟩ := bind_ex hM
    refine op_call rfl rfl hF rfl (run_call (vs := [.agg #[.int .i64 x0, .int .i64 x1, .slice A2 x2.length c2]]) rfl rfl co29 ⟨(hF.ev rfl), trivial⟩) (c_impl_Rooms_clone (x0 := x0) (x1 := x1) (x2 := x2) ⟨(S.rc0 h2.rc), rfl⟩ h105) ?_
    rintro e u ⟨B106, n107, d108, rfl, rfl, T⟩
    refine ⟨_, rfl, ?_⟩
    clear hF; intro a hF
    replace S := S.call1 T; clear T
    refine op_new (cs := #[.int .i64 0, .int .i64 0, .slice none 0 0]) rfl rfl hF rfl S (run_allocZ rfl zr28) ?_; clear hF S; intro a g109 u hF S
    refine op_do rfl rfl (run_store (cs' := #[.int .i64 p105.1, .int .i64 p105.2.1, .slice B106 p105.2.2.length d108]) rfl sz28 (hF.ev rfl) (hF.ev rfl) rfl rfl rfl (S.free 0 rfl) rfl rfl) ?_; replace S := S.put 0 rfl (#[.int .i64 p105.1, .int .i64 p105.2.1, .slice B106 p105.2.2.length d108])
    generalize World.setRow _ _ _ = u at S ⊢
    refine wpList_nil ?_
    refine wp_seq ?_
    refine wp_seq ?_
    refine wp_region_lit ?_
    refine op_val (v := .slice A3 x3.length c3) rfl rfl hF rfl (run_move rfl (hF.ev rfl)) ?_; clear hF; intro a hF
    refine op_val (v := .int .i64 (x3.length : Int)) rfl rfl hF rfl (run_lenL rfl rfl Try.underlying42 (hF.ev rfl)) ?_; clear hF; intro a hF
    refine op_val (v := .int .i64 0) rfl rfl hF rfl (run_move rfl rfl) ?_; clear hF; intro a hF
    refine wpList_nil ?_
    obtain ⟨o111, hM114, hM⟩ := bind_ex hM
    refine wp_cut (fun a u => ∃ (p110 : Int × Int × List Int) (B112 : Option Addr) (d113 : Nat), p110 = o111 ∧ Fr a 28 [(4, .pointer (some ⟨g102, 0, none⟩)), (5, .pointer (some ⟨g109, 0, none⟩))] ∧ St w u [.box g109 28 #[.int .i64 p110.1, .int .i64 p110.2.1, .slice B112 p110.2.2.length d113], .box g102 28 #[.int .i64 0, .int .i64 0, .slice none 0 0], .box g101 28 #[.int .i64 x0, .int .i64 x1, .slice A2 x2.length c2], .row 3 1 (.slice B112 p110.2.2.length d113) p110.2.2.length (p110.2.2.flatMap eI)]) ?_ ?_
    · have _ := trivial
      refine wp_block ?_
      refine loop_gw (fun m a u => ∃ (p115 : Int × Int × Int × List Int) (B116 : Option Addr) (d117 : Nat), m_impl_RoomsRun_l1 x3 m p115 = some _ ∧ Fr a 28 [(4, .pointer (some ⟨g102, 0, none⟩)), (5, .pointer (some ⟨g109, 0, none⟩)), (14, .slice A3 x3.length c3), (15, .int .i64 (x3.length : Int)), (16, .int .i64 p115.1)] ∧ St w u [.box g109 28 #[.int .i64 p115.2.1, .int .i64 p115.2.2.1, .slice B116 p115.2.2.2.length d117], .box g102 28 #[.int .i64 0, .int .i64 0, .slice none 0 0], .box g101 28 #[.int .i64 x0, .int .i64 x1, .slice A2 x2.length c2], .row 3 1 (.slice B116 p115.2.2.2.length d117) p115.2.2.2.length (p115.2.2.2.flatMap eI)]) FUEL ⟨(0, p105.1, p105.2.1, p105.2.2), B106, d108, hM114, hF.keep _ ⟨rfl, rfl, rfl, rfl, rfl, trivial⟩, S.sel [0, 2, 3, 1] rfl rfl⟩ ?_
      clear hF S hM114; rintro m a u ⟨p115, B116, d117, hM114, hF, S⟩
      rcases m with _ | f1
      · exact none_some hM114
      rw [m_impl_RoomsRun_l1.eq_2] at hM114
      refine wp_seq ?_
      refine wp_region_lit ?_
      refine op_val (v := .bool (ltB p115.1 (x3.length : Int))) rfl rfl hF rfl (run_lss (hF.ev rfl) (hF.ev rfl) rfl) ?_; clear hF; intro a hF
      refine wpList_nil ?_
      refine wp_seq ?_
      cases hc118 : (ltB p115.1 (x3.length : Int))
      · replace hM114 := bif_f hc118 hM114
        refine cond_f hF rfl hc118 ?_
        refine wp_exit ?_
        repeat with_reducible (first | refine then_exit ?_ | refine in_hit ?_ | refine in_miss rfl ?_)
        obtain rfl := Option.some.inj hM114
        exact ⟨(p115.2.1, p115.2.2.1, p115.2.2.2), B116, d117, rfl, hF.keep _ ⟨rfl, rfl, trivial⟩, S.sel [0, 1, 2, 3] rfl rfl⟩
      · replace hM114 := bif_t hc118 hM114
        refine cond_t hF rfl hc118 ?_
        refine wp_skip ?_
        refine wp_seq ?_
        refine wp_block ?_
        refine wp_seq ?_
        refine wp_region_lit ?_
        obtain ⟨hk119, hM114⟩ := chk_ex hM114
        replace hk119 := ixB_t hk119
        refine op_val (v := .pointer (some ⟨adB A3, adO A3 + p115.1.toNat * 3, none⟩)) rfl rfl hF rfl (run_indexAddr (b := adB A3) (off := adO A3) rfl Try.underlying42 sz32 ((hF.ev rfl).trans (congrArg (fun A => Value.slice A x3.length c3) ((S.rc0 h3.rc).rd.ad (ix_pos hk119)))) (hF.ev rfl) hk119.1 hk119.2 (k' := adO A3 + p115.1.toNat * 3) rfl) ?_; clear hF; intro a hF
        refine op_val (v := .agg #[.int .i64 ((x3.getD p115.1.toNat ((0, 0, 0) : Int × Int × Int)).1), .int .i64 ((x3.getD p115.1.toNat ((0, 0, 0) : Int × Int × Int)).2.1), .int .i64 ((x3.getD p115.1.toNat ((0, 0, 0) : Int × Int × Int)).2.2)]) rfl rfl hF rfl (run_loadN (cs := #[.int .i64 ((x3.getD p115.1.toNat ((0, 0, 0) : Int × Int × Int)).1), .int .i64 ((x3.getD p115.1.toNat ((0, 0, 0) : Int × Int × Int)).2.1), .int .i64 ((x3.getD p115.1.toNat ((0, 0, 0) : Int × Int × Int)).2.2)]) rfl ag32 (hF.ev rfl) rfl (rd_elN (l := x3) (S.rc0 h3.rc).rd rfl eRoomDeed_len ((0, 0, 0) : Int × Int × Int) (ix_ltn hk119 rfl) rfl)) ?_; clear hF; intro a hF
        refine op_new (cs := #[.int .i64 0, .int .i64 0, .int .i64 0]) rfl rfl hF rfl S (run_allocZ rfl zr32) ?_; clear hF S; intro a g120 u hF S
        refine op_do rfl rfl (run_store (cs' := #[.int .i64 ((x3.getD p115.1.toNat ((0, 0, 0) : Int × Int × Int)).1), .int .i64 ((x3.getD p115.1.toNat ((0, 0, 0) : Int × Int × Int)).2.1), .int .i64 ((x3.getD p115.1.toNat ((0, 0, 0) : Int × Int × Int)).2.2)]) rfl sz32 (hF.ev rfl) (hF.ev rfl) rfl rfl rfl (S.free 0 rfl) rfl rfl) ?_; replace S := S.put 0 rfl (#[.int .i64 ((x3.getD p115.1.toNat ((0, 0, 0) : Int × Int × Int)).1), .int .i64 ((x3.getD p115.1.toNat ((0, 0, 0) : Int × Int × Int)).2.1), .int .i64 ((x3.getD p115.1.toNat ((0, 0, 0) : Int × Int × Int)).2.2)])
        generalize World.setRow _ _ _ = u at S ⊢
        refine wpList_nil ?_
        refine wp_region_lit ?_
        refine op_val (v := .agg #[.int .i64 p115.2.1, .int .i64 p115.2.2.1, .slice B116 p115.2.2.2.length d117]) rfl rfl hF rfl (run_loadN rfl ag28 (hF.ev rfl) rfl ((S.free 1 rfl).cells 0 #[.int .i64 p115.2.1, .int .i64 p115.2.2.1, .slice B116 p115.2.2.2.length d117] rfl)) ?_; clear hF; intro a hF
        refine op_val (v := .agg #[.int .i64 ((x3.getD p115.1.toNat ((0, 0, 0) : Int × Int × Int)).1), .int .i64 ((x3.getD p115.1.toNat ((0, 0, 0) : Int × Int × Int)).2.1), .int .i64 ((x3.getD p115.1.toNat ((0, 0, 0) : Int × Int × Int)).2.2)]) rfl rfl hF rfl (run_loadN rfl ag32 (hF.ev rfl) rfl ((S.free 0 rfl).cells 0 #[.int .i64 ((x3.getD p115.1.toNat ((0, 0, 0) : Int × Int × Int)).1), .int .i64 ((x3.getD p115.1.toNat ((0, 0, 0) : Int × Int × Int)).2.1), .int .i64 ((x3.getD p115.1.toNat ((0, 0, 0) : Int × Int × Int)).2.2)] rfl)) ?_; clear hF; intro a hF
        obtain ⟨p121, h121, hM114⟩ := bind_ex hM114
        refine op_call rfl rfl hF rfl (run_call (vs := [.agg #[.int .i64 p115.2.1, .int .i64 p115.2.2.1, .slice B116 p115.2.2.2.length d117], .agg #[.int .i64 ((x3.getD p115.1.toNat ((0, 0, 0) : Int × Int × Int)).1), .int .i64 ((x3.getD p115.1.toNat ((0, 0, 0) : Int × Int × Int)).2.1), .int .i64 ((x3.getD p115.1.toNat ((0, 0, 0) : Int × Int × Int)).2.2)]]) rfl rfl co10 ⟨(hF.ev rfl), (hF.ev rfl), trivial⟩) (c_impl_RoomsDo (x0 := p115.2.1) (x1 := p115.2.2.1) (x2 := p115.2.2.2) (x3 := (x3.getD p115.1.toNat ((0, 0, 0) : Int × Int × Int)).1) (x4 := (x3.getD p115.1.toNat ((0, 0, 0) : Int × Int × Int)).2.1) (x5 := (x3.getD p115.1.toNat ((0, 0, 0) : Int × Int × Int)).2.2) ⟨(S.rc 4 rfl), rfl⟩ h121) ?_
        rintro e u ⟨B122, n123, d124, rfl, rfl, T⟩
        refine ⟨_, rfl, ?_⟩
        clear hF; intro a hF
        replace S := S.call1 T; clear T
        refine op_val (v := .tuple #[.agg #[.int .i64 p121.1, .int .i64 p121.2.1, .slice B122 p121.2.2.1.length d124], .bool p121.2.2.2]) rfl rfl hF rfl (run_move rfl (hF.ev rfl)) ?_; clear hF; intro a hF
        refine op_val (v := .agg #[.int .i64 p121.1, .int .i64 p121.2.1, .slice B122 p121.2.2.1.length d124]) rfl rfl hF rfl (run_extract rfl (hF.ev rfl) rfl) ?_; clear hF; intro a hF
        refine op_val (v := .bool p121.2.2.2) rfl rfl hF rfl (run_extract rfl (hF.ev rfl) rfl) ?_; clear hF; intro a hF
        refine op_do rfl rfl (run_store (cs' := #[.int .i64 p121.1, .int .i64 p121.2.1, .slice B122 p121.2.2.1.length d124]) rfl sz28 (hF.ev rfl) (hF.ev rfl) rfl rfl rfl (S.free 2 rfl) rfl rfl) ?_; replace S := S.put 2 rfl (#[.int .i64 p121.1, .int .i64 p121.2.1, .slice B122 p121.2.2.1.length d124])
        generalize World.setRow _ _ _ = u at S ⊢
        refine wpList_nil ?_
        refine wp_region_lit ?_
        refine op_val (v := .int .i64 (w64 (p115.1 + 1))) rfl rfl hF rfl (run_add (z := w64 (p115.1 + 1)) (hF.ev rfl) rfl rfl rfl) ?_; clear hF; intro a hF
        refine op_val (v := .int .i64 (w64 (p115.1 + 1))) rfl rfl hF rfl (run_move rfl (hF.ev rfl)) ?_; clear hF; intro a hF
        refine wpList_nil ?_
        exact ⟨f1, Nat.lt_succ_self _, (w64 (p115.1 + 1), p121.1, p121.2.1, p121.2.2.1), B122, d124, hM114, hF.keep _ ⟨rfl, rfl, rfl, rfl, rfl, trivial⟩, S.sel [2, 3, 4, 0] rfl rfl⟩
    · rintro a u ⟨p110, B112, d113, rfl, hF, S⟩
      refine wp_seq ?_
      refine wp_region_lit ?_
      refine op_val (v := .agg #[.int .i64 p110.1, .int .i64 p110.2.1, .slice B112 p110.2.2.length d113]) rfl rfl hF rfl (run_loadN rfl ag28 (hF.ev rfl) rfl ((S.free 0 rfl).cells 0 #[.int .i64 p110.1, .int .i64 p110.2.1, .slice B112 p110.2.2.length d113] rfl)) ?_; clear hF; intro a hF
      refine op_do rfl rfl (run_store (cs' := #[.int .i64 p110.1, .int .i64 p110.2.1, .slice B112 p110.2.2.length d113]) rfl sz28 (hF.ev rfl) (hF.ev rfl) rfl rfl rfl (S.free 1 rfl) rfl rfl) ?_; replace S := S.put 1 rfl (#[.int .i64 p110.1, .int .i64 p110.2.1, .slice B112 p110.2.2.length d113])
      generalize World.setRow _ _ _ = u at S ⊢
      refine wpList_nil ?_
      refine wp_ret ?_
      repeat with_reducible (first | refine then_ret ?_ | refine in_ret ?_ | refine in_nrm ?_)
      refine ret1_gw (.inl rfl) hF rfl (res_cell (hF.ev rfl) (res_loadN ag28 rfl (S.cells 1 rfl 0 #[.int .i64 p110.1, .int .i64 p110.2.1, .slice B112 p110.2.2.length d113] rfl))) ?_
      obtain rfl := Option.some.inj hM
      exact ⟨B112, p110.2.2.length, d113, rfl, rfl, S.sel [3] rfl rfl⟩

set_option maxHeartbeats 4000000 in
theorem c_laws_eqRoomDeed {x0 : Int} {x1 : Int} {x2 : Int} {x3 : Int} {x4 : Int} {x5 : Int} {w : World} {r : Bool}  (hM : m_laws_eqRoomDeed x0 x1 x2 x3 x4 x5 = some r) :
    Calls Try.prog 35 #[.agg #[.int .i64 x0, .int .i64 x1, .int .i64 x2], .agg #[.int .i64 x3, .int .i64 x4, .int .i64 x5]] w (fun e w' => e = .returned (.bool r) ∧ St w w' []) := by
  unfold m_laws_eqRoomDeed at hM
  refine calls_gw Try.func35 Try.ntmps35 rfl [(0, .agg #[.int .i64 x0, .int .i64 x1, .int .i64 x2]), (1, .agg #[.int .i64 x3, .int .i64 x4, .int .i64 x5])] ⟨rfl, rfl, trivial⟩ rfl ?_
  intro a hF
  have S := St.nil w
  refine wp_seq ?_
  refine wp_region_lit ?_
  refine op_new (cs := #[.int .i64 x0, .int .i64 x1, .int .i64 x2]) rfl rfl hF rfl S (run_box rfl (hF.ev rfl) rfl) ?_; clear hF S; intro a g101 u hF S
  refine op_new (cs := #[.int .i64 x3, .int .i64 x4, .int .i64 x5]) rfl rfl hF rfl S (run_box rfl (hF.ev rfl) rfl) ?_; clear hF S; intro a g102 u hF S
  refine op_val (v := .bool false) rfl rfl hF rfl (run_assign rfl rfl) ?_; clear hF; intro a hF
  refine wpList_nil ?_
  refine wp_seq ?_
  refine wp_seq ?_
  refine wp_region_lit ?_
  refine op_val (v := .pointer (some ⟨g101, 0, none⟩)) rfl rfl hF rfl (run_fieldAddr rfl fl32_0 (hF.ev rfl) rfl) ?_; clear hF; intro a hF
  refine op_val (v := .int .i64 x0) rfl rfl hF rfl (run_load1 rfl one3 (hF.ev rfl) ((S.free 1 rfl).cell rfl)) ?_; clear hF; intro a hF
  refine op_val (v := .pointer (some ⟨g102, 0, none⟩)) rfl rfl hF rfl (run_fieldAddr rfl fl32_0 (hF.ev rfl) rfl) ?_; clear hF; intro a hF
  refine op_val (v := .int .i64 x3) rfl rfl hF rfl (run_load1 rfl one3 (hF.ev rfl) ((S.free 0 rfl).cell rfl)) ?_; clear hF; intro a hF
  refine op_val (v := .bool (x0 != x3)) rfl rfl hF rfl (run_neq (hF.ev rfl) (hF.ev rfl) rfl) ?_; clear hF; intro a hF
  refine wpList_nil ?_
  cases hc103 : (x0 != x3)
  · replace hM := bif_f hc103 hM
    refine cond_f hF rfl hc103 ?_
    refine wp_skip ?_
    refine wp_seq ?_
    refine wp_seq ?_
    refine wp_region_lit ?_
    refine op_val (v := .pointer (some ⟨g101, 1, none⟩)) rfl rfl hF rfl (run_fieldAddr rfl fl32_1 (hF.ev rfl) rfl) ?_; clear hF; intro a hF
    refine op_val (v := .int .i64 x1) rfl rfl hF rfl (run_load1 rfl one3 (hF.ev rfl) ((S.free 1 rfl).cell rfl)) ?_; clear hF; intro a hF
    refine op_val (v := .pointer (some ⟨g102, 1, none⟩)) rfl rfl hF rfl (run_fieldAddr rfl fl32_1 (hF.ev rfl) rfl) ?_; clear hF; intro a hF
    refine op_val (v := .int .i64 x4) rfl rfl hF rfl (run_load1 rfl one3 (hF.ev rfl) ((S.free 0 rfl).cell rfl)) ?_; clear hF; intro a hF
    refine op_val (v := .bool (x1 != x4)) rfl rfl hF rfl (run_neq (hF.ev rfl) (hF.ev rfl) rfl) ?_; clear hF; intro a hF
    refine wpList_nil ?_
    cases hc104 : (x1 != x4)
    · replace hM := bif_f hc104 hM
      refine cond_f hF rfl hc104 ?_
      refine wp_skip ?_
      refine wp_seq ?_
      refine wp_seq ?_
      refine wp_region_lit ?_
      refine op_val (v := .pointer (some ⟨g101, 2, none⟩)) rfl rfl hF rfl (run_fieldAddr rfl fl32_2 (hF.ev rfl) rfl) ?_; clear hF; intro a hF
      refine op_val (v := .int .i64 x2) rfl rfl hF rfl (run_load1 rfl one3 (hF.ev rfl) ((S.free 1 rfl).cell rfl)) ?_; clear hF; intro a hF
      refine op_val (v := .pointer (some ⟨g102, 2, none⟩)) rfl rfl hF rfl (run_fieldAddr rfl fl32_2 (hF.ev rfl) rfl) ?_; clear hF; intro a hF
      refine op_val (v := .int .i64 x5) rfl rfl hF rfl (run_load1 rfl one3 (hF.ev rfl) ((S.free 0 rfl).cell rfl)) ?_; clear hF; intro a hF
      refine op_val (v := .bool (x2 != x5)) rfl rfl hF rfl (run_neq (hF.ev rfl) (hF.ev rfl) rfl) ?_; clear hF; intro a hF
      refine wpList_nil ?_
      cases hc105 : (x2 != x5)
      · replace hM := bif_f hc105 hM
        refine cond_f hF rfl hc105 ?_
        refine wp_skip ?_
        refine wp_seq ?_
        refine wp_region_lit ?_
        refine op_val (v := .bool true) rfl rfl hF rfl (run_assign rfl rfl) ?_; clear hF; intro a hF
        refine wpList_nil ?_
        refine wp_ret ?_
        repeat with_reducible (first | refine then_ret ?_ | refine in_ret ?_ | refine in_nrm ?_)
        refine ret1_gw (.inl rfl) hF rfl (res_tmp (hF.ev rfl)) ?_
        obtain rfl := Option.some.inj hM
        exact ⟨rfl, S.sel [] rfl rfl⟩
      · replace hM := bif_t hc105 hM
        refine cond_t hF rfl hc105 ?_
        refine wp_seq ?_
        refine wp_region_lit ?_
        refine op_val (v := .bool false) rfl rfl hF rfl (run_assign rfl rfl) ?_; clear hF; intro a hF
        refine wpList_nil ?_
        refine wp_ret ?_
        repeat with_reducible (first | refine then_ret ?_ | refine in_ret ?_ | refine in_nrm ?_)
        refine ret1_gw (.inl rfl) hF rfl (res_tmp (hF.ev rfl)) ?_
        obtain rfl := Option.some.inj hM
        exact ⟨rfl, S.sel [] rfl rfl⟩
    · replace hM := bif_t hc104 hM
      refine cond_t hF rfl hc104 ?_
      refine wp_seq ?_
      refine wp_region_lit ?_
      refine op_val (v := .bool false) rfl rfl hF rfl (run_assign rfl rfl) ?_; clear hF; intro a hF
      refine wpList_nil ?_
      refine wp_ret ?_
      repeat with_reducible (first | refine then_ret ?_ | refine in_ret ?_ | refine in_nrm ?_)
      refine ret1_gw (.inl rfl) hF rfl (res_tmp (hF.ev rfl)) ?_
      obtain rfl := Option.some.inj hM
      exact ⟨rfl, S.sel [] rfl rfl⟩
  · replace hM := bif_t hc103 hM
    refine cond_t hF rfl hc103 ?_
    refine wp_seq ?_
    refine wp_region_lit ?_
    refine op_val (v := .bool false) rfl rfl hF rfl (run_assign rfl rfl) ?_; clear hF; intro a hF
    refine wpList_nil ?_
    refine wp_ret ?_
    repeat with_reducible (first | refine then_ret ?_ | refine in_ret ?_ | refine in_nrm ?_)
    refine ret1_gw (.inl rfl) hF rfl (res_tmp (hF.ev rfl)) ?_
    obtain rfl := Option.some.inj hM
    exact ⟨rfl, S.sel [] rfl rfl⟩

set_option maxHeartbeats 4000000 in
theorem c_laws_eqRoomDeedS {x0 : List (Int × Int × Int)} {x1 : List (Int × Int × Int)} {A0 : Option Addr} {n0 c0 : Nat} {A1 : Option Addr} {n1 c1 : Nat} {w : World} {r : Bool} (h0 : Rt w 3 eRoomDeed A0 n0 c0 x0) (h1 : Rt w 3 eRoomDeed A1 n1 c1 x1) (hM : m_laws_eqRoomDeedS x0 x1 = some r) :
    Calls Try.prog 20 #[.slice A0 n0 c0, .slice A1 n1 c1] w (fun e w' => e = .returned (.bool r) ∧ St w w' []) := by
  obtain rfl := h0.len
  obtain rfl := h1.len
  unfold m_laws_eqRoomDeedS at hM
  refine calls_gw Try.func20 Try.ntmps20 rfl [(0, .slice A0 x0.length c0), (1, .slice A1 x1.length c1)] ⟨rfl, rfl, trivial⟩ rfl ?_
  intro a hF
  have S := St.nil w
  refine wp_seq ?_
  refine wp_region_lit ?_
  refine op_val (v := .bool false) rfl rfl hF rfl (run_assign rfl rfl) ?_; clear hF; intro a hF
  refine wpList_nil ?_
  refine wp_seq ?_
  refine wp_seq ?_
  refine wp_region_lit ?_
  refine op_val (v := .slice A0 x0.length c0) rfl rfl hF rfl (run_move rfl (hF.ev rfl)) ?_; clear hF; intro a hF
  refine op_val (v := .int .i64 (x0.length : Int)) rfl rfl hF rfl (run_lenL rfl rfl Try.underlying42 (hF.ev rfl)) ?_; clear hF; intro a hF
  refine op_val (v := .slice A1 x1.length c1) rfl rfl hF rfl (run_move rfl (hF.ev rfl)) ?_; clear hF; intro a hF
  refine op_val (v := .int .i64 (x1.length : Int)) rfl rfl hF rfl (run_lenL rfl rfl Try.underlying42 (hF.ev rfl)) ?_; clear hF; intro a hF
  refine op_val (v := .bool ((x0.length : Int) != (x1.length : Int))) rfl rfl hF rfl (run_neq (hF.ev rfl) (hF.ev rfl) rfl) ?_; clear hF; intro a hF
  refine wpList_nil ?_
  cases hc101 : ((x0.length : Int) != (x1.length : Int))
  · replace hM := bif_f hc101 hM
    refine cond_f hF rfl hc101 ?_
    refine wp_skip ?_
    refine wp_seq ?_
    refine wp_seq ?_
    refine wp_region_lit ?_
    refine op_val (v := .int .i64 0) rfl rfl hF rfl (run_assign rfl rfl) ?_; clear hF; intro a hF
    refine wpList_nil ?_
    obtain ⟨o103, hM104, hM⟩ := bind_ex hM
    refine wp_cut (fun a u => ∃ (p102 : Unit), (Sum.inl p102) = o103 ∧ Fr a 27 [(4, .bool false)] ∧ St w u []) ?_ ?_
    · have _ := trivial
      refine wp_block ?_
      refine loop_gw (fun m a u => ∃ (p105 : Int), m_laws_eqRoomDeedS_l1 x0 x1 m p105 = some _ ∧ Fr a 27 [(0, .slice A0 x0.length c0), (1, .slice A1 x1.length c1), (4, .bool false), (5, .int .i64 p105)] ∧ St w u []) FUEL ⟨0, hM104, hF.keep _ ⟨rfl, rfl, rfl, rfl, trivial⟩, S.sel [] rfl rfl⟩ ?_
      clear hF S hM104; rintro m a u ⟨p105, hM104, hF, S⟩
      rcases m with _ | f1
      · exact none_some hM104
      rw [m_laws_eqRoomDeedS_l1.eq_2] at hM104
      refine wp_seq ?_
      refine wp_seq ?_
      refine wp_region_lit ?_
      refine op_val (v := .int .i64 p105) rfl rfl hF rfl (run_move rfl (hF.ev rfl)) ?_; clear hF; intro a hF
      refine op_val (v := .slice A0 x0.length c0) rfl rfl hF rfl (run_move rfl (hF.ev rfl)) ?_; clear hF; intro a hF
      refine op_val (v := .int .i64 (x0.length : Int)) rfl rfl hF rfl (run_lenL rfl rfl Try.underlying42 (hF.ev rfl)) ?_; clear hF; intro a hF
      refine op_val (v := .bool (ltB p105 (x0.length : Int))) rfl rfl hF rfl (run_lss (hF.ev rfl) (hF.ev rfl) rfl) ?_; clear hF; intro a hF
      refine wpList_nil ?_
      cases hc106 : (ltB p105 (x0.length : Int))
      · replace hM104 := bif_f hc106 hM104
        refine cond_f hF rfl hc106 ?_
        refine wp_exit ?_
        repeat with_reducible (first | refine then_exit ?_ | refine in_hit ?_ | refine in_miss rfl ?_)
        obtain rfl := Option.some.inj hM104
        exact ⟨(), rfl, hF.keep _ ⟨rfl, trivial⟩, S.sel [] rfl rfl⟩
      · replace hM104 := bif_t hc106 hM104
        refine cond_t hF rfl hc106 ?_
        refine wp_skip ?_
        refine wp_seq ?_
        refine wp_block ?_
        refine wp_seq ?_
        obtain ⟨hk107, hM104⟩ := chk_ex hM104
        replace hk107 := ixB_t hk107
        obtain ⟨hk108, hM104⟩ := chk_ex hM104
        replace hk108 := ixB_t hk108
        obtain ⟨p109, h109, hM104⟩ := bind_ex hM104
        refine region_gw (D := [17, 18, 19, 20, 21, 22, 23, 24, 25, 26]) (Lr := []) (deps := (fun | 0 => [17] | 1 => [18] | 2 => [19] | 3 => [20] | 4 => [21] | 5 => [22] | 6 => [23] | 7 => [24] | 8 => [25] | 9 => [26] | _ => [])) (rd := (fun _ => [])) (zr := (fun _ => []))
          (φ := fun i vs => match i, vs with | 0, [v17] => v17 = .slice A0 x0.length c0 | 1, [v18] => v18 = .int .i64 p105 | 2, [v19] => v19 = .pointer (some ⟨adB A0, adO A0 + p105.toNat * 3, none⟩) | 3, [v20] => v20 = .agg #[.int .i64 ((x0.getD p105.toNat ((0, 0, 0) : Int × Int × Int)).1), .int .i64 ((x0.getD p105.toNat ((0, 0, 0) : Int × Int × Int)).2.1), .int .i64 ((x0.getD p105.toNat ((0, 0, 0) : Int × Int × Int)).2.2)] | 4, [v21] => v21 = .slice A1 x1.length c1 | 5, [v22] => v22 = .int .i64 p105 | 6, [v23] => v23 = .pointer (some ⟨adB A1, adO A1 + p105.toNat * 3, none⟩) | 7, [v24] => v24 = .agg #[.int .i64 ((x1.getD p105.toNat ((0, 0, 0) : Int × Int × Int)).1), .int .i64 ((x1.getD p105.toNat ((0, 0, 0) : Int × Int × Int)).2.1), .int .i64 ((x1.getD p105.toNat ((0, 0, 0) : Int × Int × Int)).2.2)] | 8, [v25] => v25 = .bool p109 | 9, [v26] => v26 = .bool (!p109) | _, _ => True)
          (C := fun _ _ => [])
          (κ := (fun _ => none)) (Z := (fun _ => [])) mixed hF (by kernel_rfl) S ?_ ?_
        · refine ⟨?_, ?_, ?_, ?_, ?_, ?_, ?_, ?_, ?_, ?_, trivial⟩
          · intro a u X hB hp hr hz hl S
            replace S : St w u ([] ++ X) := S
            exact .inl ⟨rfl, .slice A0 x0.length c0, u, (run_move rfl (hF.evB hB rfl rfl)), rfl, S⟩
          · intro a u X hB hp hr hz hl S
            replace S : St w u ([] ++ X) := S
            exact .inl ⟨rfl, .int .i64 p105, u, (run_move rfl (hF.evB hB rfl rfl)), rfl, S⟩
          · intro a u X hB hp hr hz hl S
            replace S : St w u ([] ++ X) := S
            have e17 : sl a 17 = .slice A0 x0.length c0 := hp 0 rfl
            have e18 : sl a 18 = .int .i64 p105 := hp 1 rfl
            exact .inl ⟨rfl, .pointer (some ⟨adB A0, adO A0 + p105.toNat * 3, none⟩), u, (run_indexAddr (b := adB A0) (off := adO A0) rfl Try.underlying42 sz32 ((ev_sl e17).trans (congrArg (fun A => Value.slice A x0.length c0) ((S.rc0 h0.rc).rd.ad (ix_pos hk107)))) (ev_sl e18) hk107.1 hk107.2 (k' := adO A0 + p105.toNat * 3) rfl), rfl, S⟩
          · intro a u X hB hp hr hz hl S
            replace S : St w u ([] ++ X) := S
            have e19 : sl a 19 = .pointer (some ⟨adB A0, adO A0 + p105.toNat * 3, none⟩) := hp 2 rfl
            exact .inl ⟨rfl, .agg #[.int .i64 ((x0.getD p105.toNat ((0, 0, 0) : Int × Int × Int)).1), .int .i64 ((x0.getD p105.toNat ((0, 0, 0) : Int × Int × Int)).2.1), .int .i64 ((x0.getD p105.toNat ((0, 0, 0) : Int × Int × Int)).2.2)], u, (run_loadN (cs := #[.int .i64 ((x0.getD p105.toNat ((0, 0, 0) : Int × Int × Int)).1), .int .i64 ((x0.getD p105.toNat ((0, 0, 0) : Int × Int × Int)).2.1), .int .i64 ((x0.getD p105.toNat ((0, 0, 0) : Int × Int × Int)).2.2)]) rfl ag32 (ev_sl e19) rfl (rd_elN (l := x0) (S.rc0 h0.rc).rd rfl eRoomDeed_len ((0, 0, 0) : Int × Int × Int) (ix_ltn hk107 rfl) rfl)), rfl, S⟩
          · intro a u X hB hp hr hz hl S
            replace S : St w u ([] ++ X) := S
            exact .inl ⟨rfl, .slice A1 x1.length c1, u, (run_move rfl (hF.evB hB rfl rfl)), rfl, S⟩
          · intro a u X hB hp hr hz hl S
            replace S : St w u ([] ++ X) := S
            exact .inl ⟨rfl, .int .i64 p105, u, (run_move rfl (hF.evB hB rfl rfl)), rfl, S⟩
          · intro a u X hB hp hr hz hl S
            replace S : St w u ([] ++ X) := S
            have e21 : sl a 21 = .slice A1 x1.length c1 := hp 4 rfl
            have e22 : sl a 22 = .int .i64 p105 := hp 5 rfl
            exact .inl ⟨rfl, .pointer (some ⟨adB A1, adO A1 + p105.toNat * 3, none⟩), u, (run_indexAddr (b := adB A1) (off := adO A1) rfl Try.underlying42 sz32 ((ev_sl e21).trans (congrArg (fun A => Value.slice A x1.length c1) ((S.rc0 h1.rc).rd.ad (ix_pos hk108)))) (ev_sl e22) hk108.1 hk108.2 (k' := adO A1 + p105.toNat * 3) rfl), rfl, S⟩
          · intro a u X hB hp hr hz hl S
            replace S : St w u ([] ++ X) := S
            have e23 : sl a 23 = .pointer (some ⟨adB A1, adO A1 + p105.toNat * 3, none⟩) := hp 6 rfl
            exact .inl ⟨rfl, .agg #[.int .i64 ((x1.getD p105.toNat ((0, 0, 0) : Int × Int × Int)).1), .int .i64 ((x1.getD p105.toNat ((0, 0, 0) : Int × Int × Int)).2.1), .int .i64 ((x1.getD p105.toNat ((0, 0, 0) : Int × Int × Int)).2.2)], u, (run_loadN (cs := #[.int .i64 ((x1.getD p105.toNat ((0, 0, 0) : Int × Int × Int)).1), .int .i64 ((x1.getD p105.toNat ((0, 0, 0) : Int × Int × Int)).2.1), .int .i64 ((x1.getD p105.toNat ((0, 0, 0) : Int × Int × Int)).2.2)]) rfl ag32 (ev_sl e23) rfl (rd_elN (l := x1) (S.rc0 h1.rc).rd rfl eRoomDeed_len ((0, 0, 0) : Int × Int × Int) (ix_ltn hk108 rfl) rfl)), rfl, S⟩
          · intro a u X hB hp hr hz hl S
            replace S : St w u ([] ++ X) := S
            have e20 : sl a 20 = .agg #[.int .i64 ((x0.getD p105.toNat ((0, 0, 0) : Int × Int × Int)).1), .int .i64 ((x0.getD p105.toNat ((0, 0, 0) : Int × Int × Int)).2.1), .int .i64 ((x0.getD p105.toNat ((0, 0, 0) : Int × Int × Int)).2.2)] := hp 3 rfl
            have e24 : sl a 24 = .agg #[.int .i64 ((x1.getD p105.toNat ((0, 0, 0) : Int × Int × Int)).1), .int .i64 ((x1.getD p105.toNat ((0, 0, 0) : Int × Int × Int)).2.1), .int .i64 ((x1.getD p105.toNat ((0, 0, 0) : Int × Int × Int)).2.2)] := hp 7 rfl
            refine .inr (.inr (.inl ⟨rfl, _, _, (run_call (vs := [.agg #[.int .i64 ((x0.getD p105.toNat ((0, 0, 0) : Int × Int × Int)).1), .int .i64 ((x0.getD p105.toNat ((0, 0, 0) : Int × Int × Int)).2.1), .int .i64 ((x0.getD p105.toNat ((0, 0, 0) : Int × Int × Int)).2.2)], .agg #[.int .i64 ((x1.getD p105.toNat ((0, 0, 0) : Int × Int × Int)).1), .int .i64 ((x1.getD p105.toNat ((0, 0, 0) : Int × Int × Int)).2.1), .int .i64 ((x1.getD p105.toNat ((0, 0, 0) : Int × Int × Int)).2.2)]]) rfl rfl co35 ⟨(ev_sl e20), (ev_sl e24), trivial⟩), ?_⟩))
            refine Calls.mono (c_laws_eqRoomDeed (x0 := (x0.getD p105.toNat ((0, 0, 0) : Int × Int × Int)).1) (x1 := (x0.getD p105.toNat ((0, 0, 0) : Int × Int × Int)).2.1) (x2 := (x0.getD p105.toNat ((0, 0, 0) : Int × Int × Int)).2.2) (x3 := (x1.getD p105.toNat ((0, 0, 0) : Int × Int × Int)).1) (x4 := (x1.getD p105.toNat ((0, 0, 0) : Int × Int × Int)).2.1) (x5 := (x1.getD p105.toNat ((0, 0, 0) : Int × Int × Int)).2.2)  h109) ?_
            rintro e w1 ⟨rfl, T⟩
            exact ⟨_, rfl, rfl, S.call T⟩
          · intro a u X hB hp hr hz hl S
            replace S : St w u ([] ++ X) := S
            have e25 : sl a 25 = .bool p109 := hp 8 rfl
            exact .inl ⟨rfl, .bool (!p109), u, (run_not rfl (ev_sl e25)), rfl, S⟩
        · intro a u hB hp S
          obtain ⟨q0, q1, q2, q3, q4, q5, q6, q7, q8, q9, _⟩ := hp
          have e17 : sl a 17 = .slice A0 x0.length c0 := q0
          have e18 : sl a 18 = .int .i64 p105 := q1
          have e19 : sl a 19 = .pointer (some ⟨adB A0, adO A0 + p105.toNat * 3, none⟩) := q2
          have e20 : sl a 20 = .agg #[.int .i64 ((x0.getD p105.toNat ((0, 0, 0) : Int × Int × Int)).1), .int .i64 ((x0.getD p105.toNat ((0, 0, 0) : Int × Int × Int)).2.1), .int .i64 ((x0.getD p105.toNat ((0, 0, 0) : Int × Int × Int)).2.2)] := q3
          have e21 : sl a 21 = .slice A1 x1.length c1 := q4
          have e22 : sl a 22 = .int .i64 p105 := q5
          have e23 : sl a 23 = .pointer (some ⟨adB A1, adO A1 + p105.toNat * 3, none⟩) := q6
          have e24 : sl a 24 = .agg #[.int .i64 ((x1.getD p105.toNat ((0, 0, 0) : Int × Int × Int)).1), .int .i64 ((x1.getD p105.toNat ((0, 0, 0) : Int × Int × Int)).2.1), .int .i64 ((x1.getD p105.toNat ((0, 0, 0) : Int × Int × Int)).2.2)] := q7
          have e25 : sl a 25 = .bool p109 := q8
          have e26 : sl a 26 = .bool (!p109) := q9
          replace S : St w u [] := S
          clear q0 q1 q2 q3 q4 q5 q6 q7 q8 q9
          have hF := hF.region hB [(17, .slice A0 x0.length c0), (18, .int .i64 p105), (19, .pointer (some ⟨adB A0, adO A0 + p105.toNat * 3, none⟩)), (20, .agg #[.int .i64 ((x0.getD p105.toNat ((0, 0, 0) : Int × Int × Int)).1), .int .i64 ((x0.getD p105.toNat ((0, 0, 0) : Int × Int × Int)).2.1), .int .i64 ((x0.getD p105.toNat ((0, 0, 0) : Int × Int × Int)).2.2)]), (21, .slice A1 x1.length c1), (22, .int .i64 p105), (23, .pointer (some ⟨adB A1, adO A1 + p105.toNat * 3, none⟩)), (24, .agg #[.int .i64 ((x1.getD p105.toNat ((0, 0, 0) : Int × Int × Int)).1), .int .i64 ((x1.getD p105.toNat ((0, 0, 0) : Int × Int × Int)).2.1), .int .i64 ((x1.getD p105.toNat ((0, 0, 0) : Int × Int × Int)).2.2)]), (25, .bool p109), (26, .bool (!p109))] (allSl_mem ⟨e17, e18, e19, e20, e21, e22, e23, e24, e25, e26, trivial⟩) rfl
          clear hB e17 e18 e19 e20 e21 e22 e23 e24 e25 e26
          cases hc110 : (p109)
          · replace hM104 := bif_f hc110 hM104
            refine cond_t hF rfl (not_t hc110) ?_
            refine wp_seq ?_
            refine wp_region_lit ?_
            refine op_val (v := .bool false) rfl rfl hF rfl (run_assign rfl rfl) ?_; clear hF; intro a hF
            refine wpList_nil ?_
            refine wp_ret ?_
            repeat with_reducible (first | refine then_ret ?_ | refine in_ret ?_ | refine in_nrm ?_)
            refine ret1_gw (.inl rfl) hF rfl (res_tmp (hF.ev rfl)) ?_
            obtain rfl := Option.some.inj hM104
            obtain rfl := Option.some.inj hM
            exact ⟨rfl, S.sel [] rfl rfl⟩
          · replace hM104 := bif_t hc110 hM104
            refine cond_f hF rfl (not_f hc110) ?_
            refine wp_skip ?_
            refine wp_region_lit ?_
            refine op_val (v := .int .i64 p105) rfl rfl hF rfl (run_move rfl (hF.ev rfl)) ?_; clear hF; intro a hF
            refine op_val (v := .int .i64 (w64 (p105 + 1))) rfl rfl hF rfl (run_add (z := w64 (p105 + 1)) (hF.ev rfl) rfl rfl rfl) ?_; clear hF; intro a hF
            refine op_val (v := .int .i64 (w64 (p105 + 1))) rfl rfl hF rfl (run_assign rfl (hF.ev rfl)) ?_; clear hF; intro a hF
            refine wpList_nil ?_
            exact ⟨f1, Nat.lt_succ_self _, w64 (p105 + 1), hM104, hF.keep _ ⟨rfl, rfl, rfl, rfl, trivial⟩, S.sel [] rfl rfl⟩
    · rintro a u ⟨p102, rfl, hF, S⟩
      replace hM := elim_l hM
      refine wp_seq ?_
      refine wp_region_lit ?_
      refine op_val (v := .bool true) rfl rfl hF rfl (run_assign rfl rfl) ?_; clear hF; intro a hF
      refine wpList_nil ?_
      refine wp_ret ?_
      repeat with_reducible (first | refine then_ret ?_ | refine in_ret ?_ | refine in_nrm ?_)
      refine ret1_gw (.inl rfl) hF rfl (res_tmp (hF.ev rfl)) ?_
      obtain rfl := Option.some.inj hM
      exact ⟨rfl, S.sel [] rfl rfl⟩
  · replace hM := bif_t hc101 hM
    refine cond_t hF rfl hc101 ?_
    refine wp_seq ?_
    refine wp_region_lit ?_
    refine op_val (v := .bool false) rfl rfl hF rfl (run_assign rfl rfl) ?_; clear hF; intro a hF
    refine wpList_nil ?_
    refine wp_ret ?_
    repeat with_reducible (first | refine then_ret ?_ | refine in_ret ?_ | refine in_nrm ?_)
    refine ret1_gw (.inl rfl) hF rfl (res_tmp (hF.ev rfl)) ?_
    obtain rfl := Option.some.inj hM
    exact ⟨rfl, S.sel [] rfl rfl⟩

set_option maxHeartbeats 4000000 in
theorem c_laws_markRoomDeedS {x0 : List (Int × Int × Int)} {x1 : Int} {A0 : Option Addr} {n0 c0 : Nat} {w : World} {r : Int × List (Int × Int × Int)} {w0 : World} {X : List Asn} (h0 : n0 = x0.length) (S : St w0 w (Asn.row 32 3 (.slice A0 n0 c0) n0 (x0.flatMap eRoomDeed) :: X)) (hM : m_laws_markRoomDeedS x0 x1 = some r) :
    Calls Try.prog 21 #[.slice A0 n0 c0, .int .i64 x1] w (fun e w' => e = .returned (.int .i64 r.1) ∧ n0 = r.2.length ∧ St w0 w' (Asn.row 32 3 (.slice A0 n0 c0) n0 (r.2.flatMap eRoomDeed) :: X)) := by
  obtain rfl := h0
  unfold m_laws_markRoomDeedS at hM
  refine calls_gw Try.func21 Try.ntmps21 rfl [(0, .slice A0 x0.length c0), (1, .int .i64 x1)] ⟨rfl, rfl, trivial⟩ rfl ?_
  intro a hF
  refine wp_seq ?_
  refine wp_region_lit ?_
  refine op_val (v := .int .i64 0) rfl rfl hF rfl (run_assign rfl rfl) ?_; clear hF; intro a hF
  refine wpList_nil ?_
  refine wp_seq ?_
  refine wp_seq ?_
  refine wp_region_lit ?_
  refine op_val (v := .int .i64 0) rfl rfl hF rfl (run_assign rfl rfl) ?_; clear hF; intro a hF
  refine wpList_nil ?_
  obtain ⟨o102, hM104, hM⟩ := bind_ex hM
  refine wp_cut (fun a u => ∃ (p101 : Int × List (Int × Int × Int)), p101 = o102 ∧ x0.length = p101.2.length ∧ Fr a 34 [(1, .int .i64 p101.1), (4, .int .i64 0)] ∧ St w0 u (Asn.row 32 3 (.slice A0 x0.length c0) x0.length (p101.2.flatMap eRoomDeed) :: X)) ?_ ?_
  · have _ := trivial
    refine wp_block ?_
    refine loop_gw (fun m a u => ∃ (p105 : List (Int × Int × Int) × Int × Int), m_laws_markRoomDeedS_l1 x0 m p105 = some _ ∧ x0.length = p105.1.length ∧ Fr a 34 [(0, .slice A0 x0.length c0), (1, .int .i64 p105.2.1), (4, .int .i64 0), (5, .int .i64 p105.2.2)] ∧ St w0 u (Asn.row 32 3 (.slice A0 x0.length c0) x0.length (p105.1.flatMap eRoomDeed) :: X)) FUEL ⟨(x0, x1, 0), hM104, rfl, hF.keep _ ⟨rfl, rfl, rfl, rfl, trivial⟩, S.selT (M := [.row 32 3 (.slice A0 x0.length c0) x0.length (x0.flatMap eRoomDeed)]) 1 [0] rfl rfl rfl⟩ ?_
    clear hF S hM104; rintro m a u ⟨p105, hM104, hn106, hF, S⟩
    rcases m with _ | f1
    · exact none_some hM104
    rw [m_laws_markRoomDeedS_l1.eq_2] at hM104
    refine wp_seq ?_
    refine wp_seq ?_
    refine wp_region_lit ?_
    refine op_val (v := .int .i64 p105.2.2) rfl rfl hF rfl (run_move rfl (hF.ev rfl)) ?_; clear hF; intro a hF
    refine op_val (v := .slice A0 x0.length c0) rfl rfl hF rfl (run_move rfl (hF.ev rfl)) ?_; clear hF; intro a hF
    refine op_val (v := .int .i64 (x0.length : Int)) rfl rfl hF rfl (run_lenL rfl rfl Try.underlying42 (hF.ev rfl)) ?_; clear hF; intro a hF
    refine op_val (v := .bool (ltB p105.2.2 (x0.length : Int))) rfl rfl hF rfl (run_lss (hF.ev rfl) (hF.ev rfl) rfl) ?_; clear hF; intro a hF
    refine wpList_nil ?_
    cases hc107 : (ltB p105.2.2 (x0.length : Int))
    · replace hM104 := bif_f hc107 hM104
      refine cond_f hF rfl hc107 ?_
      refine wp_exit ?_
      repeat with_reducible (first | refine then_exit ?_ | refine in_hit ?_ | refine in_miss rfl ?_)
      obtain rfl := Option.some.inj hM104
      exact ⟨(p105.2.1, p105.1), rfl, hn106, hF.keep _ ⟨rfl, rfl, trivial⟩, S.selT (M := [.row 32 3 (.slice A0 x0.length c0) x0.length (p105.1.flatMap eRoomDeed)]) 1 [0] rfl rfl rfl⟩
    · replace hM104 := bif_t hc107 hM104
      refine cond_t hF rfl hc107 ?_
      refine wp_skip ?_
      refine wp_seq ?_
      refine wp_block ?_
      refine wp_seq ?_
      refine wp_region_lit ?_
      refine op_val (v := .slice A0 x0.length c0) rfl rfl hF rfl (run_move rfl (hF.ev rfl)) ?_; clear hF; intro a hF
      refine op_val (v := .int .i64 p105.2.2) rfl rfl hF rfl (run_move rfl (hF.ev rfl)) ?_; clear hF; intro a hF
      refine op_val (v := .int .i64 p105.2.1) rfl rfl hF rfl (run_move rfl (hF.ev rfl)) ?_; clear hF; intro a hF
      obtain ⟨hk108, hM104⟩ := chk_ex hM104
      replace hk108 := ixB_t hk108
      refine op_val (v := .pointer (some ⟨adB A0, adO A0 + p105.2.2.toNat * 3, none⟩)) rfl rfl hF rfl (run_indexAddr (b := adB A0) (off := adO A0) rfl Try.underlying42 sz32 ((hF.ev rfl).trans (congrArg (fun A => Value.slice A x0.length c0) ((S.rc 0 rfl).rd.ad (ix_pos hk108)))) (hF.ev rfl) hk108.1 hk108.2 (k' := adO A0 + p105.2.2.toNat * 3) rfl) ?_; clear hF; intro a hF
      refine op_val (v := .pointer (some ⟨adB A0, adO A0 + p105.2.2.toNat * 3, none⟩)) rfl rfl hF rfl (run_fieldAddr rfl fl32_0 (hF.ev rfl) rfl) ?_; clear hF; intro a hF
      obtain ⟨w', hrun, S'⟩ := run_storeElN (P := Try.prog) (ρ := a.eval) (y0 := (p105.2.1, (p105.1.getD p105.2.2.toNat ((0, 0, 0) : Int × Int × Int)).2.1, (p105.1.getD p105.2.2.toNat ((0, 0, 0) : Int × Int × Int)).2.2)) (off := 0) S 3 (.tmp 16) (.tmp 14) (i := 0) sz3 (hF.ev rfl) (hF.ev rfl) rfl rfl rfl rfl hn106 eRoomDeed_len ((0, 0, 0) : Int × Int × Int) (ix_ltn hk108 hn106) rfl rfl
      refine op_do rfl rfl (hrun _ rfl) ?_; clear hrun S; have S := S'; clear S'; generalize w' = u at S ⊢
      refine wpList_nil ?_
      refine wp_seq ?_
      refine wp_region_lit ?_
      refine op_val (v := .int .i64 p105.2.1) rfl rfl hF rfl (run_move rfl (hF.ev rfl)) ?_; clear hF; intro a hF
      refine op_val (v := .int .i64 (w64 (p105.2.1 + 1))) rfl rfl hF rfl (run_add (z := w64 (p105.2.1 + 1)) (hF.ev rfl) rfl rfl rfl) ?_; clear hF; intro a hF
      refine op_val (v := .int .i64 (w64 (p105.2.1 + 1))) rfl rfl hF rfl (run_assign rfl (hF.ev rfl)) ?_; clear hF; intro a hF
      refine wpList_nil ?_
      refine wp_seq ?_
      refine wp_region_lit ?_
      refine op_val (v := .slice A0 x0.length c0) rfl rfl hF rfl (run_move rfl (hF.ev rfl)) ?_; clear hF; intro a hF
      refine op_val (v := .int .i64 p105.2.2) rfl rfl hF rfl (run_move rfl (hF.ev rfl)) ?_; clear hF; intro a hF
      refine op_val (v := .int .i64 (w64 (p105.2.1 + 1))) rfl rfl hF rfl (run_move rfl (hF.ev rfl)) ?_; clear hF; intro a hF
      obtain ⟨hk109, hM104⟩ := chk_ex hM104
      replace hk109 := ixB_t hk109
      refine op_val (v := .pointer (some ⟨adB A0, adO A0 + p105.2.2.toNat * 3, none⟩)) rfl rfl hF rfl (run_indexAddr (b := adB A0) (off := adO A0) rfl Try.underlying42 sz32 ((hF.ev rfl).trans (congrArg (fun A => Value.slice A x0.length c0) ((S.rc 0 rfl).rd.ad (ix_pos hk109)))) (hF.ev rfl) hk109.1 hk109.2 (k' := adO A0 + p105.2.2.toNat * 3) rfl) ?_; clear hF; intro a hF
      refine op_val (v := .pointer (some ⟨adB A0, adO A0 + p105.2.2.toNat * 3 + 1, none⟩)) rfl rfl hF rfl (run_fieldAddr rfl fl32_1 (hF.ev rfl) rfl) ?_; clear hF; intro a hF
      obtain ⟨w', hrun, S'⟩ := run_storeEl2 (P := Try.prog) (ρ := a.eval) (l := p105.1) (y0 := (p105.2.1, (p105.1.getD p105.2.2.toNat ((0, 0, 0) : Int × Int × Int)).2.1, (p105.1.getD p105.2.2.toNat ((0, 0, 0) : Int × Int × Int)).2.2)) (y1 := (p105.2.1, w64 (p105.2.1 + 1), (p105.1.getD p105.2.2.toNat ((0, 0, 0) : Int × Int × Int)).2.2)) (off := 1) S 3 (.tmp 23) (.tmp 21) (i := 0) sz3 (hF.ev rfl) (hF.ev rfl) rfl rfl rfl rfl hn106 eRoomDeed_len (ix_ltn hk109 hn106) rfl rfl
      refine op_do rfl rfl (hrun _ rfl) ?_; clear hrun S; have S := S'; clear S'; generalize w' = u at S ⊢
      refine wpList_nil ?_
      refine wp_seq ?_
      refine wp_region_lit ?_
      refine op_val (v := .int .i64 (w64 (p105.2.1 + 1))) rfl rfl hF rfl (run_move rfl (hF.ev rfl)) ?_; clear hF; intro a hF
      refine op_val (v := .int .i64 (w64 ((w64 (p105.2.1 + 1)) + 1))) rfl rfl hF rfl (run_add (z := w64 ((w64 (p105.2.1 + 1)) + 1)) (hF.ev rfl) rfl rfl rfl) ?_; clear hF; intro a hF
      refine op_val (v := .int .i64 (w64 ((w64 (p105.2.1 + 1)) + 1))) rfl rfl hF rfl (run_assign rfl (hF.ev rfl)) ?_; clear hF; intro a hF
      refine wpList_nil ?_
      refine wp_seq ?_
      refine wp_region_lit ?_
      refine op_val (v := .slice A0 x0.length c0) rfl rfl hF rfl (run_move rfl (hF.ev rfl)) ?_; clear hF; intro a hF
      refine op_val (v := .int .i64 p105.2.2) rfl rfl hF rfl (run_move rfl (hF.ev rfl)) ?_; clear hF; intro a hF
      refine op_val (v := .int .i64 (w64 ((w64 (p105.2.1 + 1)) + 1))) rfl rfl hF rfl (run_move rfl (hF.ev rfl)) ?_; clear hF; intro a hF
      obtain ⟨hk110, hM104⟩ := chk_ex hM104
      replace hk110 := ixB_t hk110
      refine op_val (v := .pointer (some ⟨adB A0, adO A0 + p105.2.2.toNat * 3, none⟩)) rfl rfl hF rfl (run_indexAddr (b := adB A0) (off := adO A0) rfl Try.underlying42 sz32 ((hF.ev rfl).trans (congrArg (fun A => Value.slice A x0.length c0) ((S.rc 0 rfl).rd.ad (ix_pos hk110)))) (hF.ev rfl) hk110.1 hk110.2 (k' := adO A0 + p105.2.2.toNat * 3) rfl) ?_; clear hF; intro a hF
      refine op_val (v := .pointer (some ⟨adB A0, adO A0 + p105.2.2.toNat * 3 + 2, none⟩)) rfl rfl hF rfl (run_fieldAddr rfl fl32_2 (hF.ev rfl) rfl) ?_; clear hF; intro a hF
      obtain ⟨w', hrun, S'⟩ := run_storeEl2 (P := Try.prog) (ρ := a.eval) (l := p105.1) (y0 := (p105.2.1, w64 (p105.2.1 + 1), (p105.1.getD p105.2.2.toNat ((0, 0, 0) : Int × Int × Int)).2.2)) (y1 := (p105.2.1, w64 (p105.2.1 + 1), w64 ((w64 (p105.2.1 + 1)) + 1))) (off := 2) S 3 (.tmp 30) (.tmp 28) (i := 0) sz3 (hF.ev rfl) (hF.ev rfl) rfl rfl rfl rfl hn106 eRoomDeed_len (ix_ltn hk110 hn106) rfl rfl
      refine op_do rfl rfl (hrun _ rfl) ?_; clear hrun S; have S := S'; clear S'; generalize w' = u at S ⊢
      refine wpList_nil ?_
      refine wp_region_lit ?_
      refine op_val (v := .int .i64 (w64 ((w64 (p105.2.1 + 1)) + 1))) rfl rfl hF rfl (run_move rfl (hF.ev rfl)) ?_; clear hF; intro a hF
      refine op_val (v := .int .i64 (w64 ((w64 ((w64 (p105.2.1 + 1)) + 1)) + 1))) rfl rfl hF rfl (run_add (z := w64 ((w64 ((w64 (p105.2.1 + 1)) + 1)) + 1)) (hF.ev rfl) rfl rfl rfl) ?_; clear hF; intro a hF
      refine op_val (v := .int .i64 (w64 ((w64 ((w64 (p105.2.1 + 1)) + 1)) + 1))) rfl rfl hF rfl (run_assign rfl (hF.ev rfl)) ?_; clear hF; intro a hF
      refine wpList_nil ?_
      refine wp_region_lit ?_
      refine op_val (v := .int .i64 p105.2.2) rfl rfl hF rfl (run_move rfl (hF.ev rfl)) ?_; clear hF; intro a hF
      refine op_val (v := .int .i64 (w64 (p105.2.2 + 1))) rfl rfl hF rfl (run_add (z := w64 (p105.2.2 + 1)) (hF.ev rfl) rfl rfl rfl) ?_; clear hF; intro a hF
      refine op_val (v := .int .i64 (w64 (p105.2.2 + 1))) rfl rfl hF rfl (run_assign rfl (hF.ev rfl)) ?_; clear hF; intro a hF
      refine wpList_nil ?_
      exact ⟨f1, Nat.lt_succ_self _, (p105.1.set p105.2.2.toNat (p105.2.1, w64 (p105.2.1 + 1), w64 ((w64 (p105.2.1 + 1)) + 1)), w64 ((w64 ((w64 (p105.2.1 + 1)) + 1)) + 1), w64 (p105.2.2 + 1)), hM104, (len_set hn106), hF.keep _ ⟨rfl, rfl, rfl, rfl, trivial⟩, S.selT (M := [.row 32 3 (.slice A0 x0.length c0) x0.length ((p105.1.set p105.2.2.toNat (p105.2.1, w64 (p105.2.1 + 1), w64 ((w64 (p105.2.1 + 1)) + 1))).flatMap eRoomDeed)]) 1 [0] rfl rfl rfl⟩
  · rintro a u ⟨p101, rfl, hn103, hF, S⟩
    refine wp_seq ?_
    refine wp_region_lit ?_
    refine op_val (v := .int .i64 p101.1) rfl rfl hF rfl (run_move rfl (hF.ev rfl)) ?_; clear hF; intro a hF
    refine op_val (v := .int .i64 p101.1) rfl rfl hF rfl (run_assign rfl (hF.ev rfl)) ?_; clear hF; intro a hF
    refine wpList_nil ?_
    refine wp_ret ?_
    repeat with_reducible (first | refine then_ret ?_ | refine in_ret ?_ | refine in_nrm ?_)
    refine ret1_gw (.inl rfl) hF rfl (res_tmp (hF.ev rfl)) ?_
    obtain rfl := Option.some.inj hM
    exact ⟨rfl, hn103, S.selT (M := [.row 32 3 (.slice A0 x0.length c0) x0.length (p101.2.flatMap eRoomDeed)]) 1 [0] rfl rfl rfl⟩

set_option maxHeartbeats 4000000 in
theorem c_laws_FnExactRoomsRun {x0 : Int} {x1 : Int} {x2 : List Int} {x3 : List (Int × Int × Int)} {A2 : Option Addr} {n2 c2 : Nat} {A3 : Option Addr} {n3 c3 : Nat} {w : World} {r : Bool} (h2 : Rt w 1 eI A2 n2 c2 x2) (h3 : Rt w 3 eLRoomDeed A3 n3 c3 x3) (hM : m_laws_FnExactRoomsRun x0 x1 x2 x3 = some r) :
    Calls Try.prog 5 #[.agg #[.int .i64 x0, .int .i64 x1, .slice A2 n2 c2], .slice A3 n3 c3] w (fun e w' => e = .returned (.bool r) ∧ St w w' []) := by
  obtain rfl := h2.len
  obtain rfl := h3.len
  unfold m_laws_FnExactRoomsRun at hM
  refine calls_gw Try.func5 Try.ntmps5 rfl [(0, .agg #[.int .i64 x0, .int .i64 x1, .slice A2 x2.length c2]), (1, .slice A3 x3.length c3)] ⟨rfl, rfl, trivial⟩ rfl ?_
  intro a hF
  have S := St.nil w
  refine wp_seq ?_
  refine wp_region_lit ?_
  refine op_new (cs := #[.int .i64 x0, .int .i64 x1, .slice A2 x2.length c2]) rfl rfl hF rfl S (run_box rfl (hF.ev rfl) rfl) ?_; clear hF S; intro a g101 u hF S
  refine op_val (v := .bool false) rfl rfl hF rfl (run_assign rfl rfl) ?_; clear hF; intro a hF
  refine wpList_nil ?_
  refine wp_seq ?_
  refine wp_region_lit ?_
  refine op_val (v := .int .i64 1048576) rfl rfl hF rfl (run_assign rfl rfl) ?_; clear hF; intro a hF
  refine wpList_nil ?_
  refine wp_seq ?_
  refine wp_region_lit ?_
  refine op_val (v := .agg #[.int .i64 x0, .int .i64 x1, .slice A2 x2.length c2]) rfl rfl hF rfl (run_loadN rfl ag24 (hF.ev rfl) rfl ((S.free 0 rfl).cells 0 #[.int .i64 x0, .int .i64 x1, .slice A2 x2.length c2] rfl)) ?_; clear hF; intro a hF
  refine op_val (v := .int .i64 1048576) rfl rfl hF rfl (run_move rfl (hF.ev rfl)) ?_; clear hF; intro a hF
  obtain ⟨p102, h102, hM⟩ := bind_ex hM
  refine op_call rfl rfl hF rfl (run_call (vs := [.agg #[.int .i64 x0, .int .i64 x1, .slice A2 x2.length c2], .int .i64 1048576]) rfl rfl co6 ⟨(hF.ev rfl), (hF.ev rfl), trivial⟩) (c_laws_szRooms (x0 := x0) (x1 := x1) (x2 := x2) (x3 := 1048576) ⟨(S.rc0 h2.rc), rfl⟩ h102) ?_
  rintro e u ⟨rfl, T⟩
  refine ⟨_, rfl, ?_⟩
  clear hF; intro a hF
  replace S := S.call0 T; clear T
  refine op_val (v := .int .i64 p102) rfl rfl hF rfl (run_assign rfl (hF.ev rfl)) ?_; clear hF; intro a hF
  refine wpList_nil ?_
  refine wp_seq ?_
  refine wp_seq ?_
  refine wp_region_lit ?_
  refine op_val (v := .int .i64 p102) rfl rfl hF rfl (run_move rfl (hF.ev rfl)) ?_; clear hF; intro a hF
  refine op_val (v := .bool (ltB p102 0)) rfl rfl hF rfl (run_lss (hF.ev rfl) rfl rfl) ?_; clear hF; intro a hF
  refine wpList_nil ?_
  cases hc103 : (ltB p102 0)
  · replace hM := bif_f hc103 hM
    refine cond_f hF rfl hc103 ?_
    refine wp_skip ?_
    refine wp_seq ?_
    refine wp_region_lit ?_
    refine op_val (v := .slice A3 x3.length c3) rfl rfl hF rfl (run_move rfl (hF.ev rfl)) ?_; clear hF; intro a hF
    refine op_val (v := .int .i64 p102) rfl rfl hF rfl (run_move rfl (hF.ev rfl)) ?_; clear hF; intro a hF
    obtain ⟨p104, h104, hM⟩ := bind_ex hM
    refine op_call rfl rfl hF rfl (run_call (vs := [.slice A3 x3.length c3, .int .i64 p102]) rfl rfl co16 ⟨(hF.ev rfl), (hF.ev rfl), trivial⟩) (c_laws_szRoomDeedS (x0 := x3) (x1 := p102) ⟨(S.rc0 h3.rc), rfl⟩ h104) ?_
    rintro e u ⟨rfl, T⟩
    refine ⟨_, rfl, ?_⟩
    clear hF; intro a hF
    replace S := S.call0 T; clear T
    refine op_val (v := .int .i64 p104) rfl rfl hF rfl (run_assign rfl (hF.ev rfl)) ?_; clear hF; intro a hF
    refine wpList_nil ?_
    refine wp_seq ?_
    refine wp_seq ?_
    refine wp_region_lit ?_
    refine op_val (v := .int .i64 p104) rfl rfl hF rfl (run_move rfl (hF.ev rfl)) ?_; clear hF; intro a hF
    refine op_val (v := .bool (ltB p104 0)) rfl rfl hF rfl (run_lss (hF.ev rfl) rfl rfl) ?_; clear hF; intro a hF
    refine wpList_nil ?_
    cases hc105 : (ltB p104 0)
    · replace hM := bif_f hc105 hM
      refine cond_f hF rfl hc105 ?_
      refine wp_skip ?_
      refine wp_seq ?_
      refine wp_region_lit ?_
      refine op_val (v := .agg #[.int .i64 x0, .int .i64 x1, .slice A2 x2.length c2]) rfl rfl hF rfl (run_loadN rfl ag24 (hF.ev rfl) rfl ((S.free 0 rfl).cells 0 #[.int .i64 x0, .int .i64 x1, .slice A2 x2.length c2] rfl)) ?_; clear hF; intro a hF
      obtain ⟨p106, h106, hM⟩ := bind_ex hM
      refine op_call rfl rfl hF rfl (run_call (vs := [.agg #[.int .i64 x0, .int .i64 x1, .slice A2 x2.length c2]]) rfl rfl co8 ⟨(hF.ev rfl), trivial⟩) (c_laws_toRooms (x0 := x0) (x1 := x1) (x2 := x2) ⟨(S.rc0 h2.rc), rfl⟩ h106) ?_
      rintro e u ⟨B107, n108, d109, rfl, rfl, T⟩
      refine ⟨_, rfl, ?_⟩
      clear hF; intro a hF
      replace S := S.call1 T; clear T
      refine op_val (v := .slice A3 x3.length c3) rfl rfl hF rfl (run_move rfl (hF.ev rfl)) ?_; clear hF; intro a hF
      obtain ⟨p110, h110, hM⟩ := bind_ex hM
      refine op_call rfl rfl hF rfl (run_call (vs := [.slice A3 x3.length c3]) rfl rfl co18 ⟨(hF.ev rfl), trivial⟩) (c_laws_toRoomDeedS (x0 := x3) ⟨(S.rc0 h3.rc), rfl⟩ h110) ?_
      rintro e u ⟨B111, n112, d113, rfl, rfl, T⟩
      refine ⟨_, rfl, ?_⟩
      clear hF; intro a hF
      replace S := S.call1 T; clear T
      obtain ⟨p114, h114, hM⟩ := bind_ex hM
      refine op_call rfl rfl hF rfl (run_call (vs := [.agg #[.int .i64 p106.1, .int .i64 p106.2.1, .slice B107 p106.2.2.length d109], .slice B111 p110.length d113]) rfl rfl co17 ⟨(hF.ev rfl), (hF.ev rfl), trivial⟩) (c_spec_RoomsRun (x0 := p106.1) (x1 := p106.2.1) (x2 := p106.2.2) (x3 := p110) ⟨(S.rc 1 rfl), rfl⟩ ⟨(S.rc 0 rfl), rfl⟩ h114) ?_
      rintro e u ⟨B115, n116, d117, rfl, rfl, T⟩
      refine ⟨_, rfl, ?_⟩
      clear hF; intro a hF
      replace S := S.call1 T; clear T
      refine op_new (cs := #[.int .i64 0, .int .i64 0, .slice none 0 0]) rfl rfl hF rfl S (run_allocZ rfl zr28) ?_; clear hF S; intro a g118 u hF S
      refine op_do rfl rfl (run_store (cs' := #[.int .i64 p114.1, .int .i64 p114.2.1, .slice B115 p114.2.2.length d117]) rfl sz28 (hF.ev rfl) (hF.ev rfl) rfl rfl rfl (S.free 0 rfl) rfl rfl) ?_; replace S := S.put 0 rfl (#[.int .i64 p114.1, .int .i64 p114.2.1, .slice B115 p114.2.2.length d117])
      generalize World.setRow _ _ _ = u at S ⊢
      refine wpList_nil ?_
      refine wp_seq ?_
      refine wp_region_lit ?_
      refine op_val (v := .agg #[.int .i64 x0, .int .i64 x1, .slice A2 x2.length c2]) rfl rfl hF rfl (run_loadN rfl ag24 (hF.ev rfl) rfl ((S.free 4 rfl).cells 0 #[.int .i64 x0, .int .i64 x1, .slice A2 x2.length c2] rfl)) ?_; clear hF; intro a hF
      obtain ⟨p119, h119, hM⟩ := bind_ex hM
      refine op_call rfl rfl hF rfl (run_call (vs := [.agg #[.int .i64 x0, .int .i64 x1, .slice A2 x2.length c2]]) rfl rfl co8 ⟨(hF.ev rfl), trivial⟩) (c_laws_toRooms (x0 := x0) (x1 := x1) (x2 := x2) ⟨(S.rc0 h2.rc), rfl⟩ h119) ?_
      rintro e u ⟨B120, n121, d122, rfl, rfl, T⟩
      refine ⟨_, rfl, ?_⟩
      clear hF; intro a hF
      replace S := S.call1 T; clear T
      refine op_new (cs := #[.int .i64 0, .int .i64 0, .slice none 0 0]) rfl rfl hF rfl S (run_allocZ rfl zr28) ?_; clear hF S; intro a g123 u hF S
      refine op_do rfl rfl (run_store (cs' := #[.int .i64 p119.1, .int .i64 p119.2.1, .slice B120 p119.2.2.length d122]) rfl sz28 (hF.ev rfl) (hF.ev rfl) rfl rfl rfl (S.free 0 rfl) rfl rfl) ?_; replace S := S.put 0 rfl (#[.int .i64 p119.1, .int .i64 p119.2.1, .slice B120 p119.2.2.length d122])
      generalize World.setRow _ _ _ = u at S ⊢
      refine wpList_nil ?_
      refine wp_seq ?_
      refine wp_region_lit ?_
      refine op_val (v := .slice A3 x3.length c3) rfl rfl hF rfl (run_move rfl (hF.ev rfl)) ?_; clear hF; intro a hF
      obtain ⟨p124, h124, hM⟩ := bind_ex hM
      refine op_call rfl rfl hF rfl (run_call (vs := [.slice A3 x3.length c3]) rfl rfl co18 ⟨(hF.ev rfl), trivial⟩) (c_laws_toRoomDeedS (x0 := x3) ⟨(S.rc0 h3.rc), rfl⟩ h124) ?_
      rintro e u ⟨B125, n126, d127, rfl, rfl, T⟩
      refine ⟨_, rfl, ?_⟩
      clear hF; intro a hF
      replace S := S.call1 T; clear T
      refine op_val (v := .slice B125 p124.length d127) rfl rfl hF rfl (run_assign rfl (hF.ev rfl)) ?_; clear hF; intro a hF
      refine wpList_nil ?_
      refine wp_seq ?_
      refine wp_region_lit ?_
      refine op_val (v := .agg #[.int .i64 p119.1, .int .i64 p119.2.1, .slice B120 p119.2.2.length d122]) rfl rfl hF rfl (run_loadN rfl ag28 (hF.ev rfl) rfl ((S.free 1 rfl).cells 0 #[.int .i64 p119.1, .int .i64 p119.2.1, .slice B120 p119.2.2.length d122] rfl)) ?_; clear hF; intro a hF
      refine op_val (v := .slice B125 p124.length d127) rfl rfl hF rfl (run_move rfl (hF.ev rfl)) ?_; clear hF; intro a hF
      obtain ⟨p128, h128, hM⟩ := bind_ex hM
      refine op_call rfl rfl hF rfl (run_call (vs := [.agg #[.int .i64 p119.1, .int .i64 p119.2.1, .slice B120 p119.2.2.length d122], .slice B125 p124.length d127]) rfl rfl co19 ⟨(hF.ev rfl), (hF.ev rfl), trivial⟩) (c_impl_RoomsRun (x0 := p119.1) (x1 := p119.2.1) (x2 := p119.2.2) (x3 := p124) ⟨(S.rc 2 rfl), rfl⟩ ⟨(S.rc 0 rfl), rfl⟩ h128) ?_
      rintro e u ⟨B129, n130, d131, rfl, rfl, T⟩
      refine ⟨_, rfl, ?_⟩
      clear hF; intro a hF
      replace S := S.call1 T; clear T
      refine op_new (cs := #[.int .i64 0, .int .i64 0, .slice none 0 0]) rfl rfl hF rfl S (run_allocZ rfl zr28) ?_; clear hF S; intro a g132 u hF S
      refine op_do rfl rfl (run_store (cs' := #[.int .i64 p128.1, .int .i64 p128.2.1, .slice B129 p128.2.2.length d131]) rfl sz28 (hF.ev rfl) (hF.ev rfl) rfl rfl rfl (S.free 0 rfl) rfl rfl) ?_; replace S := S.put 0 rfl (#[.int .i64 p128.1, .int .i64 p128.2.1, .slice B129 p128.2.2.length d131])
      generalize World.setRow _ _ _ = u at S ⊢
      refine wpList_nil ?_
      refine wp_seq ?_
      refine wp_seq ?_
      refine wp_region_lit ?_
      refine op_val (v := .agg #[.int .i64 p128.1, .int .i64 p128.2.1, .slice B129 p128.2.2.length d131]) rfl rfl hF rfl (run_loadN rfl ag28 (hF.ev rfl) rfl ((S.free 0 rfl).cells 0 #[.int .i64 p128.1, .int .i64 p128.2.1, .slice B129 p128.2.2.length d131] rfl)) ?_; clear hF; intro a hF
      refine op_val (v := .agg #[.int .i64 p114.1, .int .i64 p114.2.1, .slice B115 p114.2.2.length d117]) rfl rfl hF rfl (run_loadN rfl ag28 (hF.ev rfl) rfl ((S.free 5 rfl).cells 0 #[.int .i64 p114.1, .int .i64 p114.2.1, .slice B115 p114.2.2.length d117] rfl)) ?_; clear hF; intro a hF
      obtain ⟨p133, h133, hM⟩ := bind_ex hM
      refine op_call rfl rfl hF rfl (run_call (vs := [.agg #[.int .i64 p128.1, .int .i64 p128.2.1, .slice B129 p128.2.2.length d131], .agg #[.int .i64 p114.1, .int .i64 p114.2.1, .slice B115 p114.2.2.length d117]]) rfl rfl co11 ⟨(hF.ev rfl), (hF.ev rfl), trivial⟩) (c_laws_eqRooms (x0 := p128.1) (x1 := p128.2.1) (x2 := p128.2.2) (x3 := p114.1) (x4 := p114.2.1) (x5 := p114.2.2) ⟨(S.rc 1 rfl), rfl⟩ ⟨(S.rc 6 rfl), rfl⟩ h133) ?_
      rintro e u ⟨rfl, T⟩
      refine ⟨_, rfl, ?_⟩
      clear hF; intro a hF
      replace S := S.call0 T; clear T
      refine op_val (v := .bool (!p133)) rfl rfl hF rfl (run_not rfl (hF.ev rfl)) ?_; clear hF; intro a hF
      refine wpList_nil ?_
      cases hc134 : (p133)
      · replace hM := bif_f hc134 hM
        refine cond_t hF rfl (not_t hc134) ?_
        refine wp_seq ?_
        refine wp_region_lit ?_
        refine op_val (v := .bool false) rfl rfl hF rfl (run_assign rfl rfl) ?_; clear hF; intro a hF
        refine wpList_nil ?_
        refine wp_ret ?_
        repeat with_reducible (first | refine then_ret ?_ | refine in_ret ?_ | refine in_nrm ?_)
        refine ret1_gw (.inl rfl) hF rfl (res_tmp (hF.ev rfl)) ?_
        obtain rfl := Option.some.inj hM
        exact ⟨rfl, S.sel [] rfl rfl⟩
      · replace hM := bif_t hc134 hM
        refine cond_f hF rfl (not_f hc134) ?_
        refine wp_skip ?_
        refine wp_seq ?_
        refine wp_seq ?_
        obtain ⟨p135, h135, hM⟩ := bind_ex hM
        obtain ⟨p139, h139, hM⟩ := bind_ex hM
        refine region_gw (D := [40, 41, 42, 43, 44]) (Lr := [.box g132 28 #[.int .i64 p128.1, .int .i64 p128.2.1, .slice B129 p128.2.2.length d131], .row 3 1 (.slice B129 p128.2.2.length d131) p128.2.2.length (p128.2.2.flatMap eI), .row 32 3 (.slice B125 p124.length d127) p124.length (p124.flatMap eRoomDeed), .box g123 28 #[.int .i64 p119.1, .int .i64 p119.2.1, .slice B120 p119.2.2.length d122], .row 3 1 (.slice B120 p119.2.2.length d122) p119.2.2.length (p119.2.2.flatMap eI), .box g118 28 #[.int .i64 p114.1, .int .i64 p114.2.1, .slice B115 p114.2.2.length d117], .row 3 1 (.slice B115 p114.2.2.length d117) p114.2.2.length (p114.2.2.flatMap eI), .row 32 3 (.slice B111 p110.length d113) p110.length (p110.flatMap eRoomDeed), .row 3 1 (.slice B107 p106.2.2.length d109) p106.2.2.length (p106.2.2.flatMap eI), .box g101 24 #[.int .i64 x0, .int .i64 x1, .slice A2 x2.length c2]]) (deps := (fun | 0 => [40] | 1 => [41] | 2 => [42] | 3 => [43] | 4 => [44] | _ => [])) (rd := (fun | 3 => [2] | _ => [])) (zr := (fun _ => []))
          (φ := fun i vs => match i, vs with | 0, [v40] => v40 = .agg #[.int .i64 p119.1, .int .i64 p119.2.1, .slice B120 p119.2.2.length d122] | 1, [v41] => v41 = .agg #[.int .i64 x0, .int .i64 x1, .slice A2 x2.length c2] | 2, [v42] => v42 = .agg #[.int .i64 p135.1, .int .i64 p135.2.1, .slice (slA (vtup v42 2)) p135.2.2.length (slC (vtup v42 2))] | 3, [v43] => v43 = .bool p139 | 4, [v44] => v44 = .bool (!p139) | _, _ => True)
          (C := fun i vs => match i, vs with | 2, [v42] => [.row 3 1 (.slice (slA (vtup v42 2)) p135.2.2.length (slC (vtup v42 2))) p135.2.2.length (p135.2.2.flatMap eI)] | _, _ => [])
          (κ := (fun _ => none)) (Z := (fun _ => [])) mixed hF (by kernel_rfl) S ?_ ?_
        · refine ⟨?_, ?_, ?_, ?_, ?_, trivial⟩
          · intro a u X hB hp hr hz hl S
            replace S : St w u ([] ++ X) := S
            exact .inl ⟨rfl, .agg #[.int .i64 p119.1, .int .i64 p119.2.1, .slice B120 p119.2.2.length d122], u, (run_loadN rfl ag28 (hF.evB hB rfl rfl) rfl ((gr_box S hl 3 rfl).cells 0 #[.int .i64 p119.1, .int .i64 p119.2.1, .slice B120 p119.2.2.length d122] rfl)), rfl, S⟩
          · intro a u X hB hp hr hz hl S
            replace S : St w u ([] ++ X) := S
            exact .inl ⟨rfl, .agg #[.int .i64 x0, .int .i64 x1, .slice A2 x2.length c2], u, (run_loadN rfl ag24 (hF.evB hB rfl rfl) rfl ((gr_box S hl 9 rfl).cells 0 #[.int .i64 x0, .int .i64 x1, .slice A2 x2.length c2] rfl)), rfl, S⟩
          · intro a u X hB hp hr hz hl S
            replace S : St w u ([] ++ X) := S
            have e41 : sl a 41 = .agg #[.int .i64 x0, .int .i64 x1, .slice A2 x2.length c2] := hp 1 rfl
            refine .inr (.inr (.inl ⟨rfl, _, _, (run_call (vs := [.agg #[.int .i64 x0, .int .i64 x1, .slice A2 x2.length c2]]) rfl rfl co8 ⟨(ev_sl e41), trivial⟩), ?_⟩))
            refine Calls.mono (c_laws_toRooms (x0 := x0) (x1 := x1) (x2 := x2) ⟨(S.rc0 h2.rc), rfl⟩ h135) ?_
            rintro e w1 ⟨B136, n137, d138, rfl, rfl, T⟩
            exact ⟨_, rfl, rfl, S.call T⟩
          · intro a u X hB hp hr hz hl S
            replace S : St w u ([] ++ X) := S
            have e40 : sl a 40 = .agg #[.int .i64 p119.1, .int .i64 p119.2.1, .slice B120 p119.2.2.length d122] := hp 0 rfl
            have e42 : sl a 42 = .agg #[.int .i64 p135.1, .int .i64 p135.2.1, .slice (slA (vtup (sl a 42) 2)) p135.2.2.length (slC (vtup (sl a 42) 2))] := hp 2 rfl
            refine .inr (.inr (.inl ⟨rfl, _, _, (run_call (vs := [.agg #[.int .i64 p119.1, .int .i64 p119.2.1, .slice B120 p119.2.2.length d122], .agg #[.int .i64 p135.1, .int .i64 p135.2.1, .slice (slA (vtup (sl a 42) 2)) p135.2.2.length (slC (vtup (sl a 42) 2))]]) rfl rfl co11 ⟨(ev_sl e40), (ev_sl e42), trivial⟩), ?_⟩))
            refine Calls.mono (c_laws_eqRooms (x0 := p119.1) (x1 := p119.2.1) (x2 := p119.2.2) (x3 := p135.1) (x4 := p135.2.1) (x5 := p135.2.2) ⟨(gr_rc S hl 4 rfl), rfl⟩ ⟨(own_rc (show World.ownsRow _ 0 _ _ _ _ _ from S.mem (List.mem_append_right _ (hr 2 (List.mem_of_getElem? (i := 0) rfl) _ (List.mem_of_getElem? (i := 0) rfl))))), rfl⟩ h139) ?_
            rintro e w1 ⟨rfl, T⟩
            exact ⟨_, rfl, rfl, S.call T⟩
          · intro a u X hB hp hr hz hl S
            replace S : St w u ([] ++ X) := S
            have e43 : sl a 43 = .bool p139 := hp 3 rfl
            exact .inl ⟨rfl, .bool (!p139), u, (run_not rfl (ev_sl e43)), rfl, S⟩
        · intro a u hB hp S
          obtain ⟨q0, q1, q2, q3, q4, _⟩ := hp
          have e40 : sl a 40 = .agg #[.int .i64 p119.1, .int .i64 p119.2.1, .slice B120 p119.2.2.length d122] := q0
          have e41 : sl a 41 = .agg #[.int .i64 x0, .int .i64 x1, .slice A2 x2.length c2] := q1
          have e42 : sl a 42 = .agg #[.int .i64 p135.1, .int .i64 p135.2.1, .slice (slA (vtup (sl a 42) 2)) p135.2.2.length (slC (vtup (sl a 42) 2))] := q2
          have e43 : sl a 43 = .bool p139 := q3
          have e44 : sl a 44 = .bool (!p139) := q4
          replace S : St w u [.row 3 1 (.slice (slA (vtup (sl a 42) 2)) p135.2.2.length (slC (vtup (sl a 42) 2))) p135.2.2.length (p135.2.2.flatMap eI), .box g132 28 #[.int .i64 p128.1, .int .i64 p128.2.1, .slice B129 p128.2.2.length d131], .row 3 1 (.slice B129 p128.2.2.length d131) p128.2.2.length (p128.2.2.flatMap eI), .row 32 3 (.slice B125 p124.length d127) p124.length (p124.flatMap eRoomDeed), .box g123 28 #[.int .i64 p119.1, .int .i64 p119.2.1, .slice B120 p119.2.2.length d122], .row 3 1 (.slice B120 p119.2.2.length d122) p119.2.2.length (p119.2.2.flatMap eI), .box g118 28 #[.int .i64 p114.1, .int .i64 p114.2.1, .slice B115 p114.2.2.length d117], .row 3 1 (.slice B115 p114.2.2.length d117) p114.2.2.length (p114.2.2.flatMap eI), .row 32 3 (.slice B111 p110.length d113) p110.length (p110.flatMap eRoomDeed), .row 3 1 (.slice B107 p106.2.2.length d109) p106.2.2.length (p106.2.2.flatMap eI), .box g101 24 #[.int .i64 x0, .int .i64 x1, .slice A2 x2.length c2]] := S
          clear q0 q1 q2 q3 q4
          generalize slA (vtup (sl a 42) 2) = B140 at *
          generalize slC (vtup (sl a 42) 2) = d141 at *
          have hF := hF.region hB [(40, .agg #[.int .i64 p119.1, .int .i64 p119.2.1, .slice B120 p119.2.2.length d122]), (41, .agg #[.int .i64 x0, .int .i64 x1, .slice A2 x2.length c2]), (42, .agg #[.int .i64 p135.1, .int .i64 p135.2.1, .slice B140 p135.2.2.length d141]), (43, .bool p139), (44, .bool (!p139))] (allSl_mem ⟨e40, e41, e42, e43, e44, trivial⟩) rfl
          clear hB e40 e41 e42 e43 e44
          cases hc142 : (p139)
          · replace hM := bif_f hc142 hM
            refine cond_t hF rfl (not_t hc142) ?_
            refine wp_seq ?_
            refine wp_region_lit ?_
            refine op_val (v := .bool false) rfl rfl hF rfl (run_assign rfl rfl) ?_; clear hF; intro a hF
            refine wpList_nil ?_
            refine wp_ret ?_
            repeat with_reducible (first | refine then_ret ?_ | refine in_ret ?_ | refine in_nrm ?_)
            refine ret1_gw (.inl rfl) hF rfl (res_tmp (hF.ev rfl)) ?_
            obtain rfl := Option.some.inj hM
            exact ⟨rfl, S.sel [] rfl rfl⟩
          · replace hM := bif_t hc142 hM
            refine cond_f hF rfl (not_f hc142) ?_
            refine wp_skip ?_
            refine wp_seq ?_
            refine wp_seq ?_
            refine wp_region_lit ?_
            refine op_val (v := .slice B125 p124.length d127) rfl rfl hF rfl (run_move rfl (hF.ev rfl)) ?_; clear hF; intro a hF
            refine op_val (v := .slice A3 x3.length c3) rfl rfl hF rfl (run_move rfl (hF.ev rfl)) ?_; clear hF; intro a hF
            obtain ⟨p143, h143, hM⟩ := bind_ex hM
            refine op_call rfl rfl hF rfl (run_call (vs := [.slice A3 x3.length c3]) rfl rfl co18 ⟨(hF.ev rfl), trivial⟩) (c_laws_toRoomDeedS (x0 := x3) ⟨(S.rc0 h3.rc), rfl⟩ h143) ?_
            rintro e u ⟨B144, n145, d146, rfl, rfl, T⟩
            refine ⟨_, rfl, ?_⟩
            clear hF; intro a hF
            replace S := S.call1 T; clear T
            obtain ⟨p147, h147, hM⟩ := bind_ex hM
            refine op_call rfl rfl hF rfl (run_call (vs := [.slice B125 p124.length d127, .slice B144 p143.length d146]) rfl rfl co20 ⟨(hF.ev rfl), (hF.ev rfl), trivial⟩) (c_laws_eqRoomDeedS (x0 := p124) (x1 := p143) ⟨(S.rc 4 rfl), rfl⟩ ⟨(S.rc 0 rfl), rfl⟩ h147) ?_
            rintro e u ⟨rfl, T⟩
            refine ⟨_, rfl, ?_⟩
            clear hF; intro a hF
            replace S := S.call0 T; clear T
            refine op_val (v := .bool (!p147)) rfl rfl hF rfl (run_not rfl (hF.ev rfl)) ?_; clear hF; intro a hF
            refine wpList_nil ?_
            cases hc148 : (p147)
            · replace hM := bif_f hc148 hM
              refine cond_t hF rfl (not_t hc148) ?_
              refine wp_seq ?_
              refine wp_region_lit ?_
              refine op_val (v := .bool false) rfl rfl hF rfl (run_assign rfl rfl) ?_; clear hF; intro a hF
              refine wpList_nil ?_
              refine wp_ret ?_
              repeat with_reducible (first | refine then_ret ?_ | refine in_ret ?_ | refine in_nrm ?_)
              refine ret1_gw (.inl rfl) hF rfl (res_tmp (hF.ev rfl)) ?_
              obtain rfl := Option.some.inj hM
              exact ⟨rfl, S.sel [] rfl rfl⟩
            · replace hM := bif_t hc148 hM
              refine cond_f hF rfl (not_f hc148) ?_
              refine wp_skip ?_
              refine wp_seq ?_
              refine wp_region_lit ?_
              refine op_val (v := .int .i64 1) rfl rfl hF rfl (run_assign rfl rfl) ?_; clear hF; intro a hF
              refine wpList_nil ?_
              refine wp_seq ?_
              refine wp_region_lit ?_
              refine op_val (v := .agg #[.int .i64 p119.1, .int .i64 p119.2.1, .slice B120 p119.2.2.length d122]) rfl rfl hF rfl (run_loadN rfl ag28 (hF.ev rfl) rfl ((S.free 5 rfl).cells 0 #[.int .i64 p119.1, .int .i64 p119.2.1, .slice B120 p119.2.2.length d122] rfl)) ?_; clear hF; intro a hF
              refine op_val (v := .int .i64 1) rfl rfl hF rfl (run_move rfl (hF.ev rfl)) ?_; clear hF; intro a hF
              obtain ⟨p149, h149, hM⟩ := bind_ex hM
              refine op_call rfl rfl hF rfl (run_call (vs := [.agg #[.int .i64 p119.1, .int .i64 p119.2.1, .slice B120 p119.2.2.length d122], .int .i64 1]) rfl rfl co12 ⟨(hF.ev rfl), (hF.ev rfl), trivial⟩) (c_laws_markRooms (x0 := p119.1) (x1 := p119.2.1) (x2 := p119.2.2) (x3 := 1) rfl (show St w _ [.row 3 1 (.slice B120 p119.2.2.length d122) p119.2.2.length (p119.2.2.flatMap eI), .row 32 3 (.slice B144 p143.length d146) p143.length (p143.flatMap eRoomDeed), .row 3 1 (.slice B140 p135.2.2.length d141) p135.2.2.length (p135.2.2.flatMap eI), .box g132 28 #[.int .i64 p128.1, .int .i64 p128.2.1, .slice B129 p128.2.2.length d131], .row 3 1 (.slice B129 p128.2.2.length d131) p128.2.2.length (p128.2.2.flatMap eI), .row 32 3 (.slice B125 p124.length d127) p124.length (p124.flatMap eRoomDeed), .box g123 28 #[.int .i64 p119.1, .int .i64 p119.2.1, .slice B120 p119.2.2.length d122], .box g118 28 #[.int .i64 p114.1, .int .i64 p114.2.1, .slice B115 p114.2.2.length d117], .row 3 1 (.slice B115 p114.2.2.length d117) p114.2.2.length (p114.2.2.flatMap eI), .row 32 3 (.slice B111 p110.length d113) p110.length (p110.flatMap eRoomDeed), .row 3 1 (.slice B107 p106.2.2.length d109) p106.2.2.length (p106.2.2.flatMap eI), .box g101 24 #[.int .i64 x0, .int .i64 x1, .slice A2 x2.length c2]] from S.sel [6, 0, 1, 2, 3, 4, 5, 7, 8, 9, 10, 11] rfl rfl) h149) ?_
              rintro e u ⟨rfl, hn150, T⟩
              refine ⟨_, rfl, ?_⟩
              clear hF; intro a hF
              clear S; have S := T; clear T
              refine op_val (v := .int .i64 p149.1) rfl rfl hF rfl (run_assign rfl (hF.ev rfl)) ?_; clear hF; intro a hF
              refine wpList_nil ?_
              refine wp_seq ?_
              refine wp_region_lit ?_
              refine op_val (v := .slice B125 p124.length d127) rfl rfl hF rfl (run_move rfl (hF.ev rfl)) ?_; clear hF; intro a hF
              refine op_val (v := .int .i64 p149.1) rfl rfl hF rfl (run_move rfl (hF.ev rfl)) ?_; clear hF; intro a hF
              obtain ⟨p151, h151, hM⟩ := bind_ex hM
              refine op_call rfl rfl hF rfl (run_call (vs := [.slice B125 p124.length d127, .int .i64 p149.1]) rfl rfl co21 ⟨(hF.ev rfl), (hF.ev rfl), trivial⟩) (c_laws_markRoomDeedS (x0 := p124) (x1 := p149.1) rfl (show St w _ [.row 32 3 (.slice B125 p124.length d127) p124.length (p124.flatMap eRoomDeed), .row 3 1 (.slice B120 p119.2.2.length d122) p119.2.2.length (p149.2.flatMap eI), .row 32 3 (.slice B144 p143.length d146) p143.length (p143.flatMap eRoomDeed), .row 3 1 (.slice B140 p135.2.2.length d141) p135.2.2.length (p135.2.2.flatMap eI), .box g132 28 #[.int .i64 p128.1, .int .i64 p128.2.1, .slice B129 p128.2.2.length d131], .row 3 1 (.slice B129 p128.2.2.length d131) p128.2.2.length (p128.2.2.flatMap eI), .box g123 28 #[.int .i64 p119.1, .int .i64 p119.2.1, .slice B120 p119.2.2.length d122], .box g118 28 #[.int .i64 p114.1, .int .i64 p114.2.1, .slice B115 p114.2.2.length d117], .row 3 1 (.slice B115 p114.2.2.length d117) p114.2.2.length (p114.2.2.flatMap eI), .row 32 3 (.slice B111 p110.length d113) p110.length (p110.flatMap eRoomDeed), .row 3 1 (.slice B107 p106.2.2.length d109) p106.2.2.length (p106.2.2.flatMap eI), .box g101 24 #[.int .i64 x0, .int .i64 x1, .slice A2 x2.length c2]] from S.sel [5, 0, 1, 2, 3, 4, 6, 7, 8, 9, 10, 11] rfl rfl) h151) ?_
              rintro e u ⟨rfl, hn152, T⟩
              refine ⟨_, rfl, ?_⟩
              clear hF; intro a hF
              clear S; have S := T; clear T
              refine op_val (v := .int .i64 p151.1) rfl rfl hF rfl (run_assign rfl (hF.ev rfl)) ?_; clear hF; intro a hF
              refine wpList_nil ?_
              refine wp_seq ?_
              refine wp_seq ?_
              refine wp_region_lit ?_
              refine op_val (v := .int .i64 p151.1) rfl rfl hF rfl (run_move rfl (hF.ev rfl)) ?_; clear hF; intro a hF
              refine op_val (v := .bool (ltB p151.1 0)) rfl rfl hF rfl (run_lss (hF.ev rfl) rfl rfl) ?_; clear hF; intro a hF
              refine op_val (v := .bool (ltB p151.1 0)) rfl rfl hF rfl (run_move rfl (hF.ev rfl)) ?_; clear hF; intro a hF
              refine op_gv (v := .agg #[.int .i64 p128.1, .int .i64 p128.2.1, .slice B129 p128.2.2.length d131]) rfl rfl hF rfl (yf (gw_yield hF rfl rfl rfl)) (fun hg => (run_loadN rfl ag28 (hF.ev rfl) rfl ((S.free 4 rfl).cells 0 #[.int .i64 p128.1, .int .i64 p128.2.1, .slice B129 p128.2.2.length d131] rfl))) ?_; clear hF; intro a hF
              refine op_gv (v := .agg #[.int .i64 p114.1, .int .i64 p114.2.1, .slice B115 p114.2.2.length d117]) rfl rfl hF rfl (yf (gw_yield hF rfl rfl rfl)) (fun hg => (run_loadN rfl ag28 (hF.ev rfl) rfl ((S.free 7 rfl).cells 0 #[.int .i64 p114.1, .int .i64 p114.2.1, .slice B115 p114.2.2.length d117] rfl))) ?_; clear hF; intro a hF
              obtain ⟨p153, h153, hM⟩ := bind_ex hM
              refine op_gcall (v := .bool p153) rfl rfl hF rfl S (yf (gw_yield hF rfl rfl rfl)) (fun hg => (run_call (vs := [.agg #[.int .i64 p128.1, .int .i64 p128.2.1, .slice B129 p128.2.2.length d131], .agg #[.int .i64 p114.1, .int .i64 p114.2.1, .slice B115 p114.2.2.length d117]]) rfl rfl co11 ⟨((hF.ev rfl).trans (gv_t hg)), ((hF.ev rfl).trans (gv_t hg)), trivial⟩)) (fun hg => c_laws_eqRooms (x0 := p128.1) (x1 := p128.2.1) (x2 := p128.2.2) (x3 := p114.1) (x4 := p114.2.1) (x5 := p114.2.2) ⟨(S.rc 5 rfl), rfl⟩ ⟨(S.rc 8 rfl), rfl⟩ (gb_t h153 hg)) ?_; clear hF S; intro a u hF S
              refine op_gv (v := .bool (!p153)) rfl rfl hF rfl (yf (gw_yield hF rfl rfl rfl)) (fun hg => (run_not rfl ((hF.ev rfl).trans (gv_t hg)))) ?_; clear hF; intro a hF
              refine op_val (v := .bool ((ltB p151.1 0) || (!p153))) rfl rfl hF rfl (run_pick_or rfl (hF.ev rfl) rfl (fun hp => ((hF.ev rfl).trans (gv_t (not_t hp))))) ?_; clear hF; intro a hF
              refine wpList_nil ?_
              cases hc154 : ((ltB p151.1 0) || (!p153))
              · replace hM := bif_f hc154 hM
                refine cond_f hF rfl hc154 ?_
                refine wp_skip ?_
                refine wp_seq ?_
                refine wp_region_lit ?_
                refine op_val (v := .int .i64 1) rfl rfl hF rfl (run_assign rfl rfl) ?_; clear hF; intro a hF
                refine wpList_nil ?_
                refine wp_seq ?_
                refine wp_region_lit ?_
                refine op_val (v := .agg #[.int .i64 p128.1, .int .i64 p128.2.1, .slice B129 p128.2.2.length d131]) rfl rfl hF rfl (run_loadN rfl ag28 (hF.ev rfl) rfl ((S.free 4 rfl).cells 0 #[.int .i64 p128.1, .int .i64 p128.2.1, .slice B129 p128.2.2.length d131] rfl)) ?_; clear hF; intro a hF
                refine op_val (v := .int .i64 1) rfl rfl hF rfl (run_move rfl (hF.ev rfl)) ?_; clear hF; intro a hF
                obtain ⟨p155, h155, hM⟩ := bind_ex hM
                refine op_call rfl rfl hF rfl (run_call (vs := [.agg #[.int .i64 p128.1, .int .i64 p128.2.1, .slice B129 p128.2.2.length d131], .int .i64 1]) rfl rfl co12 ⟨(hF.ev rfl), (hF.ev rfl), trivial⟩) (c_laws_markRooms (x0 := p128.1) (x1 := p128.2.1) (x2 := p128.2.2) (x3 := 1) rfl (show St w _ [.row 3 1 (.slice B129 p128.2.2.length d131) p128.2.2.length (p128.2.2.flatMap eI), .row 32 3 (.slice B125 p124.length d127) p124.length (p151.2.flatMap eRoomDeed), .row 3 1 (.slice B120 p119.2.2.length d122) p119.2.2.length (p149.2.flatMap eI), .row 32 3 (.slice B144 p143.length d146) p143.length (p143.flatMap eRoomDeed), .row 3 1 (.slice B140 p135.2.2.length d141) p135.2.2.length (p135.2.2.flatMap eI), .box g132 28 #[.int .i64 p128.1, .int .i64 p128.2.1, .slice B129 p128.2.2.length d131], .box g123 28 #[.int .i64 p119.1, .int .i64 p119.2.1, .slice B120 p119.2.2.length d122], .box g118 28 #[.int .i64 p114.1, .int .i64 p114.2.1, .slice B115 p114.2.2.length d117], .row 3 1 (.slice B115 p114.2.2.length d117) p114.2.2.length (p114.2.2.flatMap eI), .row 32 3 (.slice B111 p110.length d113) p110.length (p110.flatMap eRoomDeed), .row 3 1 (.slice B107 p106.2.2.length d109) p106.2.2.length (p106.2.2.flatMap eI), .box g101 24 #[.int .i64 x0, .int .i64 x1, .slice A2 x2.length c2]] from S.sel [5, 0, 1, 2, 3, 4, 6, 7, 8, 9, 10, 11] rfl rfl) h155) ?_
                rintro e u ⟨rfl, hn156, T⟩
                refine ⟨_, rfl, ?_⟩
                clear hF; intro a hF
                clear S; have S := T; clear T
                refine op_val (v := .int .i64 p155.1) rfl rfl hF rfl (run_assign rfl (hF.ev rfl)) ?_; clear hF; intro a hF
                refine wpList_nil ?_
                refine wp_seq ?_
                refine wp_region_lit ?_
                refine op_val (v := .int .i64 1) rfl rfl hF rfl (run_assign rfl rfl) ?_; clear hF; intro a hF
                refine wpList_nil ?_
                refine wp_seq ?_
                refine wp_region_lit ?_
                refine op_val (v := .agg #[.int .i64 p128.1, .int .i64 p128.2.1, .slice B129 p128.2.2.length d131]) rfl rfl hF rfl (run_loadN rfl ag28 (hF.ev rfl) rfl ((S.free 5 rfl).cells 0 #[.int .i64 p128.1, .int .i64 p128.2.1, .slice B129 p128.2.2.length d131] rfl)) ?_; clear hF; intro a hF
                refine op_val (v := .int .i64 1) rfl rfl hF rfl (run_move rfl (hF.ev rfl)) ?_; clear hF; intro a hF
                obtain ⟨p157, h157, hM⟩ := bind_ex hM
                refine op_call rfl rfl hF rfl (run_call (vs := [.agg #[.int .i64 p128.1, .int .i64 p128.2.1, .slice B129 p128.2.2.length d131], .int .i64 1]) rfl rfl co13 ⟨(hF.ev rfl), (hF.ev rfl), trivial⟩) (c_laws_heldRooms (x0 := p128.1) (x1 := p128.2.1) (x2 := p155.2) (x3 := 1) ⟨(S.rc 0 rfl), hn156⟩ h157) ?_
                rintro e u ⟨rfl, T⟩
                refine ⟨_, rfl, ?_⟩
                clear hF; intro a hF
                replace S := S.call0 T; clear T
                refine op_val (v := .int .i64 p157) rfl rfl hF rfl (run_assign rfl (hF.ev rfl)) ?_; clear hF; intro a hF
                refine wpList_nil ?_
                refine wp_seq ?_
                refine wp_seq ?_
                refine wp_region_lit ?_
                refine op_val (v := .int .i64 p157) rfl rfl hF rfl (run_move rfl (hF.ev rfl)) ?_; clear hF; intro a hF
                refine op_val (v := .bool (ltB p157 0)) rfl rfl hF rfl (run_lss (hF.ev rfl) rfl rfl) ?_; clear hF; intro a hF
                refine wpList_nil ?_
                cases hc158 : (ltB p157 0)
                · replace hM := bif_f hc158 hM
                  refine cond_f hF rfl hc158 ?_
                  refine wp_skip ?_
                  refine wp_seq ?_
                  refine wp_seq ?_
                  refine wp_region_lit ?_
                  refine op_val (v := .int .i64 p157) rfl rfl hF rfl (run_move rfl (hF.ev rfl)) ?_; clear hF; intro a hF
                  refine op_val (v := .int .i64 p155.1) rfl rfl hF rfl (run_move rfl (hF.ev rfl)) ?_; clear hF; intro a hF
                  refine op_val (v := .bool (p157 != p155.1)) rfl rfl hF rfl (run_neq (hF.ev rfl) (hF.ev rfl) rfl) ?_; clear hF; intro a hF
                  refine wpList_nil ?_
                  cases hc159 : (p157 != p155.1)
                  · replace hM := bif_f hc159 hM
                    refine cond_f hF rfl hc159 ?_
                    refine wp_skip ?_
                    refine wp_seq ?_
                    refine wp_region_lit ?_
                    refine op_val (v := .agg #[.int .i64 x0, .int .i64 x1, .slice A2 x2.length c2]) rfl rfl hF rfl (run_loadN rfl ag24 (hF.ev rfl) rfl ((S.free 11 rfl).cells 0 #[.int .i64 x0, .int .i64 x1, .slice A2 x2.length c2] rfl)) ?_; clear hF; intro a hF
                    obtain ⟨p160, h160, hM⟩ := bind_ex hM
                    refine op_call rfl rfl hF rfl (run_call (vs := [.agg #[.int .i64 x0, .int .i64 x1, .slice A2 x2.length c2]]) rfl rfl co8 ⟨(hF.ev rfl), trivial⟩) (c_laws_toRooms (x0 := x0) (x1 := x1) (x2 := x2) ⟨(S.rc0 h2.rc), rfl⟩ h160) ?_
                    rintro e u ⟨B161, n162, d163, rfl, rfl, T⟩
                    refine ⟨_, rfl, ?_⟩
                    clear hF; intro a hF
                    replace S := S.call1 T; clear T
                    refine op_val (v := .slice A3 x3.length c3) rfl rfl hF rfl (run_move rfl (hF.ev rfl)) ?_; clear hF; intro a hF
                    obtain ⟨p164, h164, hM⟩ := bind_ex hM
                    refine op_call rfl rfl hF rfl (run_call (vs := [.slice A3 x3.length c3]) rfl rfl co18 ⟨(hF.ev rfl), trivial⟩) (c_laws_toRoomDeedS (x0 := x3) ⟨(S.rc0 h3.rc), rfl⟩ h164) ?_
                    rintro e u ⟨B165, n166, d167, rfl, rfl, T⟩
                    refine ⟨_, rfl, ?_⟩
                    clear hF; intro a hF
                    replace S := S.call1 T; clear T
                    obtain ⟨p168, h168, hM⟩ := bind_ex hM
                    refine op_call rfl rfl hF rfl (run_call (vs := [.agg #[.int .i64 p160.1, .int .i64 p160.2.1, .slice B161 p160.2.2.length d163], .slice B165 p164.length d167]) rfl rfl co19 ⟨(hF.ev rfl), (hF.ev rfl), trivial⟩) (c_impl_RoomsRun (x0 := p160.1) (x1 := p160.2.1) (x2 := p160.2.2) (x3 := p164) ⟨(S.rc 1 rfl), rfl⟩ ⟨(S.rc 0 rfl), rfl⟩ h168) ?_
                    rintro e u ⟨B169, n170, d171, rfl, rfl, T⟩
                    refine ⟨_, rfl, ?_⟩
                    clear hF; intro a hF
                    replace S := S.call1 T; clear T
                    refine op_new (cs := #[.int .i64 0, .int .i64 0, .slice none 0 0]) rfl rfl hF rfl S (run_allocZ rfl zr28) ?_; clear hF S; intro a g172 u hF S
                    refine op_do rfl rfl (run_store (cs' := #[.int .i64 p168.1, .int .i64 p168.2.1, .slice B169 p168.2.2.length d171]) rfl sz28 (hF.ev rfl) (hF.ev rfl) rfl rfl rfl (S.free 0 rfl) rfl rfl) ?_; replace S := S.put 0 rfl (#[.int .i64 p168.1, .int .i64 p168.2.1, .slice B169 p168.2.2.length d171])
                    generalize World.setRow _ _ _ = u at S ⊢
                    refine wpList_nil ?_
                    refine wp_seq ?_
                    refine wp_seq ?_
                    refine wp_region_lit ?_
                    refine op_val (v := .agg #[.int .i64 p168.1, .int .i64 p168.2.1, .slice B169 p168.2.2.length d171]) rfl rfl hF rfl (run_loadN rfl ag28 (hF.ev rfl) rfl ((S.free 0 rfl).cells 0 #[.int .i64 p168.1, .int .i64 p168.2.1, .slice B169 p168.2.2.length d171] rfl)) ?_; clear hF; intro a hF
                    refine op_val (v := .agg #[.int .i64 p114.1, .int .i64 p114.2.1, .slice B115 p114.2.2.length d117]) rfl rfl hF rfl (run_loadN rfl ag28 (hF.ev rfl) rfl ((S.free 11 rfl).cells 0 #[.int .i64 p114.1, .int .i64 p114.2.1, .slice B115 p114.2.2.length d117] rfl)) ?_; clear hF; intro a hF
                    obtain ⟨p173, h173, hM⟩ := bind_ex hM
                    refine op_call rfl rfl hF rfl (run_call (vs := [.agg #[.int .i64 p168.1, .int .i64 p168.2.1, .slice B169 p168.2.2.length d171], .agg #[.int .i64 p114.1, .int .i64 p114.2.1, .slice B115 p114.2.2.length d117]]) rfl rfl co11 ⟨(hF.ev rfl), (hF.ev rfl), trivial⟩) (c_laws_eqRooms (x0 := p168.1) (x1 := p168.2.1) (x2 := p168.2.2) (x3 := p114.1) (x4 := p114.2.1) (x5 := p114.2.2) ⟨(S.rc 1 rfl), rfl⟩ ⟨(S.rc 12 rfl), rfl⟩ h173) ?_
                    rintro e u ⟨rfl, T⟩
                    refine ⟨_, rfl, ?_⟩
                    clear hF; intro a hF
                    replace S := S.call0 T; clear T
                    refine op_val (v := .bool (!p173)) rfl rfl hF rfl (run_not rfl (hF.ev rfl)) ?_; clear hF; intro a hF
                    refine wpList_nil ?_
                    cases hc174 : (p173)
                    · replace hM := bif_f hc174 hM
                      refine cond_t hF rfl (not_t hc174) ?_
                      refine wp_seq ?_
                      refine wp_region_lit ?_
                      refine op_val (v := .bool false) rfl rfl hF rfl (run_assign rfl rfl) ?_; clear hF; intro a hF
                      refine wpList_nil ?_
                      refine wp_ret ?_
                      repeat with_reducible (first | refine then_ret ?_ | refine in_ret ?_ | refine in_nrm ?_)
                      refine ret1_gw (.inl rfl) hF rfl (res_tmp (hF.ev rfl)) ?_
                      obtain rfl := Option.some.inj hM
                      exact ⟨rfl, S.sel [] rfl rfl⟩
                    · replace hM := bif_t hc174 hM
                      refine cond_f hF rfl (not_f hc174) ?_
                      refine wp_skip ?_
                      refine wp_seq ?_
                      refine wp_region_lit ?_
                      refine op_val (v := .int .i64 1) rfl rfl hF rfl (run_assign rfl rfl) ?_; clear hF; intro a hF
                      refine wpList_nil ?_
                      refine wp_seq ?_
                      refine wp_region_lit ?_
                      refine op_val (v := .agg #[.int .i64 p128.1, .int .i64 p128.2.1, .slice B129 p128.2.2.length d131]) rfl rfl hF rfl (run_loadN rfl ag28 (hF.ev rfl) rfl ((S.free 9 rfl).cells 0 #[.int .i64 p128.1, .int .i64 p128.2.1, .slice B129 p128.2.2.length d131] rfl)) ?_; clear hF; intro a hF
                      refine op_val (v := .int .i64 1) rfl rfl hF rfl (run_move rfl (hF.ev rfl)) ?_; clear hF; intro a hF
                      obtain ⟨p175, h175, hM⟩ := bind_ex hM
                      refine op_call rfl rfl hF rfl (run_call (vs := [.agg #[.int .i64 p128.1, .int .i64 p128.2.1, .slice B129 p128.2.2.length d131], .int .i64 1]) rfl rfl co13 ⟨(hF.ev rfl), (hF.ev rfl), trivial⟩) (c_laws_heldRooms (x0 := p128.1) (x1 := p128.2.1) (x2 := p155.2) (x3 := 1) ⟨(S.rc 4 rfl), hn156⟩ h175) ?_
                      rintro e u ⟨rfl, T⟩
                      refine ⟨_, rfl, ?_⟩
                      clear hF; intro a hF
                      replace S := S.call0 T; clear T
                      refine op_val (v := .int .i64 p175) rfl rfl hF rfl (run_assign rfl (hF.ev rfl)) ?_; clear hF; intro a hF
                      refine wpList_nil ?_
                      refine wp_seq ?_
                      refine wp_seq ?_
                      refine wp_region_lit ?_
                      refine op_val (v := .int .i64 p175) rfl rfl hF rfl (run_move rfl (hF.ev rfl)) ?_; clear hF; intro a hF
                      refine op_val (v := .bool (ltB p175 0)) rfl rfl hF rfl (run_lss (hF.ev rfl) rfl rfl) ?_; clear hF; intro a hF
                      refine wpList_nil ?_
                      cases hc176 : (ltB p175 0)
                      · replace hM := bif_f hc176 hM
                        refine cond_f hF rfl hc176 ?_
                        refine wp_skip ?_
                        refine wp_seq ?_
                        refine wp_seq ?_
                        refine wp_region_lit ?_
                        refine op_val (v := .int .i64 p175) rfl rfl hF rfl (run_move rfl (hF.ev rfl)) ?_; clear hF; intro a hF
                        refine op_val (v := .int .i64 p155.1) rfl rfl hF rfl (run_move rfl (hF.ev rfl)) ?_; clear hF; intro a hF
                        refine op_val (v := .bool (p175 != p155.1)) rfl rfl hF rfl (run_neq (hF.ev rfl) (hF.ev rfl) rfl) ?_; clear hF; intro a hF
                        refine wpList_nil ?_
                        cases hc177 : (p175 != p155.1)
                        · replace hM := bif_f hc177 hM
                          refine cond_f hF rfl hc177 ?_
                          refine wp_skip ?_
                          refine wp_seq ?_
                          refine wp_region_lit ?_
                          refine op_val (v := .bool true) rfl rfl hF rfl (run_assign rfl rfl) ?_; clear hF; intro a hF
                          refine wpList_nil ?_
                          refine wp_ret ?_
                          repeat with_reducible (first | refine then_ret ?_ | refine in_ret ?_ | refine in_nrm ?_)
                          refine ret1_gw (.inl rfl) hF rfl (res_tmp (hF.ev rfl)) ?_
                          obtain rfl := Option.some.inj hM
                          exact ⟨rfl, S.sel [] rfl rfl⟩
                        · replace hM := bif_t hc177 hM
                          refine cond_t hF rfl hc177 ?_
                          refine wp_seq ?_
                          refine wp_region_lit ?_
                          refine op_val (v := .bool false) rfl rfl hF rfl (run_assign rfl rfl) ?_; clear hF; intro a hF
                          refine wpList_nil ?_
                          refine wp_ret ?_
                          repeat with_reducible (first | refine then_ret ?_ | refine in_ret ?_ | refine in_nrm ?_)
                          refine ret1_gw (.inl rfl) hF rfl (res_tmp (hF.ev rfl)) ?_
                          obtain rfl := Option.some.inj hM
                          exact ⟨rfl, S.sel [] rfl rfl⟩
                      · replace hM := bif_t hc176 hM
                        refine cond_t hF rfl hc176 ?_
                        refine wp_seq ?_
                        refine wp_region_lit ?_
                        refine op_val (v := .bool false) rfl rfl hF rfl (run_assign rfl rfl) ?_; clear hF; intro a hF
                        refine wpList_nil ?_
                        refine wp_ret ?_
                        repeat with_reducible (first | refine then_ret ?_ | refine in_ret ?_ | refine in_nrm ?_)
                        refine ret1_gw (.inl rfl) hF rfl (res_tmp (hF.ev rfl)) ?_
                        obtain rfl := Option.some.inj hM
                        exact ⟨rfl, S.sel [] rfl rfl⟩
                  · replace hM := bif_t hc159 hM
                    refine cond_t hF rfl hc159 ?_
                    refine wp_seq ?_
                    refine wp_region_lit ?_
                    refine op_val (v := .bool false) rfl rfl hF rfl (run_assign rfl rfl) ?_; clear hF; intro a hF
                    refine wpList_nil ?_
                    refine wp_ret ?_
                    repeat with_reducible (first | refine then_ret ?_ | refine in_ret ?_ | refine in_nrm ?_)
                    refine ret1_gw (.inl rfl) hF rfl (res_tmp (hF.ev rfl)) ?_
                    obtain rfl := Option.some.inj hM
                    exact ⟨rfl, S.sel [] rfl rfl⟩
                · replace hM := bif_t hc158 hM
                  refine cond_t hF rfl hc158 ?_
                  refine wp_seq ?_
                  refine wp_region_lit ?_
                  refine op_val (v := .bool false) rfl rfl hF rfl (run_assign rfl rfl) ?_; clear hF; intro a hF
                  refine wpList_nil ?_
                  refine wp_ret ?_
                  repeat with_reducible (first | refine then_ret ?_ | refine in_ret ?_ | refine in_nrm ?_)
                  refine ret1_gw (.inl rfl) hF rfl (res_tmp (hF.ev rfl)) ?_
                  obtain rfl := Option.some.inj hM
                  exact ⟨rfl, S.sel [] rfl rfl⟩
              · replace hM := bif_t hc154 hM
                refine cond_t hF rfl hc154 ?_
                refine wp_seq ?_
                refine wp_region_lit ?_
                refine op_val (v := .bool false) rfl rfl hF rfl (run_assign rfl rfl) ?_; clear hF; intro a hF
                refine wpList_nil ?_
                refine wp_ret ?_
                repeat with_reducible (first | refine then_ret ?_ | refine in_ret ?_ | refine in_nrm ?_)
                refine ret1_gw (.inl rfl) hF rfl (res_tmp (hF.ev rfl)) ?_
                obtain rfl := Option.some.inj hM
                exact ⟨rfl, S.sel [] rfl rfl⟩
    · replace hM := bif_t hc105 hM
      refine cond_t hF rfl hc105 ?_
      refine wp_seq ?_
      refine wp_region_lit ?_
      refine op_val (v := .bool true) rfl rfl hF rfl (run_assign rfl rfl) ?_; clear hF; intro a hF
      refine wpList_nil ?_
      refine wp_ret ?_
      repeat with_reducible (first | refine then_ret ?_ | refine in_ret ?_ | refine in_nrm ?_)
      refine ret1_gw (.inl rfl) hF rfl (res_tmp (hF.ev rfl)) ?_
      obtain rfl := Option.some.inj hM
      exact ⟨rfl, S.sel [] rfl rfl⟩
  · replace hM := bif_t hc103 hM
    refine cond_t hF rfl hc103 ?_
    refine wp_seq ?_
    refine wp_region_lit ?_
    refine op_val (v := .bool true) rfl rfl hF rfl (run_assign rfl rfl) ?_; clear hF; intro a hF
    refine wpList_nil ?_
    refine wp_ret ?_
    repeat with_reducible (first | refine then_ret ?_ | refine in_ret ?_ | refine in_nrm ?_)
    refine ret1_gw (.inl rfl) hF rfl (res_tmp (hF.ev rfl)) ?_
    obtain rfl := Option.some.inj hM
    exact ⟨rfl, S.sel [] rfl rfl⟩

end Go.Proofs.Ythpmmfbnclfbmaa
