/- Calls return what the models say. -/
import Derived.Test.YtceghkdjpkegaaaDa2
namespace Go.Proofs.Ytceghkdjpkegaaa
open Go.ChangeShapes Go.WideShapes Go.ChangeAt Go.RowKit
set_option linter.unusedVariables false
set_option linter.unusedSimpArgs false

set_option maxHeartbeats 4000000 in
theorem c_laws_FnExactPollDo {x0 : Int} {x1 : List Int} {x2 : Int} {x3 : List Int} {x4 : Int} {x5 : Int} {x6 : Int} {x7 : Int} {x8 : Int} {x9 : Int} {A1 : Option Addr} {n1 c1 : Nat} {A3 : Option Addr} {n3 c3 : Nat} {w : World} {r : Bool} (h1 : Rt w 1 eI A1 n1 c1 x1) (h3 : Rt w 1 eI A3 n3 c3 x3) (hM : m_laws_FnExactPollDo x0 x1 x2 x3 x4 x5 x6 x7 x8 x9 = some r) :
    Calls Try.prog 3 #[.agg #[.int .i64 x0, .slice A1 n1 c1, .int .i64 x2, .slice A3 n3 c3, .int .i64 x4, .int .i64 x5, .int .i64 x6, .int .i64 x7], .agg #[.int .i64 x8, .int .i64 x9]] w (fun e w' => e = .returned (.bool r) ∧ St w w' []) := by
  obtain rfl := h1.len
  obtain rfl := h3.len
  unfold m_laws_FnExactPollDo at hM
  refine calls_gw Try.func3 Try.ntmps3 rfl [(0, .agg #[.int .i64 x0, .slice A1 x1.length c1, .int .i64 x2, .slice A3 x3.length c3, .int .i64 x4, .int .i64 x5, .int .i64 x6, .int .i64 x7]), (1, .agg #[.int .i64 x8, .int .i64 x9])] ⟨rfl, rfl, trivial⟩ rfl ?_
  intro a hF
  have S := St.nil w
  refine wp_seq ?_
  refine wp_region_lit ?_
  refine op_new (cs := #[.int .i64 x0, .slice A1 x1.length c1, .int .i64 x2, .slice A3 x3.length c3, .int .i64 x4, .int .i64 x5, .int .i64 x6, .int .i64 x7]) rfl rfl hF rfl S (run_box rfl (hF.ev rfl) rfl) ?_; clear hF S; intro a g101 u hF S
  refine op_new (cs := #[.int .i64 x8, .int .i64 x9]) rfl rfl hF rfl S (run_box rfl (hF.ev rfl) rfl) ?_; clear hF S; intro a g102 u hF S
  refine op_val (v := .bool false) rfl rfl hF rfl (run_assign rfl rfl) ?_; clear hF; intro a hF
  refine wpList_nil ?_
  refine wp_seq ?_
  refine wp_region_lit ?_
  refine op_val (v := .int .i64 1048576) rfl rfl hF rfl (run_assign rfl rfl) ?_; clear hF; intro a hF
  refine wpList_nil ?_
  refine wp_seq ?_
  refine wp_region_lit ?_
  refine op_val (v := .agg #[.int .i64 x0, .slice A1 x1.length c1, .int .i64 x2, .slice A3 x3.length c3, .int .i64 x4, .int .i64 x5, .int .i64 x6, .int .i64 x7]) rfl rfl hF rfl (run_loadN rfl ag24 (hF.ev rfl) rfl ((S.free 1 rfl).cells 0 #[.int .i64 x0, .slice A1 x1.length c1, .int .i64 x2, .slice A3 x3.length c3, .int .i64 x4, .int .i64 x5, .int .i64 x6, .int .i64 x7] rfl)) ?_; clear hF; intro a hF
  refine op_val (v := .int .i64 1048576) rfl rfl hF rfl (run_move rfl (hF.ev rfl)) ?_; clear hF; intro a hF
  obtain ⟨p103, h103, hM⟩ := bind_ex hM
  refine op_call rfl rfl hF rfl (run_call (vs := [.agg #[.int .i64 x0, .slice A1 x1.length c1, .int .i64 x2, .slice A3 x3.length c3, .int .i64 x4, .int .i64 x5, .int .i64 x6, .int .i64 x7], .int .i64 1048576]) rfl rfl co6 ⟨(hF.ev rfl), (hF.ev rfl), trivial⟩) (c_laws_szPoll (x0 := x0) (x1 := x1) (x2 := x2) (x3 := x3) (x4 := x4) (x5 := x5) (x6 := x6) (x7 := x7) (x8 := 1048576) ⟨(S.rc0 h1.rc), rfl⟩ ⟨(S.rc0 h3.rc), rfl⟩ h103) ?_
  rintro e u ⟨rfl, T⟩
  refine ⟨_, rfl, ?_⟩
  clear hF; intro a hF
  replace S := S.call0 T; clear T
  refine op_val (v := .int .i64 p103) rfl rfl hF rfl (run_assign rfl (hF.ev rfl)) ?_; clear hF; intro a hF
  refine wpList_nil ?_
  refine wp_seq ?_
  refine wp_seq ?_
  refine wp_region_lit ?_
  refine op_val (v := .int .i64 p103) rfl rfl hF rfl (run_move rfl (hF.ev rfl)) ?_; clear hF; intro a hF
  refine op_val (v := .bool (ltB p103 0)) rfl rfl hF rfl (run_lss (hF.ev rfl) rfl rfl) ?_; clear hF; intro a hF
  refine wpList_nil ?_
  cases hc104 : (ltB p103 0)
  · replace hM := bif_f hc104 hM
    refine cond_f hF rfl hc104 ?_
    refine wp_skip ?_
    refine wp_seq ?_
    obtain ⟨p105, h105, hM⟩ := bind_ex hM
    obtain ⟨p112, h112, hM⟩ := bind_ex hM
    obtain ⟨p113, h113, hM⟩ := bind_ex hM
    refine region_gw (D := [22, 23, 24, 25, 26, 21, 27, 28, 6, 7]) (Lr := [.box g102 26 #[.int .i64 x8, .int .i64 x9], .box g101 24 #[.int .i64 x0, .slice A1 x1.length c1, .int .i64 x2, .slice A3 x3.length c3, .int .i64 x4, .int .i64 x5, .int .i64 x6, .int .i64 x7]]) (deps := (fun | 0 => [22] | 1 => [23] | 2 => [24] | 3 => [25] | 4 => [26] | 5 => [21, 26] | 6 => [27, 26] | 7 => [28] | 8 => [6] | 9 => [6, 26] | 10 => [7] | _ => [])) (rd := (fun | 4 => [1] | _ => [])) (zr := (fun _ => []))
      (φ := fun i vs => match i, vs with | 0, [v22] => v22 = .agg #[.int .i64 x0, .slice A1 x1.length c1, .int .i64 x2, .slice A3 x3.length c3, .int .i64 x4, .int .i64 x5, .int .i64 x6, .int .i64 x7] | 1, [v23] => v23 = .agg #[.int .i64 p105.1, .slice (slA (vtup v23 1)) p105.2.1.length (slC (vtup v23 1)), .int .i64 p105.2.2.1, .slice (slA (vtup v23 3)) p105.2.2.2.1.length (slC (vtup v23 3)), .int .i64 p105.2.2.2.2.1, .int .i64 p105.2.2.2.2.2.1, .int .i64 p105.2.2.2.2.2.2.1, .int .i64 p105.2.2.2.2.2.2.2] | 2, [v24] => v24 = .agg #[.int .i64 x8, .int .i64 x9] | 3, [v25] => v25 = .agg #[.int .i64 p112.1, .int .i64 p112.2] | 4, [v26] => v26 = .tuple #[.agg #[.int .i64 p113.1, .slice (slA (vtup (vtup v26 0) 1)) p113.2.1.length (slC (vtup (vtup v26 0) 1)), .int .i64 p113.2.2.1, .slice (slA (vtup (vtup v26 0) 3)) p113.2.2.2.1.length (slC (vtup (vtup v26 0) 3)), .int .i64 p113.2.2.2.2.1, .int .i64 p113.2.2.2.2.2.1, .int .i64 p113.2.2.2.2.2.2.1, .int .i64 p113.2.2.2.2.2.2.2.1], .bool p113.2.2.2.2.2.2.2.2] | 5, [v21, v26] => v21 = .tuple #[.agg #[.int .i64 p113.1, .slice (slA (vtup (vtup v26 0) 1)) p113.2.1.length (slC (vtup (vtup v26 0) 1)), .int .i64 p113.2.2.1, .slice (slA (vtup (vtup v26 0) 3)) p113.2.2.2.1.length (slC (vtup (vtup v26 0) 3)), .int .i64 p113.2.2.2.2.1, .int .i64 p113.2.2.2.2.2.1, .int .i64 p113.2.2.2.2.2.2.1, .int .i64 p113.2.2.2.2.2.2.2.1], .bool p113.2.2.2.2.2.2.2.2] | 6, [v27, v26] => v27 = .agg #[.int .i64 p113.1, .slice (slA (vtup (vtup v26 0) 1)) p113.2.1.length (slC (vtup (vtup v26 0) 1)), .int .i64 p113.2.2.1, .slice (slA (vtup (vtup v26 0) 3)) p113.2.2.2.1.length (slC (vtup (vtup v26 0) 3)), .int .i64 p113.2.2.2.2.1, .int .i64 p113.2.2.2.2.2.1, .int .i64 p113.2.2.2.2.2.2.1, .int .i64 p113.2.2.2.2.2.2.2.1] | 7, [v28] => v28 = .bool p113.2.2.2.2.2.2.2.2 | 8, [v6] => v6 = .pointer (some ⟨ptB v6, 0, none⟩) | 10, [v7] => v7 = .bool p113.2.2.2.2.2.2.2.2 | _, _ => True)
      (C := fun i vs => match i, vs with | 1, [v23] => [.row 3 1 (.slice (slA (vtup v23 1)) p105.2.1.length (slC (vtup v23 1))) p105.2.1.length (p105.2.1.flatMap eI), .row 3 1 (.slice (slA (vtup v23 3)) p105.2.2.2.1.length (slC (vtup v23 3))) p105.2.2.2.1.length (p105.2.2.2.1.flatMap eI)] | 4, [v26] => [.row 3 1 (.slice (slA (vtup (vtup v26 0) 1)) p113.2.1.length (slC (vtup (vtup v26 0) 1))) p113.2.1.length (p113.2.1.flatMap eI), .row 3 1 (.slice (slA (vtup (vtup v26 0) 3)) p113.2.2.2.1.length (slC (vtup (vtup v26 0) 3))) p113.2.2.2.1.length (p113.2.2.2.1.flatMap eI)] | 8, [v6] => [.box (ptB v6) 28 #[.int .i64 0, .slice none 0 0, .int .i64 0, .slice none 0 0, .int .i64 0, .int .i64 0, .int .i64 0, .int .i64 0]] | 9, [v6, v26] => [.box (ptB v6) 28 #[.int .i64 p113.1, .slice (slA (vtup (vtup v26 0) 1)) p113.2.1.length (slC (vtup (vtup v26 0) 1)), .int .i64 p113.2.2.1, .slice (slA (vtup (vtup v26 0) 3)) p113.2.2.2.1.length (slC (vtup (vtup v26 0) 3)), .int .i64 p113.2.2.2.2.1, .int .i64 p113.2.2.2.2.2.1, .int .i64 p113.2.2.2.2.2.2.1, .int .i64 p113.2.2.2.2.2.2.2.1]] | _, _ => [])
      (κ := (fun | 8 => some 9 | _ => none)) (Z := (fun _ => [])) mixed hF (by kernel_rfl) S ?_ ?_
    · refine ⟨?_, ?_, ?_, ?_, ?_, ?_, ?_, ?_, ?_, ?_, ?_, trivial⟩
      · intro a u X hB hu hp hr hz hl S
        replace S : St w u ([] ++ X) := S
        exact .inl ⟨rfl, .agg #[.int .i64 x0, .slice A1 x1.length c1, .int .i64 x2, .slice A3 x3.length c3, .int .i64 x4, .int .i64 x5, .int .i64 x6, .int .i64 x7], u, (run_loadN rfl ag24 (hF.evB hB rfl rfl) rfl ((gr_box S hl 1 rfl).cells 0 #[.int .i64 x0, .slice A1 x1.length c1, .int .i64 x2, .slice A3 x3.length c3, .int .i64 x4, .int .i64 x5, .int .i64 x6, .int .i64 x7] rfl)), rfl, S⟩
      · intro a u X hB hu hp hr hz hl S
        replace S : St w u ([] ++ X) := S
        have e22 : sl a 22 = .agg #[.int .i64 x0, .slice A1 x1.length c1, .int .i64 x2, .slice A3 x3.length c3, .int .i64 x4, .int .i64 x5, .int .i64 x6, .int .i64 x7] := hp 0 rfl
        refine .inr (.inr (.inl ⟨rfl, _, _, (run_call (vs := [.agg #[.int .i64 x0, .slice A1 x1.length c1, .int .i64 x2, .slice A3 x3.length c3, .int .i64 x4, .int .i64 x5, .int .i64 x6, .int .i64 x7]]) rfl rfl co8 ⟨(ev_sl e22), trivial⟩), ?_⟩))
        refine Calls.mono (c_laws_toPoll (x0 := x0) (x1 := x1) (x2 := x2) (x3 := x3) (x4 := x4) (x5 := x5) (x6 := x6) (x7 := x7) ⟨(S.rc0 h1.rc), rfl⟩ ⟨(S.rc0 h3.rc), rfl⟩ h105) ?_
        rintro e w1 ⟨B106, n107, d108, B109, n110, d111, rfl, rfl, rfl, T⟩
        exact ⟨_, rfl, rfl, S.call2 T⟩
      · intro a u X hB hu hp hr hz hl S
        replace S : St w u ([] ++ X) := S
        exact .inl ⟨rfl, .agg #[.int .i64 x8, .int .i64 x9], u, (run_loadN rfl ag26 (hF.evB hB rfl rfl) rfl ((gr_box S hl 0 rfl).cells 0 #[.int .i64 x8, .int .i64 x9] rfl)), rfl, S⟩
      · intro a u X hB hu hp hr hz hl S
        replace S : St w u ([] ++ X) := S
        have e24 : sl a 24 = .agg #[.int .i64 x8, .int .i64 x9] := hp 2 rfl
        refine .inr (.inr (.inl ⟨rfl, _, _, (run_call (vs := [.agg #[.int .i64 x8, .int .i64 x9]]) rfl rfl co9 ⟨(ev_sl e24), trivial⟩), ?_⟩))
        refine Calls.mono (c_laws_toPollDeed (x0 := x8) (x1 := x9)  h112) ?_
        rintro e w1 ⟨rfl, T⟩
        exact ⟨_, rfl, rfl, S.call0 T⟩
      · intro a u X hB hu hp hr hz hl S
        replace S : St w u ([] ++ X) := S
        have e23 : sl a 23 = .agg #[.int .i64 p105.1, .slice (slA (vtup (sl a 23) 1)) p105.2.1.length (slC (vtup (sl a 23) 1)), .int .i64 p105.2.2.1, .slice (slA (vtup (sl a 23) 3)) p105.2.2.2.1.length (slC (vtup (sl a 23) 3)), .int .i64 p105.2.2.2.2.1, .int .i64 p105.2.2.2.2.2.1, .int .i64 p105.2.2.2.2.2.2.1, .int .i64 p105.2.2.2.2.2.2.2] := hp 1 rfl
        have e25 : sl a 25 = .agg #[.int .i64 p112.1, .int .i64 p112.2] := hp 3 rfl
        refine .inr (.inr (.inl ⟨rfl, _, _, (run_call (vs := [.agg #[.int .i64 p105.1, .slice (slA (vtup (sl a 23) 1)) p105.2.1.length (slC (vtup (sl a 23) 1)), .int .i64 p105.2.2.1, .slice (slA (vtup (sl a 23) 3)) p105.2.2.2.1.length (slC (vtup (sl a 23) 3)), .int .i64 p105.2.2.2.2.1, .int .i64 p105.2.2.2.2.2.1, .int .i64 p105.2.2.2.2.2.2.1, .int .i64 p105.2.2.2.2.2.2.2], .agg #[.int .i64 p112.1, .int .i64 p112.2]]) rfl rfl co7 ⟨(ev_sl e23), (ev_sl e25), trivial⟩), ?_⟩))
        refine Calls.mono (c_spec_PollDo (x0 := p105.1) (x1 := p105.2.1) (x2 := p105.2.2.1) (x3 := p105.2.2.2.1) (x4 := p105.2.2.2.2.1) (x5 := p105.2.2.2.2.2.1) (x6 := p105.2.2.2.2.2.2.1) (x7 := p105.2.2.2.2.2.2.2) (x8 := p112.1) (x9 := p112.2) ⟨(own_rc (show Ow _ _ _ _ _ _ from S.mem (List.mem_append_right _ (hr 1 (List.mem_of_getElem? (i := 0) rfl) _ (List.mem_of_getElem? (i := 0) rfl))))), rfl⟩ ⟨(own_rc (show Ow _ _ _ _ _ _ from S.mem (List.mem_append_right _ (hr 1 (List.mem_of_getElem? (i := 0) rfl) _ (List.mem_of_getElem? (i := 1) rfl))))), rfl⟩ h113) ?_
        rintro e w1 ⟨B114, n115, d116, B117, n118, d119, rfl, rfl, rfl, T⟩
        exact ⟨_, rfl, rfl, S.call2 T⟩
      · intro a u X hB hu hp hr hz hl S
        replace S : St w u ([] ++ X) := S
        have e26 : sl a 26 = .tuple #[.agg #[.int .i64 p113.1, .slice (slA (vtup (vtup (sl a 26) 0) 1)) p113.2.1.length (slC (vtup (vtup (sl a 26) 0) 1)), .int .i64 p113.2.2.1, .slice (slA (vtup (vtup (sl a 26) 0) 3)) p113.2.2.2.1.length (slC (vtup (vtup (sl a 26) 0) 3)), .int .i64 p113.2.2.2.2.1, .int .i64 p113.2.2.2.2.2.1, .int .i64 p113.2.2.2.2.2.2.1, .int .i64 p113.2.2.2.2.2.2.2.1], .bool p113.2.2.2.2.2.2.2.2] := hp 4 rfl
        exact .inl ⟨rfl, .tuple #[.agg #[.int .i64 p113.1, .slice (slA (vtup (vtup (sl a 26) 0) 1)) p113.2.1.length (slC (vtup (vtup (sl a 26) 0) 1)), .int .i64 p113.2.2.1, .slice (slA (vtup (vtup (sl a 26) 0) 3)) p113.2.2.2.1.length (slC (vtup (vtup (sl a 26) 0) 3)), .int .i64 p113.2.2.2.2.1, .int .i64 p113.2.2.2.2.2.1, .int .i64 p113.2.2.2.2.2.2.1, .int .i64 p113.2.2.2.2.2.2.2.1], .bool p113.2.2.2.2.2.2.2.2], u, (run_move rfl (ev_sl e26)), rfl, S⟩
      · intro a u X hB hu hp hr hz hl S
        replace S : St w u ([] ++ X) := S
        have e21 : sl a 21 = .tuple #[.agg #[.int .i64 p113.1, .slice (slA (vtup (vtup (sl a 26) 0) 1)) p113.2.1.length (slC (vtup (vtup (sl a 26) 0) 1)), .int .i64 p113.2.2.1, .slice (slA (vtup (vtup (sl a 26) 0) 3)) p113.2.2.2.1.length (slC (vtup (vtup (sl a 26) 0) 3)), .int .i64 p113.2.2.2.2.1, .int .i64 p113.2.2.2.2.2.1, .int .i64 p113.2.2.2.2.2.2.1, .int .i64 p113.2.2.2.2.2.2.2.1], .bool p113.2.2.2.2.2.2.2.2] := hp 5 rfl
        exact .inl ⟨rfl, .agg #[.int .i64 p113.1, .slice (slA (vtup (vtup (sl a 26) 0) 1)) p113.2.1.length (slC (vtup (vtup (sl a 26) 0) 1)), .int .i64 p113.2.2.1, .slice (slA (vtup (vtup (sl a 26) 0) 3)) p113.2.2.2.1.length (slC (vtup (vtup (sl a 26) 0) 3)), .int .i64 p113.2.2.2.2.1, .int .i64 p113.2.2.2.2.2.1, .int .i64 p113.2.2.2.2.2.2.1, .int .i64 p113.2.2.2.2.2.2.2.1], u, (run_extract rfl (ev_sl e21) rfl), rfl, S⟩
      · intro a u X hB hu hp hr hz hl S
        replace S : St w u ([] ++ X) := S
        have e21 : sl a 21 = .tuple #[.agg #[.int .i64 p113.1, .slice (slA (vtup (vtup (sl a 26) 0) 1)) p113.2.1.length (slC (vtup (vtup (sl a 26) 0) 1)), .int .i64 p113.2.2.1, .slice (slA (vtup (vtup (sl a 26) 0) 3)) p113.2.2.2.1.length (slC (vtup (vtup (sl a 26) 0) 3)), .int .i64 p113.2.2.2.2.1, .int .i64 p113.2.2.2.2.2.1, .int .i64 p113.2.2.2.2.2.2.1, .int .i64 p113.2.2.2.2.2.2.2.1], .bool p113.2.2.2.2.2.2.2.2] := hp 5 rfl
        exact .inl ⟨rfl, .bool p113.2.2.2.2.2.2.2.2, u, (run_extract rfl (ev_sl e21) rfl), rfl, S⟩
      · intro a u X hB hu hp hr hz hl S
        replace S : St w u ([] ++ X) := S
        exact .inl ⟨rfl, _, _, (run_allocZ rfl zr28), rfl, S.alloc _ _⟩
      · intro a u X hB hu hp hr hz hl S
        replace S : St w u ([.box (ptB (sl a 6)) 28 #[.int .i64 0, .slice none 0 0, .int .i64 0, .slice none 0 0, .int .i64 0, .int .i64 0, .int .i64 0, .int .i64 0]] ++ X) := S
        have e6 : sl a 6 = .pointer (some ⟨ptB (sl a 6), 0, none⟩) := hp 8 rfl
        have e27 : sl a 27 = .agg #[.int .i64 p113.1, .slice (slA (vtup (vtup (sl a 26) 0) 1)) p113.2.1.length (slC (vtup (vtup (sl a 26) 0) 1)), .int .i64 p113.2.2.1, .slice (slA (vtup (vtup (sl a 26) 0) 3)) p113.2.2.2.1.length (slC (vtup (vtup (sl a 26) 0) 3)), .int .i64 p113.2.2.2.2.1, .int .i64 p113.2.2.2.2.2.1, .int .i64 p113.2.2.2.2.2.2.1, .int .i64 p113.2.2.2.2.2.2.2.1] := hp 6 rfl
        exact .inr (.inl ⟨rfl, _, run_store (cs' := #[.int .i64 p113.1, .slice (slA (vtup (vtup (sl a 26) 0) 1)) p113.2.1.length (slC (vtup (vtup (sl a 26) 0) 1)), .int .i64 p113.2.2.1, .slice (slA (vtup (vtup (sl a 26) 0) 3)) p113.2.2.2.1.length (slC (vtup (vtup (sl a 26) 0) 3)), .int .i64 p113.2.2.2.2.1, .int .i64 p113.2.2.2.2.2.1, .int .i64 p113.2.2.2.2.2.2.1, .int .i64 p113.2.2.2.2.2.2.2.1]) rfl sz28 (ev_sl e6) (ev_sl e27) rfl rfl rfl (S.free 0 rfl) rfl rfl, trivial, S.put 0 rfl (#[.int .i64 p113.1, .slice (slA (vtup (vtup (sl a 26) 0) 1)) p113.2.1.length (slC (vtup (vtup (sl a 26) 0) 1)), .int .i64 p113.2.2.1, .slice (slA (vtup (vtup (sl a 26) 0) 3)) p113.2.2.2.1.length (slC (vtup (vtup (sl a 26) 0) 3)), .int .i64 p113.2.2.2.2.1, .int .i64 p113.2.2.2.2.2.1, .int .i64 p113.2.2.2.2.2.2.1, .int .i64 p113.2.2.2.2.2.2.2.1])⟩)
      · intro a u X hB hu hp hr hz hl S
        replace S : St w u ([] ++ X) := S
        have e28 : sl a 28 = .bool p113.2.2.2.2.2.2.2.2 := hp 7 rfl
        exact .inl ⟨rfl, .bool p113.2.2.2.2.2.2.2.2, u, (run_assign rfl (ev_sl e28)), rfl, S⟩
    · intro a u hB hp S
      obtain ⟨q0, q1, q2, q3, q4, q5, q6, q7, q8, q9, q10, _⟩ := hp
      have e22 : sl a 22 = .agg #[.int .i64 x0, .slice A1 x1.length c1, .int .i64 x2, .slice A3 x3.length c3, .int .i64 x4, .int .i64 x5, .int .i64 x6, .int .i64 x7] := q0
      have e23 : sl a 23 = .agg #[.int .i64 p105.1, .slice (slA (vtup (sl a 23) 1)) p105.2.1.length (slC (vtup (sl a 23) 1)), .int .i64 p105.2.2.1, .slice (slA (vtup (sl a 23) 3)) p105.2.2.2.1.length (slC (vtup (sl a 23) 3)), .int .i64 p105.2.2.2.2.1, .int .i64 p105.2.2.2.2.2.1, .int .i64 p105.2.2.2.2.2.2.1, .int .i64 p105.2.2.2.2.2.2.2] := q1
      have e24 : sl a 24 = .agg #[.int .i64 x8, .int .i64 x9] := q2
      have e25 : sl a 25 = .agg #[.int .i64 p112.1, .int .i64 p112.2] := q3
      have e26 : sl a 26 = .tuple #[.agg #[.int .i64 p113.1, .slice (slA (vtup (vtup (sl a 26) 0) 1)) p113.2.1.length (slC (vtup (vtup (sl a 26) 0) 1)), .int .i64 p113.2.2.1, .slice (slA (vtup (vtup (sl a 26) 0) 3)) p113.2.2.2.1.length (slC (vtup (vtup (sl a 26) 0) 3)), .int .i64 p113.2.2.2.2.1, .int .i64 p113.2.2.2.2.2.1, .int .i64 p113.2.2.2.2.2.2.1, .int .i64 p113.2.2.2.2.2.2.2.1], .bool p113.2.2.2.2.2.2.2.2] := q4
      have e21 : sl a 21 = .tuple #[.agg #[.int .i64 p113.1, .slice (slA (vtup (vtup (sl a 26) 0) 1)) p113.2.1.length (slC (vtup (vtup (sl a 26) 0) 1)), .int .i64 p113.2.2.1, .slice (slA (vtup (vtup (sl a 26) 0) 3)) p113.2.2.2.1.length (slC (vtup (vtup (sl a 26) 0) 3)), .int .i64 p113.2.2.2.2.1, .int .i64 p113.2.2.2.2.2.1, .int .i64 p113.2.2.2.2.2.2.1, .int .i64 p113.2.2.2.2.2.2.2.1], .bool p113.2.2.2.2.2.2.2.2] := q5
      have e27 : sl a 27 = .agg #[.int .i64 p113.1, .slice (slA (vtup (vtup (sl a 26) 0) 1)) p113.2.1.length (slC (vtup (vtup (sl a 26) 0) 1)), .int .i64 p113.2.2.1, .slice (slA (vtup (vtup (sl a 26) 0) 3)) p113.2.2.2.1.length (slC (vtup (vtup (sl a 26) 0) 3)), .int .i64 p113.2.2.2.2.1, .int .i64 p113.2.2.2.2.2.1, .int .i64 p113.2.2.2.2.2.2.1, .int .i64 p113.2.2.2.2.2.2.2.1] := q6
      have e28 : sl a 28 = .bool p113.2.2.2.2.2.2.2.2 := q7
      have e6 : sl a 6 = .pointer (some ⟨ptB (sl a 6), 0, none⟩) := q8
      have e7 : sl a 7 = .bool p113.2.2.2.2.2.2.2.2 := q10
      replace S : St w u [.row 3 1 (.slice (slA (vtup (sl a 23) 1)) p105.2.1.length (slC (vtup (sl a 23) 1))) p105.2.1.length (p105.2.1.flatMap eI), .row 3 1 (.slice (slA (vtup (sl a 23) 3)) p105.2.2.2.1.length (slC (vtup (sl a 23) 3))) p105.2.2.2.1.length (p105.2.2.2.1.flatMap eI), .row 3 1 (.slice (slA (vtup (vtup (sl a 26) 0) 1)) p113.2.1.length (slC (vtup (vtup (sl a 26) 0) 1))) p113.2.1.length (p113.2.1.flatMap eI), .row 3 1 (.slice (slA (vtup (vtup (sl a 26) 0) 3)) p113.2.2.2.1.length (slC (vtup (vtup (sl a 26) 0) 3))) p113.2.2.2.1.length (p113.2.2.2.1.flatMap eI), .box (ptB (sl a 6)) 28 #[.int .i64 p113.1, .slice (slA (vtup (vtup (sl a 26) 0) 1)) p113.2.1.length (slC (vtup (vtup (sl a 26) 0) 1)), .int .i64 p113.2.2.1, .slice (slA (vtup (vtup (sl a 26) 0) 3)) p113.2.2.2.1.length (slC (vtup (vtup (sl a 26) 0) 3)), .int .i64 p113.2.2.2.2.1, .int .i64 p113.2.2.2.2.2.1, .int .i64 p113.2.2.2.2.2.2.1, .int .i64 p113.2.2.2.2.2.2.2.1], .box g102 26 #[.int .i64 x8, .int .i64 x9], .box g101 24 #[.int .i64 x0, .slice A1 x1.length c1, .int .i64 x2, .slice A3 x3.length c3, .int .i64 x4, .int .i64 x5, .int .i64 x6, .int .i64 x7]] := S
      clear q0 q1 q2 q3 q4 q5 q6 q7 q8 q9 q10
      generalize slA (vtup (sl a 23) 1) = B120 at *
      generalize slC (vtup (sl a 23) 1) = d121 at *
      generalize slA (vtup (sl a 23) 3) = B122 at *
      generalize slC (vtup (sl a 23) 3) = d123 at *
      generalize slA (vtup (vtup (sl a 26) 0) 1) = B124 at *
      generalize slC (vtup (vtup (sl a 26) 0) 1) = d125 at *
      generalize slA (vtup (vtup (sl a 26) 0) 3) = B126 at *
      generalize slC (vtup (vtup (sl a 26) 0) 3) = d127 at *
      generalize ptB (sl a 6) = g128 at *
      have hF := hF.region hB [(22, .agg #[.int .i64 x0, .slice A1 x1.length c1, .int .i64 x2, .slice A3 x3.length c3, .int .i64 x4, .int .i64 x5, .int .i64 x6, .int .i64 x7]), (23, .agg #[.int .i64 p105.1, .slice B120 p105.2.1.length d121, .int .i64 p105.2.2.1, .slice B122 p105.2.2.2.1.length d123, .int .i64 p105.2.2.2.2.1, .int .i64 p105.2.2.2.2.2.1, .int .i64 p105.2.2.2.2.2.2.1, .int .i64 p105.2.2.2.2.2.2.2]), (24, .agg #[.int .i64 x8, .int .i64 x9]), (25, .agg #[.int .i64 p112.1, .int .i64 p112.2]), (26, .tuple #[.agg #[.int .i64 p113.1, .slice B124 p113.2.1.length d125, .int .i64 p113.2.2.1, .slice B126 p113.2.2.2.1.length d127, .int .i64 p113.2.2.2.2.1, .int .i64 p113.2.2.2.2.2.1, .int .i64 p113.2.2.2.2.2.2.1, .int .i64 p113.2.2.2.2.2.2.2.1], .bool p113.2.2.2.2.2.2.2.2]), (21, .tuple #[.agg #[.int .i64 p113.1, .slice B124 p113.2.1.length d125, .int .i64 p113.2.2.1, .slice B126 p113.2.2.2.1.length d127, .int .i64 p113.2.2.2.2.1, .int .i64 p113.2.2.2.2.2.1, .int .i64 p113.2.2.2.2.2.2.1, .int .i64 p113.2.2.2.2.2.2.2.1], .bool p113.2.2.2.2.2.2.2.2]), (27, .agg #[.int .i64 p113.1, .slice B124 p113.2.1.length d125, .int .i64 p113.2.2.1, .slice B126 p113.2.2.2.1.length d127, .int .i64 p113.2.2.2.2.1, .int .i64 p113.2.2.2.2.2.1, .int .i64 p113.2.2.2.2.2.2.1, .int .i64 p113.2.2.2.2.2.2.2.1]), (28, .bool p113.2.2.2.2.2.2.2.2), (6, .pointer (some ⟨g128, 0, none⟩)), (7, .bool p113.2.2.2.2.2.2.2.2)] (allSl_mem ⟨e22, e23, e24, e25, e26, e21, e27, e28, e6, e7, trivial⟩) rfl
      clear hB e22 e23 e24 e25 e26 e21 e27 e28 e6 e7
      refine wp_seq ?_
      refine wp_region_lit ?_
      refine op_val (v := .agg #[.int .i64 x0, .slice A1 x1.length c1, .int .i64 x2, .slice A3 x3.length c3, .int .i64 x4, .int .i64 x5, .int .i64 x6, .int .i64 x7]) rfl rfl hF rfl (run_loadN rfl ag24 (hF.ev rfl) rfl ((S.free 6 rfl).cells 0 #[.int .i64 x0, .slice A1 x1.length c1, .int .i64 x2, .slice A3 x3.length c3, .int .i64 x4, .int .i64 x5, .int .i64 x6, .int .i64 x7] rfl)) ?_; clear hF; intro a hF
      obtain ⟨p129, h129, hM⟩ := bind_ex hM
      refine op_call rfl rfl hF rfl (run_call (vs := [.agg #[.int .i64 x0, .slice A1 x1.length c1, .int .i64 x2, .slice A3 x3.length c3, .int .i64 x4, .int .i64 x5, .int .i64 x6, .int .i64 x7]]) rfl rfl co8 ⟨(hF.ev rfl), trivial⟩) (c_laws_toPoll (x0 := x0) (x1 := x1) (x2 := x2) (x3 := x3) (x4 := x4) (x5 := x5) (x6 := x6) (x7 := x7) ⟨(S.rc0 h1.rc), rfl⟩ ⟨(S.rc0 h3.rc), rfl⟩ h129) ?_
      rintro e u ⟨B130, n131, d132, B133, n134, d135, rfl, rfl, rfl, T⟩
      refine ⟨_, rfl, ?_⟩
      clear hF; intro a hF
      replace S := S.call2 T; clear T
      refine op_new (cs := #[.int .i64 0, .slice none 0 0, .int .i64 0, .slice none 0 0, .int .i64 0, .int .i64 0, .int .i64 0, .int .i64 0]) rfl rfl hF rfl S (run_allocZ rfl zr28) ?_; clear hF S; intro a g136 u hF S
      refine op_do rfl rfl (run_store (cs' := #[.int .i64 p129.1, .slice B130 p129.2.1.length d132, .int .i64 p129.2.2.1, .slice B133 p129.2.2.2.1.length d135, .int .i64 p129.2.2.2.2.1, .int .i64 p129.2.2.2.2.2.1, .int .i64 p129.2.2.2.2.2.2.1, .int .i64 p129.2.2.2.2.2.2.2]) rfl sz28 (hF.ev rfl) (hF.ev rfl) rfl rfl rfl (S.free 0 rfl) rfl rfl) ?_; replace S := S.put 0 rfl (#[.int .i64 p129.1, .slice B130 p129.2.1.length d132, .int .i64 p129.2.2.1, .slice B133 p129.2.2.2.1.length d135, .int .i64 p129.2.2.2.2.1, .int .i64 p129.2.2.2.2.2.1, .int .i64 p129.2.2.2.2.2.2.1, .int .i64 p129.2.2.2.2.2.2.2])
      generalize World.setRow _ _ _ = u at S ⊢
      refine wpList_nil ?_
      refine wp_seq ?_
      obtain ⟨p137, h137, hM⟩ := bind_ex hM
      obtain ⟨p138, h138, hM⟩ := bind_ex hM
      refine region_gw (D := [32, 33, 34, 35, 31, 36, 37, 9, 10]) (Lr := [.box g136 28 #[.int .i64 p129.1, .slice B130 p129.2.1.length d132, .int .i64 p129.2.2.1, .slice B133 p129.2.2.2.1.length d135, .int .i64 p129.2.2.2.2.1, .int .i64 p129.2.2.2.2.2.1, .int .i64 p129.2.2.2.2.2.2.1, .int .i64 p129.2.2.2.2.2.2.2], .row 3 1 (.slice B130 p129.2.1.length d132) p129.2.1.length (p129.2.1.flatMap eI), .row 3 1 (.slice B133 p129.2.2.2.1.length d135) p129.2.2.2.1.length (p129.2.2.2.1.flatMap eI), .row 3 1 (.slice B120 p105.2.1.length d121) p105.2.1.length (p105.2.1.flatMap eI), .row 3 1 (.slice B122 p105.2.2.2.1.length d123) p105.2.2.2.1.length (p105.2.2.2.1.flatMap eI), .row 3 1 (.slice B124 p113.2.1.length d125) p113.2.1.length (p113.2.1.flatMap eI), .row 3 1 (.slice B126 p113.2.2.2.1.length d127) p113.2.2.2.1.length (p113.2.2.2.1.flatMap eI), .box g128 28 #[.int .i64 p113.1, .slice B124 p113.2.1.length d125, .int .i64 p113.2.2.1, .slice B126 p113.2.2.2.1.length d127, .int .i64 p113.2.2.2.2.1, .int .i64 p113.2.2.2.2.2.1, .int .i64 p113.2.2.2.2.2.2.1, .int .i64 p113.2.2.2.2.2.2.2.1], .box g102 26 #[.int .i64 x8, .int .i64 x9], .box g101 24 #[.int .i64 x0, .slice A1 x1.length c1, .int .i64 x2, .slice A3 x3.length c3, .int .i64 x4, .int .i64 x5, .int .i64 x6, .int .i64 x7]]) (deps := (fun | 0 => [32] | 1 => [33] | 2 => [34] | 3 => [35] | 4 => [31, 35] | 5 => [36, 35] | 6 => [37] | 7 => [9] | 8 => [9, 35] | 9 => [10] | _ => [])) (rd := (fun _ => [])) (zr := (fun _ => []))
        (φ := fun i vs => match i, vs with | 0, [v32] => v32 = .agg #[.int .i64 p129.1, .slice B130 p129.2.1.length d132, .int .i64 p129.2.2.1, .slice B133 p129.2.2.2.1.length d135, .int .i64 p129.2.2.2.2.1, .int .i64 p129.2.2.2.2.2.1, .int .i64 p129.2.2.2.2.2.2.1, .int .i64 p129.2.2.2.2.2.2.2] | 1, [v33] => v33 = .agg #[.int .i64 x8, .int .i64 x9] | 2, [v34] => v34 = .agg #[.int .i64 p137.1, .int .i64 p137.2] | 3, [v35] => v35 = .tuple #[.agg #[.int .i64 p138.1, .slice (slA (vtup (vtup v35 0) 1)) p138.2.1.length (slC (vtup (vtup v35 0) 1)), .int .i64 p138.2.2.1, .slice (slA (vtup (vtup v35 0) 3)) p138.2.2.2.1.length (slC (vtup (vtup v35 0) 3)), .int .i64 p138.2.2.2.2.1, .int .i64 p138.2.2.2.2.2.1, .int .i64 p138.2.2.2.2.2.2.1, .int .i64 p138.2.2.2.2.2.2.2.1], .bool p138.2.2.2.2.2.2.2.2] | 4, [v31, v35] => v31 = .tuple #[.agg #[.int .i64 p138.1, .slice (slA (vtup (vtup v35 0) 1)) p138.2.1.length (slC (vtup (vtup v35 0) 1)), .int .i64 p138.2.2.1, .slice (slA (vtup (vtup v35 0) 3)) p138.2.2.2.1.length (slC (vtup (vtup v35 0) 3)), .int .i64 p138.2.2.2.2.1, .int .i64 p138.2.2.2.2.2.1, .int .i64 p138.2.2.2.2.2.2.1, .int .i64 p138.2.2.2.2.2.2.2.1], .bool p138.2.2.2.2.2.2.2.2] | 5, [v36, v35] => v36 = .agg #[.int .i64 p138.1, .slice (slA (vtup (vtup v35 0) 1)) p138.2.1.length (slC (vtup (vtup v35 0) 1)), .int .i64 p138.2.2.1, .slice (slA (vtup (vtup v35 0) 3)) p138.2.2.2.1.length (slC (vtup (vtup v35 0) 3)), .int .i64 p138.2.2.2.2.1, .int .i64 p138.2.2.2.2.2.1, .int .i64 p138.2.2.2.2.2.2.1, .int .i64 p138.2.2.2.2.2.2.2.1] | 6, [v37] => v37 = .bool p138.2.2.2.2.2.2.2.2 | 7, [v9] => v9 = .pointer (some ⟨ptB v9, 0, none⟩) | 9, [v10] => v10 = .bool p138.2.2.2.2.2.2.2.2 | _, _ => True)
        (C := fun i vs => match i, vs with | 3, [v35] => [.row 3 1 (.slice (slA (vtup (vtup v35 0) 1)) p138.2.1.length (slC (vtup (vtup v35 0) 1))) p138.2.1.length (p138.2.1.flatMap eI), .row 3 1 (.slice (slA (vtup (vtup v35 0) 3)) p138.2.2.2.1.length (slC (vtup (vtup v35 0) 3))) p138.2.2.2.1.length (p138.2.2.2.1.flatMap eI)] | 7, [v9] => [.box (ptB v9) 28 #[.int .i64 0, .slice none 0 0, .int .i64 0, .slice none 0 0, .int .i64 0, .int .i64 0, .int .i64 0, .int .i64 0]] | 8, [v9, v35] => [.box (ptB v9) 28 #[.int .i64 p138.1, .slice (slA (vtup (vtup v35 0) 1)) p138.2.1.length (slC (vtup (vtup v35 0) 1)), .int .i64 p138.2.2.1, .slice (slA (vtup (vtup v35 0) 3)) p138.2.2.2.1.length (slC (vtup (vtup v35 0) 3)), .int .i64 p138.2.2.2.2.1, .int .i64 p138.2.2.2.2.2.1, .int .i64 p138.2.2.2.2.2.2.1, .int .i64 p138.2.2.2.2.2.2.2.1]] | _, _ => [])
        (κ := (fun | 7 => some 8 | _ => none)) (Z := (fun _ => [])) mixed hF (by kernel_rfl) S ?_ ?_
      · refine ⟨?_, ?_, ?_, ?_, ?_, ?_, ?_, ?_, ?_, ?_, trivial⟩
        · intro a u X hB hu hp hr hz hl S
          replace S : St w u ([] ++ X) := S
          exact .inl ⟨rfl, .agg #[.int .i64 p129.1, .slice B130 p129.2.1.length d132, .int .i64 p129.2.2.1, .slice B133 p129.2.2.2.1.length d135, .int .i64 p129.2.2.2.2.1, .int .i64 p129.2.2.2.2.2.1, .int .i64 p129.2.2.2.2.2.2.1, .int .i64 p129.2.2.2.2.2.2.2], u, (run_loadN rfl ag28 (hF.evB hB rfl rfl) rfl ((gr_box S hl 0 rfl).cells 0 #[.int .i64 p129.1, .slice B130 p129.2.1.length d132, .int .i64 p129.2.2.1, .slice B133 p129.2.2.2.1.length d135, .int .i64 p129.2.2.2.2.1, .int .i64 p129.2.2.2.2.2.1, .int .i64 p129.2.2.2.2.2.2.1, .int .i64 p129.2.2.2.2.2.2.2] rfl)), rfl, S⟩
        · intro a u X hB hu hp hr hz hl S
          replace S : St w u ([] ++ X) := S
          exact .inl ⟨rfl, .agg #[.int .i64 x8, .int .i64 x9], u, (run_loadN rfl ag26 (hF.evB hB rfl rfl) rfl ((gr_box S hl 8 rfl).cells 0 #[.int .i64 x8, .int .i64 x9] rfl)), rfl, S⟩
        · intro a u X hB hu hp hr hz hl S
          replace S : St w u ([] ++ X) := S
          have e33 : sl a 33 = .agg #[.int .i64 x8, .int .i64 x9] := hp 1 rfl
          refine .inr (.inr (.inl ⟨rfl, _, _, (run_call (vs := [.agg #[.int .i64 x8, .int .i64 x9]]) rfl rfl co9 ⟨(ev_sl e33), trivial⟩), ?_⟩))
          refine Calls.mono (c_laws_toPollDeed (x0 := x8) (x1 := x9)  h137) ?_
          rintro e w1 ⟨rfl, T⟩
          exact ⟨_, rfl, rfl, S.call0 T⟩
        · intro a u X hB hu hp hr hz hl S
          replace S : St w u ([] ++ X) := S
          have e32 : sl a 32 = .agg #[.int .i64 p129.1, .slice B130 p129.2.1.length d132, .int .i64 p129.2.2.1, .slice B133 p129.2.2.2.1.length d135, .int .i64 p129.2.2.2.2.1, .int .i64 p129.2.2.2.2.2.1, .int .i64 p129.2.2.2.2.2.2.1, .int .i64 p129.2.2.2.2.2.2.2] := hp 0 rfl
          have e34 : sl a 34 = .agg #[.int .i64 p137.1, .int .i64 p137.2] := hp 2 rfl
          refine .inr (.inr (.inl ⟨rfl, _, _, (run_call (vs := [.agg #[.int .i64 p129.1, .slice B130 p129.2.1.length d132, .int .i64 p129.2.2.1, .slice B133 p129.2.2.2.1.length d135, .int .i64 p129.2.2.2.2.1, .int .i64 p129.2.2.2.2.2.1, .int .i64 p129.2.2.2.2.2.2.1, .int .i64 p129.2.2.2.2.2.2.2], .agg #[.int .i64 p137.1, .int .i64 p137.2]]) rfl rfl co10 ⟨(ev_sl e32), (ev_sl e34), trivial⟩), ?_⟩))
          refine Calls.mono (c_impl_PollDo (x0 := p129.1) (x1 := p129.2.1) (x2 := p129.2.2.1) (x3 := p129.2.2.2.1) (x4 := p129.2.2.2.2.1) (x5 := p129.2.2.2.2.2.1) (x6 := p129.2.2.2.2.2.2.1) (x7 := p129.2.2.2.2.2.2.2) (x8 := p137.1) (x9 := p137.2) ⟨(gr_rc S hl 1 rfl), rfl⟩ ⟨(gr_rc S hl 2 rfl), rfl⟩ h138) ?_
          rintro e w1 ⟨B139, n140, d141, B142, n143, d144, rfl, rfl, rfl, T⟩
          exact ⟨_, rfl, rfl, S.call2 T⟩
        · intro a u X hB hu hp hr hz hl S
          replace S : St w u ([] ++ X) := S
          have e35 : sl a 35 = .tuple #[.agg #[.int .i64 p138.1, .slice (slA (vtup (vtup (sl a 35) 0) 1)) p138.2.1.length (slC (vtup (vtup (sl a 35) 0) 1)), .int .i64 p138.2.2.1, .slice (slA (vtup (vtup (sl a 35) 0) 3)) p138.2.2.2.1.length (slC (vtup (vtup (sl a 35) 0) 3)), .int .i64 p138.2.2.2.2.1, .int .i64 p138.2.2.2.2.2.1, .int .i64 p138.2.2.2.2.2.2.1, .int .i64 p138.2.2.2.2.2.2.2.1], .bool p138.2.2.2.2.2.2.2.2] := hp 3 rfl
          exact .inl ⟨rfl, .tuple #[.agg #[.int .i64 p138.1, .slice (slA (vtup (vtup (sl a 35) 0) 1)) p138.2.1.length (slC (vtup (vtup (sl a 35) 0) 1)), .int .i64 p138.2.2.1, .slice (slA (vtup (vtup (sl a 35) 0) 3)) p138.2.2.2.1.length (slC (vtup (vtup (sl a 35) 0) 3)), .int .i64 p138.2.2.2.2.1, .int .i64 p138.2.2.2.2.2.1, .int .i64 p138.2.2.2.2.2.2.1, .int .i64 p138.2.2.2.2.2.2.2.1], .bool p138.2.2.2.2.2.2.2.2], u, (run_move rfl (ev_sl e35)), rfl, S⟩
        · intro a u X hB hu hp hr hz hl S
          replace S : St w u ([] ++ X) := S
          have e31 : sl a 31 = .tuple #[.agg #[.int .i64 p138.1, .slice (slA (vtup (vtup (sl a 35) 0) 1)) p138.2.1.length (slC (vtup (vtup (sl a 35) 0) 1)), .int .i64 p138.2.2.1, .slice (slA (vtup (vtup (sl a 35) 0) 3)) p138.2.2.2.1.length (slC (vtup (vtup (sl a 35) 0) 3)), .int .i64 p138.2.2.2.2.1, .int .i64 p138.2.2.2.2.2.1, .int .i64 p138.2.2.2.2.2.2.1, .int .i64 p138.2.2.2.2.2.2.2.1], .bool p138.2.2.2.2.2.2.2.2] := hp 4 rfl
          exact .inl ⟨rfl, .agg #[.int .i64 p138.1, .slice (slA (vtup (vtup (sl a 35) 0) 1)) p138.2.1.length (slC (vtup (vtup (sl a 35) 0) 1)), .int .i64 p138.2.2.1, .slice (slA (vtup (vtup (sl a 35) 0) 3)) p138.2.2.2.1.length (slC (vtup (vtup (sl a 35) 0) 3)), .int .i64 p138.2.2.2.2.1, .int .i64 p138.2.2.2.2.2.1, .int .i64 p138.2.2.2.2.2.2.1, .int .i64 p138.2.2.2.2.2.2.2.1], u, (run_extract rfl (ev_sl e31) rfl), rfl, S⟩
        · intro a u X hB hu hp hr hz hl S
          replace S : St w u ([] ++ X) := S
          have e31 : sl a 31 = .tuple #[.agg #[.int .i64 p138.1, .slice (slA (vtup (vtup (sl a 35) 0) 1)) p138.2.1.length (slC (vtup (vtup (sl a 35) 0) 1)), .int .i64 p138.2.2.1, .slice (slA (vtup (vtup (sl a 35) 0) 3)) p138.2.2.2.1.length (slC (vtup (vtup (sl a 35) 0) 3)), .int .i64 p138.2.2.2.2.1, .int .i64 p138.2.2.2.2.2.1, .int .i64 p138.2.2.2.2.2.2.1, .int .i64 p138.2.2.2.2.2.2.2.1], .bool p138.2.2.2.2.2.2.2.2] := hp 4 rfl
          exact .inl ⟨rfl, .bool p138.2.2.2.2.2.2.2.2, u, (run_extract rfl (ev_sl e31) rfl), rfl, S⟩
        · intro a u X hB hu hp hr hz hl S
          replace S : St w u ([] ++ X) := S
          exact .inl ⟨rfl, _, _, (run_allocZ rfl zr28), rfl, S.alloc _ _⟩
        · intro a u X hB hu hp hr hz hl S
          replace S : St w u ([.box (ptB (sl a 9)) 28 #[.int .i64 0, .slice none 0 0, .int .i64 0, .slice none 0 0, .int .i64 0, .int .i64 0, .int .i64 0, .int .i64 0]] ++ X) := S
          have e9 : sl a 9 = .pointer (some ⟨ptB (sl a 9), 0, none⟩) := hp 7 rfl
          have e36 : sl a 36 = .agg #[.int .i64 p138.1, .slice (slA (vtup (vtup (sl a 35) 0) 1)) p138.2.1.length (slC (vtup (vtup (sl a 35) 0) 1)), .int .i64 p138.2.2.1, .slice (slA (vtup (vtup (sl a 35) 0) 3)) p138.2.2.2.1.length (slC (vtup (vtup (sl a 35) 0) 3)), .int .i64 p138.2.2.2.2.1, .int .i64 p138.2.2.2.2.2.1, .int .i64 p138.2.2.2.2.2.2.1, .int .i64 p138.2.2.2.2.2.2.2.1] := hp 5 rfl
          exact .inr (.inl ⟨rfl, _, run_store (cs' := #[.int .i64 p138.1, .slice (slA (vtup (vtup (sl a 35) 0) 1)) p138.2.1.length (slC (vtup (vtup (sl a 35) 0) 1)), .int .i64 p138.2.2.1, .slice (slA (vtup (vtup (sl a 35) 0) 3)) p138.2.2.2.1.length (slC (vtup (vtup (sl a 35) 0) 3)), .int .i64 p138.2.2.2.2.1, .int .i64 p138.2.2.2.2.2.1, .int .i64 p138.2.2.2.2.2.2.1, .int .i64 p138.2.2.2.2.2.2.2.1]) rfl sz28 (ev_sl e9) (ev_sl e36) rfl rfl rfl (S.free 0 rfl) rfl rfl, trivial, S.put 0 rfl (#[.int .i64 p138.1, .slice (slA (vtup (vtup (sl a 35) 0) 1)) p138.2.1.length (slC (vtup (vtup (sl a 35) 0) 1)), .int .i64 p138.2.2.1, .slice (slA (vtup (vtup (sl a 35) 0) 3)) p138.2.2.2.1.length (slC (vtup (vtup (sl a 35) 0) 3)), .int .i64 p138.2.2.2.2.1, .int .i64 p138.2.2.2.2.2.1, .int .i64 p138.2.2.2.2.2.2.1, .int .i64 p138.2.2.2.2.2.2.2.1])⟩)
        · intro a u X hB hu hp hr hz hl S
          replace S : St w u ([] ++ X) := S
          have e37 : sl a 37 = .bool p138.2.2.2.2.2.2.2.2 := hp 6 rfl
          exact .inl ⟨rfl, .bool p138.2.2.2.2.2.2.2.2, u, (run_assign rfl (ev_sl e37)), rfl, S⟩
      · intro a u hB hp S
        obtain ⟨q0, q1, q2, q3, q4, q5, q6, q7, q8, q9, _⟩ := hp
        have e32 : sl a 32 = .agg #[.int .i64 p129.1, .slice B130 p129.2.1.length d132, .int .i64 p129.2.2.1, .slice B133 p129.2.2.2.1.length d135, .int .i64 p129.2.2.2.2.1, .int .i64 p129.2.2.2.2.2.1, .int .i64 p129.2.2.2.2.2.2.1, .int .i64 p129.2.2.2.2.2.2.2] := q0
        have e33 : sl a 33 = .agg #[.int .i64 x8, .int .i64 x9] := q1
        have e34 : sl a 34 = .agg #[.int .i64 p137.1, .int .i64 p137.2] := q2
        have e35 : sl a 35 = .tuple #[.agg #[.int .i64 p138.1, .slice (slA (vtup (vtup (sl a 35) 0) 1)) p138.2.1.length (slC (vtup (vtup (sl a 35) 0) 1)), .int .i64 p138.2.2.1, .slice (slA (vtup (vtup (sl a 35) 0) 3)) p138.2.2.2.1.length (slC (vtup (vtup (sl a 35) 0) 3)), .int .i64 p138.2.2.2.2.1, .int .i64 p138.2.2.2.2.2.1, .int .i64 p138.2.2.2.2.2.2.1, .int .i64 p138.2.2.2.2.2.2.2.1], .bool p138.2.2.2.2.2.2.2.2] := q3
        have e31 : sl a 31 = .tuple #[.agg #[.int .i64 p138.1, .slice (slA (vtup (vtup (sl a 35) 0) 1)) p138.2.1.length (slC (vtup (vtup (sl a 35) 0) 1)), .int .i64 p138.2.2.1, .slice (slA (vtup (vtup (sl a 35) 0) 3)) p138.2.2.2.1.length (slC (vtup (vtup (sl a 35) 0) 3)), .int .i64 p138.2.2.2.2.1, .int .i64 p138.2.2.2.2.2.1, .int .i64 p138.2.2.2.2.2.2.1, .int .i64 p138.2.2.2.2.2.2.2.1], .bool p138.2.2.2.2.2.2.2.2] := q4
        have e36 : sl a 36 = .agg #[.int .i64 p138.1, .slice (slA (vtup (vtup (sl a 35) 0) 1)) p138.2.1.length (slC (vtup (vtup (sl a 35) 0) 1)), .int .i64 p138.2.2.1, .slice (slA (vtup (vtup (sl a 35) 0) 3)) p138.2.2.2.1.length (slC (vtup (vtup (sl a 35) 0) 3)), .int .i64 p138.2.2.2.2.1, .int .i64 p138.2.2.2.2.2.1, .int .i64 p138.2.2.2.2.2.2.1, .int .i64 p138.2.2.2.2.2.2.2.1] := q5
        have e37 : sl a 37 = .bool p138.2.2.2.2.2.2.2.2 := q6
        have e9 : sl a 9 = .pointer (some ⟨ptB (sl a 9), 0, none⟩) := q7
        have e10 : sl a 10 = .bool p138.2.2.2.2.2.2.2.2 := q9
        replace S : St w u [.row 3 1 (.slice (slA (vtup (vtup (sl a 35) 0) 1)) p138.2.1.length (slC (vtup (vtup (sl a 35) 0) 1))) p138.2.1.length (p138.2.1.flatMap eI), .row 3 1 (.slice (slA (vtup (vtup (sl a 35) 0) 3)) p138.2.2.2.1.length (slC (vtup (vtup (sl a 35) 0) 3))) p138.2.2.2.1.length (p138.2.2.2.1.flatMap eI), .box (ptB (sl a 9)) 28 #[.int .i64 p138.1, .slice (slA (vtup (vtup (sl a 35) 0) 1)) p138.2.1.length (slC (vtup (vtup (sl a 35) 0) 1)), .int .i64 p138.2.2.1, .slice (slA (vtup (vtup (sl a 35) 0) 3)) p138.2.2.2.1.length (slC (vtup (vtup (sl a 35) 0) 3)), .int .i64 p138.2.2.2.2.1, .int .i64 p138.2.2.2.2.2.1, .int .i64 p138.2.2.2.2.2.2.1, .int .i64 p138.2.2.2.2.2.2.2.1], .box g136 28 #[.int .i64 p129.1, .slice B130 p129.2.1.length d132, .int .i64 p129.2.2.1, .slice B133 p129.2.2.2.1.length d135, .int .i64 p129.2.2.2.2.1, .int .i64 p129.2.2.2.2.2.1, .int .i64 p129.2.2.2.2.2.2.1, .int .i64 p129.2.2.2.2.2.2.2], .row 3 1 (.slice B130 p129.2.1.length d132) p129.2.1.length (p129.2.1.flatMap eI), .row 3 1 (.slice B133 p129.2.2.2.1.length d135) p129.2.2.2.1.length (p129.2.2.2.1.flatMap eI), .row 3 1 (.slice B120 p105.2.1.length d121) p105.2.1.length (p105.2.1.flatMap eI), .row 3 1 (.slice B122 p105.2.2.2.1.length d123) p105.2.2.2.1.length (p105.2.2.2.1.flatMap eI), .row 3 1 (.slice B124 p113.2.1.length d125) p113.2.1.length (p113.2.1.flatMap eI), .row 3 1 (.slice B126 p113.2.2.2.1.length d127) p113.2.2.2.1.length (p113.2.2.2.1.flatMap eI), .box g128 28 #[.int .i64 p113.1, .slice B124 p113.2.1.length d125, .int .i64 p113.2.2.1, .slice B126 p113.2.2.2.1.length d127, .int .i64 p113.2.2.2.2.1, .int .i64 p113.2.2.2.2.2.1, .int .i64 p113.2.2.2.2.2.2.1, .int .i64 p113.2.2.2.2.2.2.2.1], .box g102 26 #[.int .i64 x8, .int .i64 x9], .box g101 24 #[.int .i64 x0, .slice A1 x1.length c1, .int .i64 x2, .slice A3 x3.length c3, .int .i64 x4, .int .i64 x5, .int .i64 x6, .int .i64 x7]] := S
        clear q0 q1 q2 q3 q4 q5 q6 q7 q8 q9
        generalize slA (vtup (vtup (sl a 35) 0) 1) = B145 at *
        generalize slC (vtup (vtup (sl a 35) 0) 1) = d146 at *
        generalize slA (vtup (vtup (sl a 35) 0) 3) = B147 at *
        generalize slC (vtup (vtup (sl a 35) 0) 3) = d148 at *
        generalize ptB (sl a 9) = g149 at *
        have hF := hF.region hB [(32, .agg #[.int .i64 p129.1, .slice B130 p129.2.1.length d132, .int .i64 p129.2.2.1, .slice B133 p129.2.2.2.1.length d135, .int .i64 p129.2.2.2.2.1, .int .i64 p129.2.2.2.2.2.1, .int .i64 p129.2.2.2.2.2.2.1, .int .i64 p129.2.2.2.2.2.2.2]), (33, .agg #[.int .i64 x8, .int .i64 x9]), (34, .agg #[.int .i64 p137.1, .int .i64 p137.2]), (35, .tuple #[.agg #[.int .i64 p138.1, .slice B145 p138.2.1.length d146, .int .i64 p138.2.2.1, .slice B147 p138.2.2.2.1.length d148, .int .i64 p138.2.2.2.2.1, .int .i64 p138.2.2.2.2.2.1, .int .i64 p138.2.2.2.2.2.2.1, .int .i64 p138.2.2.2.2.2.2.2.1], .bool p138.2.2.2.2.2.2.2.2]), (31, .tuple #[.agg #[.int .i64 p138.1, .slice B145 p138.2.1.length d146, .int .i64 p138.2.2.1, .slice B147 p138.2.2.2.1.length d148, .int .i64 p138.2.2.2.2.1, .int .i64 p138.2.2.2.2.2.1, .int .i64 p138.2.2.2.2.2.2.1, .int .i64 p138.2.2.2.2.2.2.2.1], .bool p138.2.2.2.2.2.2.2.2]), (36, .agg #[.int .i64 p138.1, .slice B145 p138.2.1.length d146, .int .i64 p138.2.2.1, .slice B147 p138.2.2.2.1.length d148, .int .i64 p138.2.2.2.2.1, .int .i64 p138.2.2.2.2.2.1, .int .i64 p138.2.2.2.2.2.2.1, .int .i64 p138.2.2.2.2.2.2.2.1]), (37, .bool p138.2.2.2.2.2.2.2.2), (9, .pointer (some ⟨g149, 0, none⟩)), (10, .bool p138.2.2.2.2.2.2.2.2)] (allSl_mem ⟨e32, e33, e34, e35, e31, e36, e37, e9, e10, trivial⟩) rfl
        clear hB e32 e33 e34 e35 e31 e36 e37 e9 e10
        refine wp_seq ?_
        refine wp_seq ?_
        refine wp_region_lit ?_
        refine op_val (v := .agg #[.int .i64 p138.1, .slice B145 p138.2.1.length d146, .int .i64 p138.2.2.1, .slice B147 p138.2.2.2.1.length d148, .int .i64 p138.2.2.2.2.1, .int .i64 p138.2.2.2.2.2.1, .int .i64 p138.2.2.2.2.2.2.1, .int .i64 p138.2.2.2.2.2.2.2.1]) rfl rfl hF rfl (run_loadN rfl ag28 (hF.ev rfl) rfl ((S.free 2 rfl).cells 0 #[.int .i64 p138.1, .slice B145 p138.2.1.length d146, .int .i64 p138.2.2.1, .slice B147 p138.2.2.2.1.length d148, .int .i64 p138.2.2.2.2.1, .int .i64 p138.2.2.2.2.2.1, .int .i64 p138.2.2.2.2.2.2.1, .int .i64 p138.2.2.2.2.2.2.2.1] rfl)) ?_; clear hF; intro a hF
        refine op_val (v := .agg #[.int .i64 p113.1, .slice B124 p113.2.1.length d125, .int .i64 p113.2.2.1, .slice B126 p113.2.2.2.1.length d127, .int .i64 p113.2.2.2.2.1, .int .i64 p113.2.2.2.2.2.1, .int .i64 p113.2.2.2.2.2.2.1, .int .i64 p113.2.2.2.2.2.2.2.1]) rfl rfl hF rfl (run_loadN rfl ag28 (hF.ev rfl) rfl ((S.free 10 rfl).cells 0 #[.int .i64 p113.1, .slice B124 p113.2.1.length d125, .int .i64 p113.2.2.1, .slice B126 p113.2.2.2.1.length d127, .int .i64 p113.2.2.2.2.1, .int .i64 p113.2.2.2.2.2.1, .int .i64 p113.2.2.2.2.2.2.1, .int .i64 p113.2.2.2.2.2.2.2.1] rfl)) ?_; clear hF; intro a hF
        obtain ⟨p150, h150, hM⟩ := bind_ex hM
        refine op_call rfl rfl hF rfl (run_call (vs := [.agg #[.int .i64 p138.1, .slice B145 p138.2.1.length d146, .int .i64 p138.2.2.1, .slice B147 p138.2.2.2.1.length d148, .int .i64 p138.2.2.2.2.1, .int .i64 p138.2.2.2.2.2.1, .int .i64 p138.2.2.2.2.2.2.1, .int .i64 p138.2.2.2.2.2.2.2.1], .agg #[.int .i64 p113.1, .slice B124 p113.2.1.length d125, .int .i64 p113.2.2.1, .slice B126 p113.2.2.2.1.length d127, .int .i64 p113.2.2.2.2.1, .int .i64 p113.2.2.2.2.2.1, .int .i64 p113.2.2.2.2.2.2.1, .int .i64 p113.2.2.2.2.2.2.2.1]]) rfl rfl co11 ⟨(hF.ev rfl), (hF.ev rfl), trivial⟩) (c_laws_eqPoll (x0 := p138.1) (x1 := p138.2.1) (x2 := p138.2.2.1) (x3 := p138.2.2.2.1) (x4 := p138.2.2.2.2.1) (x5 := p138.2.2.2.2.2.1) (x6 := p138.2.2.2.2.2.2.1) (x7 := p138.2.2.2.2.2.2.2.1) (x8 := p113.1) (x9 := p113.2.1) (x10 := p113.2.2.1) (x11 := p113.2.2.2.1) (x12 := p113.2.2.2.2.1) (x13 := p113.2.2.2.2.2.1) (x14 := p113.2.2.2.2.2.2.1) (x15 := p113.2.2.2.2.2.2.2.1) ⟨(S.rc 0 rfl), rfl⟩ ⟨(S.rc 1 rfl), rfl⟩ ⟨(S.rc 8 rfl), rfl⟩ ⟨(S.rc 9 rfl), rfl⟩ h150) ?_
        rintro e u ⟨rfl, T⟩
        refine ⟨_, rfl, ?_⟩
        clear hF; intro a hF
        replace S := S.call0 T; clear T
        refine op_val (v := .bool (!p150)) rfl rfl hF rfl (run_not rfl (hF.ev rfl)) ?_; clear hF; intro a hF
        refine op_val (v := .bool (!p150)) rfl rfl hF rfl (run_move rfl (hF.ev rfl)) ?_; clear hF; intro a hF
        refine op_gv (v := .bool p138.2.2.2.2.2.2.2.2) rfl rfl hF rfl (yf (gw_yield hF rfl rfl rfl)) (fun hg => (run_move rfl (hF.ev rfl))) ?_; clear hF; intro a hF
        refine op_gv (v := .bool p113.2.2.2.2.2.2.2.2) rfl rfl hF rfl (yf (gw_yield hF rfl rfl rfl)) (fun hg => (run_move rfl (hF.ev rfl))) ?_; clear hF; intro a hF
        refine op_gv (v := .bool (p138.2.2.2.2.2.2.2.2 != p113.2.2.2.2.2.2.2.2)) rfl rfl hF rfl (yf (gw_yield hF rfl rfl rfl)) (fun hg => (run_neqB ((hF.ev rfl).trans (gv_t hg)) ((hF.ev rfl).trans (gv_t hg)) Try.underlying4 rfl)) ?_; clear hF; intro a hF
        refine op_val (v := .bool ((!p150) || (p138.2.2.2.2.2.2.2.2 != p113.2.2.2.2.2.2.2.2))) rfl rfl hF rfl (run_pick_or rfl (hF.ev rfl) rfl (fun hp => ((hF.ev rfl).trans (gv_t (not_t hp))))) ?_; clear hF; intro a hF
        refine wpList_nil ?_
        cases hc151 : ((!p150) || (p138.2.2.2.2.2.2.2.2 != p113.2.2.2.2.2.2.2.2))
        · replace hM := bif_f hc151 hM
          refine cond_f hF rfl hc151 ?_
          refine wp_skip ?_
          refine wp_seq ?_
          refine wp_seq ?_
          obtain ⟨p152, h152, hM⟩ := bind_ex hM
          obtain ⟨p159, h159, hM⟩ := bind_ex hM
          refine region_gw (D := [47, 48, 49, 50, 51]) (Lr := [.row 3 1 (.slice B145 p138.2.1.length d146) p138.2.1.length (p138.2.1.flatMap eI), .row 3 1 (.slice B147 p138.2.2.2.1.length d148) p138.2.2.2.1.length (p138.2.2.2.1.flatMap eI), .box g149 28 #[.int .i64 p138.1, .slice B145 p138.2.1.length d146, .int .i64 p138.2.2.1, .slice B147 p138.2.2.2.1.length d148, .int .i64 p138.2.2.2.2.1, .int .i64 p138.2.2.2.2.2.1, .int .i64 p138.2.2.2.2.2.2.1, .int .i64 p138.2.2.2.2.2.2.2.1], .box g136 28 #[.int .i64 p129.1, .slice B130 p129.2.1.length d132, .int .i64 p129.2.2.1, .slice B133 p129.2.2.2.1.length d135, .int .i64 p129.2.2.2.2.1, .int .i64 p129.2.2.2.2.2.1, .int .i64 p129.2.2.2.2.2.2.1, .int .i64 p129.2.2.2.2.2.2.2], .row 3 1 (.slice B130 p129.2.1.length d132) p129.2.1.length (p129.2.1.flatMap eI), .row 3 1 (.slice B133 p129.2.2.2.1.length d135) p129.2.2.2.1.length (p129.2.2.2.1.flatMap eI), .row 3 1 (.slice B120 p105.2.1.length d121) p105.2.1.length (p105.2.1.flatMap eI), .row 3 1 (.slice B122 p105.2.2.2.1.length d123) p105.2.2.2.1.length (p105.2.2.2.1.flatMap eI), .row 3 1 (.slice B124 p113.2.1.length d125) p113.2.1.length (p113.2.1.flatMap eI), .row 3 1 (.slice B126 p113.2.2.2.1.length d127) p113.2.2.2.1.length (p113.2.2.2.1.flatMap eI), .box g128 28 #[.int .i64 p113.1, .slice B124 p113.2.1.length d125, .int .i64 p113.2.2.1, .slice B126 p113.2.2.2.1.length d127, .int .i64 p113.2.2.2.2.1, .int .i64 p113.2.2.2.2.2.1, .int .i64 p113.2.2.2.2.2.2.1, .int .i64 p113.2.2.2.2.2.2.2.1], .box g102 26 #[.int .i64 x8, .int .i64 x9], .box g101 24 #[.int .i64 x0, .slice A1 x1.length c1, .int .i64 x2, .slice A3 x3.length c3, .int .i64 x4, .int .i64 x5, .int .i64 x6, .int .i64 x7]]) (deps := (fun | 0 => [47] | 1 => [48] | 2 => [49] | 3 => [50] | 4 => [51] | _ => [])) (rd := (fun | 3 => [2] | _ => [])) (zr := (fun _ => []))
            (φ := fun i vs => match i, vs with | 0, [v47] => v47 = .agg #[.int .i64 p129.1, .slice B130 p129.2.1.length d132, .int .i64 p129.2.2.1, .slice B133 p129.2.2.2.1.length d135, .int .i64 p129.2.2.2.2.1, .int .i64 p129.2.2.2.2.2.1, .int .i64 p129.2.2.2.2.2.2.1, .int .i64 p129.2.2.2.2.2.2.2] | 1, [v48] => v48 = .agg #[.int .i64 x0, .slice A1 x1.length c1, .int .i64 x2, .slice A3 x3.length c3, .int .i64 x4, .int .i64 x5, .int .i64 x6, .int .i64 x7] | 2, [v49] => v49 = .agg #[.int .i64 p152.1, .slice (slA (vtup v49 1)) p152.2.1.length (slC (vtup v49 1)), .int .i64 p152.2.2.1, .slice (slA (vtup v49 3)) p152.2.2.2.1.length (slC (vtup v49 3)), .int .i64 p152.2.2.2.2.1, .int .i64 p152.2.2.2.2.2.1, .int .i64 p152.2.2.2.2.2.2.1, .int .i64 p152.2.2.2.2.2.2.2] | 3, [v50] => v50 = .bool p159 | 4, [v51] => v51 = .bool (!p159) | _, _ => True)
            (C := fun i vs => match i, vs with | 2, [v49] => [.row 3 1 (.slice (slA (vtup v49 1)) p152.2.1.length (slC (vtup v49 1))) p152.2.1.length (p152.2.1.flatMap eI), .row 3 1 (.slice (slA (vtup v49 3)) p152.2.2.2.1.length (slC (vtup v49 3))) p152.2.2.2.1.length (p152.2.2.2.1.flatMap eI)] | _, _ => [])
            (κ := (fun _ => none)) (Z := (fun _ => [])) mixed hF (by kernel_rfl) S ?_ ?_
          · refine ⟨?_, ?_, ?_, ?_, ?_, trivial⟩
            · intro a u X hB hu hp hr hz hl S
              replace S : St w u ([] ++ X) := S
              exact .inl ⟨rfl, .agg #[.int .i64 p129.1, .slice B130 p129.2.1.length d132, .int .i64 p129.2.2.1, .slice B133 p129.2.2.2.1.length d135, .int .i64 p129.2.2.2.2.1, .int .i64 p129.2.2.2.2.2.1, .int .i64 p129.2.2.2.2.2.2.1, .int .i64 p129.2.2.2.2.2.2.2], u, (run_loadN rfl ag28 (hF.evB hB rfl rfl) rfl ((gr_box S hl 3 rfl).cells 0 #[.int .i64 p129.1, .slice B130 p129.2.1.length d132, .int .i64 p129.2.2.1, .slice B133 p129.2.2.2.1.length d135, .int .i64 p129.2.2.2.2.1, .int .i64 p129.2.2.2.2.2.1, .int .i64 p129.2.2.2.2.2.2.1, .int .i64 p129.2.2.2.2.2.2.2] rfl)), rfl, S⟩
            · intro a u X hB hu hp hr hz hl S
              replace S : St w u ([] ++ X) := S
              exact .inl ⟨rfl, .agg #[.int .i64 x0, .slice A1 x1.length c1, .int .i64 x2, .slice A3 x3.length c3, .int .i64 x4, .int .i64 x5, .int .i64 x6, .int .i64 x7], u, (run_loadN rfl ag24 (hF.evB hB rfl rfl) rfl ((gr_box S hl 12 rfl).cells 0 #[.int .i64 x0, .slice A1 x1.length c1, .int .i64 x2, .slice A3 x3.length c3, .int .i64 x4, .int .i64 x5, .int .i64 x6, .int .i64 x7] rfl)), rfl, S⟩
            · intro a u X hB hu hp hr hz hl S
              replace S : St w u ([] ++ X) := S
              have e48 : sl a 48 = .agg #[.int .i64 x0, .slice A1 x1.length c1, .int .i64 x2, .slice A3 x3.length c3, .int .i64 x4, .int .i64 x5, .int .i64 x6, .int .i64 x7] := hp 1 rfl
              refine .inr (.inr (.inl ⟨rfl, _, _, (run_call (vs := [.agg #[.int .i64 x0, .slice A1 x1.length c1, .int .i64 x2, .slice A3 x3.length c3, .int .i64 x4, .int .i64 x5, .int .i64 x6, .int .i64 x7]]) rfl rfl co8 ⟨(ev_sl e48), trivial⟩), ?_⟩))
              refine Calls.mono (c_laws_toPoll (x0 := x0) (x1 := x1) (x2 := x2) (x3 := x3) (x4 := x4) (x5 := x5) (x6 := x6) (x7 := x7) ⟨(S.rc0 h1.rc), rfl⟩ ⟨(S.rc0 h3.rc), rfl⟩ h152) ?_
              rintro e w1 ⟨B153, n154, d155, B156, n157, d158, rfl, rfl, rfl, T⟩
              exact ⟨_, rfl, rfl, S.call2 T⟩
            · intro a u X hB hu hp hr hz hl S
              replace S : St w u ([] ++ X) := S
              have e47 : sl a 47 = .agg #[.int .i64 p129.1, .slice B130 p129.2.1.length d132, .int .i64 p129.2.2.1, .slice B133 p129.2.2.2.1.length d135, .int .i64 p129.2.2.2.2.1, .int .i64 p129.2.2.2.2.2.1, .int .i64 p129.2.2.2.2.2.2.1, .int .i64 p129.2.2.2.2.2.2.2] := hp 0 rfl
              have e49 : sl a 49 = .agg #[.int .i64 p152.1, .slice (slA (vtup (sl a 49) 1)) p152.2.1.length (slC (vtup (sl a 49) 1)), .int .i64 p152.2.2.1, .slice (slA (vtup (sl a 49) 3)) p152.2.2.2.1.length (slC (vtup (sl a 49) 3)), .int .i64 p152.2.2.2.2.1, .int .i64 p152.2.2.2.2.2.1, .int .i64 p152.2.2.2.2.2.2.1, .int .i64 p152.2.2.2.2.2.2.2] := hp 2 rfl
              refine .inr (.inr (.inl ⟨rfl, _, _, (run_call (vs := [.agg #[.int .i64 p129.1, .slice B130 p129.2.1.length d132, .int .i64 p129.2.2.1, .slice B133 p129.2.2.2.1.length d135, .int .i64 p129.2.2.2.2.1, .int .i64 p129.2.2.2.2.2.1, .int .i64 p129.2.2.2.2.2.2.1, .int .i64 p129.2.2.2.2.2.2.2], .agg #[.int .i64 p152.1, .slice (slA (vtup (sl a 49) 1)) p152.2.1.length (slC (vtup (sl a 49) 1)), .int .i64 p152.2.2.1, .slice (slA (vtup (sl a 49) 3)) p152.2.2.2.1.length (slC (vtup (sl a 49) 3)), .int .i64 p152.2.2.2.2.1, .int .i64 p152.2.2.2.2.2.1, .int .i64 p152.2.2.2.2.2.2.1, .int .i64 p152.2.2.2.2.2.2.2]]) rfl rfl co11 ⟨(ev_sl e47), (ev_sl e49), trivial⟩), ?_⟩))
              refine Calls.mono (c_laws_eqPoll (x0 := p129.1) (x1 := p129.2.1) (x2 := p129.2.2.1) (x3 := p129.2.2.2.1) (x4 := p129.2.2.2.2.1) (x5 := p129.2.2.2.2.2.1) (x6 := p129.2.2.2.2.2.2.1) (x7 := p129.2.2.2.2.2.2.2) (x8 := p152.1) (x9 := p152.2.1) (x10 := p152.2.2.1) (x11 := p152.2.2.2.1) (x12 := p152.2.2.2.2.1) (x13 := p152.2.2.2.2.2.1) (x14 := p152.2.2.2.2.2.2.1) (x15 := p152.2.2.2.2.2.2.2) ⟨(gr_rc S hl 4 rfl), rfl⟩ ⟨(gr_rc S hl 5 rfl), rfl⟩ ⟨(own_rc (show Ow _ _ _ _ _ _ from S.mem (List.mem_append_right _ (hr 2 (List.mem_of_getElem? (i := 0) rfl) _ (List.mem_of_getElem? (i := 0) rfl))))), rfl⟩ ⟨(own_rc (show Ow _ _ _ _ _ _ from S.mem (List.mem_append_right _ (hr 2 (List.mem_of_getElem? (i := 0) rfl) _ (List.mem_of_getElem? (i := 1) rfl))))), rfl⟩ h159) ?_
              rintro e w1 ⟨rfl, T⟩
              exact ⟨_, rfl, rfl, S.call0 T⟩
            · intro a u X hB hu hp hr hz hl S
              replace S : St w u ([] ++ X) := S
              have e50 : sl a 50 = .bool p159 := hp 3 rfl
              exact .inl ⟨rfl, .bool (!p159), u, (run_not rfl (ev_sl e50)), rfl, S⟩
          · intro a u hB hp S
            obtain ⟨q0, q1, q2, q3, q4, _⟩ := hp
            have e47 : sl a 47 = .agg #[.int .i64 p129.1, .slice B130 p129.2.1.length d132, .int .i64 p129.2.2.1, .slice B133 p129.2.2.2.1.length d135, .int .i64 p129.2.2.2.2.1, .int .i64 p129.2.2.2.2.2.1, .int .i64 p129.2.2.2.2.2.2.1, .int .i64 p129.2.2.2.2.2.2.2] := q0
            have e48 : sl a 48 = .agg #[.int .i64 x0, .slice A1 x1.length c1, .int .i64 x2, .slice A3 x3.length c3, .int .i64 x4, .int .i64 x5, .int .i64 x6, .int .i64 x7] := q1
            have e49 : sl a 49 = .agg #[.int .i64 p152.1, .slice (slA (vtup (sl a 49) 1)) p152.2.1.length (slC (vtup (sl a 49) 1)), .int .i64 p152.2.2.1, .slice (slA (vtup (sl a 49) 3)) p152.2.2.2.1.length (slC (vtup (sl a 49) 3)), .int .i64 p152.2.2.2.2.1, .int .i64 p152.2.2.2.2.2.1, .int .i64 p152.2.2.2.2.2.2.1, .int .i64 p152.2.2.2.2.2.2.2] := q2
            have e50 : sl a 50 = .bool p159 := q3
            have e51 : sl a 51 = .bool (!p159) := q4
            replace S : St w u [.row 3 1 (.slice (slA (vtup (sl a 49) 1)) p152.2.1.length (slC (vtup (sl a 49) 1))) p152.2.1.length (p152.2.1.flatMap eI), .row 3 1 (.slice (slA (vtup (sl a 49) 3)) p152.2.2.2.1.length (slC (vtup (sl a 49) 3))) p152.2.2.2.1.length (p152.2.2.2.1.flatMap eI), .row 3 1 (.slice B145 p138.2.1.length d146) p138.2.1.length (p138.2.1.flatMap eI), .row 3 1 (.slice B147 p138.2.2.2.1.length d148) p138.2.2.2.1.length (p138.2.2.2.1.flatMap eI), .box g149 28 #[.int .i64 p138.1, .slice B145 p138.2.1.length d146, .int .i64 p138.2.2.1, .slice B147 p138.2.2.2.1.length d148, .int .i64 p138.2.2.2.2.1, .int .i64 p138.2.2.2.2.2.1, .int .i64 p138.2.2.2.2.2.2.1, .int .i64 p138.2.2.2.2.2.2.2.1], .box g136 28 #[.int .i64 p129.1, .slice B130 p129.2.1.length d132, .int .i64 p129.2.2.1, .slice B133 p129.2.2.2.1.length d135, .int .i64 p129.2.2.2.2.1, .int .i64 p129.2.2.2.2.2.1, .int .i64 p129.2.2.2.2.2.2.1, .int .i64 p129.2.2.2.2.2.2.2], .row 3 1 (.slice B130 p129.2.1.length d132) p129.2.1.length (p129.2.1.flatMap eI), .row 3 1 (.slice B133 p129.2.2.2.1.length d135) p129.2.2.2.1.length (p129.2.2.2.1.flatMap eI), .row 3 1 (.slice B120 p105.2.1.length d121) p105.2.1.length (p105.2.1.flatMap eI), .row 3 1 (.slice B122 p105.2.2.2.1.length d123) p105.2.2.2.1.length (p105.2.2.2.1.flatMap eI), .row 3 1 (.slice B124 p113.2.1.length d125) p113.2.1.length (p113.2.1.flatMap eI), .row 3 1 (.slice B126 p113.2.2.2.1.length d127) p113.2.2.2.1.length (p113.2.2.2.1.flatMap eI), .box g128 28 #[.int .i64 p113.1, .slice B124 p113.2.1.length d125, .int .i64 p113.2.2.1, .slice B126 p113.2.2.2.1.length d127, .int .i64 p113.2.2.2.2.1, .int .i64 p113.2.2.2.2.2.1, .int .i64 p113.2.2.2.2.2.2.1, .int .i64 p113.2.2.2.2.2.2.2.1], .box g102 26 #[.int .i64 x8, .int .i64 x9], .box g101 24 #[.int .i64 x0, .slice A1 x1.length c1, .int .i64 x2, .slice A3 x3.length c3, .int .i64 x4, .int .i64 x5, .int .i64 x6, .int .i64 x7]] := S
            clear q0 q1 q2 q3 q4
            generalize slA (vtup (sl a 49) 1) = B160 at *
            generalize slC (vtup (sl a 49) 1) = d161 at *
            generalize slA (vtup (sl a 49) 3) = B162 at *
            generalize slC (vtup (sl a 49) 3) = d163 at *
            have hF := hF.region hB [(47, .agg #[.int .i64 p129.1, .slice B130 p129.2.1.length d132, .int .i64 p129.2.2.1, .slice B133 p129.2.2.2.1.length d135, .int .i64 p129.2.2.2.2.1, .int .i64 p129.2.2.2.2.2.1, .int .i64 p129.2.2.2.2.2.2.1, .int .i64 p129.2.2.2.2.2.2.2]), (48, .agg #[.int .i64 x0, .slice A1 x1.length c1, .int .i64 x2, .slice A3 x3.length c3, .int .i64 x4, .int .i64 x5, .int .i64 x6, .int .i64 x7]), (49, .agg #[.int .i64 p152.1, .slice B160 p152.2.1.length d161, .int .i64 p152.2.2.1, .slice B162 p152.2.2.2.1.length d163, .int .i64 p152.2.2.2.2.1, .int .i64 p152.2.2.2.2.2.1, .int .i64 p152.2.2.2.2.2.2.1, .int .i64 p152.2.2.2.2.2.2.2]), (50, .bool p159), (51, .bool (!p159))] (allSl_mem ⟨e47, e48, e49, e50, e51, trivial⟩) rfl
            clear hB e47 e48 e49 e50 e51
            cases hc164 : (p159)
            · replace hM := bif_f hc164 hM
              refine cond_t hF rfl (not_t hc164) ?_
              refine wp_seq ?_
              refine wp_region_lit ?_
              refine op_val (v := .bool false) rfl rfl hF rfl (run_assign rfl rfl) ?_; clear hF; intro a hF
              refine wpList_nil ?_
              refine wp_ret ?_
              repeat with_reducible (first | refine then_ret ?_ | refine in_ret ?_ | refine in_nrm ?_)
              refine ret1_gw (.inl rfl) hF rfl (res_tmp (hF.ev rfl)) ?_
              obtain rfl := Option.some.inj hM
              exact ⟨rfl, S.sel [] rfl rfl⟩
            · replace hM := bif_t hc164 hM
              refine cond_f hF rfl (not_f hc164) ?_
              refine wp_skip ?_
              refine wp_seq ?_
              refine wp_region_lit ?_
              refine op_val (v := .int .i64 1) rfl rfl hF rfl (run_assign rfl rfl) ?_; clear hF; intro a hF
              refine wpList_nil ?_
              refine wp_seq ?_
              refine wp_region_lit ?_
              refine op_val (v := .agg #[.int .i64 p129.1, .slice B130 p129.2.1.length d132, .int .i64 p129.2.2.1, .slice B133 p129.2.2.2.1.length d135, .int .i64 p129.2.2.2.2.1, .int .i64 p129.2.2.2.2.2.1, .int .i64 p129.2.2.2.2.2.2.1, .int .i64 p129.2.2.2.2.2.2.2]) rfl rfl hF rfl (run_loadN rfl ag28 (hF.ev rfl) rfl ((S.free 5 rfl).cells 0 #[.int .i64 p129.1, .slice B130 p129.2.1.length d132, .int .i64 p129.2.2.1, .slice B133 p129.2.2.2.1.length d135, .int .i64 p129.2.2.2.2.1, .int .i64 p129.2.2.2.2.2.1, .int .i64 p129.2.2.2.2.2.2.1, .int .i64 p129.2.2.2.2.2.2.2] rfl)) ?_; clear hF; intro a hF
              refine op_val (v := .int .i64 1) rfl rfl hF rfl (run_move rfl (hF.ev rfl)) ?_; clear hF; intro a hF
              obtain ⟨p165, h165, hM⟩ := bind_ex hM
              refine op_call rfl rfl hF rfl (run_call (vs := [.agg #[.int .i64 p129.1, .slice B130 p129.2.1.length d132, .int .i64 p129.2.2.1, .slice B133 p129.2.2.2.1.length d135, .int .i64 p129.2.2.2.2.1, .int .i64 p129.2.2.2.2.2.1, .int .i64 p129.2.2.2.2.2.2.1, .int .i64 p129.2.2.2.2.2.2.2], .int .i64 1]) rfl rfl co12 ⟨(hF.ev rfl), (hF.ev rfl), trivial⟩) (c_laws_markPoll (x0 := p129.1) (x1 := p129.2.1) (x2 := p129.2.2.1) (x3 := p129.2.2.2.1) (x4 := p129.2.2.2.2.1) (x5 := p129.2.2.2.2.2.1) (x6 := p129.2.2.2.2.2.2.1) (x7 := p129.2.2.2.2.2.2.2) (x8 := 1) rfl rfl (show St w _ [.row 3 1 (.slice B130 p129.2.1.length d132) p129.2.1.length (p129.2.1.flatMap eI), .row 3 1 (.slice B133 p129.2.2.2.1.length d135) p129.2.2.2.1.length (p129.2.2.2.1.flatMap eI), .row 3 1 (.slice B160 p152.2.1.length d161) p152.2.1.length (p152.2.1.flatMap eI), .row 3 1 (.slice B162 p152.2.2.2.1.length d163) p152.2.2.2.1.length (p152.2.2.2.1.flatMap eI), .row 3 1 (.slice B145 p138.2.1.length d146) p138.2.1.length (p138.2.1.flatMap eI), .row 3 1 (.slice B147 p138.2.2.2.1.length d148) p138.2.2.2.1.length (p138.2.2.2.1.flatMap eI), .box g149 28 #[.int .i64 p138.1, .slice B145 p138.2.1.length d146, .int .i64 p138.2.2.1, .slice B147 p138.2.2.2.1.length d148, .int .i64 p138.2.2.2.2.1, .int .i64 p138.2.2.2.2.2.1, .int .i64 p138.2.2.2.2.2.2.1, .int .i64 p138.2.2.2.2.2.2.2.1], .box g136 28 #[.int .i64 p129.1, .slice B130 p129.2.1.length d132, .int .i64 p129.2.2.1, .slice B133 p129.2.2.2.1.length d135, .int .i64 p129.2.2.2.2.1, .int .i64 p129.2.2.2.2.2.1, .int .i64 p129.2.2.2.2.2.2.1, .int .i64 p129.2.2.2.2.2.2.2], .row 3 1 (.slice B120 p105.2.1.length d121) p105.2.1.length (p105.2.1.flatMap eI), .row 3 1 (.slice B122 p105.2.2.2.1.length d123) p105.2.2.2.1.length (p105.2.2.2.1.flatMap eI), .row 3 1 (.slice B124 p113.2.1.length d125) p113.2.1.length (p113.2.1.flatMap eI), .row 3 1 (.slice B126 p113.2.2.2.1.length d127) p113.2.2.2.1.length (p113.2.2.2.1.flatMap eI), .box g128 28 #[.int .i64 p113.1, .slice B124 p113.2.1.length d125, .int .i64 p113.2.2.1, .slice B126 p113.2.2.2.1.length d127, .int .i64 p113.2.2.2.2.1, .int .i64 p113.2.2.2.2.2.1, .int .i64 p113.2.2.2.2.2.2.1, .int .i64 p113.2.2.2.2.2.2.2.1], .box g102 26 #[.int .i64 x8, .int .i64 x9], .box g101 24 #[.int .i64 x0, .slice A1 x1.length c1, .int .i64 x2, .slice A3 x3.length c3, .int .i64 x4, .int .i64 x5, .int .i64 x6, .int .i64 x7]] from S.sel [6, 7, 0, 1, 2, 3, 4, 5, 8, 9, 10, 11, 12, 13, 14] rfl rfl) h165) ?_
              rintro e u ⟨rfl, hn166, hn167, T⟩
              refine ⟨_, rfl, ?_⟩
              clear hF; intro a hF
              clear S; have S := T; clear T
              refine op_val (v := .int .i64 p165.1) rfl rfl hF rfl (run_assign rfl (hF.ev rfl)) ?_; clear hF; intro a hF
              refine wpList_nil ?_
              refine wp_seq ?_
              refine wp_seq ?_
              refine wp_region_lit ?_
              refine op_val (v := .int .i64 p165.1) rfl rfl hF rfl (run_move rfl (hF.ev rfl)) ?_; clear hF; intro a hF
              refine op_val (v := .bool (ltB p165.1 0)) rfl rfl hF rfl (run_lss (hF.ev rfl) rfl rfl) ?_; clear hF; intro a hF
              refine op_val (v := .bool (ltB p165.1 0)) rfl rfl hF rfl (run_move rfl (hF.ev rfl)) ?_; clear hF; intro a hF
              refine op_gv (v := .agg #[.int .i64 p138.1, .slice B145 p138.2.1.length d146, .int .i64 p138.2.2.1, .slice B147 p138.2.2.2.1.length d148, .int .i64 p138.2.2.2.2.1, .int .i64 p138.2.2.2.2.2.1, .int .i64 p138.2.2.2.2.2.2.1, .int .i64 p138.2.2.2.2.2.2.2.1]) rfl rfl hF rfl (yf (gw_yield hF rfl rfl rfl)) (fun hg => (run_loadN rfl ag28 (hF.ev rfl) rfl ((S.free 6 rfl).cells 0 #[.int .i64 p138.1, .slice B145 p138.2.1.length d146, .int .i64 p138.2.2.1, .slice B147 p138.2.2.2.1.length d148, .int .i64 p138.2.2.2.2.1, .int .i64 p138.2.2.2.2.2.1, .int .i64 p138.2.2.2.2.2.2.1, .int .i64 p138.2.2.2.2.2.2.2.1] rfl))) ?_; clear hF; intro a hF
              refine op_gv (v := .agg #[.int .i64 p113.1, .slice B124 p113.2.1.length d125, .int .i64 p113.2.2.1, .slice B126 p113.2.2.2.1.length d127, .int .i64 p113.2.2.2.2.1, .int .i64 p113.2.2.2.2.2.1, .int .i64 p113.2.2.2.2.2.2.1, .int .i64 p113.2.2.2.2.2.2.2.1]) rfl rfl hF rfl (yf (gw_yield hF rfl rfl rfl)) (fun hg => (run_loadN rfl ag28 (hF.ev rfl) rfl ((S.free 12 rfl).cells 0 #[.int .i64 p113.1, .slice B124 p113.2.1.length d125, .int .i64 p113.2.2.1, .slice B126 p113.2.2.2.1.length d127, .int .i64 p113.2.2.2.2.1, .int .i64 p113.2.2.2.2.2.1, .int .i64 p113.2.2.2.2.2.2.1, .int .i64 p113.2.2.2.2.2.2.2.1] rfl))) ?_; clear hF; intro a hF
              obtain ⟨p168, h168, hM⟩ := bind_ex hM
              refine op_gcall (v := .bool p168) rfl rfl hF rfl S (yf (gw_yield hF rfl rfl rfl)) (fun hg => (run_call (vs := [.agg #[.int .i64 p138.1, .slice B145 p138.2.1.length d146, .int .i64 p138.2.2.1, .slice B147 p138.2.2.2.1.length d148, .int .i64 p138.2.2.2.2.1, .int .i64 p138.2.2.2.2.2.1, .int .i64 p138.2.2.2.2.2.2.1, .int .i64 p138.2.2.2.2.2.2.2.1], .agg #[.int .i64 p113.1, .slice B124 p113.2.1.length d125, .int .i64 p113.2.2.1, .slice B126 p113.2.2.2.1.length d127, .int .i64 p113.2.2.2.2.1, .int .i64 p113.2.2.2.2.2.1, .int .i64 p113.2.2.2.2.2.2.1, .int .i64 p113.2.2.2.2.2.2.2.1]]) rfl rfl co11 ⟨((hF.ev rfl).trans (gv_t hg)), ((hF.ev rfl).trans (gv_t hg)), trivial⟩)) (fun hg => c_laws_eqPoll (x0 := p138.1) (x1 := p138.2.1) (x2 := p138.2.2.1) (x3 := p138.2.2.2.1) (x4 := p138.2.2.2.2.1) (x5 := p138.2.2.2.2.2.1) (x6 := p138.2.2.2.2.2.2.1) (x7 := p138.2.2.2.2.2.2.2.1) (x8 := p113.1) (x9 := p113.2.1) (x10 := p113.2.2.1) (x11 := p113.2.2.2.1) (x12 := p113.2.2.2.2.1) (x13 := p113.2.2.2.2.2.1) (x14 := p113.2.2.2.2.2.2.1) (x15 := p113.2.2.2.2.2.2.2.1) ⟨(S.rc 4 rfl), rfl⟩ ⟨(S.rc 5 rfl), rfl⟩ ⟨(S.rc 10 rfl), rfl⟩ ⟨(S.rc 11 rfl), rfl⟩ (gb_t h168 hg)) ?_; clear hF S; intro a u hF S
              refine op_gv (v := .bool (!p168)) rfl rfl hF rfl (yf (gw_yield hF rfl rfl rfl)) (fun hg => (run_not rfl ((hF.ev rfl).trans (gv_t hg)))) ?_; clear hF; intro a hF
              refine op_val (v := .bool ((ltB p165.1 0) || (!p168))) rfl rfl hF rfl (run_pick_or rfl (hF.ev rfl) rfl (fun hp => ((hF.ev rfl).trans (gv_t (not_t hp))))) ?_; clear hF; intro a hF
              refine op_val (v := .bool ((ltB p165.1 0) || (!p168))) rfl rfl hF rfl (run_move rfl (hF.ev rfl)) ?_; clear hF; intro a hF
              refine op_gv (v := .bool p138.2.2.2.2.2.2.2.2) rfl rfl hF rfl (yf (gw_yield hF rfl rfl rfl)) (fun hg => (run_move rfl (hF.ev rfl))) ?_; clear hF; intro a hF
              refine op_gv (v := .bool p113.2.2.2.2.2.2.2.2) rfl rfl hF rfl (yf (gw_yield hF rfl rfl rfl)) (fun hg => (run_move rfl (hF.ev rfl))) ?_; clear hF; intro a hF
              refine op_gv (v := .bool (p138.2.2.2.2.2.2.2.2 != p113.2.2.2.2.2.2.2.2)) rfl rfl hF rfl (yf (gw_yield hF rfl rfl rfl)) (fun hg => (run_neqB ((hF.ev rfl).trans (gv_t hg)) ((hF.ev rfl).trans (gv_t hg)) Try.underlying4 rfl)) ?_; clear hF; intro a hF
              refine op_val (v := .bool (((ltB p165.1 0) || (!p168)) || (p138.2.2.2.2.2.2.2.2 != p113.2.2.2.2.2.2.2.2))) rfl rfl hF rfl (run_pick_or rfl (hF.ev rfl) rfl (fun hp => ((hF.ev rfl).trans (gv_t (not_t hp))))) ?_; clear hF; intro a hF
              refine wpList_nil ?_
              cases hc169 : (((ltB p165.1 0) || (!p168)) || (p138.2.2.2.2.2.2.2.2 != p113.2.2.2.2.2.2.2.2))
              · replace hM := bif_f hc169 hM
                refine cond_f hF rfl hc169 ?_
                refine wp_skip ?_
                refine wp_seq ?_
                refine wp_region_lit ?_
                refine op_val (v := .int .i64 1) rfl rfl hF rfl (run_assign rfl rfl) ?_; clear hF; intro a hF
                refine wpList_nil ?_
                refine wp_seq ?_
                refine wp_region_lit ?_
                refine op_val (v := .agg #[.int .i64 p138.1, .slice B145 p138.2.1.length d146, .int .i64 p138.2.2.1, .slice B147 p138.2.2.2.1.length d148, .int .i64 p138.2.2.2.2.1, .int .i64 p138.2.2.2.2.2.1, .int .i64 p138.2.2.2.2.2.2.1, .int .i64 p138.2.2.2.2.2.2.2.1]) rfl rfl hF rfl (run_loadN rfl ag28 (hF.ev rfl) rfl ((S.free 6 rfl).cells 0 #[.int .i64 p138.1, .slice B145 p138.2.1.length d146, .int .i64 p138.2.2.1, .slice B147 p138.2.2.2.1.length d148, .int .i64 p138.2.2.2.2.1, .int .i64 p138.2.2.2.2.2.1, .int .i64 p138.2.2.2.2.2.2.1, .int .i64 p138.2.2.2.2.2.2.2.1] rfl)) ?_; clear hF; intro a hF
                refine op_val (v := .int .i64 1) rfl rfl hF rfl (run_move rfl (hF.ev rfl)) ?_; clear hF; intro a hF
                obtain ⟨p170, h170, hM⟩ := bind_ex hM
                refine op_call rfl rfl hF rfl (run_call (vs := [.agg #[.int .i64 p138.1, .slice B145 p138.2.1.length d146, .int .i64 p138.2.2.1, .slice B147 p138.2.2.2.1.length d148, .int .i64 p138.2.2.2.2.1, .int .i64 p138.2.2.2.2.2.1, .int .i64 p138.2.2.2.2.2.2.1, .int .i64 p138.2.2.2.2.2.2.2.1], .int .i64 1]) rfl rfl co12 ⟨(hF.ev rfl), (hF.ev rfl), trivial⟩) (c_laws_markPoll (x0 := p138.1) (x1 := p138.2.1) (x2 := p138.2.2.1) (x3 := p138.2.2.2.1) (x4 := p138.2.2.2.2.1) (x5 := p138.2.2.2.2.2.1) (x6 := p138.2.2.2.2.2.2.1) (x7 := p138.2.2.2.2.2.2.2.1) (x8 := 1) rfl rfl (show St w _ [.row 3 1 (.slice B145 p138.2.1.length d146) p138.2.1.length (p138.2.1.flatMap eI), .row 3 1 (.slice B147 p138.2.2.2.1.length d148) p138.2.2.2.1.length (p138.2.2.2.1.flatMap eI), .row 3 1 (.slice B130 p129.2.1.length d132) p129.2.1.length (p165.2.1.flatMap eI), .row 3 1 (.slice B133 p129.2.2.2.1.length d135) p129.2.2.2.1.length (p165.2.2.flatMap eI), .row 3 1 (.slice B160 p152.2.1.length d161) p152.2.1.length (p152.2.1.flatMap eI), .row 3 1 (.slice B162 p152.2.2.2.1.length d163) p152.2.2.2.1.length (p152.2.2.2.1.flatMap eI), .box g149 28 #[.int .i64 p138.1, .slice B145 p138.2.1.length d146, .int .i64 p138.2.2.1, .slice B147 p138.2.2.2.1.length d148, .int .i64 p138.2.2.2.2.1, .int .i64 p138.2.2.2.2.2.1, .int .i64 p138.2.2.2.2.2.2.1, .int .i64 p138.2.2.2.2.2.2.2.1], .box g136 28 #[.int .i64 p129.1, .slice B130 p129.2.1.length d132, .int .i64 p129.2.2.1, .slice B133 p129.2.2.2.1.length d135, .int .i64 p129.2.2.2.2.1, .int .i64 p129.2.2.2.2.2.1, .int .i64 p129.2.2.2.2.2.2.1, .int .i64 p129.2.2.2.2.2.2.2], .row 3 1 (.slice B120 p105.2.1.length d121) p105.2.1.length (p105.2.1.flatMap eI), .row 3 1 (.slice B122 p105.2.2.2.1.length d123) p105.2.2.2.1.length (p105.2.2.2.1.flatMap eI), .row 3 1 (.slice B124 p113.2.1.length d125) p113.2.1.length (p113.2.1.flatMap eI), .row 3 1 (.slice B126 p113.2.2.2.1.length d127) p113.2.2.2.1.length (p113.2.2.2.1.flatMap eI), .box g128 28 #[.int .i64 p113.1, .slice B124 p113.2.1.length d125, .int .i64 p113.2.2.1, .slice B126 p113.2.2.2.1.length d127, .int .i64 p113.2.2.2.2.1, .int .i64 p113.2.2.2.2.2.1, .int .i64 p113.2.2.2.2.2.2.1, .int .i64 p113.2.2.2.2.2.2.2.1], .box g102 26 #[.int .i64 x8, .int .i64 x9], .box g101 24 #[.int .i64 x0, .slice A1 x1.length c1, .int .i64 x2, .slice A3 x3.length c3, .int .i64 x4, .int .i64 x5, .int .i64 x6, .int .i64 x7]] from S.sel [4, 5, 0, 1, 2, 3, 6, 7, 8, 9, 10, 11, 12, 13, 14] rfl rfl) h170) ?_
                rintro e u ⟨rfl, hn171, hn172, T⟩
                refine ⟨_, rfl, ?_⟩
                clear hF; intro a hF
                clear S; have S := T; clear T
                refine op_val (v := .int .i64 p170.1) rfl rfl hF rfl (run_assign rfl (hF.ev rfl)) ?_; clear hF; intro a hF
                refine wpList_nil ?_
                refine wp_seq ?_
                refine wp_region_lit ?_
                refine op_val (v := .int .i64 1) rfl rfl hF rfl (run_assign rfl rfl) ?_; clear hF; intro a hF
                refine wpList_nil ?_
                refine wp_seq ?_
                refine wp_region_lit ?_
                refine op_val (v := .agg #[.int .i64 p138.1, .slice B145 p138.2.1.length d146, .int .i64 p138.2.2.1, .slice B147 p138.2.2.2.1.length d148, .int .i64 p138.2.2.2.2.1, .int .i64 p138.2.2.2.2.2.1, .int .i64 p138.2.2.2.2.2.2.1, .int .i64 p138.2.2.2.2.2.2.2.1]) rfl rfl hF rfl (run_loadN rfl ag28 (hF.ev rfl) rfl ((S.free 6 rfl).cells 0 #[.int .i64 p138.1, .slice B145 p138.2.1.length d146, .int .i64 p138.2.2.1, .slice B147 p138.2.2.2.1.length d148, .int .i64 p138.2.2.2.2.1, .int .i64 p138.2.2.2.2.2.1, .int .i64 p138.2.2.2.2.2.2.1, .int .i64 p138.2.2.2.2.2.2.2.1] rfl)) ?_; clear hF; intro a hF
                refine op_val (v := .int .i64 1) rfl rfl hF rfl (run_move rfl (hF.ev rfl)) ?_; clear hF; intro a hF
                obtain ⟨p173, h173, hM⟩ := bind_ex hM
                refine op_call rfl rfl hF rfl (run_call (vs := [.agg #[.int .i64 p138.1, .slice B145 p138.2.1.length d146, .int .i64 p138.2.2.1, .slice B147 p138.2.2.2.1.length d148, .int .i64 p138.2.2.2.2.1, .int .i64 p138.2.2.2.2.2.1, .int .i64 p138.2.2.2.2.2.2.1, .int .i64 p138.2.2.2.2.2.2.2.1], .int .i64 1]) rfl rfl co13 ⟨(hF.ev rfl), (hF.ev rfl), trivial⟩) (c_laws_heldPoll (x0 := p138.1) (x1 := p170.2.1) (x2 := p138.2.2.1) (x3 := p170.2.2) (x4 := p138.2.2.2.2.1) (x5 := p138.2.2.2.2.2.1) (x6 := p138.2.2.2.2.2.2.1) (x7 := p138.2.2.2.2.2.2.2.1) (x8 := 1) ⟨(S.rc 0 rfl), hn171⟩ ⟨(S.rc 1 rfl), hn172⟩ h173) ?_
                rintro e u ⟨rfl, T⟩
                refine ⟨_, rfl, ?_⟩
                clear hF; intro a hF
                replace S := S.call0 T; clear T
                refine op_val (v := .int .i64 p173) rfl rfl hF rfl (run_assign rfl (hF.ev rfl)) ?_; clear hF; intro a hF
                refine wpList_nil ?_
                refine wp_seq ?_
                refine wp_seq ?_
                refine wp_region_lit ?_
                refine op_val (v := .int .i64 p173) rfl rfl hF rfl (run_move rfl (hF.ev rfl)) ?_; clear hF; intro a hF
                refine op_val (v := .bool (ltB p173 0)) rfl rfl hF rfl (run_lss (hF.ev rfl) rfl rfl) ?_; clear hF; intro a hF
                refine wpList_nil ?_
                cases hc174 : (ltB p173 0)
                · replace hM := bif_f hc174 hM
                  refine cond_f hF rfl hc174 ?_
                  refine wp_skip ?_
                  refine wp_seq ?_
                  refine wp_seq ?_
                  refine wp_region_lit ?_
                  refine op_val (v := .int .i64 p173) rfl rfl hF rfl (run_move rfl (hF.ev rfl)) ?_; clear hF; intro a hF
                  refine op_val (v := .int .i64 p170.1) rfl rfl hF rfl (run_move rfl (hF.ev rfl)) ?_; clear hF; intro a hF
                  refine op_val (v := .bool (p173 != p170.1)) rfl rfl hF rfl (run_neq (hF.ev rfl) (hF.ev rfl) rfl) ?_; clear hF; intro a hF
                  refine wpList_nil ?_
                  cases hc175 : (p173 != p170.1)
                  · replace hM := bif_f hc175 hM
                    refine cond_f hF rfl hc175 ?_
                    refine wp_skip ?_
                    refine wp_seq ?_
                    obtain ⟨p176, h176, hM⟩ := bind_ex hM
                    obtain ⟨p183, h183, hM⟩ := bind_ex hM
                    obtain ⟨p184, h184, hM⟩ := bind_ex hM
                    refine region_gw (D := [80, 81, 82, 83, 84, 79, 85, 86, 14, 15]) (Lr := [.row 3 1 (.slice B145 p138.2.1.length d146) p138.2.1.length (p170.2.1.flatMap eI), .row 3 1 (.slice B147 p138.2.2.2.1.length d148) p138.2.2.2.1.length (p170.2.2.flatMap eI), .row 3 1 (.slice B130 p129.2.1.length d132) p129.2.1.length (p165.2.1.flatMap eI), .row 3 1 (.slice B133 p129.2.2.2.1.length d135) p129.2.2.2.1.length (p165.2.2.flatMap eI), .row 3 1 (.slice B160 p152.2.1.length d161) p152.2.1.length (p152.2.1.flatMap eI), .row 3 1 (.slice B162 p152.2.2.2.1.length d163) p152.2.2.2.1.length (p152.2.2.2.1.flatMap eI), .box g149 28 #[.int .i64 p138.1, .slice B145 p138.2.1.length d146, .int .i64 p138.2.2.1, .slice B147 p138.2.2.2.1.length d148, .int .i64 p138.2.2.2.2.1, .int .i64 p138.2.2.2.2.2.1, .int .i64 p138.2.2.2.2.2.2.1, .int .i64 p138.2.2.2.2.2.2.2.1], .box g136 28 #[.int .i64 p129.1, .slice B130 p129.2.1.length d132, .int .i64 p129.2.2.1, .slice B133 p129.2.2.2.1.length d135, .int .i64 p129.2.2.2.2.1, .int .i64 p129.2.2.2.2.2.1, .int .i64 p129.2.2.2.2.2.2.1, .int .i64 p129.2.2.2.2.2.2.2], .row 3 1 (.slice B120 p105.2.1.length d121) p105.2.1.length (p105.2.1.flatMap eI), .row 3 1 (.slice B122 p105.2.2.2.1.length d123) p105.2.2.2.1.length (p105.2.2.2.1.flatMap eI), .row 3 1 (.slice B124 p113.2.1.length d125) p113.2.1.length (p113.2.1.flatMap eI), .row 3 1 (.slice B126 p113.2.2.2.1.length d127) p113.2.2.2.1.length (p113.2.2.2.1.flatMap eI), .box g128 28 #[.int .i64 p113.1, .slice B124 p113.2.1.length d125, .int .i64 p113.2.2.1, .slice B126 p113.2.2.2.1.length d127, .int .i64 p113.2.2.2.2.1, .int .i64 p113.2.2.2.2.2.1, .int .i64 p113.2.2.2.2.2.2.1, .int .i64 p113.2.2.2.2.2.2.2.1], .box g102 26 #[.int .i64 x8, .int .i64 x9], .box g101 24 #[.int .i64 x0, .slice A1 x1.length c1, .int .i64 x2, .slice A3 x3.length c3, .int .i64 x4, .int .i64 x5, .int .i64 x6, .int .i64 x7]]) (deps := (fun | 0 => [80] | 1 => [81] | 2 => [82] | 3 => [83] | 4 => [84] | 5 => [79, 84] | 6 => [85, 84] | 7 => [86] | 8 => [14] | 9 => [14, 84] | 10 => [15] | _ => [])) (rd := (fun | 4 => [1] | _ => [])) (zr := (fun _ => []))
                      (φ := fun i vs => match i, vs with | 0, [v80] => v80 = .agg #[.int .i64 x0, .slice A1 x1.length c1, .int .i64 x2, .slice A3 x3.length c3, .int .i64 x4, .int .i64 x5, .int .i64 x6, .int .i64 x7] | 1, [v81] => v81 = .agg #[.int .i64 p176.1, .slice (slA (vtup v81 1)) p176.2.1.length (slC (vtup v81 1)), .int .i64 p176.2.2.1, .slice (slA (vtup v81 3)) p176.2.2.2.1.length (slC (vtup v81 3)), .int .i64 p176.2.2.2.2.1, .int .i64 p176.2.2.2.2.2.1, .int .i64 p176.2.2.2.2.2.2.1, .int .i64 p176.2.2.2.2.2.2.2] | 2, [v82] => v82 = .agg #[.int .i64 x8, .int .i64 x9] | 3, [v83] => v83 = .agg #[.int .i64 p183.1, .int .i64 p183.2] | 4, [v84] => v84 = .tuple #[.agg #[.int .i64 p184.1, .slice (slA (vtup (vtup v84 0) 1)) p184.2.1.length (slC (vtup (vtup v84 0) 1)), .int .i64 p184.2.2.1, .slice (slA (vtup (vtup v84 0) 3)) p184.2.2.2.1.length (slC (vtup (vtup v84 0) 3)), .int .i64 p184.2.2.2.2.1, .int .i64 p184.2.2.2.2.2.1, .int .i64 p184.2.2.2.2.2.2.1, .int .i64 p184.2.2.2.2.2.2.2.1], .bool p184.2.2.2.2.2.2.2.2] | 5, [v79, v84] => v79 = .tuple #[.agg #[.int .i64 p184.1, .slice (slA (vtup (vtup v84 0) 1)) p184.2.1.length (slC (vtup (vtup v84 0) 1)), .int .i64 p184.2.2.1, .slice (slA (vtup (vtup v84 0) 3)) p184.2.2.2.1.length (slC (vtup (vtup v84 0) 3)), .int .i64 p184.2.2.2.2.1, .int .i64 p184.2.2.2.2.2.1, .int .i64 p184.2.2.2.2.2.2.1, .int .i64 p184.2.2.2.2.2.2.2.1], .bool p184.2.2.2.2.2.2.2.2] | 6, [v85, v84] => v85 = .agg #[.int .i64 p184.1, .slice (slA (vtup (vtup v84 0) 1)) p184.2.1.length (slC (vtup (vtup v84 0) 1)), .int .i64 p184.2.2.1, .slice (slA (vtup (vtup v84 0) 3)) p184.2.2.2.1.length (slC (vtup (vtup v84 0) 3)), .int .i64 p184.2.2.2.2.1, .int .i64 p184.2.2.2.2.2.1, .int .i64 p184.2.2.2.2.2.2.1, .int .i64 p184.2.2.2.2.2.2.2.1] | 7, [v86] => v86 = .bool p184.2.2.2.2.2.2.2.2 | 8, [v14] => v14 = .pointer (some ⟨ptB v14, 0, none⟩) | 10, [v15] => v15 = .bool p184.2.2.2.2.2.2.2.2 | _, _ => True)
                      (C := fun i vs => match i, vs with | 1, [v81] => [.row 3 1 (.slice (slA (vtup v81 1)) p176.2.1.length (slC (vtup v81 1))) p176.2.1.length (p176.2.1.flatMap eI), .row 3 1 (.slice (slA (vtup v81 3)) p176.2.2.2.1.length (slC (vtup v81 3))) p176.2.2.2.1.length (p176.2.2.2.1.flatMap eI)] | 4, [v84] => [.row 3 1 (.slice (slA (vtup (vtup v84 0) 1)) p184.2.1.length (slC (vtup (vtup v84 0) 1))) p184.2.1.length (p184.2.1.flatMap eI), .row 3 1 (.slice (slA (vtup (vtup v84 0) 3)) p184.2.2.2.1.length (slC (vtup (vtup v84 0) 3))) p184.2.2.2.1.length (p184.2.2.2.1.flatMap eI)] | 8, [v14] => [.box (ptB v14) 28 #[.int .i64 0, .slice none 0 0, .int .i64 0, .slice none 0 0, .int .i64 0, .int .i64 0, .int .i64 0, .int .i64 0]] | 9, [v14, v84] => [.box (ptB v14) 28 #[.int .i64 p184.1, .slice (slA (vtup (vtup v84 0) 1)) p184.2.1.length (slC (vtup (vtup v84 0) 1)), .int .i64 p184.2.2.1, .slice (slA (vtup (vtup v84 0) 3)) p184.2.2.2.1.length (slC (vtup (vtup v84 0) 3)), .int .i64 p184.2.2.2.2.1, .int .i64 p184.2.2.2.2.2.1, .int .i64 p184.2.2.2.2.2.2.1, .int .i64 p184.2.2.2.2.2.2.2.1]] | _, _ => [])
                      (κ := (fun | 8 => some 9 | _ => none)) (Z := (fun _ => [])) mixed hF (by kernel_rfl) S ?_ ?_
                    · refine ⟨?_, ?_, ?_, ?_, ?_, ?_, ?_, ?_, ?_, ?_, ?_, trivial⟩
                      · intro a u X hB hu hp hr hz hl S
                        replace S : St w u ([] ++ X) := S
                        exact .inl ⟨rfl, .agg #[.int .i64 x0, .slice A1 x1.length c1, .int .i64 x2, .slice A3 x3.length c3, .int .i64 x4, .int .i64 x5, .int .i64 x6, .int .i64 x7], u, (run_loadN rfl ag24 (hF.evB hB rfl rfl) rfl ((gr_box S hl 14 rfl).cells 0 #[.int .i64 x0, .slice A1 x1.length c1, .int .i64 x2, .slice A3 x3.length c3, .int .i64 x4, .int .i64 x5, .int .i64 x6, .int .i64 x7] rfl)), rfl, S⟩
                      · intro a u X hB hu hp hr hz hl S
                        replace S : St w u ([] ++ X) := S
                        have e80 : sl a 80 = .agg #[.int .i64 x0, .slice A1 x1.length c1, .int .i64 x2, .slice A3 x3.length c3, .int .i64 x4, .int .i64 x5, .int .i64 x6, .int .i64 x7] := hp 0 rfl
                        refine .inr (.inr (.inl ⟨rfl, _, _, (run_call (vs := [.agg #[.int .i64 x0, .slice A1 x1.length c1, .int .i64 x2, .slice A3 x3.length c3, .int .i64 x4, .int .i64 x5, .int .i64 x6, .int .i64 x7]]) rfl rfl co8 ⟨(ev_sl e80), trivial⟩), ?_⟩))
                        refine Calls.mono (c_laws_toPoll (x0 := x0) (x1 := x1) (x2 := x2) (x3 := x3) (x4 := x4) (x5 := x5) (x6 := x6) (x7 := x7) ⟨(S.rc0 h1.rc), rfl⟩ ⟨(S.rc0 h3.rc), rfl⟩ h176) ?_
                        rintro e w1 ⟨B177, n178, d179, B180, n181, d182, rfl, rfl, rfl, T⟩
                        exact ⟨_, rfl, rfl, S.call2 T⟩
                      · intro a u X hB hu hp hr hz hl S
                        replace S : St w u ([] ++ X) := S
                        exact .inl ⟨rfl, .agg #[.int .i64 x8, .int .i64 x9], u, (run_loadN rfl ag26 (hF.evB hB rfl rfl) rfl ((gr_box S hl 13 rfl).cells 0 #[.int .i64 x8, .int .i64 x9] rfl)), rfl, S⟩
                      · intro a u X hB hu hp hr hz hl S
                        replace S : St w u ([] ++ X) := S
                        have e82 : sl a 82 = .agg #[.int .i64 x8, .int .i64 x9] := hp 2 rfl
                        refine .inr (.inr (.inl ⟨rfl, _, _, (run_call (vs := [.agg #[.int .i64 x8, .int .i64 x9]]) rfl rfl co9 ⟨(ev_sl e82), trivial⟩), ?_⟩))
                        refine Calls.mono (c_laws_toPollDeed (x0 := x8) (x1 := x9)  h183) ?_
                        rintro e w1 ⟨rfl, T⟩
                        exact ⟨_, rfl, rfl, S.call0 T⟩
                      · intro a u X hB hu hp hr hz hl S
                        replace S : St w u ([] ++ X) := S
                        have e81 : sl a 81 = .agg #[.int .i64 p176.1, .slice (slA (vtup (sl a 81) 1)) p176.2.1.length (slC (vtup (sl a 81) 1)), .int .i64 p176.2.2.1, .slice (slA (vtup (sl a 81) 3)) p176.2.2.2.1.length (slC (vtup (sl a 81) 3)), .int .i64 p176.2.2.2.2.1, .int .i64 p176.2.2.2.2.2.1, .int .i64 p176.2.2.2.2.2.2.1, .int .i64 p176.2.2.2.2.2.2.2] := hp 1 rfl
                        have e83 : sl a 83 = .agg #[.int .i64 p183.1, .int .i64 p183.2] := hp 3 rfl
                        refine .inr (.inr (.inl ⟨rfl, _, _, (run_call (vs := [.agg #[.int .i64 p176.1, .slice (slA (vtup (sl a 81) 1)) p176.2.1.length (slC (vtup (sl a 81) 1)), .int .i64 p176.2.2.1, .slice (slA (vtup (sl a 81) 3)) p176.2.2.2.1.length (slC (vtup (sl a 81) 3)), .int .i64 p176.2.2.2.2.1, .int .i64 p176.2.2.2.2.2.1, .int .i64 p176.2.2.2.2.2.2.1, .int .i64 p176.2.2.2.2.2.2.2], .agg #[.int .i64 p183.1, .int .i64 p183.2]]) rfl rfl co10 ⟨(ev_sl e81), (ev_sl e83), trivial⟩), ?_⟩))
                        refine Calls.mono (c_impl_PollDo (x0 := p176.1) (x1 := p176.2.1) (x2 := p176.2.2.1) (x3 := p176.2.2.2.1) (x4 := p176.2.2.2.2.1) (x5 := p176.2.2.2.2.2.1) (x6 := p176.2.2.2.2.2.2.1) (x7 := p176.2.2.2.2.2.2.2) (x8 := p183.1) (x9 := p183.2) ⟨(own_rc (show Ow _ _ _ _ _ _ from S.mem (List.mem_append_right _ (hr 1 (List.mem_of_getElem? (i := 0) rfl) _ (List.mem_of_getElem? (i := 0) rfl))))), rfl⟩ ⟨(own_rc (show Ow _ _ _ _ _ _ from S.mem (List.mem_append_right _ (hr 1 (List.mem_of_getElem? (i := 0) rfl) _ (List.mem_of_getElem? (i := 1) rfl))))), rfl⟩ h184) ?_
                        rintro e w1 ⟨B185, n186, d187, B188, n189, d190, rfl, rfl, rfl, T⟩
                        exact ⟨_, rfl, rfl, S.call2 T⟩
                      · intro a u X hB hu hp hr hz hl S
                        replace S : St w u ([] ++ X) := S
                        have e84 : sl a 84 = .tuple #[.agg #[.int .i64 p184.1, .slice (slA (vtup (vtup (sl a 84) 0) 1)) p184.2.1.length (slC (vtup (vtup (sl a 84) 0) 1)), .int .i64 p184.2.2.1, .slice (slA (vtup (vtup (sl a 84) 0) 3)) p184.2.2.2.1.length (slC (vtup (vtup (sl a 84) 0) 3)), .int .i64 p184.2.2.2.2.1, .int .i64 p184.2.2.2.2.2.1, .int .i64 p184.2.2.2.2.2.2.1, .int .i64 p184.2.2.2.2.2.2.2.1], .bool p184.2.2.2.2.2.2.2.2] := hp 4 rfl
                        exact .inl ⟨rfl, .tuple #[.agg #[.int .i64 p184.1, .slice (slA (vtup (vtup (sl a 84) 0) 1)) p184.2.1.length (slC (vtup (vtup (sl a 84) 0) 1)), .int .i64 p184.2.2.1, .slice (slA (vtup (vtup (sl a 84) 0) 3)) p184.2.2.2.1.length (slC (vtup (vtup (sl a 84) 0) 3)), .int .i64 p184.2.2.2.2.1, .int .i64 p184.2.2.2.2.2.1, .int .i64 p184.2.2.2.2.2.2.1, .int .i64 p184.2.2.2.2.2.2.2.1], .bool p184.2.2.2.2.2.2.2.2], u, (run_move rfl (ev_sl e84)), rfl, S⟩
                      · intro a u X hB hu hp hr hz hl S
                        replace S : St w u ([] ++ X) := S
                        have e79 : sl a 79 = .tuple #[.agg #[.int .i64 p184.1, .slice (slA (vtup (vtup (sl a 84) 0) 1)) p184.2.1.length (slC (vtup (vtup (sl a 84) 0) 1)), .int .i64 p184.2.2.1, .slice (slA (vtup (vtup (sl a 84) 0) 3)) p184.2.2.2.1.length (slC (vtup (vtup (sl a 84) 0) 3)), .int .i64 p184.2.2.2.2.1, .int .i64 p184.2.2.2.2.2.1, .int .i64 p184.2.2.2.2.2.2.1, .int .i64 p184.2.2.2.2.2.2.2.1], .bool p184.2.2.2.2.2.2.2.2] := hp 5 rfl
                        exact .inl ⟨rfl, .agg #[.int .i64 p184.1, .slice (slA (vtup (vtup (sl a 84) 0) 1)) p184.2.1.length (slC (vtup (vtup (sl a 84) 0) 1)), .int .i64 p184.2.2.1, .slice (slA (vtup (vtup (sl a 84) 0) 3)) p184.2.2.2.1.length (slC (vtup (vtup (sl a 84) 0) 3)), .int .i64 p184.2.2.2.2.1, .int .i64 p184.2.2.2.2.2.1, .int .i64 p184.2.2.2.2.2.2.1, .int .i64 p184.2.2.2.2.2.2.2.1], u, (run_extract rfl (ev_sl e79) rfl), rfl, S⟩
                      · intro a u X hB hu hp hr hz hl S
                        replace S : St w u ([] ++ X) := S
                        have e79 : sl a 79 = .tuple #[.agg #[.int .i64 p184.1, .slice (slA (vtup (vtup (sl a 84) 0) 1)) p184.2.1.length (slC (vtup (vtup (sl a 84) 0) 1)), .int .i64 p184.2.2.1, .slice (slA (vtup (vtup (sl a 84) 0) 3)) p184.2.2.2.1.length (slC (vtup (vtup (sl a 84) 0) 3)), .int .i64 p184.2.2.2.2.1, .int .i64 p184.2.2.2.2.2.1, .int .i64 p184.2.2.2.2.2.2.1, .int .i64 p184.2.2.2.2.2.2.2.1], .bool p184.2.2.2.2.2.2.2.2] := hp 5 rfl
                        exact .inl ⟨rfl, .bool p184.2.2.2.2.2.2.2.2, u, (run_extract rfl (ev_sl e79) rfl), rfl, S⟩
                      · intro a u X hB hu hp hr hz hl S
                        replace S : St w u ([] ++ X) := S
                        exact .inl ⟨rfl, _, _, (run_allocZ rfl zr28), rfl, S.alloc _ _⟩
                      · intro a u X hB hu hp hr hz hl S
                        replace S : St w u ([.box (ptB (sl a 14)) 28 #[.int .i64 0, .slice none 0 0, .int .i64 0, .slice none 0 0, .int .i64 0, .int .i64 0, .int .i64 0, .int .i64 0]] ++ X) := S
                        have e14 : sl a 14 = .pointer (some ⟨ptB (sl a 14), 0, none⟩) := hp 8 rfl
                        have e85 : sl a 85 = .agg #[.int .i64 p184.1, .slice (slA (vtup (vtup (sl a 84) 0) 1)) p184.2.1.length (slC (vtup (vtup (sl a 84) 0) 1)), .int .i64 p184.2.2.1, .slice (slA (vtup (vtup (sl a 84) 0) 3)) p184.2.2.2.1.length (slC (vtup (vtup (sl a 84) 0) 3)), .int .i64 p184.2.2.2.2.1, .int .i64 p184.2.2.2.2.2.1, .int .i64 p184.2.2.2.2.2.2.1, .int .i64 p184.2.2.2.2.2.2.2.1] := hp 6 rfl
                        exact .inr (.inl ⟨rfl, _, run_store (cs' := #[.int .i64 p184.1, .slice (slA (vtup (vtup (sl a 84) 0) 1)) p184.2.1.length (slC (vtup (vtup (sl a 84) 0) 1)), .int .i64 p184.2.2.1, .slice (slA (vtup (vtup (sl a 84) 0) 3)) p184.2.2.2.1.length (slC (vtup (vtup (sl a 84) 0) 3)), .int .i64 p184.2.2.2.2.1, .int .i64 p184.2.2.2.2.2.1, .int .i64 p184.2.2.2.2.2.2.1, .int .i64 p184.2.2.2.2.2.2.2.1]) rfl sz28 (ev_sl e14) (ev_sl e85) rfl rfl rfl (S.free 0 rfl) rfl rfl, trivial, S.put 0 rfl (#[.int .i64 p184.1, .slice (slA (vtup (vtup (sl a 84) 0) 1)) p184.2.1.length (slC (vtup (vtup (sl a 84) 0) 1)), .int .i64 p184.2.2.1, .slice (slA (vtup (vtup (sl a 84) 0) 3)) p184.2.2.2.1.length (slC (vtup (vtup (sl a 84) 0) 3)), .int .i64 p184.2.2.2.2.1, .int .i64 p184.2.2.2.2.2.1, .int .i64 p184.2.2.2.2.2.2.1, .int .i64 p184.2.2.2.2.2.2.2.1])⟩)
                      · intro a u X hB hu hp hr hz hl S
                        replace S : St w u ([] ++ X) := S
                        have e86 : sl a 86 = .bool p184.2.2.2.2.2.2.2.2 := hp 7 rfl
                        exact .inl ⟨rfl, .bool p184.2.2.2.2.2.2.2.2, u, (run_assign rfl (ev_sl e86)), rfl, S⟩
                    · intro a u hB hp S
                      obtain ⟨q0, q1, q2, q3, q4, q5, q6, q7, q8, q9, q10, _⟩ := hp
                      have e80 : sl a 80 = .agg #[.int .i64 x0, .slice A1 x1.length c1, .int .i64 x2, .slice A3 x3.length c3, .int .i64 x4, .int .i64 x5, .int .i64 x6, .int .i64 x7] := q0
                      have e81 : sl a 81 = .agg #[.int .i64 p176.1, .slice (slA (vtup (sl a 81) 1)) p176.2.1.length (slC (vtup (sl a 81) 1)), .int .i64 p176.2.2.1, .slice (slA (vtup (sl a 81) 3)) p176.2.2.2.1.length (slC (vtup (sl a 81) 3)), .int .i64 p176.2.2.2.2.1, .int .i64 p176.2.2.2.2.2.1, .int .i64 p176.2.2.2.2.2.2.1, .int .i64 p176.2.2.2.2.2.2.2] := q1
                      have e82 : sl a 82 = .agg #[.int .i64 x8, .int .i64 x9] := q2
                      have e83 : sl a 83 = .agg #[.int .i64 p183.1, .int .i64 p183.2] := q3
                      have e84 : sl a 84 = .tuple #[.agg #[.int .i64 p184.1, .slice (slA (vtup (vtup (sl a 84) 0) 1)) p184.2.1.length (slC (vtup (vtup (sl a 84) 0) 1)), .int .i64 p184.2.2.1, .slice (slA (vtup (vtup (sl a 84) 0) 3)) p184.2.2.2.1.length (slC (vtup (vtup (sl a 84) 0) 3)), .int .i64 p184.2.2.2.2.1, .int .i64 p184.2.2.2.2.2.1, .int .i64 p184.2.2.2.2.2.2.1, .int .i64 p184.2.2.2.2.2.2.2.1], .bool p184.2.2.2.2.2.2.2.2] := q4
                      have e79 : sl a 79 = .tuple #[.agg #[.int .i64 p184.1, .slice (slA (vtup (vtup (sl a 84) 0) 1)) p184.2.1.length (slC (vtup (vtup (sl a 84) 0) 1)), .int .i64 p184.2.2.1, .slice (slA (vtup (vtup (sl a 84) 0) 3)) p184.2.2.2.1.length (slC (vtup (vtup (sl a 84) 0) 3)), .int .i64 p184.2.2.2.2.1, .int .i64 p184.2.2.2.2.2.1, .int .i64 p184.2.2.2.2.2.2.1, .int .i64 p184.2.2.2.2.2.2.2.1], .bool p184.2.2.2.2.2.2.2.2] := q5
                      have e85 : sl a 85 = .agg #[.int .i64 p184.1, .slice (slA (vtup (vtup (sl a 84) 0) 1)) p184.2.1.length (slC (vtup (vtup (sl a 84) 0) 1)), .int .i64 p184.2.2.1, .slice (slA (vtup (vtup (sl a 84) 0) 3)) p184.2.2.2.1.length (slC (vtup (vtup (sl a 84) 0) 3)), .int .i64 p184.2.2.2.2.1, .int .i64 p184.2.2.2.2.2.1, .int .i64 p184.2.2.2.2.2.2.1, .int .i64 p184.2.2.2.2.2.2.2.1] := q6
                      have e86 : sl a 86 = .bool p184.2.2.2.2.2.2.2.2 := q7
                      have e14 : sl a 14 = .pointer (some ⟨ptB (sl a 14), 0, none⟩) := q8
                      have e15 : sl a 15 = .bool p184.2.2.2.2.2.2.2.2 := q10
                      replace S : St w u [.row 3 1 (.slice (slA (vtup (sl a 81) 1)) p176.2.1.length (slC (vtup (sl a 81) 1))) p176.2.1.length (p176.2.1.flatMap eI), .row 3 1 (.slice (slA (vtup (sl a 81) 3)) p176.2.2.2.1.length (slC (vtup (sl a 81) 3))) p176.2.2.2.1.length (p176.2.2.2.1.flatMap eI), .row 3 1 (.slice (slA (vtup (vtup (sl a 84) 0) 1)) p184.2.1.length (slC (vtup (vtup (sl a 84) 0) 1))) p184.2.1.length (p184.2.1.flatMap eI), .row 3 1 (.slice (slA (vtup (vtup (sl a 84) 0) 3)) p184.2.2.2.1.length (slC (vtup (vtup (sl a 84) 0) 3))) p184.2.2.2.1.length (p184.2.2.2.1.flatMap eI), .box (ptB (sl a 14)) 28 #[.int .i64 p184.1, .slice (slA (vtup (vtup (sl a 84) 0) 1)) p184.2.1.length (slC (vtup (vtup (sl a 84) 0) 1)), .int .i64 p184.2.2.1, .slice (slA (vtup (vtup (sl a 84) 0) 3)) p184.2.2.2.1.length (slC (vtup (vtup (sl a 84) 0) 3)), .int .i64 p184.2.2.2.2.1, .int .i64 p184.2.2.2.2.2.1, .int .i64 p184.2.2.2.2.2.2.1, .int .i64 p184.2.2.2.2.2.2.2.1], .row 3 1 (.slice B145 p138.2.1.length d146) p138.2.1.length (p170.2.1.flatMap eI), .row 3 1 (.slice B147 p138.2.2.2.1.length d148) p138.2.2.2.1.length (p170.2.2.flatMap eI), .row 3 1 (.slice B130 p129.2.1.length d132) p129.2.1.length (p165.2.1.flatMap eI), .row 3 1 (.slice B133 p129.2.2.2.1.length d135) p129.2.2.2.1.length (p165.2.2.flatMap eI), .row 3 1 (.slice B160 p152.2.1.length d161) p152.2.1.length (p152.2.1.flatMap eI), .row 3 1 (.slice B162 p152.2.2.2.1.length d163) p152.2.2.2.1.length (p152.2.2.2.1.flatMap eI), .box g149 28 #[.int .i64 p138.1, .slice B145 p138.2.1.length d146, .int .i64 p138.2.2.1, .slice B147 p138.2.2.2.1.length d148, .int .i64 p138.2.2.2.2.1, .int .i64 p138.2.2.2.2.2.1, .int .i64 p138.2.2.2.2.2.2.1, .int .i64 p138.2.2.2.2.2.2.2.1], .box g136 28 #[.int .i64 p129.1, .slice B130 p129.2.1.length d132, .int .i64 p129.2.2.1, .slice B133 p129.2.2.2.1.length d135, .int .i64 p129.2.2.2.2.1, .int .i64 p129.2.2.2.2.2.1, .int .i64 p129.2.2.2.2.2.2.1, .int .i64 p129.2.2.2.2.2.2.2], .row 3 1 (.slice B120 p105.2.1.length d121) p105.2.1.length (p105.2.1.flatMap eI), .row 3 1 (.slice B122 p105.2.2.2.1.length d123) p105.2.2.2.1.length (p105.2.2.2.1.flatMap eI), .row 3 1 (.slice B124 p113.2.1.length d125) p113.2.1.length (p113.2.1.flatMap eI), .row 3 1 (.slice B126 p113.2.2.2.1.length d127) p113.2.2.2.1.length (p113.2.2.2.1.flatMap eI), .box g128 28 #[.int .i64 p113.1, .slice B124 p113.2.1.length d125, .int .i64 p113.2.2.1, .slice B126 p113.2.2.2.1.length d127, .int .i64 p113.2.2.2.2.1, .int .i64 p113.2.2.2.2.2.1, .int .i64 p113.2.2.2.2.2.2.1, .int .i64 p113.2.2.2.2.2.2.2.1], .box g102 26 #[.int .i64 x8, .int .i64 x9], .box g101 24 #[.int .i64 x0, .slice A1 x1.length c1, .int .i64 x2, .slice A3 x3.length c3, .int .i64 x4, .int .i64 x5, .int .i64 x6, .int .i64 x7]] := S
                      clear q0 q1 q2 q3 q4 q5 q6 q7 q8 q9 q10
                      generalize slA (vtup (sl a 81) 1) = B191 at *
                      generalize slC (vtup (sl a 81) 1) = d192 at *
                      generalize slA (vtup (sl a 81) 3) = B193 at *
                      generalize slC (vtup (sl a 81) 3) = d194 at *
                      generalize slA (vtup (vtup (sl a 84) 0) 1) = B195 at *
                      generalize slC (vtup (vtup (sl a 84) 0) 1) = d196 at *
                      generalize slA (vtup (vtup (sl a 84) 0) 3) = B197 at *
                      generalize slC (vtup (vtup (sl a 84) 0) 3) = d198 at *
                      generalize ptB (sl a 14) = g199 at *
                      have hF := hF.region hB [(80, .agg #[.int .i64 x0, .slice A1 x1.length c1, .int .i64 x2, .slice A3 x3.length c3, .int .i64 x4, .int .i64 x5, .int .i64 x6, .int .i64 x7]), (81, .agg #[.int .i64 p176.1, .slice B191 p176.2.1.length d192, .int .i64 p176.2.2.1, .slice B193 p176.2.2.2.1.length d194, .int .i64 p176.2.2.2.2.1, .int .i64 p176.2.2.2.2.2.1, .int .i64 p176.2.2.2.2.2.2.1, .int .i64 p176.2.2.2.2.2.2.2]), (82, .agg #[.int .i64 x8, .int .i64 x9]), (83, .agg #[.int .i64 p183.1, .int .i64 p183.2]), (84, .tuple #[.agg #[.int .i64 p184.1, .slice B195 p184.2.1.length d196, .int .i64 p184.2.2.1, .slice B197 p184.2.2.2.1.length d198, .int .i64 p184.2.2.2.2.1, .int .i64 p184.2.2.2.2.2.1, .int .i64 p184.2.2.2.2.2.2.1, .int .i64 p184.2.2.2.2.2.2.2.1], .bool p184.2.2.2.2.2.2.2.2]), (79, .tuple #[.agg #[.int .i64 p184.1, .slice B195 p184.2.1.length d196, .int .i64 p184.2.2.1, .slice B197 p184.2.2.2.1.length d198, .int .i64 p184.2.2.2.2.1, .int .i64 p184.2.2.2.2.2.1, .int .i64 p184.2.2.2.2.2.2.1, .int .i64 p184.2.2.2.2.2.2.2.1], .bool p184.2.2.2.2.2.2.2.2]), (85, .agg #[.int .i64 p184.1, .slice B195 p184.2.1.length d196, .int .i64 p184.2.2.1, .slice B197 p184.2.2.2.1.length d198, .int .i64 p184.2.2.2.2.1, .int .i64 p184.2.2.2.2.2.1, .int .i64 p184.2.2.2.2.2.2.1, .int .i64 p184.2.2.2.2.2.2.2.1]), (86, .bool p184.2.2.2.2.2.2.2.2), (14, .pointer (some ⟨g199, 0, none⟩)), (15, .bool p184.2.2.2.2.2.2.2.2)] (allSl_mem ⟨e80, e81, e82, e83, e84, e79, e85, e86, e14, e15, trivial⟩) rfl
                      clear hB e80 e81 e82 e83 e84 e79 e85 e86 e14 e15
                      refine wp_seq ?_
                      refine wp_seq ?_
                      refine wp_region_lit ?_
                      refine op_val (v := .agg #[.int .i64 p184.1, .slice B195 p184.2.1.length d196, .int .i64 p184.2.2.1, .slice B197 p184.2.2.2.1.length d198, .int .i64 p184.2.2.2.2.1, .int .i64 p184.2.2.2.2.2.1, .int .i64 p184.2.2.2.2.2.2.1, .int .i64 p184.2.2.2.2.2.2.2.1]) rfl rfl hF rfl (run_loadN rfl ag28 (hF.ev rfl) rfl ((S.free 4 rfl).cells 0 #[.int .i64 p184.1, .slice B195 p184.2.1.length d196, .int .i64 p184.2.2.1, .slice B197 p184.2.2.2.1.length d198, .int .i64 p184.2.2.2.2.1, .int .i64 p184.2.2.2.2.2.1, .int .i64 p184.2.2.2.2.2.2.1, .int .i64 p184.2.2.2.2.2.2.2.1] rfl)) ?_; clear hF; intro a hF
                      refine op_val (v := .agg #[.int .i64 p113.1, .slice B124 p113.2.1.length d125, .int .i64 p113.2.2.1, .slice B126 p113.2.2.2.1.length d127, .int .i64 p113.2.2.2.2.1, .int .i64 p113.2.2.2.2.2.1, .int .i64 p113.2.2.2.2.2.2.1, .int .i64 p113.2.2.2.2.2.2.2.1]) rfl rfl hF rfl (run_loadN rfl ag28 (hF.ev rfl) rfl ((S.free 17 rfl).cells 0 #[.int .i64 p113.1, .slice B124 p113.2.1.length d125, .int .i64 p113.2.2.1, .slice B126 p113.2.2.2.1.length d127, .int .i64 p113.2.2.2.2.1, .int .i64 p113.2.2.2.2.2.1, .int .i64 p113.2.2.2.2.2.2.1, .int .i64 p113.2.2.2.2.2.2.2.1] rfl)) ?_; clear hF; intro a hF
                      obtain ⟨p200, h200, hM⟩ := bind_ex hM
                      refine op_call rfl rfl hF rfl (run_call (vs := [.agg #[.int .i64 p184.1, .slice B195 p184.2.1.length d196, .int .i64 p184.2.2.1, .slice B197 p184.2.2.2.1.length d198, .int .i64 p184.2.2.2.2.1, .int .i64 p184.2.2.2.2.2.1, .int .i64 p184.2.2.2.2.2.2.1, .int .i64 p184.2.2.2.2.2.2.2.1], .agg #[.int .i64 p113.1, .slice B124 p113.2.1.length d125, .int .i64 p113.2.2.1, .slice B126 p113.2.2.2.1.length d127, .int .i64 p113.2.2.2.2.1, .int .i64 p113.2.2.2.2.2.1, .int .i64 p113.2.2.2.2.2.2.1, .int .i64 p113.2.2.2.2.2.2.2.1]]) rfl rfl co11 ⟨(hF.ev rfl), (hF.ev rfl), trivial⟩) (c_laws_eqPoll (x0 := p184.1) (x1 := p184.2.1) (x2 := p184.2.2.1) (x3 := p184.2.2.2.1) (x4 := p184.2.2.2.2.1) (x5 := p184.2.2.2.2.2.1) (x6 := p184.2.2.2.2.2.2.1) (x7 := p184.2.2.2.2.2.2.2.1) (x8 := p113.1) (x9 := p113.2.1) (x10 := p113.2.2.1) (x11 := p113.2.2.2.1) (x12 := p113.2.2.2.2.1) (x13 := p113.2.2.2.2.2.1) (x14 := p113.2.2.2.2.2.2.1) (x15 := p113.2.2.2.2.2.2.2.1) ⟨(S.rc 2 rfl), rfl⟩ ⟨(S.rc 3 rfl), rfl⟩ ⟨(S.rc 15 rfl), rfl⟩ ⟨(S.rc 16 rfl), rfl⟩ h200) ?_
                      rintro e u ⟨rfl, T⟩
                      refine ⟨_, rfl, ?_⟩
                      clear hF; intro a hF
                      replace S := S.call0 T; clear T
                      refine op_val (v := .bool (!p200)) rfl rfl hF rfl (run_not rfl (hF.ev rfl)) ?_; clear hF; intro a hF
                      refine op_val (v := .bool (!p200)) rfl rfl hF rfl (run_move rfl (hF.ev rfl)) ?_; clear hF; intro a hF
                      refine op_gv (v := .bool p184.2.2.2.2.2.2.2.2) rfl rfl hF rfl (yf (gw_yield hF rfl rfl rfl)) (fun hg => (run_move rfl (hF.ev rfl))) ?_; clear hF; intro a hF
                      refine op_gv (v := .bool p113.2.2.2.2.2.2.2.2) rfl rfl hF rfl (yf (gw_yield hF rfl rfl rfl)) (fun hg => (run_move rfl (hF.ev rfl))) ?_; clear hF; intro a hF
                      refine op_gv (v := .bool (p184.2.2.2.2.2.2.2.2 != p113.2.2.2.2.2.2.2.2)) rfl rfl hF rfl (yf (gw_yield hF rfl rfl rfl)) (fun hg => (run_neqB ((hF.ev rfl).trans (gv_t hg)) ((hF.ev rfl).trans (gv_t hg)) Try.underlying4 rfl)) ?_; clear hF; intro a hF
                      refine op_val (v := .bool ((!p200) || (p184.2.2.2.2.2.2.2.2 != p113.2.2.2.2.2.2.2.2))) rfl rfl hF rfl (run_pick_or rfl (hF.ev rfl) rfl (fun hp => ((hF.ev rfl).trans (gv_t (not_t hp))))) ?_; clear hF; intro a hF
                      refine wpList_nil ?_
                      cases hc201 : ((!p200) || (p184.2.2.2.2.2.2.2.2 != p113.2.2.2.2.2.2.2.2))
                      · replace hM := bif_f hc201 hM
                        refine cond_f hF rfl hc201 ?_
                        refine wp_skip ?_
                        refine wp_seq ?_
                        refine wp_region_lit ?_
                        refine op_val (v := .int .i64 1) rfl rfl hF rfl (run_assign rfl rfl) ?_; clear hF; intro a hF
                        refine wpList_nil ?_
                        refine wp_seq ?_
                        refine wp_region_lit ?_
                        refine op_val (v := .agg #[.int .i64 p138.1, .slice B145 p138.2.1.length d146, .int .i64 p138.2.2.1, .slice B147 p138.2.2.2.1.length d148, .int .i64 p138.2.2.2.2.1, .int .i64 p138.2.2.2.2.2.1, .int .i64 p138.2.2.2.2.2.2.1, .int .i64 p138.2.2.2.2.2.2.2.1]) rfl rfl hF rfl (run_loadN rfl ag28 (hF.ev rfl) rfl ((S.free 11 rfl).cells 0 #[.int .i64 p138.1, .slice B145 p138.2.1.length d146, .int .i64 p138.2.2.1, .slice B147 p138.2.2.2.1.length d148, .int .i64 p138.2.2.2.2.1, .int .i64 p138.2.2.2.2.2.1, .int .i64 p138.2.2.2.2.2.2.1, .int .i64 p138.2.2.2.2.2.2.2.1] rfl)) ?_; clear hF; intro a hF
                        refine op_val (v := .int .i64 1) rfl rfl hF rfl (run_move rfl (hF.ev rfl)) ?_; clear hF; intro a hF
                        obtain ⟨p202, h202, hM⟩ := bind_ex hM
                        refine op_call rfl rfl hF rfl (run_call (vs := [.agg #[.int .i64 p138.1, .slice B145 p138.2.1.length d146, .int .i64 p138.2.2.1, .slice B147 p138.2.2.2.1.length d148, .int .i64 p138.2.2.2.2.1, .int .i64 p138.2.2.2.2.2.1, .int .i64 p138.2.2.2.2.2.2.1, .int .i64 p138.2.2.2.2.2.2.2.1], .int .i64 1]) rfl rfl co13 ⟨(hF.ev rfl), (hF.ev rfl), trivial⟩) (c_laws_heldPoll (x0 := p138.1) (x1 := p170.2.1) (x2 := p138.2.2.1) (x3 := p170.2.2) (x4 := p138.2.2.2.2.1) (x5 := p138.2.2.2.2.2.1) (x6 := p138.2.2.2.2.2.2.1) (x7 := p138.2.2.2.2.2.2.2.1) (x8 := 1) ⟨(S.rc 5 rfl), hn171⟩ ⟨(S.rc 6 rfl), hn172⟩ h202) ?_
                        rintro e u ⟨rfl, T⟩
                        refine ⟨_, rfl, ?_⟩
                        clear hF; intro a hF
                        replace S := S.call0 T; clear T
                        refine op_val (v := .int .i64 p202) rfl rfl hF rfl (run_assign rfl (hF.ev rfl)) ?_; clear hF; intro a hF
                        refine wpList_nil ?_
                        refine wp_seq ?_
                        refine wp_seq ?_
                        refine wp_region_lit ?_
                        refine op_val (v := .int .i64 p202) rfl rfl hF rfl (run_move rfl (hF.ev rfl)) ?_; clear hF; intro a hF
                        refine op_val (v := .bool (ltB p202 0)) rfl rfl hF rfl (run_lss (hF.ev rfl) rfl rfl) ?_; clear hF; intro a hF
                        refine wpList_nil ?_
                        cases hc203 : (ltB p202 0)
                        · replace hM := bif_f hc203 hM
                          refine cond_f hF rfl hc203 ?_
                          refine wp_skip ?_
                          refine wp_seq ?_
                          refine wp_seq ?_
                          refine wp_region_lit ?_
                          refine op_val (v := .int .i64 p202) rfl rfl hF rfl (run_move rfl (hF.ev rfl)) ?_; clear hF; intro a hF
                          refine op_val (v := .int .i64 p170.1) rfl rfl hF rfl (run_move rfl (hF.ev rfl)) ?_; clear hF; intro a hF
                          refine op_val (v := .bool (p202 != p170.1)) rfl rfl hF rfl (run_neq (hF.ev rfl) (hF.ev rfl) rfl) ?_; clear hF; intro a hF
                          refine wpList_nil ?_
                          cases hc204 : (p202 != p170.1)
                          · replace hM := bif_f hc204 hM
                            refine cond_f hF rfl hc204 ?_
                            refine wp_skip ?_
                            refine wp_seq ?_
                            refine wp_region_lit ?_
                            refine op_val (v := .bool true) rfl rfl hF rfl (run_assign rfl rfl) ?_; clear hF; intro a hF
                            refine wpList_nil ?_
                            refine wp_ret ?_
                            repeat with_reducible (first | refine then_ret ?_ | refine in_ret ?_ | refine in_nrm ?_)
                            refine ret1_gw (.inl rfl) hF rfl (res_tmp (hF.ev rfl)) ?_
                            obtain rfl := Option.some.inj hM
                            exact ⟨rfl, S.sel [] rfl rfl⟩
                          · replace hM := bif_t hc204 hM
                            refine cond_t hF rfl hc204 ?_
                            refine wp_seq ?_
                            refine wp_region_lit ?_
                            refine op_val (v := .bool false) rfl rfl hF rfl (run_assign rfl rfl) ?_; clear hF; intro a hF
                            refine wpList_nil ?_
                            refine wp_ret ?_
                            repeat with_reducible (first | refine then_ret ?_ | refine in_ret ?_ | refine in_nrm ?_)
                            refine ret1_gw (.inl rfl) hF rfl (res_tmp (hF.ev rfl)) ?_
                            obtain rfl := Option.some.inj hM
                            exact ⟨rfl, S.sel [] rfl rfl⟩
                        · replace hM := bif_t hc203 hM
                          refine cond_t hF rfl hc203 ?_
                          refine wp_seq ?_
                          refine wp_region_lit ?_
                          refine op_val (v := .bool false) rfl rfl hF rfl (run_assign rfl rfl) ?_; clear hF; intro a hF
                          refine wpList_nil ?_
                          refine wp_ret ?_
                          repeat with_reducible (first | refine then_ret ?_ | refine in_ret ?_ | refine in_nrm ?_)
                          refine ret1_gw (.inl rfl) hF rfl (res_tmp (hF.ev rfl)) ?_
                          obtain rfl := Option.some.inj hM
                          exact ⟨rfl, S.sel [] rfl rfl⟩
                      · replace hM := bif_t hc201 hM
                        refine cond_t hF rfl hc201 ?_
                        refine wp_seq ?_
                        refine wp_region_lit ?_
                        refine op_val (v := .bool false) rfl rfl hF rfl (run_assign rfl rfl) ?_; clear hF; intro a hF
                        refine wpList_nil ?_
                        refine wp_ret ?_
                        repeat with_reducible (first | refine then_ret ?_ | refine in_ret ?_ | refine in_nrm ?_)
                        refine ret1_gw (.inl rfl) hF rfl (res_tmp (hF.ev rfl)) ?_
                        obtain rfl := Option.some.inj hM
                        exact ⟨rfl, S.sel [] rfl rfl⟩
                  · replace hM := bif_t hc175 hM
                    refine cond_t hF rfl hc175 ?_
                    refine wp_seq ?_
                    refine wp_region_lit ?_
                    refine op_val (v := .bool false) rfl rfl hF rfl (run_assign rfl rfl) ?_; clear hF; intro a hF
                    refine wpList_nil ?_
                    refine wp_ret ?_
                    repeat with_reducible (first | refine then_ret ?_ | refine in_ret ?_ | refine in_nrm ?_)
                    refine ret1_gw (.inl rfl) hF rfl (res_tmp (hF.ev rfl)) ?_
                    obtain rfl := Option.some.inj hM
                    exact ⟨rfl, S.sel [] rfl rfl⟩
                · replace hM := bif_t hc174 hM
                  refine cond_t hF rfl hc174 ?_
                  refine wp_seq ?_
                  refine wp_region_lit ?_
                  refine op_val (v := .bool false) rfl rfl hF rfl (run_assign rfl rfl) ?_; clear hF; intro a hF
                  refine wpList_nil ?_
                  refine wp_ret ?_
                  repeat with_reducible (first | refine then_ret ?_ | refine in_ret ?_ | refine in_nrm ?_)
                  refine ret1_gw (.inl rfl) hF rfl (res_tmp (hF.ev rfl)) ?_
                  obtain rfl := Option.some.inj hM
                  exact ⟨rfl, S.sel [] rfl rfl⟩
              · replace hM := bif_t hc169 hM
                refine cond_t hF rfl hc169 ?_
                refine wp_seq ?_
                refine wp_region_lit ?_
                refine op_val (v := .bool false) rfl rfl hF rfl (run_assign rfl rfl) ?_; clear hF; intro a hF
                refine wpList_nil ?_
                refine wp_ret ?_
                repeat with_reducible (first | refine then_ret ?_ | refine in_ret ?_ | refine in_nrm ?_)
                refine ret1_gw (.inl rfl) hF rfl (res_tmp (hF.ev rfl)) ?_
                obtain rfl := Option.some.inj hM
                exact ⟨rfl, S.sel [] rfl rfl⟩
        · replace hM := bif_t hc151 hM
          refine cond_t hF rfl hc151 ?_
          refine wp_seq ?_
          refine wp_region_lit ?_
          refine op_val (v := .bool false) rfl rfl hF rfl (run_assign rfl rfl) ?_; clear hF; intro a hF
          refine wpList_nil ?_
          refine wp_ret ?_
          repeat with_reducible (first | refine then_ret ?_ | refine in_ret ?_ | refine in_nrm ?_)
          refine ret1_gw (.inl rfl) hF rfl (res_tmp (hF.ev rfl)) ?_
          obtain rfl := Option.some.inj hM
          exact ⟨rfl, S.sel [] rfl rfl⟩
  · replace hM := bif_t hc104 hM
    refine cond_t hF rfl hc104 ?_
    refine wp_seq ?_
    refine wp_region_lit ?_
    refine op_val (v := .bool true) rfl rfl hF rfl (run_assign rfl rfl) ?_; clear hF; intro a hF
    refine wpList_nil ?_
    refine wp_ret ?_
    repeat with_reducible (first | refine then_ret ?_ | refine in_ret ?_ | refine in_nrm ?_)
    refine ret1_gw (.inl rfl) hF rfl (res_tmp (hF.ev rfl)) ?_
    obtain rfl := Option.some.inj hM
    exact ⟨rfl, S.sel [] rfl rfl⟩

set_option maxHeartbeats 4000000 in
theorem c_laws_szPollDeedS {x0 : List (Int × Int)} {x1 : Int} {A0 : Option Addr} {n0 c0 : Nat} {w : World} {r : Int} (h0 : Rt w 2 eLPollDeed A0 n0 c0 x0) (hM : m_laws_szPollDeedS x0 x1 = some r) :
    Calls Try.prog 16 #[.slice A0 n0 c0, .int .i64 x1] w (fun e w' => e = .returned (.int .i64 r) ∧ St w w' []) := by
  obtain rfl := h0.len
  unfold m_laws_szPollDeedS at hM
  refine calls_gw Try.func16 Try.ntmps16 rfl [(0, .slice A0 x0.length c0), (1, .int .i64 x1)] ⟨rfl, rfl, trivial⟩ rfl ?_
  intro a hF
  have S := St.nil w
  refine wp_seq ?_
  refine wp_region_lit ?_
  refine op_val (v := .int .i64 0) rfl rfl hF rfl (run_assign rfl rfl) ?_; clear hF; intro a hF
  refine wpList_nil ?_
  refine wp_seq ?_
  refine wp_region_lit ?_
  refine op_val (v := .int .i64 x1) rfl rfl hF rfl (run_move rfl (hF.ev rfl)) ?_; clear hF; intro a hF
  refine op_val (v := .slice A0 x0.length c0) rfl rfl hF rfl (run_move rfl (hF.ev rfl)) ?_; clear hF; intro a hF
  refine op_val (v := .int .i64 (x0.length : Int)) rfl rfl hF rfl (run_lenL rfl rfl Try.underlying39 (hF.ev rfl)) ?_; clear hF; intro a hF
  refine op_val (v := .int .i64 (w64 (x1 - (x0.length : Int)))) rfl rfl hF rfl (run_sub (z := w64 (x1 - (x0.length : Int))) (hF.ev rfl) (hF.ev rfl) rfl rfl) ?_; clear hF; intro a hF
  refine op_val (v := .int .i64 (w64 (x1 - (x0.length : Int)))) rfl rfl hF rfl (run_assign rfl (hF.ev rfl)) ?_; clear hF; intro a hF
  refine wpList_nil ?_
  refine wp_seq ?_
  refine wp_seq ?_
  refine wp_region_lit ?_
  refine op_val (v := .int .i64 (w64 (x1 - (x0.length : Int)))) rfl rfl hF rfl (run_move rfl (hF.ev rfl)) ?_; clear hF; intro a hF
  refine op_val (v := .bool (ltB (w64 (x1 - (x0.length : Int))) 0)) rfl rfl hF rfl (run_lss (hF.ev rfl) rfl rfl) ?_; clear hF; intro a hF
  refine wpList_nil ?_
  cases hc101 : (ltB (w64 (x1 - (x0.length : Int))) 0)
  · replace hM := bif_f hc101 hM
    refine cond_f hF rfl hc101 ?_
    refine wp_skip ?_
    refine wp_seq ?_
    refine wp_region_lit ?_
    refine op_val (v := .int .i64 (w64 (x1 - (x0.length : Int)))) rfl rfl hF rfl (run_move rfl (hF.ev rfl)) ?_; clear hF; intro a hF
    refine op_val (v := .int .i64 (w64 (x1 - (x0.length : Int)))) rfl rfl hF rfl (run_assign rfl (hF.ev rfl)) ?_; clear hF; intro a hF
    refine wpList_nil ?_
    refine wp_ret ?_
    repeat with_reducible (first | refine then_ret ?_ | refine in_ret ?_ | refine in_nrm ?_)
    refine ret1_gw (.inl rfl) hF rfl (res_tmp (hF.ev rfl)) ?_
    obtain rfl := Option.some.inj hM
    exact ⟨rfl, S.sel [] rfl rfl⟩
  · replace hM := bif_t hc101 hM
    refine cond_t hF rfl hc101 ?_
    refine wp_seq ?_
    refine wp_region_lit ?_
    refine op_val (v := .int .i64 (-1)) rfl rfl hF rfl (run_assign rfl rfl) ?_; clear hF; intro a hF
    refine wpList_nil ?_
    refine wp_ret ?_
    repeat with_reducible (first | refine then_ret ?_ | refine in_ret ?_ | refine in_nrm ?_)
    refine ret1_gw (.inl rfl) hF rfl (res_tmp (hF.ev rfl)) ?_
    obtain rfl := Option.some.inj hM
    exact ⟨rfl, S.sel [] rfl rfl⟩

set_option maxHeartbeats 4000000 in
theorem c_laws_toPollDeedS {x0 : List (Int × Int)} {A0 : Option Addr} {n0 c0 : Nat} {w : World} {r : List (Int × Int)} (h0 : Rt w 2 eLPollDeed A0 n0 c0 x0) (hM : m_laws_toPollDeedS x0 = some r) :
    Calls Try.prog 18 #[.slice A0 n0 c0] w (fun e w' => ∃ (B0 : Option Addr) (N0 D0 : Nat), e = .returned (.slice B0 N0 D0) ∧ N0 = r.length ∧ St w w' [.row 32 2 (.slice B0 N0 D0) N0 (r.flatMap ePollDeed)]) := by
  obtain rfl := h0.len
  unfold m_laws_toPollDeedS at hM
  refine calls_gw Try.func18 Try.ntmps18 rfl [(0, .slice A0 x0.length c0)] ⟨rfl, trivial⟩ rfl ?_
  intro a hF
  have S := St.nil w
  refine wp_seq ?_
  refine wp_region_lit ?_
  refine op_val (v := .slice none 0 0) rfl rfl hF rfl (run_assign rfl rfl) ?_; clear hF; intro a hF
  refine wpList_nil ?_
  refine wp_seq ?_
  refine wp_region_lit ?_
  refine op_val (v := .slice A0 x0.length c0) rfl rfl hF rfl (run_move rfl (hF.ev rfl)) ?_; clear hF; intro a hF
  refine op_val (v := .int .i64 (x0.length : Int)) rfl rfl hF rfl (run_lenL rfl rfl Try.underlying39 (hF.ev rfl)) ?_; clear hF; intro a hF
  obtain ⟨hk102, hM⟩ := chk_ex hM
  replace hk102 := mkB_t hk102
  refine op_newrowL (m := x0.length) (ls := List.replicate x0.length ((0, 0) : Int × Int)) (e := ePollDeed) rfl rfl hF rfl S (run_makeL rfl (hF.ev rfl) (hF.ev rfl) Try.underlying43 inf32 ePollDeed_len rfl (by decide) hk102) List.length_replicate ePollDeed_len (by rw [List.length_replicate]; omega) ?_; clear hF S; intro a g101 u hF S
  refine op_val (v := .slice (some ⟨g101, 0, none⟩) x0.length x0.length) rfl rfl hF rfl (run_assign rfl (hF.ev rfl)) ?_; clear hF; intro a hF
  refine wpList_nil ?_
  refine wp_seq ?_
  refine wp_seq ?_
  refine wp_region_lit ?_
  refine op_val (v := .int .i64 0) rfl rfl hF rfl (run_assign rfl rfl) ?_; clear hF; intro a hF
  refine wpList_nil ?_
  obtain ⟨o104, hM106, hM⟩ := bind_ex hM
  refine wp_cut (fun a u => ∃ (p103 : List (Int × Int)), p103 = o104 ∧ x0.length = p103.length ∧ Fr a 23 [(2, .slice none 0 0), (3, .slice (some ⟨g101, 0, none⟩) x0.length x0.length)] ∧ St w u [.row 32 2 (.slice (some ⟨g101, 0, none⟩) x0.length x0.length) x0.length (p103.flatMap ePollDeed)]) ?_ ?_
  · have _ := trivial
    refine wp_block ?_
    refine loop_gw (fun m a u => ∃ (p107 : List (Int × Int) × Int), m_laws_toPollDeedS_l1 x0 m p107 = some _ ∧ x0.length = p107.1.length ∧ Fr a 23 [(0, .slice A0 x0.length c0), (2, .slice none 0 0), (3, .slice (some ⟨g101, 0, none⟩) x0.length x0.length), (4, .int .i64 p107.2)] ∧ St w u [.row 32 2 (.slice (some ⟨g101, 0, none⟩) x0.length x0.length) x0.length (p107.1.flatMap ePollDeed)]) FUEL ⟨(List.replicate x0.length ((0, 0) : Int × Int), 0), hM106, List.length_replicate.symm, hF.keep _ ⟨rfl, rfl, rfl, rfl, trivial⟩, S.sel [0] rfl rfl⟩ ?_
    clear hF S hM106; rintro m a u ⟨p107, hM106, hn108, hF, S⟩
    rcases m with _ | f1
    · exact none_some hM106
    rw [m_laws_toPollDeedS_l1.eq_2] at hM106
    refine wp_seq ?_
    refine wp_seq ?_
    refine wp_region_lit ?_
    refine op_val (v := .int .i64 p107.2) rfl rfl hF rfl (run_move rfl (hF.ev rfl)) ?_; clear hF; intro a hF
    refine op_val (v := .slice A0 x0.length c0) rfl rfl hF rfl (run_move rfl (hF.ev rfl)) ?_; clear hF; intro a hF
    refine op_val (v := .int .i64 (x0.length : Int)) rfl rfl hF rfl (run_lenL rfl rfl Try.underlying39 (hF.ev rfl)) ?_; clear hF; intro a hF
    refine op_val (v := .bool (ltB p107.2 (x0.length : Int))) rfl rfl hF rfl (run_lss (hF.ev rfl) (hF.ev rfl) rfl) ?_; clear hF; intro a hF
    refine wpList_nil ?_
    cases hc109 : (ltB p107.2 (x0.length : Int))
    · replace hM106 := bif_f hc109 hM106
      refine cond_f hF rfl hc109 ?_
      refine wp_exit ?_
      repeat with_reducible (first | refine then_exit ?_ | refine in_hit ?_ | refine in_miss rfl ?_)
      obtain rfl := Option.some.inj hM106
      exact ⟨p107.1, rfl, hn108, hF.keep _ ⟨rfl, rfl, trivial⟩, S.sel [0] rfl rfl⟩
    · replace hM106 := bif_t hc109 hM106
      refine cond_t hF rfl hc109 ?_
      refine wp_skip ?_
      refine wp_seq ?_
      refine wp_block ?_
      refine wp_region_lit ?_
      refine op_val (v := .slice (some ⟨g101, 0, none⟩) x0.length x0.length) rfl rfl hF rfl (run_move rfl (hF.ev rfl)) ?_; clear hF; intro a hF
      refine op_val (v := .int .i64 p107.2) rfl rfl hF rfl (run_move rfl (hF.ev rfl)) ?_; clear hF; intro a hF
      refine op_val (v := .slice A0 x0.length c0) rfl rfl hF rfl (run_move rfl (hF.ev rfl)) ?_; clear hF; intro a hF
      refine op_val (v := .int .i64 p107.2) rfl rfl hF rfl (run_move rfl (hF.ev rfl)) ?_; clear hF; intro a hF
      obtain ⟨hk110, hM106⟩ := chk_ex hM106
      replace hk110 := ixB_t hk110
      refine op_val (v := .pointer (some ⟨adB A0, adO A0 + p107.2.toNat * 2, none⟩)) rfl rfl hF rfl (run_indexAddr (b := adB A0) (off := adO A0) rfl Try.underlying39 sz26 ((hF.ev rfl).trans (congrArg (fun A => Value.slice A x0.length c0) ((S.rc0 h0.rc).rd.ad (ix_pos hk110)))) (hF.ev rfl) hk110.1 hk110.2 (k' := adO A0 + p107.2.toNat * 2) rfl) ?_; clear hF; intro a hF
      refine op_val (v := .agg #[.int .i64 ((x0.getD p107.2.toNat ((0, 0) : Int × Int)).1), .int .i64 ((x0.getD p107.2.toNat ((0, 0) : Int × Int)).2)]) rfl rfl hF rfl (run_loadN (cs := #[.int .i64 ((x0.getD p107.2.toNat ((0, 0) : Int × Int)).1), .int .i64 ((x0.getD p107.2.toNat ((0, 0) : Int × Int)).2)]) rfl ag26 (hF.ev rfl) rfl (rd_elN (l := x0) (S.rc0 h0.rc).rd rfl eLPollDeed_len ((0, 0) : Int × Int) (ix_ltn hk110 rfl) rfl)) ?_; clear hF; intro a hF
      obtain ⟨p111, h111, hM106⟩ := bind_ex hM106
      refine op_call rfl rfl hF rfl (run_call (vs := [.agg #[.int .i64 ((x0.getD p107.2.toNat ((0, 0) : Int × Int)).1), .int .i64 ((x0.getD p107.2.toNat ((0, 0) : Int × Int)).2)]]) rfl rfl co9 ⟨(hF.ev rfl), trivial⟩) (c_laws_toPollDeed (x0 := (x0.getD p107.2.toNat ((0, 0) : Int × Int)).1) (x1 := (x0.getD p107.2.toNat ((0, 0) : Int × Int)).2)  h111) ?_
      rintro e u ⟨rfl, T⟩
      refine ⟨_, rfl, ?_⟩
      clear hF; intro a hF
      replace S := S.call0 T; clear T
      obtain ⟨hk112, hM106⟩ := chk_ex hM106
      replace hk112 := ixB_t hk112
      refine op_val (v := .pointer (some ⟨adB (some ⟨g101, 0, none⟩), adO (some ⟨g101, 0, none⟩) + p107.2.toNat * 2, none⟩)) rfl rfl hF rfl (run_indexAddr (b := adB (some ⟨g101, 0, none⟩)) (off := adO (some ⟨g101, 0, none⟩)) rfl Try.underlying43 sz32 ((hF.ev rfl).trans (congrArg (fun A => Value.slice A x0.length x0.length) ((S.rc 0 rfl).rd.ad (ix_pos hk112)))) (hF.ev rfl) hk112.1 hk112.2 (k' := adO (some ⟨g101, 0, none⟩) + p107.2.toNat * 2) rfl) ?_; clear hF; intro a hF
      obtain ⟨w', hrun, S'⟩ := run_storeElN (P := Try.prog) (ρ := a.eval) (y0 := (p111.1, p111.2)) (off := 0) S 32 (.tmp 21) (.tmp 20) (i := 0) sz32 (hF.ev rfl) (hF.ev rfl) rfl rfl rfl rfl hn108 ePollDeed_len ((0, 0) : Int × Int) (ix_ltn hk112 hn108) rfl rfl
      refine op_do rfl rfl (hrun _ rfl) ?_; clear hrun S; have S := S'; clear S'; generalize w' = u at S ⊢
      refine wpList_nil ?_
      refine wp_region_lit ?_
      refine op_val (v := .int .i64 p107.2) rfl rfl hF rfl (run_move rfl (hF.ev rfl)) ?_; clear hF; intro a hF
      refine op_val (v := .int .i64 (w64 (p107.2 + 1))) rfl rfl hF rfl (run_add (z := w64 (p107.2 + 1)) (hF.ev rfl) rfl rfl rfl) ?_; clear hF; intro a hF
      refine op_val (v := .int .i64 (w64 (p107.2 + 1))) rfl rfl hF rfl (run_assign rfl (hF.ev rfl)) ?_; clear hF; intro a hF
      refine wpList_nil ?_
      exact ⟨f1, Nat.lt_succ_self _, (p107.1.set p107.2.toNat (p111.1, p111.2), w64 (p107.2 + 1)), hM106, (len_set hn108), hF.keep _ ⟨rfl, rfl, rfl, rfl, trivial⟩, S.sel [0] rfl rfl⟩
  · rintro a u ⟨p103, rfl, hn105, hF, S⟩
    refine wp_seq ?_
    refine wp_region_lit ?_
    refine op_val (v := .slice (some ⟨g101, 0, none⟩) x0.length x0.length) rfl rfl hF rfl (run_move rfl (hF.ev rfl)) ?_; clear hF; intro a hF
    refine op_val (v := .slice (some ⟨g101, 0, none⟩) x0.length x0.length) rfl rfl hF rfl (run_assign rfl (hF.ev rfl)) ?_; clear hF; intro a hF
    refine wpList_nil ?_
    refine wp_ret ?_
    repeat with_reducible (first | refine then_ret ?_ | refine in_ret ?_ | refine in_nrm ?_)
    refine ret1_gw (.inl rfl) hF rfl (res_tmp (hF.ev rfl)) ?_
    obtain rfl := Option.some.inj hM
    exact ⟨(some ⟨g101, 0, none⟩), x0.length, x0.length, rfl, hn105, S.sel [0] rfl rfl⟩

set_option maxHeartbeats 4000000 in
theorem c_spec_PollRun {x0 : Int} {x1 : List Int} {x2 : Int} {x3 : List Int} {x4 : Int} {x5 : Int} {x6 : Int} {x7 : Int} {x8 : List (Int × Int)} {A1 : Option Addr} {n1 c1 : Nat} {A3 : Option Addr} {n3 c3 : Nat} {A8 : Option Addr} {n8 c8 : Nat} {w : World} {r : Int × List Int × Int × List Int × Int × Int × Int × Int × Int} (h1 : Rt w 1 eI A1 n1 c1 x1) (h3 : Rt w 1 eI A3 n3 c3 x3) (h8 : Rt w 2 ePollDeed A8 n8 c8 x8) (hM : m_spec_PollRun x0 x1 x2 x3 x4 x5 x6 x7 x8 = some r) :
    Calls Try.prog 17 #[.agg #[.int .i64 x0, .slice A1 n1 c1, .int .i64 x2, .slice A3 n3 c3, .int .i64 x4, .int .i64 x5, .int .i64 x6, .int .i64 x7], .slice A8 n8 c8] w (fun e w' => ∃ (B0 : Option Addr) (N0 D0 : Nat) (B1 : Option Addr) (N1 D1 : Nat), e = .returned (.tuple #[.agg #[.int .i64 r.1, .slice B0 N0 D0, .int .i64 r.2.2.1, .slice B1 N1 D1, .int .i64 r.2.2.2.2.1, .int .i64 r.2.2.2.2.2.1, .int .i64 r.2.2.2.2.2.2.1, .int .i64 r.2.2.2.2.2.2.2.1], .int .i64 r.2.2.2.2.2.2.2.2]) ∧ N0 = r.2.1.length ∧ N1 = r.2.2.2.1.length ∧ St w w' [.row 3 1 (.slice B0 N0 D0) N0 (r.2.1.flatMap eI), .row 3 1 (.slice B1 N1 D1) N1 (r.2.2.2.1.flatMap eI)]) := by
  obtain rfl := h1.len
  obtain rfl := h3.len
  obtain rfl := h8.len
  unfold m_spec_PollRun at hM
  refine calls_gw Try.func17 Try.ntmps17 rfl [(0, .agg #[.int .i64 x0, .slice A1 x1.length c1, .int .i64 x2, .slice A3 x3.length c3, .int .i64 x4, .int .i64 x5, .int .i64 x6, .int .i64 x7]), (1, .slice A8 x8.length c8)] ⟨rfl, rfl, trivial⟩ rfl ?_
  intro a hF
  have S := St.nil w
  refine wp_seq ?_
  refine wp_region_lit ?_
  refine op_new (cs := #[.int .i64 x0, .slice A1 x1.length c1, .int .i64 x2, .slice A3 x3.length c3, .int .i64 x4, .int .i64 x5, .int .i64 x6, .int .i64 x7]) rfl rfl hF rfl S (run_box rfl (hF.ev rfl) rfl) ?_; clear hF S; intro a g101 u hF S
  refine op_new (cs := #[.int .i64 0, .slice none 0 0, .int .i64 0, .slice none 0 0, .int .i64 0, .int .i64 0, .int .i64 0, .int .i64 0]) rfl rfl hF rfl S (run_allocZ rfl zr28) ?_; clear hF S; intro a g102 u hF S
  refine op_val (v := .int .i64 0) rfl rfl hF rfl (run_assign rfl rfl) ?_; clear hF; intro a hF
  refine wpList_nil ?_
  refine wp_seq ?_
  refine wp_seq ?_
  refine wp_region_lit ?_
  refine op_val (v := .agg #[.int .i64 x0, .slice A1 x1.length c1, .int .i64 x2, .slice A3 x3.length c3, .int .i64 x4, .int .i64 x5, .int .i64 x6, .int .i64 x7]) rfl rfl hF rfl (run_loadN rfl ag28 (hF.ev rfl) rfl ((S.free 1 rfl).cells 0 #[.int .i64 x0, .slice A1 x1.length c1, .int .i64 x2, .slice A3 x3.length c3, .int .i64 x4, .int .i64 x5, .int .i64 x6, .int .i64 x7] rfl)) ?_; clear hF; intro a hF
  obtain ⟨p103, h103, hM⟩ := bind_ex hM
  refine op_call rfl rfl hF rfl (run_call (vs := [.agg #[.int .i64 x0, .slice A1 x1.length c1, .int .i64 x2, .slice A3 x3.length c3, .int .i64 x4, .int .i64 x5, .int .i64 x6, .int .i64 x7]]) rfl rfl co23 ⟨(hF.ev rfl), trivial⟩) (c_spec_PollValid (x0 := x0) (x1 := x1) (x2 := x2) (x3 := x3) (x4 := x4) (x5 := x5) (x6 := x6) (x7 := x7) ⟨(S.rc0 h1.rc), rfl⟩ ⟨(S.rc0 h3.rc), rfl⟩ h103) ?_
  rintro e u ⟨rfl, T⟩
  refine ⟨_, rfl, ?_⟩
  clear hF; intro a hF
  replace S := S.call0 T; clear T
  refine op_val (v := .bool (!p103)) rfl rfl hF rfl (run_not rfl (hF.ev rfl)) ?_; clear hF; intro a hF
  refine wpList_nil ?_
  cases hc104 : (p103)
  · replace hM := bif_f hc104 hM
    refine cond_t hF rfl (not_t hc104) ?_
    refine wp_seq ?_
    refine wp_region_lit ?_
    refine op_val (v := .agg #[.int .i64 0, .slice none 0 0, .int .i64 0, .slice none 0 0, .int .i64 0, .int .i64 0, .int .i64 0, .int .i64 0]) rfl rfl hF rfl (run_build (vs := []) rfl trivial (bd28 )) ?_; clear hF; intro a hF
    refine op_do rfl rfl (run_store (cs' := #[.int .i64 0, .slice none 0 0, .int .i64 0, .slice none 0 0, .int .i64 0, .int .i64 0, .int .i64 0, .int .i64 0]) rfl sz28 (hF.ev rfl) (hF.ev rfl) rfl rfl rfl (S.free 0 rfl) rfl rfl) ?_; replace S := S.put 0 rfl (#[.int .i64 0, .slice none 0 0, .int .i64 0, .slice none 0 0, .int .i64 0, .int .i64 0, .int .i64 0, .int .i64 0])
    generalize World.setRow _ _ _ = u at S ⊢
    refine op_val (v := .int .i64 0) rfl rfl hF rfl (run_assign rfl rfl) ?_; clear hF; intro a hF
    refine wpList_nil ?_
    refine wp_ret ?_
    repeat with_reducible (first | refine then_ret ?_ | refine in_ret ?_ | refine in_nrm ?_)
    refine ret2_gw (.inl rfl) hF rfl (res_cell (hF.ev rfl) (res_loadN ag28 rfl (S.cells 0 rfl 0 #[.int .i64 0, .slice none 0 0, .int .i64 0, .slice none 0 0, .int .i64 0, .int .i64 0, .int .i64 0, .int .i64 0] rfl))) (res_tmp (hF.ev rfl)) ?_
    obtain rfl := Option.some.inj hM
    replace S := S.nilrow 3 1
    replace S := S.nilrow 3 1
    exact ⟨none, 0, 0, none, 0, 0, rfl, rfl, rfl, S.sel [1, 0] rfl rfl⟩
  · replace hM := bif_t hc104 hM
    refine cond_f hF rfl (not_f hc104) ?_
    refine wp_skip ?_
    refine wp_seq ?_
    refine wp_region_lit ?_
    refine op_val (v := .agg #[.int .i64 x0, .slice A1 x1.length c1, .int .i64 x2, .slice A3 x3.length c3, .int .i64 x4, .int .i64 x5, .int .i64 x6, .int .i64 x7]) rfl rfl hF rfl (run_loadN rfl ag28 (hF.ev rfl) rfl ((S.free 1 rfl).cells 0 #[.int .i64 x0, .slice A1 x1.length c1, .int .i64 x2, .slice A3 x3.length c3, .int .i64 x4, .int .i64 x5, .int .i64 x6, .int .i64 x7] rfl)) ?_; clear hF; intro a hF
    obtain ⟨p105, h105, hM⟩ := bind_ex hM
    refine op_call rfl rfl hF rfl (run_call (vs := [.agg #[.int .i64 x0, .slice A1 x1.length c1, .int .i64 x2, .slice A3 x3.length c3, .int .i64 x4, .int .i64 x5, .int .i64 x6, .int .i64 x7]]) rfl rfl co24 ⟨(hF.ev rfl), trivial⟩) (c_spec_l27Copy (x0 := x0) (x1 := x1) (x2 := x2) (x3 := x3) (x4 := x4) (x5 := x5) (x6 := x6) (x7 := x7) ⟨(S.rc0 h1.rc), rfl⟩ ⟨(S.rc0 h3.rc), rfl⟩ h105) ?_
    rintro e u ⟨B106, n107, d108, B109, n110, d111, rfl, rfl, rfl, T⟩
    refine ⟨_, rfl, ?_⟩
    clear hF; intro a hF
    replace S := S.call2 T; clear T
    refine op_new (cs := #[.int .i64 0, .slice none 0 0, .int .i64 0, .slice none 0 0, .int .i64 0, .int .i64 0, .int .i64 0, .int .i64 0]) rfl rfl hF rfl S (run_allocZ rfl zr28) ?_; clear hF S; intro a g112 u hF S
    refine op_do rfl rfl (run_store (cs' := #[.int .i64 p105.1, .slice B106 p105.2.1.length d108, .int .i64 p105.2.2.1, .slice B109 p105.2.2.2.1.length d111, .int .i64 p105.2.2.2.2.1, .int .i64 p105.2.2.2.2.2.1, .int .i64 p105.2.2.2.2.2.2.1, .int .i64 p105.2.2.2.2.2.2.2]) rfl sz28 (hF.ev rfl) (hF.ev rfl) rfl rfl rfl (S.free 0 rfl) rfl rfl) ?_; replace S := S.put 0 rfl (#[.int .i64 p105.1, .slice B106 p105.2.1.length d108, .int .i64 p105.2.2.1, .slice B109 p105.2.2.2.1.length d111, .int .i64 p105.2.2.2.2.1, .int .i64 p105.2.2.2.2.2.1, .int .i64 p105.2.2.2.2.2.2.1, .int .i64 p105.2.2.2.2.2.2.2])
    generalize World.setRow _ _ _ = u at S ⊢
    refine wpList_nil ?_
    refine wp_seq ?_
    refine wp_region_lit ?_
    refine op_val (v := .int .i64 0) rfl rfl hF rfl (run_assign rfl rfl) ?_; clear hF; intro a hF
    refine wpList_nil ?_
    refine wp_seq ?_
    refine wp_seq ?_
    refine wp_region_lit ?_
    refine op_val (v := .int .i64 0) rfl rfl hF rfl (run_assign rfl rfl) ?_; clear hF; intro a hF
    refine wpList_nil ?_
    obtain ⟨o114, hM119, hM⟩ := bind_ex hM
    refine wp_cut (fun a u => ∃ (p113 : Int × Int × List Int × Int × List Int × Int × Int × Int × Int) (B115 : Option Addr) (d116 : Nat) (B117 : Option Addr) (d118 : Nat), p113 = o114 ∧ Fr a 38 [(4, .pointer (some ⟨g102, 0, none⟩)), (5, .int .i64 0), (6, .pointer (some ⟨g112, 0, none⟩)), (7, .int .i64 p113.1)] ∧ St w u [.box g112 28 #[.int .i64 p113.2.1, .slice B115 p113.2.2.1.length d116, .int .i64 p113.2.2.2.1, .slice B117 p113.2.2.2.2.1.length d118, .int .i64 p113.2.2.2.2.2.1, .int .i64 p113.2.2.2.2.2.2.1, .int .i64 p113.2.2.2.2.2.2.2.1, .int .i64 p113.2.2.2.2.2.2.2.2], .box g102 28 #[.int .i64 0, .slice none 0 0, .int .i64 0, .slice none 0 0, .int .i64 0, .int .i64 0, .int .i64 0, .int .i64 0], .row 3 1 (.slice B115 p113.2.2.1.length d116) p113.2.2.1.length (p113.2.2.1.flatMap eI), .row 3 1 (.slice B117 p113.2.2.2.2.1.length d118) p113.2.2.2.2.1.length (p113.2.2.2.2.1.flatMap eI)]) ?_ ?_
    · have _ := trivial
      refine wp_block ?_
      refine loop_gw (fun m a u => ∃ (p120 : Int × Int × Int × List Int × Int × List Int × Int × Int × Int × Int) (B121 : Option Addr) (d122 : Nat) (B123 : Option Addr) (d124 : Nat), m_spec_PollRun_l1 x8 m p120 = some _ ∧ Fr a 38 [(1, .slice A8 x8.length c8), (4, .pointer (some ⟨g102, 0, none⟩)), (5, .int .i64 0), (6, .pointer (some ⟨g112, 0, none⟩)), (7, .int .i64 p120.1), (8, .int .i64 p120.2.1)] ∧ St w u [.box g112 28 #[.int .i64 p120.2.2.1, .slice B121 p120.2.2.2.1.length d122, .int .i64 p120.2.2.2.2.1, .slice B123 p120.2.2.2.2.2.1.length d124, .int .i64 p120.2.2.2.2.2.2.1, .int .i64 p120.2.2.2.2.2.2.2.1, .int .i64 p120.2.2.2.2.2.2.2.2.1, .int .i64 p120.2.2.2.2.2.2.2.2.2], .box g102 28 #[.int .i64 0, .slice none 0 0, .int .i64 0, .slice none 0 0, .int .i64 0, .int .i64 0, .int .i64 0, .int .i64 0], .row 3 1 (.slice B121 p120.2.2.2.1.length d122) p120.2.2.2.1.length (p120.2.2.2.1.flatMap eI), .row 3 1 (.slice B123 p120.2.2.2.2.2.1.length d124) p120.2.2.2.2.2.1.length (p120.2.2.2.2.2.1.flatMap eI)]) FUEL ⟨(0, 0, p105.1, p105.2.1, p105.2.2.1, p105.2.2.2.1, p105.2.2.2.2.1, p105.2.2.2.2.2.1, p105.2.2.2.2.2.2.1, p105.2.2.2.2.2.2.2), B106, d108, B109, d111, hM119, hF.keep _ ⟨rfl, rfl, rfl, rfl, rfl, rfl, trivial⟩, S.sel [0, 3, 1, 2] rfl rfl⟩ ?_
      clear hF S hM119; rintro m a u ⟨p120, B121, d122, B123, d124, hM119, hF, S⟩
      rcases m with _ | f1
      · exact none_some hM119
      rw [m_spec_PollRun_l1.eq_2] at hM119
      refine wp_seq ?_
      refine wp_seq ?_
      refine wp_region_lit ?_
      refine op_val (v := .int .i64 p120.2.1) rfl rfl hF rfl (run_move rfl (hF.ev rfl)) ?_; clear hF; intro a hF
      refine op_val (v := .slice A8 x8.length c8) rfl rfl hF rfl (run_move rfl (hF.ev rfl)) ?_; clear hF; intro a hF
      refine op_val (v := .int .i64 (x8.length : Int)) rfl rfl hF rfl (run_lenL rfl rfl Try.underlying43 (hF.ev rfl)) ?_; clear hF; intro a hF
      refine op_val (v := .bool (ltB p120.2.1 (x8.length : Int))) rfl rfl hF rfl (run_lss (hF.ev rfl) (hF.ev rfl) rfl) ?_; clear hF; intro a hF
      refine wpList_nil ?_
      cases hc125 : (ltB p120.2.1 (x8.length : Int))
      · replace hM119 := bif_f hc125 hM119
        refine cond_f hF rfl hc125 ?_
        refine wp_exit ?_
        repeat with_reducible (first | refine then_exit ?_ | refine in_hit ?_ | refine in_miss rfl ?_)
        obtain rfl := Option.some.inj hM119
        exact ⟨(p120.1, p120.2.2.1, p120.2.2.2.1, p120.2.2.2.2.1, p120.2.2.2.2.2.1, p120.2.2.2.2.2.2.1, p120.2.2.2.2.2.2.2.1, p120.2.2.2.2.2.2.2.2.1, p120.2.2.2.2.2.2.2.2.2), B121, d122, B123, d124, rfl, hF.keep _ ⟨rfl, rfl, rfl, rfl, trivial⟩, S.sel [0, 1, 2, 3] rfl rfl⟩
      · replace hM119 := bif_t hc125 hM119
        refine cond_t hF rfl hc125 ?_
        refine wp_skip ?_
        refine wp_seq ?_
        refine wp_block ?_
        refine wp_seq ?_
        obtain ⟨hk126, hM119⟩ := chk_ex hM119
        replace hk126 := ixB_t hk126
        obtain ⟨p127, h127, hM119⟩ := bind_ex hM119
        refine region_gw (D := [24, 25, 26, 27, 28, 29, 23, 30, 31, 9, 10]) (Lr := [.box g112 28 #[.int .i64 p120.2.2.1, .slice B121 p120.2.2.2.1.length d122, .int .i64 p120.2.2.2.2.1, .slice B123 p120.2.2.2.2.2.1.length d124, .int .i64 p120.2.2.2.2.2.2.1, .int .i64 p120.2.2.2.2.2.2.2.1, .int .i64 p120.2.2.2.2.2.2.2.2.1, .int .i64 p120.2.2.2.2.2.2.2.2.2], .box g102 28 #[.int .i64 0, .slice none 0 0, .int .i64 0, .slice none 0 0, .int .i64 0, .int .i64 0, .int .i64 0, .int .i64 0], .row 3 1 (.slice B121 p120.2.2.2.1.length d122) p120.2.2.2.1.length (p120.2.2.2.1.flatMap eI), .row 3 1 (.slice B123 p120.2.2.2.2.2.1.length d124) p120.2.2.2.2.2.1.length (p120.2.2.2.2.2.1.flatMap eI)]) (deps := (fun | 0 => [24] | 1 => [25] | 2 => [26] | 3 => [27] | 4 => [28] | 5 => [29] | 6 => [23, 29] | 7 => [30, 29] | 8 => [31] | 9 => [9] | 10 => [9, 29] | 11 => [10] | _ => [])) (rd := (fun _ => [])) (zr := (fun _ => []))
          (φ := fun i vs => match i, vs with | 0, [v24] => v24 = .agg #[.int .i64 p120.2.2.1, .slice B121 p120.2.2.2.1.length d122, .int .i64 p120.2.2.2.2.1, .slice B123 p120.2.2.2.2.2.1.length d124, .int .i64 p120.2.2.2.2.2.2.1, .int .i64 p120.2.2.2.2.2.2.2.1, .int .i64 p120.2.2.2.2.2.2.2.2.1, .int .i64 p120.2.2.2.2.2.2.2.2.2] | 1, [v25] => v25 = .slice A8 x8.length c8 | 2, [v26] => v26 = .int .i64 p120.2.1 | 3, [v27] => v27 = .pointer (some ⟨adB A8, adO A8 + p120.2.1.toNat * 2, none⟩) | 4, [v28] => v28 = .agg #[.int .i64 ((x8.getD p120.2.1.toNat ((0, 0) : Int × Int)).1), .int .i64 ((x8.getD p120.2.1.toNat ((0, 0) : Int × Int)).2)] | 5, [v29] => v29 = .tuple #[.agg #[.int .i64 p127.1, .slice (slA (vtup (vtup v29 0) 1)) p127.2.1.length (slC (vtup (vtup v29 0) 1)), .int .i64 p127.2.2.1, .slice (slA (vtup (vtup v29 0) 3)) p127.2.2.2.1.length (slC (vtup (vtup v29 0) 3)), .int .i64 p127.2.2.2.2.1, .int .i64 p127.2.2.2.2.2.1, .int .i64 p127.2.2.2.2.2.2.1, .int .i64 p127.2.2.2.2.2.2.2.1], .bool p127.2.2.2.2.2.2.2.2] | 6, [v23, v29] => v23 = .tuple #[.agg #[.int .i64 p127.1, .slice (slA (vtup (vtup v29 0) 1)) p127.2.1.length (slC (vtup (vtup v29 0) 1)), .int .i64 p127.2.2.1, .slice (slA (vtup (vtup v29 0) 3)) p127.2.2.2.1.length (slC (vtup (vtup v29 0) 3)), .int .i64 p127.2.2.2.2.1, .int .i64 p127.2.2.2.2.2.1, .int .i64 p127.2.2.2.2.2.2.1, .int .i64 p127.2.2.2.2.2.2.2.1], .bool p127.2.2.2.2.2.2.2.2] | 7, [v30, v29] => v30 = .agg #[.int .i64 p127.1, .slice (slA (vtup (vtup v29 0) 1)) p127.2.1.length (slC (vtup (vtup v29 0) 1)), .int .i64 p127.2.2.1, .slice (slA (vtup (vtup v29 0) 3)) p127.2.2.2.1.length (slC (vtup (vtup v29 0) 3)), .int .i64 p127.2.2.2.2.1, .int .i64 p127.2.2.2.2.2.1, .int .i64 p127.2.2.2.2.2.2.1, .int .i64 p127.2.2.2.2.2.2.2.1] | 8, [v31] => v31 = .bool p127.2.2.2.2.2.2.2.2 | 9, [v9] => v9 = .pointer (some ⟨ptB v9, 0, none⟩) | 11, [v10] => v10 = .bool p127.2.2.2.2.2.2.2.2 | _, _ => True)
          (C := fun i vs => match i, vs with | 5, [v29] => [.row 3 1 (.slice (slA (vtup (vtup v29 0) 1)) p127.2.1.length (slC (vtup (vtup v29 0) 1))) p127.2.1.length (p127.2.1.flatMap eI), .row 3 1 (.slice (slA (vtup (vtup v29 0) 3)) p127.2.2.2.1.length (slC (vtup (vtup v29 0) 3))) p127.2.2.2.1.length (p127.2.2.2.1.flatMap eI)] | 9, [v9] => [.box (ptB v9) 28 #[.int .i64 0, .slice none 0 0, .int .i64 0, .slice none 0 0, .int .i64 0, .int .i64 0, .int .i64 0, .int .i64 0]] | 10, [v9, v29] => [.box (ptB v9) 28 #[.int .i64 p127.1, .slice (slA (vtup (vtup v29 0) 1)) p127.2.1.length (slC (vtup (vtup v29 0) 1)), .int .i64 p127.2.2.1, .slice (slA (vtup (vtup v29 0) 3)) p127.2.2.2.1.length (slC (vtup (vtup v29 0) 3)), .int .i64 p127.2.2.2.2.1, .int .i64 p127.2.2.2.2.2.1, .int .i64 p127.2.2.2.2.2.2.1, .int .i64 p127.2.2.2.2.2.2.2.1]] | _, _ => [])
          (κ := (fun | 9 => some 10 | _ => none)) (Z := (fun _ => [])) mixed hF (by kernel_rfl) S ?_ ?_
        · refine ⟨?_, ?_, ?_, ?_, ?_, ?_, ?_, ?_, ?_, ?_, ?_, ?_, trivial⟩
          · intro a u X hB hu hp hr hz hl S
            replace S : St w u ([] ++ X) := S
            exact .inl ⟨rfl, .agg #[.int .i64 p120.2.2.1, .slice B121 p120.2.2.2.1.length d122, .int .i64 p120.2.2.2.2.1, .slice B123 p120.2.2.2.2.2.1.length d124, .int .i64 p120.2.2.2.2.2.2.1, .int .i64 p120.2.2.2.2.2.2.2.1, .int .i64 p120.2.2.2.2.2.2.2.2.1, .int .i64 p120.2.2.2.2.2.2.2.2.2], u, (run_loadN rfl ag28 (hF.evB hB rfl rfl) rfl ((gr_box S hl 0 rfl).cells 0 #[.int .i64 p120.2.2.1, .slice B121 p120.2.2.2.1.length d122, .int .i64 p120.2.2.2.2.1, .slice B123 p120.2.2.2.2.2.1.length d124, .int .i64 p120.2.2.2.2.2.2.1, .int .i64 p120.2.2.2.2.2.2.2.1, .int .i64 p120.2.2.2.2.2.2.2.2.1, .int .i64 p120.2.2.2.2.2.2.2.2.2] rfl)), rfl, S⟩
          · intro a u X hB hu hp hr hz hl S
            replace S : St w u ([] ++ X) := S
            exact .inl ⟨rfl, .slice A8 x8.length c8, u, (run_move rfl (hF.evB hB rfl rfl)), rfl, S⟩
          · intro a u X hB hu hp hr hz hl S
            replace S : St w u ([] ++ X) := S
            exact .inl ⟨rfl, .int .i64 p120.2.1, u, (run_move rfl (hF.evB hB rfl rfl)), rfl, S⟩
          · intro a u X hB hu hp hr hz hl S
            replace S : St w u ([] ++ X) := S
            have e25 : sl a 25 = .slice A8 x8.length c8 := hp 1 rfl
            have e26 : sl a 26 = .int .i64 p120.2.1 := hp 2 rfl
            exact .inl ⟨rfl, .pointer (some ⟨adB A8, adO A8 + p120.2.1.toNat * 2, none⟩), u, (run_indexAddr (b := adB A8) (off := adO A8) rfl Try.underlying43 sz32 ((ev_sl e25).trans (congrArg (fun A => Value.slice A x8.length c8) ((S.rc0 h8.rc).rd.ad (ix_pos hk126)))) (ev_sl e26) hk126.1 hk126.2 (k' := adO A8 + p120.2.1.toNat * 2) rfl), rfl, S⟩
          · intro a u X hB hu hp hr hz hl S
            replace S : St w u ([] ++ X) := S
            have e27 : sl a 27 = .pointer (some ⟨adB A8, adO A8 + p120.2.1.toNat * 2, none⟩) := hp 3 rfl
            exact .inl ⟨rfl, .agg #[.int .i64 ((x8.getD p120.2.1.toNat ((0, 0) : Int × Int)).1), .int .i64 ((x8.getD p120.2.1.toNat ((0, 0) : Int × Int)).2)], u, (run_loadN (cs := #[.int .i64 ((x8.getD p120.2.1.toNat ((0, 0) : Int × Int)).1), .int .i64 ((x8.getD p120.2.1.toNat ((0, 0) : Int × Int)).2)]) rfl ag32 (ev_sl e27) rfl (rd_elN (l := x8) (S.rc0 h8.rc).rd rfl ePollDeed_len ((0, 0) : Int × Int) (ix_ltn hk126 rfl) rfl)), rfl, S⟩
          · intro a u X hB hu hp hr hz hl S
            replace S : St w u ([] ++ X) := S
            have e24 : sl a 24 = .agg #[.int .i64 p120.2.2.1, .slice B121 p120.2.2.2.1.length d122, .int .i64 p120.2.2.2.2.1, .slice B123 p120.2.2.2.2.2.1.length d124, .int .i64 p120.2.2.2.2.2.2.1, .int .i64 p120.2.2.2.2.2.2.2.1, .int .i64 p120.2.2.2.2.2.2.2.2.1, .int .i64 p120.2.2.2.2.2.2.2.2.2] := hp 0 rfl
            have e28 : sl a 28 = .agg #[.int .i64 ((x8.getD p120.2.1.toNat ((0, 0) : Int × Int)).1), .int .i64 ((x8.getD p120.2.1.toNat ((0, 0) : Int × Int)).2)] := hp 4 rfl
            refine .inr (.inr (.inl ⟨rfl, _, _, (run_call (vs := [.agg #[.int .i64 p120.2.2.1, .slice B121 p120.2.2.2.1.length d122, .int .i64 p120.2.2.2.2.1, .slice B123 p120.2.2.2.2.2.1.length d124, .int .i64 p120.2.2.2.2.2.2.1, .int .i64 p120.2.2.2.2.2.2.2.1, .int .i64 p120.2.2.2.2.2.2.2.2.1, .int .i64 p120.2.2.2.2.2.2.2.2.2], .agg #[.int .i64 ((x8.getD p120.2.1.toNat ((0, 0) : Int × Int)).1), .int .i64 ((x8.getD p120.2.1.toNat ((0, 0) : Int × Int)).2)]]) rfl rfl co7 ⟨(ev_sl e24), (ev_sl e28), trivial⟩), ?_⟩))
            refine Calls.mono (c_spec_PollDo (x0 := p120.2.2.1) (x1 := p120.2.2.2.1) (x2 := p120.2.2.2.2.1) (x3 := p120.2.2.2.2.2.1) (x4 := p120.2.2.2.2.2.2.1) (x5 := p120.2.2.2.2.2.2.2.1) (x6 := p120.2.2.2.2.2.2.2.2.1) (x7 := p120.2.2.2.2.2.2.2.2.2) (x8 := (x8.getD p120.2.1.toNat ((0, 0) : Int × Int)).1) (x9 := (x8.getD p120.2.1.toNat ((0, 0) : Int × Int)).2) ⟨(gr_rc S hl 2 rfl), rfl⟩ ⟨(gr_rc S hl 3 rfl), rfl⟩ h127) ?_
            rintro e w1 ⟨B128, n129, d130, B131, n132, d133, rfl, rfl, rfl, T⟩
            exact ⟨_, rfl, rfl, S.call2 T⟩
          · intro a u X hB hu hp hr hz hl S
            replace S : St w u ([] ++ X) := S
            have e29 : sl a 29 = .tuple #[.agg #[.int .i64 p127.1, .slice (slA (vtup (vtup (sl a 29) 0) 1)) p127.2.1.length (slC (vtup (vtup (sl a 29) 0) 1)), .int .i64 p127.2.2.1, .slice (slA (vtup (vtup (sl a 29) 0) 3)) p127.2.2.2.1.length (slC (vtup (vtup (sl a 29) 0) 3)), .int .i64 p127.2.2.2.2.1, .int .i64 p127.2.2.2.2.2.1, .int .i64 p127.2.2.2.2.2.2.1, .int .i64 p127.2.2.2.2.2.2.2.1], .bool p127.2.2.2.2.2.2.2.2] := hp 5 rfl
            exact .inl ⟨rfl, .tuple #[.agg #[.int .i64 p127.1, .slice (slA (vtup (vtup (sl a 29) 0) 1)) p127.2.1.length (slC (vtup (vtup (sl a 29) 0) 1)), .int .i64 p127.2.2.1, .slice (slA (vtup (vtup (sl a 29) 0) 3)) p127.2.2.2.1.length (slC (vtup (vtup (sl a 29) 0) 3)), .int .i64 p127.2.2.2.2.1, .int .i64 p127.2.2.2.2.2.1, .int .i64 p127.2.2.2.2.2.2.1, .int .i64 p127.2.2.2.2.2.2.2.1], .bool p127.2.2.2.2.2.2.2.2], u, (run_move rfl (ev_sl e29)), rfl, S⟩
          · intro a u X hB hu hp hr hz hl S
            replace S : St w u ([] ++ X) := S
            have e23 : sl a 23 = .tuple #[.agg #[.int .i64 p127.1, .slice (slA (vtup (vtup (sl a 29) 0) 1)) p127.2.1.length (slC (vtup (vtup (sl a 29) 0) 1)), .int .i64 p127.2.2.1, .slice (slA (vtup (vtup (sl a 29) 0) 3)) p127.2.2.2.1.length (slC (vtup (vtup (sl a 29) 0) 3)), .int .i64 p127.2.2.2.2.1, .int .i64 p127.2.2.2.2.2.1, .int .i64 p127.2.2.2.2.2.2.1, .int .i64 p127.2.2.2.2.2.2.2.1], .bool p127.2.2.2.2.2.2.2.2] := hp 6 rfl
            exact .inl ⟨rfl, .agg #[.int .i64 p127.1, .slice (slA (vtup (vtup (sl a 29) 0) 1)) p127.2.1.length (slC (vtup (vtup (sl a 29) 0) 1)), .int .i64 p127.2.2.1, .slice (slA (vtup (vtup (sl a 29) 0) 3)) p127.2.2.2.1.length (slC (vtup (vtup (sl a 29) 0) 3)), .int .i64 p127.2.2.2.2.1, .int .i64 p127.2.2.2.2.2.1, .int .i64 p127.2.2.2.2.2.2.1, .int .i64 p127.2.2.2.2.2.2.2.1], u, (run_extract rfl (ev_sl e23) rfl), rfl, S⟩
          · intro a u X hB hu hp hr hz hl S
            replace S : St w u ([] ++ X) := S
            have e23 : sl a 23 = .tuple #[.agg #[.int .i64 p127.1, .slice (slA (vtup (vtup (sl a 29) 0) 1)) p127.2.1.length (slC (vtup (vtup (sl a 29) 0) 1)), .int .i64 p127.2.2.1, .slice (slA (vtup (vtup (sl a 29) 0) 3)) p127.2.2.2.1.length (slC (vtup (vtup (sl a 29) 0) 3)), .int .i64 p127.2.2.2.2.1, .int .i64 p127.2.2.2.2.2.1, .int .i64 p127.2.2.2.2.2.2.1, .int .i64 p127.2.2.2.2.2.2.2.1], .bool p127.2.2.2.2.2.2.2.2] := hp 6 rfl
            exact .inl ⟨rfl, .bool p127.2.2.2.2.2.2.2.2, u, (run_extract rfl (ev_sl e23) rfl), rfl, S⟩
          · intro a u X hB hu hp hr hz hl S
            replace S : St w u ([] ++ X) := S
            exact .inl ⟨rfl, _, _, (run_allocZ rfl zr28), rfl, S.alloc _ _⟩
          · intro a u X hB hu hp hr hz hl S
            replace S : St w u ([.box (ptB (sl a 9)) 28 #[.int .i64 0, .slice none 0 0, .int .i64 0, .slice none 0 0, .int .i64 0, .int .i64 0, .int .i64 0, .int .i64 0]] ++ X) := S
            have e9 : sl a 9 = .pointer (some ⟨ptB (sl a 9), 0, none⟩) := hp 9 rfl
            have e30 : sl a 30 = .agg #[.int .i64 p127.1, .slice (slA (vtup (vtup (sl a 29) 0) 1)) p127.2.1.length (slC (vtup (vtup (sl a 29) 0) 1)), .int .i64 p127.2.2.1, .slice (slA (vtup (vtup (sl a 29) 0) 3)) p127.2.2.2.1.length (slC (vtup (vtup (sl a 29) 0) 3)), .int .i64 p127.2.2.2.2.1, .int .i64 p127.2.2.2.2.2.1, .int .i64 p127.2.2.2.2.2.2.1, .int .i64 p127.2.2.2.2.2.2.2.1] := hp 7 rfl
            exact .inr (.inl ⟨rfl, _, run_store (cs' := #[.int .i64 p127.1, .slice (slA (vtup (vtup (sl a 29) 0) 1)) p127.2.1.length (slC (vtup (vtup (sl a 29) 0) 1)), .int .i64 p127.2.2.1, .slice (slA (vtup (vtup (sl a 29) 0) 3)) p127.2.2.2.1.length (slC (vtup (vtup (sl a 29) 0) 3)), .int .i64 p127.2.2.2.2.1, .int .i64 p127.2.2.2.2.2.1, .int .i64 p127.2.2.2.2.2.2.1, .int .i64 p127.2.2.2.2.2.2.2.1]) rfl sz28 (ev_sl e9) (ev_sl e30) rfl rfl rfl (S.free 0 rfl) rfl rfl, trivial, S.put 0 rfl (#[.int .i64 p127.1, .slice (slA (vtup (vtup (sl a 29) 0) 1)) p127.2.1.length (slC (vtup (vtup (sl a 29) 0) 1)), .int .i64 p127.2.2.1, .slice (slA (vtup (vtup (sl a 29) 0) 3)) p127.2.2.2.1.length (slC (vtup (vtup (sl a 29) 0) 3)), .int .i64 p127.2.2.2.2.1, .int .i64 p127.2.2.2.2.2.1, .int .i64 p127.2.2.2.2.2.2.1, .int .i64 p127.2.2.2.2.2.2.2.1])⟩)
          · intro a u X hB hu hp hr hz hl S
            replace S : St w u ([] ++ X) := S
            have e31 : sl a 31 = .bool p127.2.2.2.2.2.2.2.2 := hp 8 rfl
            exact .inl ⟨rfl, .bool p127.2.2.2.2.2.2.2.2, u, (run_assign rfl (ev_sl e31)), rfl, S⟩
        · intro a u hB hp S
          obtain ⟨q0, q1, q2, q3, q4, q5, q6, q7, q8, q9, q10, q11, _⟩ := hp
          have e24 : sl a 24 = .agg #[.int .i64 p120.2.2.1, .slice B121 p120.2.2.2.1.length d122, .int .i64 p120.2.2.2.2.1, .slice B123 p120.2.2.2.2.2.1.length d124, .int .i64 p120.2.2.2.2.2.2.1, .int .i64 p120.2.2.2.2.2.2.2.1, .int .i64 p120.2.2.2.2.2.2.2.2.1, .int .i64 p120.2.2.2.2.2.2.2.2.2] := q0
          have e25 : sl a 25 = .slice A8 x8.length c8 := q1
          have e26 : sl a 26 = .int .i64 p120.2.1 := q2
          have e27 : sl a 27 = .pointer (some ⟨adB A8, adO A8 + p120.2.1.toNat * 2, none⟩) := q3
          have e28 : sl a 28 = .agg #[.int .i64 ((x8.getD p120.2.1.toNat ((0, 0) : Int × Int)).1), .int .i64 ((x8.getD p120.2.1.toNat ((0, 0) : Int × Int)).2)] := q4
          have e29 : sl a 29 = .tuple #[.agg #[.int .i64 p127.1, .slice (slA (vtup (vtup (sl a 29) 0) 1)) p127.2.1.length (slC (vtup (vtup (sl a 29) 0) 1)), .int .i64 p127.2.2.1, .slice (slA (vtup (vtup (sl a 29) 0) 3)) p127.2.2.2.1.length (slC (vtup (vtup (sl a 29) 0) 3)), .int .i64 p127.2.2.2.2.1, .int .i64 p127.2.2.2.2.2.1, .int .i64 p127.2.2.2.2.2.2.1, .int .i64 p127.2.2.2.2.2.2.2.1], .bool p127.2.2.2.2.2.2.2.2] := q5
          have e23 : sl a 23 = .tuple #[.agg #[.int .i64 p127.1, .slice (slA (vtup (vtup (sl a 29) 0) 1)) p127.2.1.length (slC (vtup (vtup (sl a 29) 0) 1)), .int .i64 p127.2.2.1, .slice (slA (vtup (vtup (sl a 29) 0) 3)) p127.2.2.2.1.length (slC (vtup (vtup (sl a 29) 0) 3)), .int .i64 p127.2.2.2.2.1, .int .i64 p127.2.2.2.2.2.1, .int .i64 p127.2.2.2.2.2.2.1, .int .i64 p127.2.2.2.2.2.2.2.1], .bool p127.2.2.2.2.2.2.2.2] := q6
          have e30 : sl a 30 = .agg #[.int .i64 p127.1, .slice (slA (vtup (vtup (sl a 29) 0) 1)) p127.2.1.length (slC (vtup (vtup (sl a 29) 0) 1)), .int .i64 p127.2.2.1, .slice (slA (vtup (vtup (sl a 29) 0) 3)) p127.2.2.2.1.length (slC (vtup (vtup (sl a 29) 0) 3)), .int .i64 p127.2.2.2.2.1, .int .i64 p127.2.2.2.2.2.1, .int .i64 p127.2.2.2.2.2.2.1, .int .i64 p127.2.2.2.2.2.2.2.1] := q7
          have e31 : sl a 31 = .bool p127.2.2.2.2.2.2.2.2 := q8
          have e9 : sl a 9 = .pointer (some ⟨ptB (sl a 9), 0, none⟩) := q9
          have e10 : sl a 10 = .bool p127.2.2.2.2.2.2.2.2 := q11
          replace S : St w u [.row 3 1 (.slice (slA (vtup (vtup (sl a 29) 0) 1)) p127.2.1.length (slC (vtup (vtup (sl a 29) 0) 1))) p127.2.1.length (p127.2.1.flatMap eI), .row 3 1 (.slice (slA (vtup (vtup (sl a 29) 0) 3)) p127.2.2.2.1.length (slC (vtup (vtup (sl a 29) 0) 3))) p127.2.2.2.1.length (p127.2.2.2.1.flatMap eI), .box (ptB (sl a 9)) 28 #[.int .i64 p127.1, .slice (slA (vtup (vtup (sl a 29) 0) 1)) p127.2.1.length (slC (vtup (vtup (sl a 29) 0) 1)), .int .i64 p127.2.2.1, .slice (slA (vtup (vtup (sl a 29) 0) 3)) p127.2.2.2.1.length (slC (vtup (vtup (sl a 29) 0) 3)), .int .i64 p127.2.2.2.2.1, .int .i64 p127.2.2.2.2.2.1, .int .i64 p127.2.2.2.2.2.2.1, .int .i64 p127.2.2.2.2.2.2.2.1], .box g112 28 #[.int .i64 p120.2.2.1, .slice B121 p120.2.2.2.1.length d122, .int .i64 p120.2.2.2.2.1, .slice B123 p120.2.2.2.2.2.1.length d124, .int .i64 p120.2.2.2.2.2.2.1, .int .i64 p120.2.2.2.2.2.2.2.1, .int .i64 p120.2.2.2.2.2.2.2.2.1, .int .i64 p120.2.2.2.2.2.2.2.2.2], .box g102 28 #[.int .i64 0, .slice none 0 0, .int .i64 0, .slice none 0 0, .int .i64 0, .int .i64 0, .int .i64 0, .int .i64 0], .row 3 1 (.slice B121 p120.2.2.2.1.length d122) p120.2.2.2.1.length (p120.2.2.2.1.flatMap eI), .row 3 1 (.slice B123 p120.2.2.2.2.2.1.length d124) p120.2.2.2.2.2.1.length (p120.2.2.2.2.2.1.flatMap eI)] := S
          clear q0 q1 q2 q3 q4 q5 q6 q7 q8 q9 q10 q11
          generalize slA (vtup (vtup (sl a 29) 0) 1) = B134 at *
          generalize slC (vtup (vtup (sl a 29) 0) 1) = d135 at *
          generalize slA (vtup (vtup (sl a 29) 0) 3) = B136 at *
          generalize slC (vtup (vtup (sl a 29) 0) 3) = d137 at *
          generalize ptB (sl a 9) = g138 at *
          have hF := hF.region hB [(24, .agg #[.int .i64 p120.2.2.1, .slice B121 p120.2.2.2.1.length d122, .int .i64 p120.2.2.2.2.1, .slice B123 p120.2.2.2.2.2.1.length d124, .int .i64 p120.2.2.2.2.2.2.1, .int .i64 p120.2.2.2.2.2.2.2.1, .int .i64 p120.2.2.2.2.2.2.2.2.1, .int .i64 p120.2.2.2.2.2.2.2.2.2]), (25, .slice A8 x8.length c8), (26, .int .i64 p120.2.1), (27, .pointer (some ⟨adB A8, adO A8 + p120.2.1.toNat * 2, none⟩)), (28, .agg #[.int .i64 ((x8.getD p120.2.1.toNat ((0, 0) : Int × Int)).1), .int .i64 ((x8.getD p120.2.1.toNat ((0, 0) : Int × Int)).2)]), (29, .tuple #[.agg #[.int .i64 p127.1, .slice B134 p127.2.1.length d135, .int .i64 p127.2.2.1, .slice B136 p127.2.2.2.1.length d137, .int .i64 p127.2.2.2.2.1, .int .i64 p127.2.2.2.2.2.1, .int .i64 p127.2.2.2.2.2.2.1, .int .i64 p127.2.2.2.2.2.2.2.1], .bool p127.2.2.2.2.2.2.2.2]), (23, .tuple #[.agg #[.int .i64 p127.1, .slice B134 p127.2.1.length d135, .int .i64 p127.2.2.1, .slice B136 p127.2.2.2.1.length d137, .int .i64 p127.2.2.2.2.1, .int .i64 p127.2.2.2.2.2.1, .int .i64 p127.2.2.2.2.2.2.1, .int .i64 p127.2.2.2.2.2.2.2.1], .bool p127.2.2.2.2.2.2.2.2]), (30, .agg #[.int .i64 p127.1, .slice B134 p127.2.1.length d135, .int .i64 p127.2.2.1, .slice B136 p127.2.2.2.1.length d137, .int .i64 p127.2.2.2.2.1, .int .i64 p127.2.2.2.2.2.1, .int .i64 p127.2.2.2.2.2.2.1, .int .i64 p127.2.2.2.2.2.2.2.1]), (31, .bool p127.2.2.2.2.2.2.2.2), (9, .pointer (some ⟨g138, 0, none⟩)), (10, .bool p127.2.2.2.2.2.2.2.2)] (allSl_mem ⟨e24, e25, e26, e27, e28, e29, e23, e30, e31, e9, e10, trivial⟩) rfl
          clear hB e24 e25 e26 e27 e28 e29 e23 e30 e31 e9 e10
          refine wp_seq ?_
          refine wp_region_lit ?_
          refine op_val (v := .bool p127.2.2.2.2.2.2.2.2) rfl rfl hF rfl (run_move rfl (hF.ev rfl)) ?_; clear hF; intro a hF
          refine wpList_nil ?_
          obtain ⟨o140, hM145, hM119⟩ := bind_ex hM119
          refine wp_cut (fun a u => ∃ (p139 : Int × Int × List Int × Int × List Int × Int × Int × Int × Int) (B141 : Option Addr) (d142 : Nat) (B143 : Option Addr) (d144 : Nat), p139 = o140 ∧ Fr a 38 [(1, .slice A8 x8.length c8), (4, .pointer (some ⟨g102, 0, none⟩)), (5, .int .i64 0), (6, .pointer (some ⟨g112, 0, none⟩)), (7, .int .i64 p139.1), (8, .int .i64 p120.2.1)] ∧ St w u [.box g112 28 #[.int .i64 p139.2.1, .slice B141 p139.2.2.1.length d142, .int .i64 p139.2.2.2.1, .slice B143 p139.2.2.2.2.1.length d144, .int .i64 p139.2.2.2.2.2.1, .int .i64 p139.2.2.2.2.2.2.1, .int .i64 p139.2.2.2.2.2.2.2.1, .int .i64 p139.2.2.2.2.2.2.2.2], .box g102 28 #[.int .i64 0, .slice none 0 0, .int .i64 0, .slice none 0 0, .int .i64 0, .int .i64 0, .int .i64 0, .int .i64 0], .row 3 1 (.slice B141 p139.2.2.1.length d142) p139.2.2.1.length (p139.2.2.1.flatMap eI), .row 3 1 (.slice B143 p139.2.2.2.2.1.length d144) p139.2.2.2.2.1.length (p139.2.2.2.2.1.flatMap eI)]) ?_ ?_
          · have _ := trivial
            cases hc146 : (p127.2.2.2.2.2.2.2.2)
            · replace hM145 := bif_f hc146 hM145
              refine cond_f hF rfl hc146 ?_
              refine wp_skip ?_
              obtain rfl := Option.some.inj hM145
              exact ⟨(p120.1, p120.2.2.1, p120.2.2.2.1, p120.2.2.2.2.1, p120.2.2.2.2.2.1, p120.2.2.2.2.2.2.1, p120.2.2.2.2.2.2.2.1, p120.2.2.2.2.2.2.2.2.1, p120.2.2.2.2.2.2.2.2.2), B121, d122, B123, d124, rfl, hF.keep _ ⟨rfl, rfl, rfl, rfl, rfl, rfl, trivial⟩, S.sel [3, 4, 5, 6] rfl rfl⟩
            · replace hM145 := bif_t hc146 hM145
              refine cond_t hF rfl hc146 ?_
              refine wp_seq ?_
              refine wp_region_lit ?_
              refine op_val (v := .agg #[.int .i64 p127.1, .slice B134 p127.2.1.length d135, .int .i64 p127.2.2.1, .slice B136 p127.2.2.2.1.length d137, .int .i64 p127.2.2.2.2.1, .int .i64 p127.2.2.2.2.2.1, .int .i64 p127.2.2.2.2.2.2.1, .int .i64 p127.2.2.2.2.2.2.2.1]) rfl rfl hF rfl (run_loadN rfl ag28 (hF.ev rfl) rfl ((S.free 2 rfl).cells 0 #[.int .i64 p127.1, .slice B134 p127.2.1.length d135, .int .i64 p127.2.2.1, .slice B136 p127.2.2.2.1.length d137, .int .i64 p127.2.2.2.2.1, .int .i64 p127.2.2.2.2.2.1, .int .i64 p127.2.2.2.2.2.2.1, .int .i64 p127.2.2.2.2.2.2.2.1] rfl)) ?_; clear hF; intro a hF
              refine op_do rfl rfl (run_store (cs' := #[.int .i64 p127.1, .slice B134 p127.2.1.length d135, .int .i64 p127.2.2.1, .slice B136 p127.2.2.2.1.length d137, .int .i64 p127.2.2.2.2.1, .int .i64 p127.2.2.2.2.2.1, .int .i64 p127.2.2.2.2.2.2.1, .int .i64 p127.2.2.2.2.2.2.2.1]) rfl sz28 (hF.ev rfl) (hF.ev rfl) rfl rfl rfl (S.free 3 rfl) rfl rfl) ?_; replace S := S.put 3 rfl (#[.int .i64 p127.1, .slice B134 p127.2.1.length d135, .int .i64 p127.2.2.1, .slice B136 p127.2.2.2.1.length d137, .int .i64 p127.2.2.2.2.1, .int .i64 p127.2.2.2.2.2.1, .int .i64 p127.2.2.2.2.2.2.1, .int .i64 p127.2.2.2.2.2.2.2.1])
              generalize World.setRow _ _ _ = u at S ⊢
              refine wpList_nil ?_
              refine wp_region_lit ?_
              refine op_val (v := .int .i64 p120.1) rfl rfl hF rfl (run_move rfl (hF.ev rfl)) ?_; clear hF; intro a hF
              refine op_val (v := .int .i64 (w64 (p120.1 + 1))) rfl rfl hF rfl (run_add (z := w64 (p120.1 + 1)) (hF.ev rfl) rfl rfl rfl) ?_; clear hF; intro a hF
              refine op_val (v := .int .i64 (w64 (p120.1 + 1))) rfl rfl hF rfl (run_assign rfl (hF.ev rfl)) ?_; clear hF; intro a hF
              refine wpList_nil ?_
              obtain rfl := Option.some.inj hM145
              exact ⟨(w64 (p120.1 + 1), p127.1, p127.2.1, p127.2.2.1, p127.2.2.2.1, p127.2.2.2.2.1, p127.2.2.2.2.2.1, p127.2.2.2.2.2.2.1, p127.2.2.2.2.2.2.2.1), B134, d135, B136, d137, rfl, hF.keep _ ⟨rfl, rfl, rfl, rfl, rfl, rfl, trivial⟩, S.sel [3, 4, 0, 1] rfl rfl⟩
          · rintro a u ⟨p139, B141, d142, B143, d144, rfl, hF, S⟩
            refine wp_region_lit ?_
            refine op_val (v := .int .i64 p120.2.1) rfl rfl hF rfl (run_move rfl (hF.ev rfl)) ?_; clear hF; intro a hF
            refine op_val (v := .int .i64 (w64 (p120.2.1 + 1))) rfl rfl hF rfl (run_add (z := w64 (p120.2.1 + 1)) (hF.ev rfl) rfl rfl rfl) ?_; clear hF; intro a hF
            refine op_val (v := .int .i64 (w64 (p120.2.1 + 1))) rfl rfl hF rfl (run_assign rfl (hF.ev rfl)) ?_; clear hF; intro a hF
            refine wpList_nil ?_
            exact ⟨f1, Nat.lt_succ_self _, (p139.1, w64 (p120.2.1 + 1), p139.2.1, p139.2.2.1, p139.2.2.2.1, p139.2.2.2.2.1, p139.2.2.2.2.2.1, p139.2.2.2.2.2.2.1, p139.2.2.2.2.2.2.2.1, p139.2.2.2.2.2.2.2.2), B141, d142, B143, d144, hM119, hF.keep _ ⟨rfl, rfl, rfl, rfl, rfl, rfl, trivial⟩, S.sel [0, 1, 2, 3] rfl rfl⟩
    · rintro a u ⟨p113, B115, d116, B117, d118, rfl, hF, S⟩
      refine wp_seq ?_
      refine wp_region_lit ?_
      refine op_val (v := .agg #[.int .i64 p113.2.1, .slice B115 p113.2.2.1.length d116, .int .i64 p113.2.2.2.1, .slice B117 p113.2.2.2.2.1.length d118, .int .i64 p113.2.2.2.2.2.1, .int .i64 p113.2.2.2.2.2.2.1, .int .i64 p113.2.2.2.2.2.2.2.1, .int .i64 p113.2.2.2.2.2.2.2.2]) rfl rfl hF rfl (run_loadN rfl ag28 (hF.ev rfl) rfl ((S.free 0 rfl).cells 0 #[.int .i64 p113.2.1, .slice B115 p113.2.2.1.length d116, .int .i64 p113.2.2.2.1, .slice B117 p113.2.2.2.2.1.length d118, .int .i64 p113.2.2.2.2.2.1, .int .i64 p113.2.2.2.2.2.2.1, .int .i64 p113.2.2.2.2.2.2.2.1, .int .i64 p113.2.2.2.2.2.2.2.2] rfl)) ?_; clear hF; intro a hF
      refine op_val (v := .int .i64 p113.1) rfl rfl hF rfl (run_move rfl (hF.ev rfl)) ?_; clear hF; intro a hF
      refine op_do rfl rfl (run_store (cs' := #[.int .i64 p113.2.1, .slice B115 p113.2.2.1.length d116, .int .i64 p113.2.2.2.1, .slice B117 p113.2.2.2.2.1.length d118, .int .i64 p113.2.2.2.2.2.1, .int .i64 p113.2.2.2.2.2.2.1, .int .i64 p113.2.2.2.2.2.2.2.1, .int .i64 p113.2.2.2.2.2.2.2.2]) rfl sz28 (hF.ev rfl) (hF.ev rfl) rfl rfl rfl (S.free 1 rfl) rfl rfl) ?_; replace S := S.put 1 rfl (#[.int .i64 p113.2.1, .slice B115 p113.2.2.1.length d116, .int .i64 p113.2.2.2.1, .slice B117 p113.2.2.2.2.1.length d118, .int .i64 p113.2.2.2.2.2.1, .int .i64 p113.2.2.2.2.2.2.1, .int .i64 p113.2.2.2.2.2.2.2.1, .int .i64 p113.2.2.2.2.2.2.2.2])
      generalize World.setRow _ _ _ = u at S ⊢
      refine op_val (v := .int .i64 p113.1) rfl rfl hF rfl (run_assign rfl (hF.ev rfl)) ?_; clear hF; intro a hF
      refine wpList_nil ?_
      refine wp_ret ?_
      repeat with_reducible (first | refine then_ret ?_ | refine in_ret ?_ | refine in_nrm ?_)
      refine ret2_gw (.inl rfl) hF rfl (res_cell (hF.ev rfl) (res_loadN ag28 rfl (S.cells 1 rfl 0 #[.int .i64 p113.2.1, .slice B115 p113.2.2.1.length d116, .int .i64 p113.2.2.2.1, .slice B117 p113.2.2.2.2.1.length d118, .int .i64 p113.2.2.2.2.2.1, .int .i64 p113.2.2.2.2.2.2.1, .int .i64 p113.2.2.2.2.2.2.2.1, .int .i64 p113.2.2.2.2.2.2.2.2] rfl))) (res_tmp (hF.ev rfl)) ?_
      obtain rfl := Option.some.inj hM
      exact ⟨B115, p113.2.2.1.length, d116, B117, p113.2.2.2.2.1.length, d118, rfl, rfl, rfl, S.sel [2, 3] rfl rfl⟩

set_option maxHeartbeats 4000000 in
theorem c_impl_PollRun {x0 : Int} {x1 : List Int} {x2 : Int} {x3 : List Int} {x4 : Int} {x5 : Int} {x6 : Int} {x7 : Int} {x8 : List (Int × Int)} {A1 : Option Addr} {n1 c1 : Nat} {A3 : Option Addr} {n3 c3 : Nat} {A8 : Option Addr} {n8 c8 : Nat} {w : World} {r : Int × List Int × Int × List Int × Int × Int × Int × Int × Int} (h1 : Rt w 1 eI A1 n1 c1 x1) (h3 : Rt w 1 eI A3 n3 c3 x3) (h8 : Rt w 2 ePollDeed A8 n8 c8 x8) (hM : m_impl_PollRun x0 x1 x2 x3 x4 x5 x6 x7 x8 = some r) :
    Calls Try.prog 19 #[.agg #[.int .i64 x0, .slice A1 n1 c1, .int .i64 x2, .slice A3 n3 c3, .int .i64 x4, .int .i64 x5, .int .i64 x6, .int .i64 x7], .slice A8 n8 c8] w (fun e w' => ∃ (B0 : Option Addr) (N0 D0 : Nat) (B1 : Option Addr) (N1 D1 : Nat), e = .returned (.tuple #[.agg #[.int .i64 r.1, .slice B0 N0 D0, .int .i64 r.2.2.1, .slice B1 N1 D1, .int .i64 r.2.2.2.2.1, .int .i64 r.2.2.2.2.2.1, .int .i64 r.2.2.2.2.2.2.1, .int .i64 r.2.2.2.2.2.2.2.1], .int .i64 r.2.2.2.2.2.2.2.2]) ∧ N0 = r.2.1.length ∧ N1 = r.2.2.2.1.length ∧ St w w' [.row 3 1 (.slice B0 N0 D0) N0 (r.2.1.flatMap eI), .row 3 1 (.slice B1 N1 D1) N1 (r.2.2.2.1.flatMap eI)]) := by
  obtain rfl := h1.len
  obtain rfl := h3.len
  obtain rfl := h8.len
  unfold m_impl_PollRun at hM
  refine calls_gw Try.func19 Try.ntmps19 rfl [(0, .agg #[.int .i64 x0, .slice A1 x1.length c1, .int .i64 x2, .slice A3 x3.length c3, .int .i64 x4, .int .i64 x5, .int .i64 x6, .int .i64 x7]), (1, .slice A8 x8.length c8)] ⟨rfl, rfl, trivial⟩ rfl ?_
  intro a hF
  have S := St.nil w
  refine wp_seq ?_
  refine wp_region_lit ?_
  refine op_new (cs := #[.int .i64 x0, .slice A1 x1.length c1, .int .i64 x2, .slice A3 x3.length c3, .int .i64 x4, .int .i64 x5, .int .i64 x6, .int .i64 x7]) rfl rfl hF rfl S (run_box rfl (hF.ev rfl) rfl) ?_; clear hF S; intro a g101 u hF S
  refine op_new (cs := #[.int .i64 0, .slice none 0 0, .int .i64 0, .slice none 0 0, .int .i64 0, .int .i64 0, .int .i64 0, .int .i64 0]) rfl rfl hF rfl S (run_allocZ rfl zr28) ?_; clear hF S; intro a g102 u hF S
  refine op_val (v := .int .i64 0) rfl rfl hF rfl (run_assign rfl rfl) ?_; clear hF; intro a hF
  refine wpList_nil ?_
  refine wp_seq ?_
  refine wp_seq ?_
  refine wp_region_lit ?_
  refine op_val (v := .agg #[.int .i64 x0, .slice A1 x1.length c1, .int .i64 x2, .slice A3 x3.length c3, .int .i64 x4, .int .i64 x5, .int .i64 x6, .int .i64 x7]) rfl rfl hF rfl (run_loadN rfl ag28 (hF.ev rfl) rfl ((S.free 1 rfl).cells 0 #[.int .i64 x0, .slice A1 x1.length c1, .int .i64 x2, .slice A3 x3.length c3, .int .i64 x4, .int .i64 x5, .int .i64 x6, .int .i64 x7] rfl)) ?_; clear hF; intro a hF
  obtain ⟨p103, h103, hM⟩ := bind_ex hM
  refine op_call rfl rfl hF rfl (run_call (vs := [.agg #[.int .i64 x0, .slice A1 x1.length c1, .int .i64 x2, .slice A3 x3.length c3, .int .i64 x4, .int .i64 x5, .int .i64 x6, .int .i64 x7]]) rfl rfl co28 ⟨(hF.ev rfl), trivial⟩) (c_impl_PollValid (x0 := x0) (x1 := x1) (x2 := x2) (x3 := x3) (x4 := x4) (x5 := x5) (x6 := x6) (x7 := x7) ⟨(S.rc0 h1.rc), rfl⟩ ⟨(S.rc0 h3.rc), rfl⟩ h103) ?_
  rintro e u ⟨rfl, T⟩
  refine ⟨_, rfl, ?_⟩
  clear hF; intro a hF
  replace S := S.call0 T; clear T
  refine op_val (v := .bool (!p103)) rfl rfl hF rfl (run_not rfl (hF.ev rfl)) ?_; clear hF; intro a hF
  refine wpList_nil ?_
  cases hc104 : (p103)
  · replace hM := bif_f hc104 hM
    refine cond_t hF rfl (not_t hc104) ?_
    refine wp_seq ?_
    refine wp_region_lit ?_
    refine op_val (v := .agg #[.int .i64 0, .slice none 0 0, .int .i64 0, .slice none 0 0, .int .i64 0, .int .i64 0, .int .i64 0, .int .i64 0]) rfl rfl hF rfl (run_build (vs := []) rfl trivial (bd28 )) ?_; clear hF; intro a hF
    refine op_do rfl rfl (run_store (cs' := #[.int .i64 0, .slice none 0 0, .int .i64 0, .slice none 0 0, .int .i64 0, .int .i64 0, .int .i64 0, .int .i64 0]) rfl sz28 (hF.ev rfl) (hF.ev rfl) rfl rfl rfl (S.free 0 rfl) rfl rfl) ?_; replace S := S.put 0 rfl (#[.int .i64 0, .slice none 0 0, .int .i64 0, .slice none 0 0, .int .i64 0, .int .i64 0, .int .i64 0, .int .i64 0])
    generalize World.setRow _ _ _ = u at S ⊢
    refine op_val (v := .int .i64 0) rfl rfl hF rfl (run_assign rfl rfl) ?_; clear hF; intro a hF
    refine wpList_nil ?_
    refine wp_ret ?_
    repeat with_reducible (first | refine then_ret ?_ | refine in_ret ?_ | refine in_nrm ?_)
    refine ret2_gw (.inl rfl) hF rfl (res_cell (hF.ev rfl) (res_loadN ag28 rfl (S.cells 0 rfl 0 #[.int .i64 0, .slice none 0 0, .int .i64 0, .slice none 0 0, .int .i64 0, .int .i64 0, .int .i64 0, .int .i64 0] rfl))) (res_tmp (hF.ev rfl)) ?_
    obtain rfl := Option.some.inj hM
    replace S := S.nilrow 3 1
    replace S := S.nilrow 3 1
    exact ⟨none, 0, 0, none, 0, 0, rfl, rfl, rfl, S.sel [1, 0] rfl rfl⟩
  · replace hM := bif_t hc104 hM
    refine cond_f hF rfl (not_f hc104) ?_
    refine wp_skip ?_
    refine wp_seq ?_
    refine wp_region_lit ?_
    refine op_val (v := .agg #[.int .i64 x0, .slice A1 x1.length c1, .int .i64 x2, .slice A3 x3.length c3, .int .i64 x4, .int .i64 x5, .int .i64 x6, .int .i64 x7]) rfl rfl hF rfl (run_loadN rfl ag28 (hF.ev rfl) rfl ((S.free 1 rfl).cells 0 #[.int .i64 x0, .slice A1 x1.length c1, .int .i64 x2, .slice A3 x3.length c3, .int .i64 x4, .int .i64 x5, .int .i64 x6, .int .i64 x7] rfl)) ?_; clear hF; intro a hF
    obtain ⟨p105, h105, hM⟩ := bind_ex hM
    refine op_call rfl rfl hF rfl (run_call (vs := [.agg #[.int .i64 x0, .slice A1 x1.length c1, .int .i64 x2, .slice A3 x3.length c3, .int .i64 x4, .int .i64 x5, .int .i64 x6, .int .i64 x7]]) rfl rfl co29 ⟨(hF.ev rfl), trivial⟩) (c_impl_Poll_clone (x0 := x0) (x1 := x1) (x2 := x2) (x3 := x3) (x4 := x4) (x5 := x5) (x6 := x6) (x7 := x7) ⟨(S.rc0 h1.rc), rfl⟩ ⟨(S.rc0 h3.rc), rfl⟩ h105) ?_
    rintro e u ⟨B106, n107, d108, B109, n110, d111, rfl, rfl, rfl, T⟩
    refine ⟨_, rfl, ?_⟩
    clear hF; intro a hF
    replace S := S.call2 T; clear T
    refine op_new (cs := #[.int .i64 0, .slice none 0 0, .int .i64 0, .slice none 0 0, .int .i64 0, .int .i64 0, .int .i64 0, .int .i64 0]) rfl rfl hF rfl S (run_allocZ rfl zr28) ?_; clear hF S; intro a g112 u hF S
    refine op_do rfl rfl (run_store (cs' := #[.int .i64 p105.1, .slice B106 p105.2.1.length d108, .int .i64 p105.2.2.1, .slice B109 p105.2.2.2.1.length d111, .int .i64 p105.2.2.2.2.1, .int .i64 p105.2.2.2.2.2.1, .int .i64 p105.2.2.2.2.2.2.1, .int .i64 p105.2.2.2.2.2.2.2]) rfl sz28 (hF.ev rfl) (hF.ev rfl) rfl rfl rfl (S.free 0 rfl) rfl rfl) ?_; replace S := S.put 0 rfl (#[.int .i64 p105.1, .slice B106 p105.2.1.length d108, .int .i64 p105.2.2.1, .slice B109 p105.2.2.2.1.length d111, .int .i64 p105.2.2.2.2.1, .int .i64 p105.2.2.2.2.2.1, .int .i64 p105.2.2.2.2.2.2.1, .int .i64 p105.2.2.2.2.2.2.2])
    generalize World.setRow _ _ _ = u at S ⊢
    refine op_val (v := .int .i64 0) rfl rfl hF rfl (run_assign rfl rfl) ?_; clear hF; intro a hF
    refine wpList_nil ?_
    refine wp_seq ?_
    refine wp_seq ?_
    refine wp_region_lit ?_
    refine op_val (v := .slice A8 x8.length c8) rfl rfl hF rfl (run_move rfl (hF.ev rfl)) ?_; clear hF; intro a hF
    refine op_val (v := .int .i64 (x8.length : Int)) rfl rfl hF rfl (run_lenL rfl rfl Try.underlying43 (hF.ev rfl)) ?_; clear hF; intro a hF
    refine op_val (v := .int .i64 0) rfl rfl hF rfl (run_move rfl rfl) ?_; clear hF; intro a hF
    refine wpList_nil ?_
    obtain ⟨o114, hM119, hM⟩ := bind_ex hM
    refine wp_cut (fun a u => ∃ (p113 : Int × Int × List Int × Int × List Int × Int × Int × Int × Int) (B115 : Option Addr) (d116 : Nat) (B117 : Option Addr) (d118 : Nat), p113 = o114 ∧ Fr a 37 [(4, .pointer (some ⟨g102, 0, none⟩)), (5, .int .i64 0), (6, .pointer (some ⟨g112, 0, none⟩)), (7, .int .i64 p113.1)] ∧ St w u [.box g112 28 #[.int .i64 p113.2.1, .slice B115 p113.2.2.1.length d116, .int .i64 p113.2.2.2.1, .slice B117 p113.2.2.2.2.1.length d118, .int .i64 p113.2.2.2.2.2.1, .int .i64 p113.2.2.2.2.2.2.1, .int .i64 p113.2.2.2.2.2.2.2.1, .int .i64 p113.2.2.2.2.2.2.2.2], .box g102 28 #[.int .i64 0, .slice none 0 0, .int .i64 0, .slice none 0 0, .int .i64 0, .int .i64 0, .int .i64 0, .int .i64 0], .row 3 1 (.slice B115 p113.2.2.1.length d116) p113.2.2.1.length (p113.2.2.1.flatMap eI), .row 3 1 (.slice B117 p113.2.2.2.2.1.length d118) p113.2.2.2.2.1.length (p113.2.2.2.2.1.flatMap eI)]) ?_ ?_
    · have _ := trivial
      refine wp_block ?_
      refine loop_gw (fun m a u => ∃ (p120 : Int × Int × Int × List Int × Int × List Int × Int × Int × Int × Int) (B121 : Option Addr) (d122 : Nat) (B123 : Option Addr) (d124 : Nat), m_impl_PollRun_l1 x8 m p120 = some _ ∧ Fr a 37 [(4, .pointer (some ⟨g102, 0, none⟩)), (5, .int .i64 0), (6, .pointer (some ⟨g112, 0, none⟩)), (7, .int .i64 p120.1), (18, .slice A8 x8.length c8), (19, .int .i64 (x8.length : Int)), (20, .int .i64 p120.2.1)] ∧ St w u [.box g112 28 #[.int .i64 p120.2.2.1, .slice B121 p120.2.2.2.1.length d122, .int .i64 p120.2.2.2.2.1, .slice B123 p120.2.2.2.2.2.1.length d124, .int .i64 p120.2.2.2.2.2.2.1, .int .i64 p120.2.2.2.2.2.2.2.1, .int .i64 p120.2.2.2.2.2.2.2.2.1, .int .i64 p120.2.2.2.2.2.2.2.2.2], .box g102 28 #[.int .i64 0, .slice none 0 0, .int .i64 0, .slice none 0 0, .int .i64 0, .int .i64 0, .int .i64 0, .int .i64 0], .row 3 1 (.slice B121 p120.2.2.2.1.length d122) p120.2.2.2.1.length (p120.2.2.2.1.flatMap eI), .row 3 1 (.slice B123 p120.2.2.2.2.2.1.length d124) p120.2.2.2.2.2.1.length (p120.2.2.2.2.2.1.flatMap eI)]) FUEL ⟨(0, 0, p105.1, p105.2.1, p105.2.2.1, p105.2.2.2.1, p105.2.2.2.2.1, p105.2.2.2.2.2.1, p105.2.2.2.2.2.2.1, p105.2.2.2.2.2.2.2), B106, d108, B109, d111, hM119, hF.keep _ ⟨rfl, rfl, rfl, rfl, rfl, rfl, rfl, trivial⟩, S.sel [0, 3, 1, 2] rfl rfl⟩ ?_
      clear hF S hM119; rintro m a u ⟨p120, B121, d122, B123, d124, hM119, hF, S⟩
      rcases m with _ | f1
      · exact none_some hM119
      rw [m_impl_PollRun_l1.eq_2] at hM119
      refine wp_seq ?_
      refine wp_region_lit ?_
      refine op_val (v := .bool (ltB p120.2.1 (x8.length : Int))) rfl rfl hF rfl (run_lss (hF.ev rfl) (hF.ev rfl) rfl) ?_; clear hF; intro a hF
      refine wpList_nil ?_
      refine wp_seq ?_
      cases hc125 : (ltB p120.2.1 (x8.length : Int))
      · replace hM119 := bif_f hc125 hM119
        refine cond_f hF rfl hc125 ?_
        refine wp_exit ?_
        repeat with_reducible (first | refine then_exit ?_ | refine in_hit ?_ | refine in_miss rfl ?_)
        obtain rfl := Option.some.inj hM119
        exact ⟨(p120.1, p120.2.2.1, p120.2.2.2.1, p120.2.2.2.2.1, p120.2.2.2.2.2.1, p120.2.2.2.2.2.2.1, p120.2.2.2.2.2.2.2.1, p120.2.2.2.2.2.2.2.2.1, p120.2.2.2.2.2.2.2.2.2), B121, d122, B123, d124, rfl, hF.keep _ ⟨rfl, rfl, rfl, rfl, trivial⟩, S.sel [0, 1, 2, 3] rfl rfl⟩
      · replace hM119 := bif_t hc125 hM119
        refine cond_t hF rfl hc125 ?_
        refine wp_skip ?_
        refine wp_seq ?_
        refine wp_block ?_
        refine wp_seq ?_
        refine wp_region_lit ?_
        obtain ⟨hk126, hM119⟩ := chk_ex hM119
        replace hk126 := ixB_t hk126
        refine op_val (v := .pointer (some ⟨adB A8, adO A8 + p120.2.1.toNat * 2, none⟩)) rfl rfl hF rfl (run_indexAddr (b := adB A8) (off := adO A8) rfl Try.underlying43 sz32 ((hF.ev rfl).trans (congrArg (fun A => Value.slice A x8.length c8) ((S.rc0 h8.rc).rd.ad (ix_pos hk126)))) (hF.ev rfl) hk126.1 hk126.2 (k' := adO A8 + p120.2.1.toNat * 2) rfl) ?_; clear hF; intro a hF
        refine op_val (v := .agg #[.int .i64 ((x8.getD p120.2.1.toNat ((0, 0) : Int × Int)).1), .int .i64 ((x8.getD p120.2.1.toNat ((0, 0) : Int × Int)).2)]) rfl rfl hF rfl (run_loadN (cs := #[.int .i64 ((x8.getD p120.2.1.toNat ((0, 0) : Int × Int)).1), .int .i64 ((x8.getD p120.2.1.toNat ((0, 0) : Int × Int)).2)]) rfl ag32 (hF.ev rfl) rfl (rd_elN (l := x8) (S.rc0 h8.rc).rd rfl ePollDeed_len ((0, 0) : Int × Int) (ix_ltn hk126 rfl) rfl)) ?_; clear hF; intro a hF
        refine op_new (cs := #[.int .i64 0, .int .i64 0]) rfl rfl hF rfl S (run_allocZ rfl zr32) ?_; clear hF S; intro a g127 u hF S
        refine op_do rfl rfl (run_store (cs' := #[.int .i64 ((x8.getD p120.2.1.toNat ((0, 0) : Int × Int)).1), .int .i64 ((x8.getD p120.2.1.toNat ((0, 0) : Int × Int)).2)]) rfl sz32 (hF.ev rfl) (hF.ev rfl) rfl rfl rfl (S.free 0 rfl) rfl rfl) ?_; replace S := S.put 0 rfl (#[.int .i64 ((x8.getD p120.2.1.toNat ((0, 0) : Int × Int)).1), .int .i64 ((x8.getD p120.2.1.toNat ((0, 0) : Int × Int)).2)])
        generalize World.setRow _ _ _ = u at S ⊢
        refine wpList_nil ?_
        refine wp_seq ?_
        refine wp_region_lit ?_
        refine op_val (v := .agg #[.int .i64 p120.2.2.1, .slice B121 p120.2.2.2.1.length d122, .int .i64 p120.2.2.2.2.1, .slice B123 p120.2.2.2.2.2.1.length d124, .int .i64 p120.2.2.2.2.2.2.1, .int .i64 p120.2.2.2.2.2.2.2.1, .int .i64 p120.2.2.2.2.2.2.2.2.1, .int .i64 p120.2.2.2.2.2.2.2.2.2]) rfl rfl hF rfl (run_loadN rfl ag28 (hF.ev rfl) rfl ((S.free 1 rfl).cells 0 #[.int .i64 p120.2.2.1, .slice B121 p120.2.2.2.1.length d122, .int .i64 p120.2.2.2.2.1, .slice B123 p120.2.2.2.2.2.1.length d124, .int .i64 p120.2.2.2.2.2.2.1, .int .i64 p120.2.2.2.2.2.2.2.1, .int .i64 p120.2.2.2.2.2.2.2.2.1, .int .i64 p120.2.2.2.2.2.2.2.2.2] rfl)) ?_; clear hF; intro a hF
        refine op_val (v := .agg #[.int .i64 ((x8.getD p120.2.1.toNat ((0, 0) : Int × Int)).1), .int .i64 ((x8.getD p120.2.1.toNat ((0, 0) : Int × Int)).2)]) rfl rfl hF rfl (run_loadN rfl ag32 (hF.ev rfl) rfl ((S.free 0 rfl).cells 0 #[.int .i64 ((x8.getD p120.2.1.toNat ((0, 0) : Int × Int)).1), .int .i64 ((x8.getD p120.2.1.toNat ((0, 0) : Int × Int)).2)] rfl)) ?_; clear hF; intro a hF
        obtain ⟨p128, h128, hM119⟩ := bind_ex hM119
        refine op_call rfl rfl hF rfl (run_call (vs := [.agg #[.int .i64 p120.2.2.1, .slice B121 p120.2.2.2.1.length d122, .int .i64 p120.2.2.2.2.1, .slice B123 p120.2.2.2.2.2.1.length d124, .int .i64 p120.2.2.2.2.2.2.1, .int .i64 p120.2.2.2.2.2.2.2.1, .int .i64 p120.2.2.2.2.2.2.2.2.1, .int .i64 p120.2.2.2.2.2.2.2.2.2], .agg #[.int .i64 ((x8.getD p120.2.1.toNat ((0, 0) : Int × Int)).1), .int .i64 ((x8.getD p120.2.1.toNat ((0, 0) : Int × Int)).2)]]) rfl rfl co10 ⟨(hF.ev rfl), (hF.ev rfl), trivial⟩) (c_impl_PollDo (x0 := p120.2.2.1) (x1 := p120.2.2.2.1) (x2 := p120.2.2.2.2.1) (x3 := p120.2.2.2.2.2.1) (x4 := p120.2.2.2.2.2.2.1) (x5 := p120.2.2.2.2.2.2.2.1) (x6 := p120.2.2.2.2.2.2.2.2.1) (x7 := p120.2.2.2.2.2.2.2.2.2) (x8 := (x8.getD p120.2.1.toNat ((0, 0) : Int × Int)).1) (x9 := (x8.getD p120.2.1.toNat ((0, 0) : Int × Int)).2) ⟨(S.rc 3 rfl), rfl⟩ ⟨(S.rc 4 rfl), rfl⟩ h128) ?_
        rintro e u ⟨B129, n130, d131, B132, n133, d134, rfl, rfl, rfl, T⟩
        refine ⟨_, rfl, ?_⟩
        clear hF; intro a hF
        replace S := S.call2 T; clear T
        refine op_val (v := .tuple #[.agg #[.int .i64 p128.1, .slice B129 p128.2.1.length d131, .int .i64 p128.2.2.1, .slice B132 p128.2.2.2.1.length d134, .int .i64 p128.2.2.2.2.1, .int .i64 p128.2.2.2.2.2.1, .int .i64 p128.2.2.2.2.2.2.1, .int .i64 p128.2.2.2.2.2.2.2.1], .bool p128.2.2.2.2.2.2.2.2]) rfl rfl hF rfl (run_move rfl (hF.ev rfl)) ?_; clear hF; intro a hF
        refine op_val (v := .agg #[.int .i64 p128.1, .slice B129 p128.2.1.length d131, .int .i64 p128.2.2.1, .slice B132 p128.2.2.2.1.length d134, .int .i64 p128.2.2.2.2.1, .int .i64 p128.2.2.2.2.2.1, .int .i64 p128.2.2.2.2.2.2.1, .int .i64 p128.2.2.2.2.2.2.2.1]) rfl rfl hF rfl (run_extract rfl (hF.ev rfl) rfl) ?_; clear hF; intro a hF
        refine op_val (v := .bool p128.2.2.2.2.2.2.2.2) rfl rfl hF rfl (run_extract rfl (hF.ev rfl) rfl) ?_; clear hF; intro a hF
        refine op_new (cs := #[.int .i64 0, .slice none 0 0, .int .i64 0, .slice none 0 0, .int .i64 0, .int .i64 0, .int .i64 0, .int .i64 0]) rfl rfl hF rfl S (run_allocZ rfl zr28) ?_; clear hF S; intro a g135 u hF S
        refine op_do rfl rfl (run_store (cs' := #[.int .i64 p128.1, .slice B129 p128.2.1.length d131, .int .i64 p128.2.2.1, .slice B132 p128.2.2.2.1.length d134, .int .i64 p128.2.2.2.2.1, .int .i64 p128.2.2.2.2.2.1, .int .i64 p128.2.2.2.2.2.2.1, .int .i64 p128.2.2.2.2.2.2.2.1]) rfl sz28 (hF.ev rfl) (hF.ev rfl) rfl rfl rfl (S.free 0 rfl) rfl rfl) ?_; replace S := S.put 0 rfl (#[.int .i64 p128.1, .slice B129 p128.2.1.length d131, .int .i64 p128.2.2.1, .slice B132 p128.2.2.2.1.length d134, .int .i64 p128.2.2.2.2.1, .int .i64 p128.2.2.2.2.2.1, .int .i64 p128.2.2.2.2.2.2.1, .int .i64 p128.2.2.2.2.2.2.2.1])
        generalize World.setRow _ _ _ = u at S ⊢
        refine op_val (v := .bool p128.2.2.2.2.2.2.2.2) rfl rfl hF rfl (run_assign rfl (hF.ev rfl)) ?_; clear hF; intro a hF
        refine wpList_nil ?_
        refine wp_seq ?_
        refine wp_region_lit ?_
        refine op_val (v := .bool p128.2.2.2.2.2.2.2.2) rfl rfl hF rfl (run_move rfl (hF.ev rfl)) ?_; clear hF; intro a hF
        refine wpList_nil ?_
        obtain ⟨o137, hM142, hM119⟩ := bind_ex hM119
        refine wp_cut (fun a u => ∃ (p136 : Int × Int × List Int × Int × List Int × Int × Int × Int × Int) (B138 : Option Addr) (d139 : Nat) (B140 : Option Addr) (d141 : Nat), p136 = o137 ∧ Fr a 37 [(4, .pointer (some ⟨g102, 0, none⟩)), (5, .int .i64 0), (6, .pointer (some ⟨g112, 0, none⟩)), (7, .int .i64 p136.1), (18, .slice A8 x8.length c8), (19, .int .i64 (x8.length : Int)), (20, .int .i64 p120.2.1)] ∧ St w u [.box g112 28 #[.int .i64 p136.2.1, .slice B138 p136.2.2.1.length d139, .int .i64 p136.2.2.2.1, .slice B140 p136.2.2.2.2.1.length d141, .int .i64 p136.2.2.2.2.2.1, .int .i64 p136.2.2.2.2.2.2.1, .int .i64 p136.2.2.2.2.2.2.2.1, .int .i64 p136.2.2.2.2.2.2.2.2], .box g102 28 #[.int .i64 0, .slice none 0 0, .int .i64 0, .slice none 0 0, .int .i64 0, .int .i64 0, .int .i64 0, .int .i64 0], .row 3 1 (.slice B138 p136.2.2.1.length d139) p136.2.2.1.length (p136.2.2.1.flatMap eI), .row 3 1 (.slice B140 p136.2.2.2.2.1.length d141) p136.2.2.2.2.1.length (p136.2.2.2.2.1.flatMap eI)]) ?_ ?_
        · have _ := trivial
          cases hc143 : (p128.2.2.2.2.2.2.2.2)
          · replace hM142 := bif_f hc143 hM142
            refine cond_f hF rfl hc143 ?_
            refine wp_skip ?_
            obtain rfl := Option.some.inj hM142
            exact ⟨(p120.1, p120.2.2.1, p120.2.2.2.1, p120.2.2.2.2.1, p120.2.2.2.2.2.1, p120.2.2.2.2.2.2.1, p120.2.2.2.2.2.2.2.1, p120.2.2.2.2.2.2.2.2.1, p120.2.2.2.2.2.2.2.2.2), B121, d122, B123, d124, rfl, hF.keep _ ⟨rfl, rfl, rfl, rfl, rfl, rfl, rfl, trivial⟩, S.sel [4, 5, 6, 7] rfl rfl⟩
          · replace hM142 := bif_t hc143 hM142
            refine cond_t hF rfl hc143 ?_
            refine wp_seq ?_
            refine wp_region_lit ?_
            refine op_val (v := .agg #[.int .i64 p128.1, .slice B129 p128.2.1.length d131, .int .i64 p128.2.2.1, .slice B132 p128.2.2.2.1.length d134, .int .i64 p128.2.2.2.2.1, .int .i64 p128.2.2.2.2.2.1, .int .i64 p128.2.2.2.2.2.2.1, .int .i64 p128.2.2.2.2.2.2.2.1]) rfl rfl hF rfl (run_loadN rfl ag28 (hF.ev rfl) rfl ((S.free 0 rfl).cells 0 #[.int .i64 p128.1, .slice B129 p128.2.1.length d131, .int .i64 p128.2.2.1, .slice B132 p128.2.2.2.1.length d134, .int .i64 p128.2.2.2.2.1, .int .i64 p128.2.2.2.2.2.1, .int .i64 p128.2.2.2.2.2.2.1, .int .i64 p128.2.2.2.2.2.2.2.1] rfl)) ?_; clear hF; intro a hF
            refine op_do rfl rfl (run_store (cs' := #[.int .i64 p128.1, .slice B129 p128.2.1.length d131, .int .i64 p128.2.2.1, .slice B132 p128.2.2.2.1.length d134, .int .i64 p128.2.2.2.2.1, .int .i64 p128.2.2.2.2.2.1, .int .i64 p128.2.2.2.2.2.2.1, .int .i64 p128.2.2.2.2.2.2.2.1]) rfl sz28 (hF.ev rfl) (hF.ev rfl) rfl rfl rfl (S.free 4 rfl) rfl rfl) ?_; replace S := S.put 4 rfl (#[.int .i64 p128.1, .slice B129 p128.2.1.length d131, .int .i64 p128.2.2.1, .slice B132 p128.2.2.2.1.length d134, .int .i64 p128.2.2.2.2.1, .int .i64 p128.2.2.2.2.2.1, .int .i64 p128.2.2.2.2.2.2.1, .int .i64 p128.2.2.2.2.2.2.2.1])
            generalize World.setRow _ _ _ = u at S ⊢
            refine wpList_nil ?_
            refine wp_region_lit ?_
            refine op_val (v := .int .i64 p120.1) rfl rfl hF rfl (run_move rfl (hF.ev rfl)) ?_; clear hF; intro a hF
            refine op_val (v := .int .i64 (w64 (p120.1 + 1))) rfl rfl hF rfl (run_add (z := w64 (p120.1 + 1)) (hF.ev rfl) rfl rfl rfl) ?_; clear hF; intro a hF
            refine op_val (v := .int .i64 (w64 (p120.1 + 1))) rfl rfl hF rfl (run_assign rfl (hF.ev rfl)) ?_; clear hF; intro a hF
            refine wpList_nil ?_
            obtain rfl := Option.some.inj hM142
            exact ⟨(w64 (p120.1 + 1), p128.1, p128.2.1, p128.2.2.1, p128.2.2.2.1, p128.2.2.2.2.1, p128.2.2.2.2.2.1, p128.2.2.2.2.2.2.1, p128.2.2.2.2.2.2.2.1), B129, d131, B132, d134, rfl, hF.keep _ ⟨rfl, rfl, rfl, rfl, rfl, rfl, rfl, trivial⟩, S.sel [4, 5, 1, 2] rfl rfl⟩
        · rintro a u ⟨p136, B138, d139, B140, d141, rfl, hF, S⟩
          refine wp_region_lit ?_
          refine op_val (v := .int .i64 (w64 (p120.2.1 + 1))) rfl rfl hF rfl (run_add (z := w64 (p120.2.1 + 1)) (hF.ev rfl) rfl rfl rfl) ?_; clear hF; intro a hF
          refine op_val (v := .int .i64 (w64 (p120.2.1 + 1))) rfl rfl hF rfl (run_move rfl (hF.ev rfl)) ?_; clear hF; intro a hF
          refine wpList_nil ?_
          exact ⟨f1, Nat.lt_succ_self _, (p136.1, w64 (p120.2.1 + 1), p136.2.1, p136.2.2.1, p136.2.2.2.1, p136.2.2.2.2.1, p136.2.2.2.2.2.1, p136.2.2.2.2.2.2.1, p136.2.2.2.2.2.2.2.1, p136.2.2.2.2.2.2.2.2), B138, d139, B140, d141, hM119, hF.keep _ ⟨rfl, rfl, rfl, rfl, rfl, rfl, rfl, trivial⟩, S.sel [0, 1, 2, 3] rfl rfl⟩
    · rintro a u ⟨p113, B115, d116, B117, d118, rfl, hF, S⟩
      refine wp_seq ?_
      refine wp_region_lit ?_
      refine op_val (v := .agg #[.int .i64 p113.2.1, .slice B115 p113.2.2.1.length d116, .int .i64 p113.2.2.2.1, .slice B117 p113.2.2.2.2.1.length d118, .int .i64 p113.2.2.2.2.2.1, .int .i64 p113.2.2.2.2.2.2.1, .int .i64 p113.2.2.2.2.2.2.2.1, .int .i64 p113.2.2.2.2.2.2.2.2]) rfl rfl hF rfl (run_loadN rfl ag28 (hF.ev rfl) rfl ((S.free 0 rfl).cells 0 #[.int .i64 p113.2.1, .slice B115 p113.2.2.1.length d116, .int .i64 p113.2.2.2.1, .slice B117 p113.2.2.2.2.1.length d118, .int .i64 p113.2.2.2.2.2.1, .int .i64 p113.2.2.2.2.2.2.1, .int .i64 p113.2.2.2.2.2.2.2.1, .int .i64 p113.2.2.2.2.2.2.2.2] rfl)) ?_; clear hF; intro a hF
      refine op_val (v := .int .i64 p113.1) rfl rfl hF rfl (run_move rfl (hF.ev rfl)) ?_; clear hF; intro a hF
      refine op_do rfl rfl (run_store (cs' := #[.int .i64 p113.2.1, .slice B115 p113.2.2.1.length d116, .int .i64 p113.2.2.2.1, .slice B117 p113.2.2.2.2.1.length d118, .int .i64 p113.2.2.2.2.2.1, .int .i64 p113.2.2.2.2.2.2.1, .int .i64 p113.2.2.2.2.2.2.2.1, .int .i64 p113.2.2.2.2.2.2.2.2]) rfl sz28 (hF.ev rfl) (hF.ev rfl) rfl rfl rfl (S.free 1 rfl) rfl rfl) ?_; replace S := S.put 1 rfl (#[.int .i64 p113.2.1, .slice B115 p113.2.2.1.length d116, .int .i64 p113.2.2.2.1, .slice B117 p113.2.2.2.2.1.length d118, .int .i64 p113.2.2.2.2.2.1, .int .i64 p113.2.2.2.2.2.2.1, .int .i64 p113.2.2.2.2.2.2.2.1, .int .i64 p113.2.2.2.2.2.2.2.2])
      generalize World.setRow _ _ _ = u at S ⊢
      refine op_val (v := .int .i64 p113.1) rfl rfl hF rfl (run_assign rfl (hF.ev rfl)) ?_; clear hF; intro a hF
      refine wpList_nil ?_
      refine wp_ret ?_
      repeat with_reducible (first | refine then_ret ?_ | refine in_ret ?_ | refine in_nrm ?_)
      refine ret2_gw (.inl rfl) hF rfl (res_cell (hF.ev rfl) (res_loadN ag28 rfl (S.cells 1 rfl 0 #[.int .i64 p113.2.1, .slice B115 p113.2.2.1.length d116, .int .i64 p113.2.2.2.1, .slice B117 p113.2.2.2.2.1.length d118, .int .i64 p113.2.2.2.2.2.1, .int .i64 p113.2.2.2.2.2.2.1, .int .i64 p113.2.2.2.2.2.2.2.1, .int .i64 p113.2.2.2.2.2.2.2.2] rfl))) (res_tmp (hF.ev rfl)) ?_
      obtain rfl := Option.some.inj hM
      exact ⟨B115, p113.2.2.1.length, d116, B117, p113.2.2.2.2.1.length, d118, rfl, rfl, rfl, S.sel [2, 3] rfl rfl⟩

set_option maxHeartbeats 4000000 in
theorem c_laws_eqPollDeed {x0 : Int} {x1 : Int} {x2 : Int} {x3 : Int} {w : World} {r : Bool}  (hM : m_laws_eqPollDeed x0 x1 x2 x3 = some r) :
    Calls Try.prog 34 #[.agg #[.int .i64 x0, .int .i64 x1], .agg #[.int .i64 x2, .int .i64 x3]] w (fun e w' => e = .returned (.bool r) ∧ St w w' []) := by
  unfold m_laws_eqPollDeed at hM
  refine calls_gw Try.func34 Try.ntmps34 rfl [(0, .agg #[.int .i64 x0, .int .i64 x1]), (1, .agg #[.int .i64 x2, .int .i64 x3])] ⟨rfl, rfl, trivial⟩ rfl ?_
  intro a hF
  have S := St.nil w
  refine wp_seq ?_
  refine wp_region_lit ?_
  refine op_new (cs := #[.int .i64 x0, .int .i64 x1]) rfl rfl hF rfl S (run_box rfl (hF.ev rfl) rfl) ?_; clear hF S; intro a g101 u hF S
  refine op_new (cs := #[.int .i64 x2, .int .i64 x3]) rfl rfl hF rfl S (run_box rfl (hF.ev rfl) rfl) ?_; clear hF S; intro a g102 u hF S
  refine op_val (v := .bool false) rfl rfl hF rfl (run_assign rfl rfl) ?_; clear hF; intro a hF
  refine wpList_nil ?_
  refine wp_seq ?_
  refine wp_seq ?_
  refine wp_region_lit ?_
  refine op_val (v := .pointer (some ⟨g101, 0, none⟩)) rfl rfl hF rfl (run_fieldAddr rfl fl32_0 (hF.ev rfl) rfl) ?_; clear hF; intro a hF
  refine op_val (v := .int .i64 x0) rfl rfl hF rfl (run_load1 rfl one3 (hF.ev rfl) ((S.free 1 rfl).cell rfl)) ?_; clear hF; intro a hF
  refine op_val (v := .pointer (some ⟨g102, 0, none⟩)) rfl rfl hF rfl (run_fieldAddr rfl fl32_0 (hF.ev rfl) rfl) ?_; clear hF; intro a hF
  refine op_val (v := .int .i64 x2) rfl rfl hF rfl (run_load1 rfl one3 (hF.ev rfl) ((S.free 0 rfl).cell rfl)) ?_; clear hF; intro a hF
  refine op_val (v := .bool (x0 != x2)) rfl rfl hF rfl (run_neq (hF.ev rfl) (hF.ev rfl) rfl) ?_; clear hF; intro a hF
  refine wpList_nil ?_
  cases hc103 : (x0 != x2)
  · replace hM := bif_f hc103 hM
    refine cond_f hF rfl hc103 ?_
    refine wp_skip ?_
    refine wp_seq ?_
    refine wp_seq ?_
    refine wp_region_lit ?_
    refine op_val (v := .pointer (some ⟨g101, 1, none⟩)) rfl rfl hF rfl (run_fieldAddr rfl fl32_1 (hF.ev rfl) rfl) ?_; clear hF; intro a hF
    refine op_val (v := .int .i64 x1) rfl rfl hF rfl (run_load1 rfl one3 (hF.ev rfl) ((S.free 1 rfl).cell rfl)) ?_; clear hF; intro a hF
    refine op_val (v := .pointer (some ⟨g102, 1, none⟩)) rfl rfl hF rfl (run_fieldAddr rfl fl32_1 (hF.ev rfl) rfl) ?_; clear hF; intro a hF
    refine op_val (v := .int .i64 x3) rfl rfl hF rfl (run_load1 rfl one3 (hF.ev rfl) ((S.free 0 rfl).cell rfl)) ?_; clear hF; intro a hF
    refine op_val (v := .bool (x1 != x3)) rfl rfl hF rfl (run_neq (hF.ev rfl) (hF.ev rfl) rfl) ?_; clear hF; intro a hF
    refine wpList_nil ?_
    cases hc104 : (x1 != x3)
    · replace hM := bif_f hc104 hM
      refine cond_f hF rfl hc104 ?_
      refine wp_skip ?_
      refine wp_seq ?_
      refine wp_region_lit ?_
      refine op_val (v := .bool true) rfl rfl hF rfl (run_assign rfl rfl) ?_; clear hF; intro a hF
      refine wpList_nil ?_
      refine wp_ret ?_
      repeat with_reducible (first | refine then_ret ?_ | refine in_ret ?_ | refine in_nrm ?_)
      refine ret1_gw (.inl rfl) hF rfl (res_tmp (hF.ev rfl)) ?_
      obtain rfl := Option.some.inj hM
      exact ⟨rfl, S.sel [] rfl rfl⟩
    · replace hM := bif_t hc104 hM
      refine cond_t hF rfl hc104 ?_
      refine wp_seq ?_
      refine wp_region_lit ?_
      refine op_val (v := .bool false) rfl rfl hF rfl (run_assign rfl rfl) ?_; clear hF; intro a hF
      refine wpList_nil ?_
      refine wp_ret ?_
      repeat with_reducible (first | refine then_ret ?_ | refine in_ret ?_ | refine in_nrm ?_)
      refine ret1_gw (.inl rfl) hF rfl (res_tmp (hF.ev rfl)) ?_
      obtain rfl := Option.some.inj hM
      exact ⟨rfl, S.sel [] rfl rfl⟩
  · replace hM := bif_t hc103 hM
    refine cond_t hF rfl hc103 ?_
    refine wp_seq ?_
    refine wp_region_lit ?_
    refine op_val (v := .bool false) rfl rfl hF rfl (run_assign rfl rfl) ?_; clear hF; intro a hF
    refine wpList_nil ?_
    refine wp_ret ?_
    repeat with_reducible (first | refine then_ret ?_ | refine in_ret ?_ | refine in_nrm ?_)
    refine ret1_gw (.inl rfl) hF rfl (res_tmp (hF.ev rfl)) ?_
    obtain rfl := Option.some.inj hM
    exact ⟨rfl, S.sel [] rfl rfl⟩

set_option maxHeartbeats 4000000 in
theorem c_laws_eqPollDeedS {x0 : List (Int × Int)} {x1 : List (Int × Int)} {A0 : Option Addr} {n0 c0 : Nat} {A1 : Option Addr} {n1 c1 : Nat} {w : World} {r : Bool} (h0 : Rt w 2 ePollDeed A0 n0 c0 x0) (h1 : Rt w 2 ePollDeed A1 n1 c1 x1) (hM : m_laws_eqPollDeedS x0 x1 = some r) :
    Calls Try.prog 20 #[.slice A0 n0 c0, .slice A1 n1 c1] w (fun e w' => e = .returned (.bool r) ∧ St w w' []) := by
  obtain rfl := h0.len
  obtain rfl := h1.len
  unfold m_laws_eqPollDeedS at hM
  refine calls_gw Try.func20 Try.ntmps20 rfl [(0, .slice A0 x0.length c0), (1, .slice A1 x1.length c1)] ⟨rfl, rfl, trivial⟩ rfl ?_
  intro a hF
  have S := St.nil w
  refine wp_seq ?_
  refine wp_region_lit ?_
  refine op_val (v := .bool false) rfl rfl hF rfl (run_assign rfl rfl) ?_; clear hF; intro a hF
  refine wpList_nil ?_
  refine wp_seq ?_
  refine wp_seq ?_
  refine wp_region_lit ?_
  refine op_val (v := .slice A0 x0.length c0) rfl rfl hF rfl (run_move rfl (hF.ev rfl)) ?_; clear hF; intro a hF
  refine op_val (v := .int .i64 (x0.length : Int)) rfl rfl hF rfl (run_lenL rfl rfl Try.underlying43 (hF.ev rfl)) ?_; clear hF; intro a hF
  refine op_val (v := .slice A1 x1.length c1) rfl rfl hF rfl (run_move rfl (hF.ev rfl)) ?_; clear hF; intro a hF
  refine op_val (v := .int .i64 (x1.length : Int)) rfl rfl hF rfl (run_lenL rfl rfl Try.underlying43 (hF.ev rfl)) ?_; clear hF; intro a hF
  refine op_val (v := .bool ((x0.length : Int) != (x1.length : Int))) rfl rfl hF rfl (run_neq (hF.ev rfl) (hF.ev rfl) rfl) ?_; clear hF; intro a hF
  refine wpList_nil ?_
  cases hc101 : ((x0.length : Int) != (x1.length : Int))
  · replace hM := bif_f hc101 hM
    refine cond_f hF rfl hc101 ?_
    refine wp_skip ?_
    refine wp_seq ?_
    refine wp_seq ?_
    refine wp_region_lit ?_
    refine op_val (v := .int .i64 0) rfl rfl hF rfl (run_assign rfl rfl) ?_; clear hF; intro a hF
    refine wpList_nil ?_
    obtain ⟨o103, hM104, hM⟩ := bind_ex hM
    refine wp_cut (fun a u => ∃ (p102 : Unit), (Sum.inl p102) = o103 ∧ Fr a 27 [(4, .bool false)] ∧ St w u []) ?_ ?_
    · have _ := trivial
      refine wp_block ?_
      refine loop_gw (fun m a u => ∃ (p105 : Int), m_laws_eqPollDeedS_l1 x0 x1 m p105 = some _ ∧ Fr a 27 [(0, .slice A0 x0.length c0), (1, .slice A1 x1.length c1), (4, .bool false), (5, .int .i64 p105)] ∧ St w u []) FUEL ⟨0, hM104, hF.keep _ ⟨rfl, rfl, rfl, rfl, trivial⟩, S.sel [] rfl rfl⟩ ?_
      clear hF S hM104; rintro m a u ⟨p105, hM104, hF, S⟩
      rcases m with _ | f1
      · exact none_some hM104
      rw [m_laws_eqPollDeedS_l1.eq_2] at hM104
      refine wp_seq ?_
      refine wp_seq ?_
      refine wp_region_lit ?_
      refine op_val (v := .int .i64 p105) rfl rfl hF rfl (run_move rfl (hF.ev rfl)) ?_; clear hF; intro a hF
      refine op_val (v := .slice A0 x0.length c0) rfl rfl hF rfl (run_move rfl (hF.ev rfl)) ?_; clear hF; intro a hF
      refine op_val (v := .int .i64 (x0.length : Int)) rfl rfl hF rfl (run_lenL rfl rfl Try.underlying43 (hF.ev rfl)) ?_; clear hF; intro a hF
      refine op_val (v := .bool (ltB p105 (x0.length : Int))) rfl rfl hF rfl (run_lss (hF.ev rfl) (hF.ev rfl) rfl) ?_; clear hF; intro a hF
      refine wpList_nil ?_
      cases hc106 : (ltB p105 (x0.length : Int))
      · replace hM104 := bif_f hc106 hM104
        refine cond_f hF rfl hc106 ?_
        refine wp_exit ?_
        repeat with_reducible (first | refine then_exit ?_ | refine in_hit ?_ | refine in_miss rfl ?_)
        obtain rfl := Option.some.inj hM104
        exact ⟨(), rfl, hF.keep _ ⟨rfl, trivial⟩, S.sel [] rfl rfl⟩
      · replace hM104 := bif_t hc106 hM104
        refine cond_t hF rfl hc106 ?_
        refine wp_skip ?_
        refine wp_seq ?_
        refine wp_block ?_
        refine wp_seq ?_
        obtain ⟨hk107, hM104⟩ := chk_ex hM104
        replace hk107 := ixB_t hk107
        obtain ⟨hk108, hM104⟩ := chk_ex hM104
        replace hk108 := ixB_t hk108
        obtain ⟨p109, h109, hM104⟩ := bind_ex hM104
        refine region_gw (D := [17, 18, 19, 20, 21, 22, 23, 24, 25, 26]) (Lr := []) (deps := (fun | 0 => [17] | 1 => [18] | 2 => [19] | 3 => [20] | 4 => [21] | 5 => [22] | 6 => [23] | 7 => [24] | 8 => [25] | 9 => [26] | _ => [])) (rd := (fun _ => [])) (zr := (fun _ => []))
          (φ := fun i vs => match i, vs with | 0, [v17] => v17 = .slice A0 x0.length c0 | 1, [v18] => v18 = .int .i64 p105 | 2, [v19] => v19 = .pointer (some ⟨adB A0, adO A0 + p105.toNat * 2, none⟩) | 3, [v20] => v20 = .agg #[.int .i64 ((x0.getD p105.toNat ((0, 0) : Int × Int)).1), .int .i64 ((x0.getD p105.toNat ((0, 0) : Int × Int)).2)] | 4, [v21] => v21 = .slice A1 x1.length c1 | 5, [v22] => v22 = .int .i64 p105 | 6, [v23] => v23 = .pointer (some ⟨adB A1, adO A1 + p105.toNat * 2, none⟩) | 7, [v24] => v24 = .agg #[.int .i64 ((x1.getD p105.toNat ((0, 0) : Int × Int)).1), .int .i64 ((x1.getD p105.toNat ((0, 0) : Int × Int)).2)] | 8, [v25] => v25 = .bool p109 | 9, [v26] => v26 = .bool (!p109) | _, _ => True)
          (C := fun _ _ => [])
          (κ := (fun _ => none)) (Z := (fun _ => [])) mixed hF (by kernel_rfl) S ?_ ?_
        · refine ⟨?_, ?_, ?_, ?_, ?_, ?_, ?_, ?_, ?_, ?_, trivial⟩
          · intro a u X hB hu hp hr hz hl S
            replace S : St w u ([] ++ X) := S
            exact .inl ⟨rfl, .slice A0 x0.length c0, u, (run_move rfl (hF.evB hB rfl rfl)), rfl, S⟩
          · intro a u X hB hu hp hr hz hl S
            replace S : St w u ([] ++ X) := S
            exact .inl ⟨rfl, .int .i64 p105, u, (run_move rfl (hF.evB hB rfl rfl)), rfl, S⟩
          · intro a u X hB hu hp hr hz hl S
            replace S : St w u ([] ++ X) := S
            have e17 : sl a 17 = .slice A0 x0.length c0 := hp 0 rfl
            have e18 : sl a 18 = .int .i64 p105 := hp 1 rfl
            exact .inl ⟨rfl, .pointer (some ⟨adB A0, adO A0 + p105.toNat * 2, none⟩), u, (run_indexAddr (b := adB A0) (off := adO A0) rfl Try.underlying43 sz32 ((ev_sl e17).trans (congrArg (fun A => Value.slice A x0.length c0) ((S.rc0 h0.rc).rd.ad (ix_pos hk107)))) (ev_sl e18) hk107.1 hk107.2 (k' := adO A0 + p105.toNat * 2) rfl), rfl, S⟩
          · intro a u X hB hu hp hr hz hl S
            replace S : St w u ([] ++ X) := S
            have e19 : sl a 19 = .pointer (some ⟨adB A0, adO A0 + p105.toNat * 2, none⟩) := hp 2 rfl
            exact .inl ⟨rfl, .agg #[.int .i64 ((x0.getD p105.toNat ((0, 0) : Int × Int)).1), .int .i64 ((x0.getD p105.toNat ((0, 0) : Int × Int)).2)], u, (run_loadN (cs := #[.int .i64 ((x0.getD p105.toNat ((0, 0) : Int × Int)).1), .int .i64 ((x0.getD p105.toNat ((0, 0) : Int × Int)).2)]) rfl ag32 (ev_sl e19) rfl (rd_elN (l := x0) (S.rc0 h0.rc).rd rfl ePollDeed_len ((0, 0) : Int × Int) (ix_ltn hk107 rfl) rfl)), rfl, S⟩
          · intro a u X hB hu hp hr hz hl S
            replace S : St w u ([] ++ X) := S
            exact .inl ⟨rfl, .slice A1 x1.length c1, u, (run_move rfl (hF.evB hB rfl rfl)), rfl, S⟩
          · intro a u X hB hu hp hr hz hl S
            replace S : St w u ([] ++ X) := S
            exact .inl ⟨rfl, .int .i64 p105, u, (run_move rfl (hF.evB hB rfl rfl)), rfl, S⟩
          · intro a u X hB hu hp hr hz hl S
            replace S : St w u ([] ++ X) := S
            have e21 : sl a 21 = .slice A1 x1.length c1 := hp 4 rfl
            have e22 : sl a 22 = .int .i64 p105 := hp 5 rfl
            exact .inl ⟨rfl, .pointer (some ⟨adB A1, adO A1 + p105.toNat * 2, none⟩), u, (run_indexAddr (b := adB A1) (off := adO A1) rfl Try.underlying43 sz32 ((ev_sl e21).trans (congrArg (fun A => Value.slice A x1.length c1) ((S.rc0 h1.rc).rd.ad (ix_pos hk108)))) (ev_sl e22) hk108.1 hk108.2 (k' := adO A1 + p105.toNat * 2) rfl), rfl, S⟩
          · intro a u X hB hu hp hr hz hl S
            replace S : St w u ([] ++ X) := S
            have e23 : sl a 23 = .pointer (some ⟨adB A1, adO A1 + p105.toNat * 2, none⟩) := hp 6 rfl
            exact .inl ⟨rfl, .agg #[.int .i64 ((x1.getD p105.toNat ((0, 0) : Int × Int)).1), .int .i64 ((x1.getD p105.toNat ((0, 0) : Int × Int)).2)], u, (run_loadN (cs := #[.int .i64 ((x1.getD p105.toNat ((0, 0) : Int × Int)).1), .int .i64 ((x1.getD p105.toNat ((0, 0) : Int × Int)).2)]) rfl ag32 (ev_sl e23) rfl (rd_elN (l := x1) (S.rc0 h1.rc).rd rfl ePollDeed_len ((0, 0) : Int × Int) (ix_ltn hk108 rfl) rfl)), rfl, S⟩
          · intro a u X hB hu hp hr hz hl S
            replace S : St w u ([] ++ X) := S
            have e20 : sl a 20 = .agg #[.int .i64 ((x0.getD p105.toNat ((0, 0) : Int × Int)).1), .int .i64 ((x0.getD p105.toNat ((0, 0) : Int × Int)).2)] := hp 3 rfl
            have e24 : sl a 24 = .agg #[.int .i64 ((x1.getD p105.toNat ((0, 0) : Int × Int)).1), .int .i64 ((x1.getD p105.toNat ((0, 0) : Int × Int)).2)] := hp 7 rfl
            refine .inr (.inr (.inl ⟨rfl, _, _, (run_call (vs := [.agg #[.int .i64 ((x0.getD p105.toNat ((0, 0) : Int × Int)).1), .int .i64 ((x0.getD p105.toNat ((0, 0) : Int × Int)).2)], .agg #[.int .i64 ((x1.getD p105.toNat ((0, 0) : Int × Int)).1), .int .i64 ((x1.getD p105.toNat ((0, 0) : Int × Int)).2)]]) rfl rfl co34 ⟨(ev_sl e20), (ev_sl e24), trivial⟩), ?_⟩))
            refine Calls.mono (c_laws_eqPollDeed (x0 := (x0.getD p105.toNat ((0, 0) : Int × Int)).1) (x1 := (x0.getD p105.toNat ((0, 0) : Int × Int)).2) (x2 := (x1.getD p105.toNat ((0, 0) : Int × Int)).1) (x3 := (x1.getD p105.toNat ((0, 0) : Int × Int)).2)  h109) ?_
            rintro e w1 ⟨rfl, T⟩
            exact ⟨_, rfl, rfl, S.call0 T⟩
          · intro a u X hB hu hp hr hz hl S
            replace S : St w u ([] ++ X) := S
            have e25 : sl a 25 = .bool p109 := hp 8 rfl
            exact .inl ⟨rfl, .bool (!p109), u, (run_not rfl (ev_sl e25)), rfl, S⟩
        · intro a u hB hp S
          obtain ⟨q0, q1, q2, q3, q4, q5, q6, q7, q8, q9, _⟩ := hp
          have e17 : sl a 17 = .slice A0 x0.length c0 := q0
          have e18 : sl a 18 = .int .i64 p105 := q1
          have e19 : sl a 19 = .pointer (some ⟨adB A0, adO A0 + p105.toNat * 2, none⟩) := q2
          have e20 : sl a 20 = .agg #[.int .i64 ((x0.getD p105.toNat ((0, 0) : Int × Int)).1), .int .i64 ((x0.getD p105.toNat ((0, 0) : Int × Int)).2)] := q3
          have e21 : sl a 21 = .slice A1 x1.length c1 := q4
          have e22 : sl a 22 = .int .i64 p105 := q5
          have e23 : sl a 23 = .pointer (some ⟨adB A1, adO A1 + p105.toNat * 2, none⟩) := q6
          have e24 : sl a 24 = .agg #[.int .i64 ((x1.getD p105.toNat ((0, 0) : Int × Int)).1), .int .i64 ((x1.getD p105.toNat ((0, 0) : Int × Int)).2)] := q7
          have e25 : sl a 25 = .bool p109 := q8
          have e26 : sl a 26 = .bool (!p109) := q9
          replace S : St w u [] := S
          clear q0 q1 q2 q3 q4 q5 q6 q7 q8 q9
          have hF := hF.region hB [(17, .slice A0 x0.length c0), (18, .int .i64 p105), (19, .pointer (some ⟨adB A0, adO A0 + p105.toNat * 2, none⟩)), (20, .agg #[.int .i64 ((x0.getD p105.toNat ((0, 0) : Int × Int)).1), .int .i64 ((x0.getD p105.toNat ((0, 0) : Int × Int)).2)]), (21, .slice A1 x1.length c1), (22, .int .i64 p105), (23, .pointer (some ⟨adB A1, adO A1 + p105.toNat * 2, none⟩)), (24, .agg #[.int .i64 ((x1.getD p105.toNat ((0, 0) : Int × Int)).1), .int .i64 ((x1.getD p105.toNat ((0, 0) : Int × Int)).2)]), (25, .bool p109), (26, .bool (!p109))] (allSl_mem ⟨e17, e18, e19, e20, e21, e22, e23, e24, e25, e26, trivial⟩) rfl
          clear hB e17 e18 e19 e20 e21 e22 e23 e24 e25 e26
          cases hc110 : (p109)
          · replace hM104 := bif_f hc110 hM104
            refine cond_t hF rfl (not_t hc110) ?_
            refine wp_seq ?_
            refine wp_region_lit ?_
            refine op_val (v := .bool false) rfl rfl hF rfl (run_assign rfl rfl) ?_; clear hF; intro a hF
            refine wpList_nil ?_
            refine wp_ret ?_
            repeat with_reducible (first | refine then_ret ?_ | refine in_ret ?_ | refine in_nrm ?_)
            refine ret1_gw (.inl rfl) hF rfl (res_tmp (hF.ev rfl)) ?_
            obtain rfl := Option.some.inj hM104
            obtain rfl := Option.some.inj hM
            exact ⟨rfl, S.sel [] rfl rfl⟩
          · replace hM104 := bif_t hc110 hM104
            refine cond_f hF rfl (not_f hc110) ?_
            refine wp_skip ?_
            refine wp_region_lit ?_
            refine op_val (v := .int .i64 p105) rfl rfl hF rfl (run_move rfl (hF.ev rfl)) ?_; clear hF; intro a hF
            refine op_val (v := .int .i64 (w64 (p105 + 1))) rfl rfl hF rfl (run_add (z := w64 (p105 + 1)) (hF.ev rfl) rfl rfl rfl) ?_; clear hF; intro a hF
            refine op_val (v := .int .i64 (w64 (p105 + 1))) rfl rfl hF rfl (run_assign rfl (hF.ev rfl)) ?_; clear hF; intro a hF
            refine wpList_nil ?_
            exact ⟨f1, Nat.lt_succ_self _, w64 (p105 + 1), hM104, hF.keep _ ⟨rfl, rfl, rfl, rfl, trivial⟩, S.sel [] rfl rfl⟩
    · rintro a u ⟨p102, rfl, hF, S⟩
      replace hM := elim_l hM
      refine wp_seq ?_
      refine wp_region_lit ?_
      refine op_val (v := .bool true) rfl rfl hF rfl (run_assign rfl rfl) ?_; clear hF; intro a hF
      refine wpList_nil ?_
      refine wp_ret ?_
      repeat with_reducible (first | refine then_ret ?_ | refine in_ret ?_ | refine in_nrm ?_)
      refine ret1_gw (.inl rfl) hF rfl (res_tmp (hF.ev rfl)) ?_
      obtain rfl := Option.some.inj hM
      exact ⟨rfl, S.sel [] rfl rfl⟩
  · replace hM := bif_t hc101 hM
    refine cond_t hF rfl hc101 ?_
    refine wp_seq ?_
    refine wp_region_lit ?_
    refine op_val (v := .bool false) rfl rfl hF rfl (run_assign rfl rfl) ?_; clear hF; intro a hF
    refine wpList_nil ?_
    refine wp_ret ?_
    repeat with_reducible (first | refine then_ret ?_ | refine in_ret ?_ | refine in_nrm ?_)
    refine ret1_gw (.inl rfl) hF rfl (res_tmp (hF.ev rfl)) ?_
    obtain rfl := Option.some.inj hM
    exact ⟨rfl, S.sel [] rfl rfl⟩

set_option maxHeartbeats 4000000 in
theorem c_laws_markPollDeedS {x0 : List (Int × Int)} {x1 : Int} {A0 : Option Addr} {n0 c0 : Nat} {w : World} {r : Int × List (Int × Int)} {w0 : World} {X : List Asn} (h0 : n0 = x0.length) (S : St w0 w (Asn.row 32 2 (.slice A0 n0 c0) n0 (x0.flatMap ePollDeed) :: X)) (hM : m_laws_markPollDeedS x0 x1 = some r) :
    Calls Try.prog 21 #[.slice A0 n0 c0, .int .i64 x1] w (fun e w' => e = .returned (.int .i64 r.1) ∧ n0 = r.2.length ∧ St w0 w' (Asn.row 32 2 (.slice A0 n0 c0) n0 (r.2.flatMap ePollDeed) :: X)) := by
  obtain rfl := h0
  unfold m_laws_markPollDeedS at hM
  refine calls_gw Try.func21 Try.ntmps21 rfl [(0, .slice A0 x0.length c0), (1, .int .i64 x1)] ⟨rfl, rfl, trivial⟩ rfl ?_
  intro a hF
  refine wp_seq ?_
  refine wp_region_lit ?_
  refine op_val (v := .int .i64 0) rfl rfl hF rfl (run_assign rfl rfl) ?_; clear hF; intro a hF
  refine wpList_nil ?_
  refine wp_seq ?_
  refine wp_seq ?_
  refine wp_region_lit ?_
  refine op_val (v := .int .i64 0) rfl rfl hF rfl (run_assign rfl rfl) ?_; clear hF; intro a hF
  refine wpList_nil ?_
  obtain ⟨o102, hM104, hM⟩ := bind_ex hM
  refine wp_cut (fun a u => ∃ (p101 : Int × List (Int × Int)), p101 = o102 ∧ x0.length = p101.2.length ∧ Fr a 27 [(1, .int .i64 p101.1), (4, .int .i64 0)] ∧ St w0 u (Asn.row 32 2 (.slice A0 x0.length c0) x0.length (p101.2.flatMap ePollDeed) :: X)) ?_ ?_
  · have _ := trivial
    refine wp_block ?_
    refine loop_gw (fun m a u => ∃ (p105 : List (Int × Int) × Int × Int), m_laws_markPollDeedS_l1 x0 m p105 = some _ ∧ x0.length = p105.1.length ∧ Fr a 27 [(0, .slice A0 x0.length c0), (1, .int .i64 p105.2.1), (4, .int .i64 0), (5, .int .i64 p105.2.2)] ∧ St w0 u (Asn.row 32 2 (.slice A0 x0.length c0) x0.length (p105.1.flatMap ePollDeed) :: X)) FUEL ⟨(x0, x1, 0), hM104, rfl, hF.keep _ ⟨rfl, rfl, rfl, rfl, trivial⟩, S.selT (M := [.row 32 2 (.slice A0 x0.length c0) x0.length (x0.flatMap ePollDeed)]) 1 [0] rfl rfl rfl⟩ ?_
    clear hF S hM104; rintro m a u ⟨p105, hM104, hn106, hF, S⟩
    rcases m with _ | f1
    · exact none_some hM104
    rw [m_laws_markPollDeedS_l1.eq_2] at hM104
    refine wp_seq ?_
    refine wp_seq ?_
    refine wp_region_lit ?_
    refine op_val (v := .int .i64 p105.2.2) rfl rfl hF rfl (run_move rfl (hF.ev rfl)) ?_; clear hF; intro a hF
    refine op_val (v := .slice A0 x0.length c0) rfl rfl hF rfl (run_move rfl (hF.ev rfl)) ?_; clear hF; intro a hF
    refine op_val (v := .int .i64 (x0.length : Int)) rfl rfl hF rfl (run_lenL rfl rfl Try.underlying43 (hF.ev rfl)) ?_; clear hF; intro a hF
    refine op_val (v := .bool (ltB p105.2.2 (x0.length : Int))) rfl rfl hF rfl (run_lss (hF.ev rfl) (hF.ev rfl) rfl) ?_; clear hF; intro a hF
    refine wpList_nil ?_
    cases hc107 : (ltB p105.2.2 (x0.length : Int))
    · replace hM104 := bif_f hc107 hM104
      refine cond_f hF rfl hc107 ?_
      refine wp_exit ?_
      repeat with_reducible (first | refine then_exit ?_ | refine in_hit ?_ | refine in_miss rfl ?_)
      obtain rfl := Option.some.inj hM104
      exact ⟨(p105.2.1, p105.1), rfl, hn106, hF.keep _ ⟨rfl, rfl, trivial⟩, S.selT (M := [.row 32 2 (.slice A0 x0.length c0) x0.length (p105.1.flatMap ePollDeed)]) 1 [0] rfl rfl rfl⟩
    · replace hM104 := bif_t hc107 hM104
      refine cond_t hF rfl hc107 ?_
      refine wp_skip ?_
      refine wp_seq ?_
      refine wp_block ?_
      refine wp_seq ?_
      refine wp_region_lit ?_
      refine op_val (v := .slice A0 x0.length c0) rfl rfl hF rfl (run_move rfl (hF.ev rfl)) ?_; clear hF; intro a hF
      refine op_val (v := .int .i64 p105.2.2) rfl rfl hF rfl (run_move rfl (hF.ev rfl)) ?_; clear hF; intro a hF
      refine op_val (v := .int .i64 p105.2.1) rfl rfl hF rfl (run_move rfl (hF.ev rfl)) ?_; clear hF; intro a hF
      obtain ⟨hk108, hM104⟩ := chk_ex hM104
      replace hk108 := ixB_t hk108
      refine op_val (v := .pointer (some ⟨adB A0, adO A0 + p105.2.2.toNat * 2, none⟩)) rfl rfl hF rfl (run_indexAddr (b := adB A0) (off := adO A0) rfl Try.underlying43 sz32 ((hF.ev rfl).trans (congrArg (fun A => Value.slice A x0.length c0) ((S.rc 0 rfl).rd.ad (ix_pos hk108)))) (hF.ev rfl) hk108.1 hk108.2 (k' := adO A0 + p105.2.2.toNat * 2) rfl) ?_; clear hF; intro a hF
      refine op_val (v := .pointer (some ⟨adB A0, adO A0 + p105.2.2.toNat * 2, none⟩)) rfl rfl hF rfl (run_fieldAddr rfl fl32_0 (hF.ev rfl) rfl) ?_; clear hF; intro a hF
      obtain ⟨w', hrun, S'⟩ := run_storeElN (P := Try.prog) (ρ := a.eval) (y0 := (p105.2.1, (p105.1.getD p105.2.2.toNat ((0, 0) : Int × Int)).2)) (off := 0) S 3 (.tmp 16) (.tmp 14) (i := 0) sz3 (hF.ev rfl) (hF.ev rfl) rfl rfl rfl rfl hn106 ePollDeed_len ((0, 0) : Int × Int) (ix_ltn hk108 hn106) rfl rfl
      refine op_do rfl rfl (hrun _ rfl) ?_; clear hrun S; have S := S'; clear S'; generalize w' = u at S ⊢
      refine wpList_nil ?_
      refine wp_seq ?_
      refine wp_region_lit ?_
      refine op_val (v := .int .i64 p105.2.1) rfl rfl hF rfl (run_move rfl (hF.ev rfl)) ?_; clear hF; intro a hF
      refine op_val (v := .int .i64 (w64 (p105.2.1 + 1))) rfl rfl hF rfl (run_add (z := w64 (p105.2.1 + 1)) (hF.ev rfl) rfl rfl rfl) ?_; clear hF; intro a hF
      refine op_val (v := .int .i64 (w64 (p105.2.1 + 1))) rfl rfl hF rfl (run_assign rfl (hF.ev rfl)) ?_; clear hF; intro a hF
      refine wpList_nil ?_
      refine wp_seq ?_
      refine wp_region_lit ?_
      refine op_val (v := .slice A0 x0.length c0) rfl rfl hF rfl (run_move rfl (hF.ev rfl)) ?_; clear hF; intro a hF
      refine op_val (v := .int .i64 p105.2.2) rfl rfl hF rfl (run_move rfl (hF.ev rfl)) ?_; clear hF; intro a hF
      refine op_val (v := .int .i64 (w64 (p105.2.1 + 1))) rfl rfl hF rfl (run_move rfl (hF.ev rfl)) ?_; clear hF; intro a hF
      obtain ⟨hk109, hM104⟩ := chk_ex hM104
      replace hk109 := ixB_t hk109
      refine op_val (v := .pointer (some ⟨adB A0, adO A0 + p105.2.2.toNat * 2, none⟩)) rfl rfl hF rfl (run_indexAddr (b := adB A0) (off := adO A0) rfl Try.underlying43 sz32 ((hF.ev rfl).trans (congrArg (fun A => Value.slice A x0.length c0) ((S.rc 0 rfl).rd.ad (ix_pos hk109)))) (hF.ev rfl) hk109.1 hk109.2 (k' := adO A0 + p105.2.2.toNat * 2) rfl) ?_; clear hF; intro a hF
      refine op_val (v := .pointer (some ⟨adB A0, adO A0 + p105.2.2.toNat * 2 + 1, none⟩)) rfl rfl hF rfl (run_fieldAddr rfl fl32_1 (hF.ev rfl) rfl) ?_; clear hF; intro a hF
      obtain ⟨w', hrun, S'⟩ := run_storeEl2 (P := Try.prog) (ρ := a.eval) (l := p105.1) (y0 := (p105.2.1, (p105.1.getD p105.2.2.toNat ((0, 0) : Int × Int)).2)) (y1 := (p105.2.1, w64 (p105.2.1 + 1))) (off := 1) S 3 (.tmp 23) (.tmp 21) (i := 0) sz3 (hF.ev rfl) (hF.ev rfl) rfl rfl rfl rfl hn106 ePollDeed_len (ix_ltn hk109 hn106) rfl rfl
      refine op_do rfl rfl (hrun _ rfl) ?_; clear hrun S; have S := S'; clear S'; generalize w' = u at S ⊢
      refine wpList_nil ?_
      refine wp_region_lit ?_
      refine op_val (v := .int .i64 (w64 (p105.2.1 + 1))) rfl rfl hF rfl (run_move rfl (hF.ev rfl)) ?_; clear hF; intro a hF
      refine op_val (v := .int .i64 (w64 ((w64 (p105.2.1 + 1)) + 1))) rfl rfl hF rfl (run_add (z := w64 ((w64 (p105.2.1 + 1)) + 1)) (hF.ev rfl) rfl rfl rfl) ?_; clear hF; intro a hF
      refine op_val (v := .int .i64 (w64 ((w64 (p105.2.1 + 1)) + 1))) rfl rfl hF rfl (run_assign rfl (hF.ev rfl)) ?_; clear hF; intro a hF
      refine wpList_nil ?_
      refine wp_region_lit ?_
      refine op_val (v := .int .i64 p105.2.2) rfl rfl hF rfl (run_move rfl (hF.ev rfl)) ?_; clear hF; intro a hF
      refine op_val (v := .int .i64 (w64 (p105.2.2 + 1))) rfl rfl hF rfl (run_add (z := w64 (p105.2.2 + 1)) (hF.ev rfl) rfl rfl rfl) ?_; clear hF; intro a hF
      refine op_val (v := .int .i64 (w64 (p105.2.2 + 1))) rfl rfl hF rfl (run_assign rfl (hF.ev rfl)) ?_; clear hF; intro a hF
      refine wpList_nil ?_
      exact ⟨f1, Nat.lt_succ_self _, (p105.1.set p105.2.2.toNat (p105.2.1, w64 (p105.2.1 + 1)), w64 ((w64 (p105.2.1 + 1)) + 1), w64 (p105.2.2 + 1)), hM104, (len_set hn106), hF.keep _ ⟨rfl, rfl, rfl, rfl, trivial⟩, S.selT (M := [.row 32 2 (.slice A0 x0.length c0) x0.length ((p105.1.set p105.2.2.toNat (p105.2.1, w64 (p105.2.1 + 1))).flatMap ePollDeed)]) 1 [0] rfl rfl rfl⟩
  · rintro a u ⟨p101, rfl, hn103, hF, S⟩
    refine wp_seq ?_
    refine wp_region_lit ?_
    refine op_val (v := .int .i64 p101.1) rfl rfl hF rfl (run_move rfl (hF.ev rfl)) ?_; clear hF; intro a hF
    refine op_val (v := .int .i64 p101.1) rfl rfl hF rfl (run_assign rfl (hF.ev rfl)) ?_; clear hF; intro a hF
    refine wpList_nil ?_
    refine wp_ret ?_
    repeat with_reducible (first | refine then_ret ?_ | refine in_ret ?_ | refine in_nrm ?_)
    refine ret1_gw (.inl rfl) hF rfl (res_tmp (hF.ev rfl)) ?_
    obtain rfl := Option.some.inj hM
    exact ⟨rfl, hn103, S.selT (M := [.row 32 2 (.slice A0 x0.length c0) x0.length (p101.2.flatMap ePollDeed)]) 1 [0] rfl rfl rfl⟩

end Go.Proofs.Ytceghkdjpkegaaa
