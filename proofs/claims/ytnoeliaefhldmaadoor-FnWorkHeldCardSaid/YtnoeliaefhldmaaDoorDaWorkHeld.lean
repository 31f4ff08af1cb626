/- Calls return what the models say. -/
import Derived.Test.YtnoeliaefhldmaaDoorDa3
namespace Go.Proofs.YtnoeliaefhldmaaDoor
open Go.ChangeShapes Go.WideShapes Go.ChangeAt Go.RowKit
set_option linter.unusedVariables false
set_option linter.unusedSimpArgs false

set_option maxHeartbeats 4000000 in
theorem c_spec_DrawWorkHeld {x0 : List Int} {A0 : Option Addr} {n0 c0 : Nat} {w : World} {r : List Bool × List Bool × List (Int × Int) × Int} (h0 : Rt w 1 eU A0 n0 c0 x0) (hM : m_spec_DrawWorkHeld x0 = some r) :
    Calls Tryd.prog 7 #[.slice A0 n0 c0] w (fun e w' => ∃ (B0 : Option Addr) (N0 D0 : Nat) (B1 : Option Addr) (N1 D1 : Nat) (B2 : Option Addr) (N2 D2 : Nat), e = .returned (.tuple #[.agg #[.slice B0 N0 D0, .slice B1 N1 D1, .slice B2 N2 D2], .int .i64 r.2.2.2]) ∧ N0 = r.1.length ∧ N1 = r.2.1.length ∧ N2 = r.2.2.1.length ∧ St w w' [.row 4 1 (.slice B0 N0 D0) N0 (r.1.flatMap eB), .row 4 1 (.slice B1 N1 D1) N1 (r.2.1.flatMap eB), .row 48 2 (.slice B2 N2 D2) N2 (r.2.2.1.flatMap ePermit)]) := by
  obtain rfl := h0.len
  unfold m_spec_DrawWorkHeld at hM
  refine calls_gw Tryd.func7 Tryd.ntmps7 rfl [(0, .slice A0 x0.length c0)] ⟨rfl, trivial⟩ rfl ?_
  intro a hF
  have S := St.nil w
  refine wp_seq ?_
  refine wp_region_lit ?_
  refine op_new (cs := #[.slice none 0 0, .slice none 0 0, .slice none 0 0]) rfl rfl hF rfl S (run_allocZ rfl zr26) ?_; clear hF S; intro a g101 u hF S
  refine op_val (v := .int .i64 0) rfl rfl hF rfl (run_assign rfl rfl) ?_; clear hF; intro a hF
  refine wpList_nil ?_
  refine wp_seq ?_
  refine wp_region_lit ?_
  refine op_val (v := .slice A0 x0.length c0) rfl rfl hF rfl (run_move rfl (hF.ev rfl)) ?_; clear hF; intro a hF
  refine op_call rfl rfl hF rfl (run_call (vs := [.slice A0 x0.length c0]) rfl rfl co27 ⟨(hF.ev rfl), trivial⟩) (c_spec_l20Open ⟨(S.rc0 h0.rc), rfl⟩) ?_
  rintro e u ⟨g102, rfl, T⟩
  refine ⟨_, rfl, ?_⟩
  clear hF; intro a hF
  replace S := S.call1 T; clear T
  refine op_val (v := .pointer (some ⟨g102, 0, none⟩)) rfl rfl hF rfl (run_assign rfl (hF.ev rfl)) ?_; clear hF; intro a hF
  refine wpList_nil ?_
  refine wp_seq ?_
  refine wp_region_lit ?_
  refine op_val (v := .pointer (some ⟨g102, 0, none⟩)) rfl rfl hF rfl (run_move rfl (hF.ev rfl)) ?_; clear hF; intro a hF
  obtain ⟨p103, h103, hM⟩ := bind_ex hM
  refine op_call rfl rfl hF rfl (run_call (vs := [.pointer (some ⟨g102, 0, none⟩), .int .i64 9]) rfl rfl co28 ⟨(hF.ev rfl), rfl, trivial⟩) (c_spec_l20Work (x0 := x0.take 2000) (x1 := 0) (x2 := 9) ⟨(op_rc h0.rc rfl), rfl⟩ (show St w _ [.box g102 78 #[.slice (opA c0 x0.length A0) ((x0.take 2000).length) c0, .int .i64 0], .box g101 26 #[.slice none 0 0, .slice none 0 0, .slice none 0 0]] from S.sel [0, 1] rfl rfl) h103) ?_
  rintro e u ⟨B104, n105, d106, B107, n108, d109, B110, n111, d112, rfl, rfl, rfl, rfl, T⟩
  refine ⟨_, rfl, ?_⟩
  clear hF; intro a hF
  clear S; have S := T; clear T
  refine op_new (cs := #[.slice none 0 0, .slice none 0 0, .slice none 0 0]) rfl rfl hF rfl S (run_allocZ rfl zr26) ?_; clear hF S; intro a g113 u hF S
  refine op_do rfl rfl (run_store (cs' := #[.slice B104 p103.1.length d106, .slice B107 p103.2.1.length d109, .slice B110 p103.2.2.1.length d112]) rfl sz26 (hF.ev rfl) (hF.ev rfl) rfl rfl rfl (S.free 0 rfl) rfl rfl) ?_; replace S := S.put 0 rfl (#[.slice B104 p103.1.length d106, .slice B107 p103.2.1.length d109, .slice B110 p103.2.2.1.length d112])
  generalize World.setRow _ _ _ = u at S ⊢
  refine wpList_nil ?_
  refine wp_seq ?_
  obtain ⟨p114, h114, hM⟩ := bind_ex hM
  refine region_gw (D := [10, 11, 12, 13, 14, 15, 16, 3]) (Lr := [.box g113 26 #[.slice B104 p103.1.length d106, .slice B107 p103.2.1.length d109, .slice B110 p103.2.2.1.length d112], .row 4 1 (.slice B104 p103.1.length d106) p103.1.length (p103.1.flatMap eB), .row 4 1 (.slice B107 p103.2.1.length d109) p103.2.1.length (p103.2.1.flatMap eB), .row 48 2 (.slice B110 p103.2.2.1.length d112) p103.2.2.1.length (p103.2.2.1.flatMap ePermit)]) (deps := (fun | 0 => [10] | 1 => [11] | 2 => [12] | 3 => [13] | 4 => [14] | 5 => [15] | 6 => [16] | 7 => [2] | 8 => [3] | _ => [])) (rd := (fun _ => [])) (zr := (fun _ => []))
    (φ := fun i vs => match i, vs with | 0, [v10] => v10 = .agg #[.slice B104 p103.1.length d106, .slice B107 p103.2.1.length d109, .slice B110 p103.2.2.1.length d112] | 1, [v11] => v11 = .pointer (some ⟨g102, 0, none⟩) | 2, [v12] => v12 = .pointer (some ⟨g113, 0, none⟩) | 3, [v13] => v13 = .slice B104 p103.1.length d106 | 4, [v14] => v14 = .int .i64 (p103.1.length : Int) | 5, [v15] => v15 = .int .i64 (w64 ((p103.1.length : Int) + 1)) | 6, [v16] => v16 = .int .i64 p114.1 | 8, [v3] => v3 = .int .i64 p114.1 | _, _ => True)
    (C := fun i vs => match i, vs with | 6, [v16] => [.box g102 78 #[.slice (opA c0 x0.length A0) ((x0.take 2000).length) c0, .int .i64 p114.2]] | 7, [v2] => [.box g101 26 #[.slice B104 p103.1.length d106, .slice B107 p103.2.1.length d109, .slice B110 p103.2.2.1.length d112]] | _, _ => [])
    (κ := (fun _ => none)) (Z := (fun | 6 => [.box g102 78 #[.slice (opA c0 x0.length A0) ((x0.take 2000).length) c0, .int .i64 p103.2.2.2]] | 7 => [.box g101 26 #[.slice none 0 0, .slice none 0 0, .slice none 0 0]] | _ => [])) mixed hF (by kernel_rfl) (show St w _ [.box g102 78 #[.slice (opA c0 x0.length A0) ((x0.take 2000).length) c0, .int .i64 p103.2.2.2], .box g101 26 #[.slice none 0 0, .slice none 0 0, .slice none 0 0], .box g113 26 #[.slice B104 p103.1.length d106, .slice B107 p103.2.1.length d109, .slice B110 p103.2.2.1.length d112], .row 4 1 (.slice B104 p103.1.length d106) p103.1.length (p103.1.flatMap eB), .row 4 1 (.slice B107 p103.2.1.length d109) p103.2.1.length (p103.2.1.flatMap eB), .row 48 2 (.slice B110 p103.2.2.1.length d112) p103.2.2.1.length (p103.2.2.1.flatMap ePermit)] from S.sel [4, 5, 0, 1, 2, 3] rfl rfl) ?_ ?_
  · refine ⟨?_, ?_, ?_, ?_, ?_, ?_, ?_, ?_, ?_, trivial⟩
    · intro a u X hB hu hp hr hz hl S
      replace S : St w u ([] ++ X) := S
      exact .inl ⟨rfl, .agg #[.slice B104 p103.1.length d106, .slice B107 p103.2.1.length d109, .slice B110 p103.2.2.1.length d112], u, (run_loadN rfl ag26 (hF.evB hB rfl rfl) rfl ((gr_box S hl 0 rfl).cells 0 #[.slice B104 p103.1.length d106, .slice B107 p103.2.1.length d109, .slice B110 p103.2.2.1.length d112] rfl)), rfl, S⟩
    · intro a u X hB hu hp hr hz hl S
      replace S : St w u ([] ++ X) := S
      exact .inl ⟨rfl, .pointer (some ⟨g102, 0, none⟩), u, (run_move rfl (hF.evB hB rfl rfl)), rfl, S⟩
    · intro a u X hB hu hp hr hz hl S
      replace S : St w u ([] ++ X) := S
      exact .inl ⟨rfl, .pointer (some ⟨g113, 0, none⟩), u, (run_fieldAddr rfl fl26_0 (hF.evB hB rfl rfl) rfl), rfl, S⟩
    · intro a u X hB hu hp hr hz hl S
      replace S : St w u ([] ++ X) := S
      have e12 : sl a 12 = .pointer (some ⟨g113, 0, none⟩) := hp 2 rfl
      exact .inl ⟨rfl, .slice B104 p103.1.length d106, u, (run_load1 rfl one23 (ev_sl e12) ((gr_box S hl 0 rfl).cell rfl)), rfl, S⟩
    · intro a u X hB hu hp hr hz hl S
      replace S : St w u ([] ++ X) := S
      have e13 : sl a 13 = .slice B104 p103.1.length d106 := hp 3 rfl
      exact .inl ⟨rfl, .int .i64 (p103.1.length : Int), u, (run_lenL rfl rfl Tryd.underlying23 (ev_sl e13)), rfl, S⟩
    · intro a u X hB hu hp hr hz hl S
      replace S : St w u ([] ++ X) := S
      have e14 : sl a 14 = .int .i64 (p103.1.length : Int) := hp 4 rfl
      exact .inl ⟨rfl, .int .i64 (w64 ((p103.1.length : Int) + 1)), u, (run_add (z := w64 ((p103.1.length : Int) + 1)) (ev_sl e14) (ev_const _ _) rfl rfl), rfl, S⟩
    · intro a u X hB hu hp hr hz hl S
      replace S : St w u ([.box g102 78 #[.slice (opA c0 x0.length A0) ((x0.take 2000).length) c0, .int .i64 p103.2.2.2]] ++ X) := S
      have e11 : sl a 11 = .pointer (some ⟨g102, 0, none⟩) := hp 1 rfl
      have e15 : sl a 15 = .int .i64 (w64 ((p103.1.length : Int) + 1)) := hp 5 rfl
      refine .inr (.inr (.inl ⟨rfl, _, _, (run_call (vs := [.pointer (some ⟨g102, 0, none⟩), .int .i64 (w64 ((p103.1.length : Int) + 1))]) rfl rfl co29 ⟨(ev_sl e11), (ev_sl e15), trivial⟩), ?_⟩))
      refine Calls.mono (c_spec_l20Rd_pick (x0 := x0.take 2000) (x1 := p103.2.2.2) (x2 := w64 ((p103.1.length : Int) + 1)) ⟨(op_rc h0.rc rfl), rfl⟩ S h114) ?_
      rintro e w1 ⟨rfl, T⟩
      exact ⟨_, rfl, rfl, T⟩
    · intro a u X hB hu hp hr hz hl S
      replace S : St w u ([.box g101 26 #[.slice none 0 0, .slice none 0 0, .slice none 0 0]] ++ X) := S
      have e10 : sl a 10 = .agg #[.slice B104 p103.1.length d106, .slice B107 p103.2.1.length d109, .slice B110 p103.2.2.1.length d112] := hp 0 rfl
      exact .inr (.inl ⟨rfl, _, run_store (cs' := #[.slice B104 p103.1.length d106, .slice B107 p103.2.1.length d109, .slice B110 p103.2.2.1.length d112]) rfl sz26 (hF.evB hB rfl rfl) (ev_sl e10) rfl rfl rfl (S.free 0 rfl) rfl rfl, trivial, S.put 0 rfl (#[.slice B104 p103.1.length d106, .slice B107 p103.2.1.length d109, .slice B110 p103.2.2.1.length d112])⟩)
    · intro a u X hB hu hp hr hz hl S
      replace S : St w u ([] ++ X) := S
      have e16 : sl a 16 = .int .i64 p114.1 := hp 6 rfl
      exact .inl ⟨rfl, .int .i64 p114.1, u, (run_assign rfl (ev_sl e16)), rfl, S⟩
  · intro a u hB hp S
    obtain ⟨q0, q1, q2, q3, q4, q5, q6, q7, q8, _⟩ := hp
    have e10 : sl a 10 = .agg #[.slice B104 p103.1.length d106, .slice B107 p103.2.1.length d109, .slice B110 p103.2.2.1.length d112] := q0
    have e11 : sl a 11 = .pointer (some ⟨g102, 0, none⟩) := q1
    have e12 : sl a 12 = .pointer (some ⟨g113, 0, none⟩) := q2
    have e13 : sl a 13 = .slice B104 p103.1.length d106 := q3
    have e14 : sl a 14 = .int .i64 (p103.1.length : Int) := q4
    have e15 : sl a 15 = .int .i64 (w64 ((p103.1.length : Int) + 1)) := q5
    have e16 : sl a 16 = .int .i64 p114.1 := q6
    have e3 : sl a 3 = .int .i64 p114.1 := q8
    replace S : St w u [.box g102 78 #[.slice (opA c0 x0.length A0) ((x0.take 2000).length) c0, .int .i64 p114.2], .box g101 26 #[.slice B104 p103.1.length d106, .slice B107 p103.2.1.length d109, .slice B110 p103.2.2.1.length d112], .box g113 26 #[.slice B104 p103.1.length d106, .slice B107 p103.2.1.length d109, .slice B110 p103.2.2.1.length d112], .row 4 1 (.slice B104 p103.1.length d106) p103.1.length (p103.1.flatMap eB), .row 4 1 (.slice B107 p103.2.1.length d109) p103.2.1.length (p103.2.1.flatMap eB), .row 48 2 (.slice B110 p103.2.2.1.length d112) p103.2.2.1.length (p103.2.2.1.flatMap ePermit)] := S
    clear q0 q1 q2 q3 q4 q5 q6 q7 q8
    have hF := hF.region hB [(10, .agg #[.slice B104 p103.1.length d106, .slice B107 p103.2.1.length d109, .slice B110 p103.2.2.1.length d112]), (11, .pointer (some ⟨g102, 0, none⟩)), (12, .pointer (some ⟨g113, 0, none⟩)), (13, .slice B104 p103.1.length d106), (14, .int .i64 (p103.1.length : Int)), (15, .int .i64 (w64 ((p103.1.length : Int) + 1))), (16, .int .i64 p114.1), (3, .int .i64 p114.1)] (allSl_mem ⟨e10, e11, e12, e13, e14, e15, e16, e3, trivial⟩) rfl
    clear hB e10 e11 e12 e13 e14 e15 e16 e3
    refine wp_ret ?_
    repeat with_reducible (first | refine then_ret ?_ | refine in_ret ?_ | refine in_nrm ?_)
    refine ret2_gw (.inl rfl) hF rfl (res_cell (hF.ev rfl) (res_loadN ag26 rfl (S.cells 1 rfl 0 #[.slice B104 p103.1.length d106, .slice B107 p103.2.1.length d109, .slice B110 p103.2.2.1.length d112] rfl))) (res_tmp (hF.ev rfl)) ?_
    obtain rfl := Option.some.inj hM
    exact ⟨B104, p103.1.length, d106, B107, p103.2.1.length, d109, B110, p103.2.2.1.length, d112, rfl, rfl, rfl, rfl, S.sel [3, 4, 5] rfl rfl⟩

set_option maxHeartbeats 4000000 in
theorem c_laws_sameInts {x0 : List Int} {x1 : List Int} {A0 : Option Addr} {n0 c0 : Nat} {A1 : Option Addr} {n1 c1 : Nat} {w : World} {r : Bool} (h0 : Rt w 1 eI A0 n0 c0 x0) (h1 : Rt w 1 eI A1 n1 c1 x1) (hM : m_laws_sameInts x0 x1 = some r) :
    Calls Tryd.prog 9 #[.slice A0 n0 c0, .slice A1 n1 c1] w (fun e w' => e = .returned (.bool r) ∧ St w w' []) := by
  obtain rfl := h0.len
  obtain rfl := h1.len
  unfold m_laws_sameInts at hM
  refine calls_gw Tryd.func9 Tryd.ntmps9 rfl [(0, .slice A0 x0.length c0), (1, .slice A1 x1.length c1)] ⟨rfl, rfl, trivial⟩ rfl ?_
  intro a hF
  have S := St.nil w
  refine wp_seq ?_
  refine wp_region_lit ?_
  refine op_val (v := .bool false) rfl rfl hF rfl (run_assign rfl rfl) ?_; clear hF; intro a hF
  refine wpList_nil ?_
  refine wp_seq ?_
  refine wp_seq ?_
  refine wp_region_lit ?_
  refine op_val (v := .slice A0 x0.length c0) rfl rfl hF rfl (run_move rfl (hF.ev rfl)) ?_; clear hF; intro a hF
  refine op_val (v := .int .i64 (x0.length : Int)) rfl rfl hF rfl (run_lenL rfl rfl Tryd.underlying29 (hF.ev rfl)) ?_; clear hF; intro a hF
  refine op_val (v := .slice A1 x1.length c1) rfl rfl hF rfl (run_move rfl (hF.ev rfl)) ?_; clear hF; intro a hF
  refine op_val (v := .int .i64 (x1.length : Int)) rfl rfl hF rfl (run_lenL rfl rfl Tryd.underlying29 (hF.ev rfl)) ?_; clear hF; intro a hF
  refine op_val (v := .bool ((x0.length : Int) != (x1.length : Int))) rfl rfl hF rfl (run_neq (hF.ev rfl) (hF.ev rfl) rfl) ?_; clear hF; intro a hF
  refine wpList_nil ?_
  cases hc101 : ((x0.length : Int) != (x1.length : Int))
  · replace hM := bif_f hc101 hM
    refine cond_f hF rfl hc101 ?_
    refine wp_skip ?_
    refine wp_seq ?_
    refine wp_seq ?_
    refine wp_region_lit ?_
    refine op_val (v := .int .i64 0) rfl rfl hF rfl (run_assign rfl rfl) ?_; clear hF; intro a hF
    refine wpList_nil ?_
    obtain ⟨o103, hM104, hM⟩ := bind_ex hM
    refine wp_cut (fun a u => ∃ (p102 : Unit), (Sum.inl p102) = o103 ∧ Fr a 26 [(4, .bool false)] ∧ St w u []) ?_ ?_
    · have _ := trivial
      refine wp_block ?_
      refine loop_gw (fun m a u => ∃ (p105 : Int), m_laws_sameInts_l1 x0 x1 m p105 = some _ ∧ Fr a 26 [(0, .slice A0 x0.length c0), (1, .slice A1 x1.length c1), (4, .bool false), (5, .int .i64 p105)] ∧ St w u []) FUEL ⟨0, hM104, hF.keep _ ⟨rfl, rfl, rfl, rfl, trivial⟩, S.sel [] rfl rfl⟩ ?_
      clear hF S hM104; rintro m a u ⟨p105, hM104, hF, S⟩
      rcases m with _ | f1
      · exact none_some hM104
      rw [m_laws_sameInts_l1.eq_2] at hM104
      refine wp_seq ?_
      refine wp_seq ?_
      refine wp_region_lit ?_
      refine op_val (v := .int .i64 p105) rfl rfl hF rfl (run_move rfl (hF.ev rfl)) ?_; clear hF; intro a hF
      refine op_val (v := .slice A0 x0.length c0) rfl rfl hF rfl (run_move rfl (hF.ev rfl)) ?_; clear hF; intro a hF
      refine op_val (v := .int .i64 (x0.length : Int)) rfl rfl hF rfl (run_lenL rfl rfl Tryd.underlying29 (hF.ev rfl)) ?_; clear hF; intro a hF
      refine op_val (v := .bool (ltB p105 (x0.length : Int))) rfl rfl hF rfl (run_lss (hF.ev rfl) (hF.ev rfl) rfl) ?_; clear hF; intro a hF
      refine wpList_nil ?_
      cases hc106 : (ltB p105 (x0.length : Int))
      · replace hM104 := bif_f hc106 hM104
        refine cond_f hF rfl hc106 ?_
        refine wp_exit ?_
        repeat with_reducible (first | refine then_exit ?_ | refine in_hit ?_ | refine in_miss rfl ?_)
        obtain rfl := Option.some.inj hM104
        exact ⟨(), rfl, hF.keep _ ⟨rfl, trivial⟩, S.sel [] rfl rfl⟩
      · replace hM104 := bif_t hc106 hM104
        refine cond_t hF rfl hc106 ?_
        refine wp_skip ?_
        refine wp_seq ?_
        refine wp_block ?_
        refine wp_seq ?_
        obtain ⟨hk107, hM104⟩ := chk_ex hM104
        replace hk107 := ixB_t hk107
        obtain ⟨hk108, hM104⟩ := chk_ex hM104
        replace hk108 := ixB_t hk108
        refine region_gw (D := [17, 18, 19, 20, 21, 22, 23, 24, 25]) (Lr := []) (deps := (fun | 0 => [17] | 1 => [18] | 2 => [19] | 3 => [20] | 4 => [21] | 5 => [22] | 6 => [23] | 7 => [24] | 8 => [25] | _ => [])) (rd := (fun _ => [])) (zr := (fun _ => []))
          (φ := fun i vs => match i, vs with | 0, [v17] => v17 = .slice A0 x0.length c0 | 1, [v18] => v18 = .int .i64 p105 | 2, [v19] => v19 = .pointer (some ⟨adB A0, adO A0 + p105.toNat * 1, none⟩) | 3, [v20] => v20 = .int .i64 (x0.getD p105.toNat (0 : Int)) | 4, [v21] => v21 = .slice A1 x1.length c1 | 5, [v22] => v22 = .int .i64 p105 | 6, [v23] => v23 = .pointer (some ⟨adB A1, adO A1 + p105.toNat * 1, none⟩) | 7, [v24] => v24 = .int .i64 (x1.getD p105.toNat (0 : Int)) | 8, [v25] => v25 = .bool ((x0.getD p105.toNat (0 : Int)) != (x1.getD p105.toNat (0 : Int))) | _, _ => True)
          (C := fun _ _ => [])
          (κ := (fun _ => none)) (Z := (fun _ => [])) mixed hF (by kernel_rfl) S ?_ ?_
        · refine ⟨?_, ?_, ?_, ?_, ?_, ?_, ?_, ?_, ?_, trivial⟩
          · intro a u X hB hu hp hr hz hl S
            replace S : St w u ([] ++ X) := S
            exact .inl ⟨rfl, .slice A0 x0.length c0, u, (run_move rfl (hF.evB hB rfl rfl)), rfl, S⟩
          · intro a u X hB hu hp hr hz hl S
            replace S : St w u ([] ++ X) := S
            exact .inl ⟨rfl, .int .i64 p105, u, (run_move rfl (hF.evB hB rfl rfl)), rfl, S⟩
          · intro a u X hB hu hp hr hz hl S
            replace S : St w u ([] ++ X) := S
            have e17 : sl a 17 = .slice A0 x0.length c0 := hp 0 rfl
            have e18 : sl a 18 = .int .i64 p105 := hp 1 rfl
            exact .inl ⟨rfl, .pointer (some ⟨adB A0, adO A0 + p105.toNat * 1, none⟩), u, (run_indexAddr (b := adB A0) (off := adO A0) rfl Tryd.underlying29 sz3 ((ev_sl e17).trans (congrArg (fun A => Value.slice A x0.length c0) ((S.rc0 h0.rc).rd.ad (ix_pos hk107)))) (ev_sl e18) hk107.1 hk107.2 (k' := adO A0 + p105.toNat * 1) rfl), rfl, S⟩
          · intro a u X hB hu hp hr hz hl S
            replace S : St w u ([] ++ X) := S
            have e19 : sl a 19 = .pointer (some ⟨adB A0, adO A0 + p105.toNat * 1, none⟩) := hp 2 rfl
            exact .inl ⟨rfl, .int .i64 (x0.getD p105.toNat (0 : Int)), u, (run_load1 rfl one3 (ev_sl e19) (rd_el0 (l := x0) (S.rc0 h0.rc).rd rfl eI_len (0 : Int) (ix_ltn hk107 rfl) rfl)), rfl, S⟩
          · intro a u X hB hu hp hr hz hl S
            replace S : St w u ([] ++ X) := S
            exact .inl ⟨rfl, .slice A1 x1.length c1, u, (run_move rfl (hF.evB hB rfl rfl)), rfl, S⟩
          · intro a u X hB hu hp hr hz hl S
            replace S : St w u ([] ++ X) := S
            exact .inl ⟨rfl, .int .i64 p105, u, (run_move rfl (hF.evB hB rfl rfl)), rfl, S⟩
          · intro a u X hB hu hp hr hz hl S
            replace S : St w u ([] ++ X) := S
            have e21 : sl a 21 = .slice A1 x1.length c1 := hp 4 rfl
            have e22 : sl a 22 = .int .i64 p105 := hp 5 rfl
            exact .inl ⟨rfl, .pointer (some ⟨adB A1, adO A1 + p105.toNat * 1, none⟩), u, (run_indexAddr (b := adB A1) (off := adO A1) rfl Tryd.underlying29 sz3 ((ev_sl e21).trans (congrArg (fun A => Value.slice A x1.length c1) ((S.rc0 h1.rc).rd.ad (ix_pos hk108)))) (ev_sl e22) hk108.1 hk108.2 (k' := adO A1 + p105.toNat * 1) rfl), rfl, S⟩
          · intro a u X hB hu hp hr hz hl S
            replace S : St w u ([] ++ X) := S
            have e23 : sl a 23 = .pointer (some ⟨adB A1, adO A1 + p105.toNat * 1, none⟩) := hp 6 rfl
            exact .inl ⟨rfl, .int .i64 (x1.getD p105.toNat (0 : Int)), u, (run_load1 rfl one3 (ev_sl e23) (rd_el0 (l := x1) (S.rc0 h1.rc).rd rfl eI_len (0 : Int) (ix_ltn hk108 rfl) rfl)), rfl, S⟩
          · intro a u X hB hu hp hr hz hl S
            replace S : St w u ([] ++ X) := S
            have e20 : sl a 20 = .int .i64 (x0.getD p105.toNat (0 : Int)) := hp 3 rfl
            have e24 : sl a 24 = .int .i64 (x1.getD p105.toNat (0 : Int)) := hp 7 rfl
            exact .inl ⟨rfl, .bool ((x0.getD p105.toNat (0 : Int)) != (x1.getD p105.toNat (0 : Int))), u, (run_neq (ev_sl e20) (ev_sl e24) rfl), rfl, S⟩
        · intro a u hB hp S
          obtain ⟨q0, q1, q2, q3, q4, q5, q6, q7, q8, _⟩ := hp
          have e17 : sl a 17 = .slice A0 x0.length c0 := q0
          have e18 : sl a 18 = .int .i64 p105 := q1
          have e19 : sl a 19 = .pointer (some ⟨adB A0, adO A0 + p105.toNat * 1, none⟩) := q2
          have e20 : sl a 20 = .int .i64 (x0.getD p105.toNat (0 : Int)) := q3
          have e21 : sl a 21 = .slice A1 x1.length c1 := q4
          have e22 : sl a 22 = .int .i64 p105 := q5
          have e23 : sl a 23 = .pointer (some ⟨adB A1, adO A1 + p105.toNat * 1, none⟩) := q6
          have e24 : sl a 24 = .int .i64 (x1.getD p105.toNat (0 : Int)) := q7
          have e25 : sl a 25 = .bool ((x0.getD p105.toNat (0 : Int)) != (x1.getD p105.toNat (0 : Int))) := q8
          replace S : St w u [] := S
          clear q0 q1 q2 q3 q4 q5 q6 q7 q8
          have hF := hF.region hB [(17, .slice A0 x0.length c0), (18, .int .i64 p105), (19, .pointer (some ⟨adB A0, adO A0 + p105.toNat * 1, none⟩)), (20, .int .i64 (x0.getD p105.toNat (0 : Int))), (21, .slice A1 x1.length c1), (22, .int .i64 p105), (23, .pointer (some ⟨adB A1, adO A1 + p105.toNat * 1, none⟩)), (24, .int .i64 (x1.getD p105.toNat (0 : Int))), (25, .bool ((x0.getD p105.toNat (0 : Int)) != (x1.getD p105.toNat (0 : Int))))] (allSl_mem ⟨e17, e18, e19, e20, e21, e22, e23, e24, e25, trivial⟩) rfl
          clear hB e17 e18 e19 e20 e21 e22 e23 e24 e25
          cases hc109 : ((x0.getD p105.toNat (0 : Int)) != (x1.getD p105.toNat (0 : Int)))
          · replace hM104 := bif_f hc109 hM104
            refine cond_f hF rfl hc109 ?_
            refine wp_skip ?_
            refine wp_region_lit ?_
            refine op_val (v := .int .i64 p105) rfl rfl hF rfl (run_move rfl (hF.ev rfl)) ?_; clear hF; intro a hF
            refine op_val (v := .int .i64 (w64 (p105 + 1))) rfl rfl hF rfl (run_add (z := w64 (p105 + 1)) (hF.ev rfl) rfl rfl rfl) ?_; clear hF; intro a hF
            refine op_val (v := .int .i64 (w64 (p105 + 1))) rfl rfl hF rfl (run_assign rfl (hF.ev rfl)) ?_; clear hF; intro a hF
            refine wpList_nil ?_
            exact ⟨f1, Nat.lt_succ_self _, w64 (p105 + 1), hM104, hF.keep _ ⟨rfl, rfl, rfl, rfl, trivial⟩, S.sel [] rfl rfl⟩
          · replace hM104 := bif_t hc109 hM104
            refine cond_t hF rfl hc109 ?_
            refine wp_seq ?_
            refine wp_region_lit ?_
            refine op_val (v := .bool false) rfl rfl hF rfl (run_assign rfl rfl) ?_; clear hF; intro a hF
            refine wpList_nil ?_
            refine wp_ret ?_
            repeat with_reducible (first | refine then_ret ?_ | refine in_ret ?_ | refine in_nrm ?_)
            refine ret1_gw (.inl rfl) hF rfl (res_tmp (hF.ev rfl)) ?_
            obtain rfl := Option.some.inj hM104
            obtain rfl := Option.some.inj hM
            exact ⟨rfl, S.sel [] rfl rfl⟩
    · rintro a u ⟨p102, rfl, hF, S⟩
      replace hM := elim_l hM
      refine wp_seq ?_
      refine wp_region_lit ?_
      refine op_val (v := .bool true) rfl rfl hF rfl (run_assign rfl rfl) ?_; clear hF; intro a hF
      refine wpList_nil ?_
      refine wp_ret ?_
      repeat with_reducible (first | refine then_ret ?_ | refine in_ret ?_ | refine in_nrm ?_)
      refine ret1_gw (.inl rfl) hF rfl (res_tmp (hF.ev rfl)) ?_
      obtain rfl := Option.some.inj hM
      exact ⟨rfl, S.sel [] rfl rfl⟩
  · replace hM := bif_t hc101 hM
    refine cond_t hF rfl hc101 ?_
    refine wp_seq ?_
    refine wp_region_lit ?_
    refine op_val (v := .bool false) rfl rfl hF rfl (run_assign rfl rfl) ?_; clear hF; intro a hF
    refine wpList_nil ?_
    refine wp_ret ?_
    repeat with_reducible (first | refine then_ret ?_ | refine in_ret ?_ | refine in_nrm ?_)
    refine ret1_gw (.inl rfl) hF rfl (res_tmp (hF.ev rfl)) ?_
    obtain rfl := Option.some.inj hM
    exact ⟨rfl, S.sel [] rfl rfl⟩

set_option maxHeartbeats 4000000 in
theorem c_laws_hasInt {x0 : List Int} {x1 : Int} {A0 : Option Addr} {n0 c0 : Nat} {w : World} {r : Bool} (h0 : Rt w 1 eI A0 n0 c0 x0) (hM : m_laws_hasInt x0 x1 = some r) :
    Calls Tryd.prog 12 #[.slice A0 n0 c0, .int .i64 x1] w (fun e w' => e = .returned (.bool r) ∧ St w w' []) := by
  obtain rfl := h0.len
  unfold m_laws_hasInt at hM
  refine calls_gw Tryd.func12 Tryd.ntmps12 rfl [(0, .slice A0 x0.length c0), (1, .int .i64 x1)] ⟨rfl, rfl, trivial⟩ rfl ?_
  intro a hF
  have S := St.nil w
  refine wp_seq ?_
  refine wp_region_lit ?_
  refine op_val (v := .bool false) rfl rfl hF rfl (run_assign rfl rfl) ?_; clear hF; intro a hF
  refine wpList_nil ?_
  refine wp_seq ?_
  refine wp_seq ?_
  refine wp_region_lit ?_
  refine op_val (v := .int .i64 0) rfl rfl hF rfl (run_assign rfl rfl) ?_; clear hF; intro a hF
  refine wpList_nil ?_
  obtain ⟨o102, hM103, hM⟩ := bind_ex hM
  refine wp_cut (fun a u => ∃ (p101 : Unit), (Sum.inl p101) = o102 ∧ Fr a 18 [(4, .bool false)] ∧ St w u []) ?_ ?_
  · have _ := trivial
    refine wp_block ?_
    refine loop_gw (fun m a u => ∃ (p104 : Int), m_laws_hasInt_l1 x0 x1 m p104 = some _ ∧ Fr a 18 [(0, .slice A0 x0.length c0), (1, .int .i64 x1), (4, .bool false), (5, .int .i64 p104)] ∧ St w u []) FUEL ⟨0, hM103, hF.keep _ ⟨rfl, rfl, rfl, rfl, trivial⟩, S.sel [] rfl rfl⟩ ?_
    clear hF S hM103; rintro m a u ⟨p104, hM103, hF, S⟩
    rcases m with _ | f1
    · exact none_some hM103
    rw [m_laws_hasInt_l1.eq_2] at hM103
    refine wp_seq ?_
    refine wp_seq ?_
    refine wp_region_lit ?_
    refine op_val (v := .int .i64 p104) rfl rfl hF rfl (run_move rfl (hF.ev rfl)) ?_; clear hF; intro a hF
    refine op_val (v := .slice A0 x0.length c0) rfl rfl hF rfl (run_move rfl (hF.ev rfl)) ?_; clear hF; intro a hF
    refine op_val (v := .int .i64 (x0.length : Int)) rfl rfl hF rfl (run_lenL rfl rfl Tryd.underlying29 (hF.ev rfl)) ?_; clear hF; intro a hF
    refine op_val (v := .bool (ltB p104 (x0.length : Int))) rfl rfl hF rfl (run_lss (hF.ev rfl) (hF.ev rfl) rfl) ?_; clear hF; intro a hF
    refine wpList_nil ?_
    cases hc105 : (ltB p104 (x0.length : Int))
    · replace hM103 := bif_f hc105 hM103
      refine cond_f hF rfl hc105 ?_
      refine wp_exit ?_
      repeat with_reducible (first | refine then_exit ?_ | refine in_hit ?_ | refine in_miss rfl ?_)
      obtain rfl := Option.some.inj hM103
      exact ⟨(), rfl, hF.keep _ ⟨rfl, trivial⟩, S.sel [] rfl rfl⟩
    · replace hM103 := bif_t hc105 hM103
      refine cond_t hF rfl hc105 ?_
      refine wp_skip ?_
      refine wp_seq ?_
      refine wp_block ?_
      refine wp_seq ?_
      refine wp_region_lit ?_
      refine op_val (v := .slice A0 x0.length c0) rfl rfl hF rfl (run_move rfl (hF.ev rfl)) ?_; clear hF; intro a hF
      refine op_val (v := .int .i64 p104) rfl rfl hF rfl (run_move rfl (hF.ev rfl)) ?_; clear hF; intro a hF
      obtain ⟨hk106, hM103⟩ := chk_ex hM103
      replace hk106 := ixB_t hk106
      refine op_val (v := .pointer (some ⟨adB A0, adO A0 + p104.toNat * 1, none⟩)) rfl rfl hF rfl (run_indexAddr (b := adB A0) (off := adO A0) rfl Tryd.underlying29 sz3 ((hF.ev rfl).trans (congrArg (fun A => Value.slice A x0.length c0) ((S.rc0 h0.rc).rd.ad (ix_pos hk106)))) (hF.ev rfl) hk106.1 hk106.2 (k' := adO A0 + p104.toNat * 1) rfl) ?_; clear hF; intro a hF
      refine op_val (v := .int .i64 (x0.getD p104.toNat (0 : Int))) rfl rfl hF rfl (run_load1 rfl one3 (hF.ev rfl) (rd_el0 (l := x0) (S.rc0 h0.rc).rd rfl eI_len (0 : Int) (ix_ltn hk106 rfl) rfl)) ?_; clear hF; intro a hF
      refine op_val (v := .int .i64 x1) rfl rfl hF rfl (run_move rfl (hF.ev rfl)) ?_; clear hF; intro a hF
      refine op_val (v := .bool ((x0.getD p104.toNat (0 : Int)) == x1)) rfl rfl hF rfl (run_eql (hF.ev rfl) (hF.ev rfl) rfl) ?_; clear hF; intro a hF
      refine wpList_nil ?_
      cases hc107 : ((x0.getD p104.toNat (0 : Int)) == x1)
      · replace hM103 := bif_f hc107 hM103
        refine cond_f hF rfl hc107 ?_
        refine wp_skip ?_
        refine wp_region_lit ?_
        refine op_val (v := .int .i64 p104) rfl rfl hF rfl (run_move rfl (hF.ev rfl)) ?_; clear hF; intro a hF
        refine op_val (v := .int .i64 (w64 (p104 + 1))) rfl rfl hF rfl (run_add (z := w64 (p104 + 1)) (hF.ev rfl) rfl rfl rfl) ?_; clear hF; intro a hF
        refine op_val (v := .int .i64 (w64 (p104 + 1))) rfl rfl hF rfl (run_assign rfl (hF.ev rfl)) ?_; clear hF; intro a hF
        refine wpList_nil ?_
        exact ⟨f1, Nat.lt_succ_self _, w64 (p104 + 1), hM103, hF.keep _ ⟨rfl, rfl, rfl, rfl, trivial⟩, S.sel [] rfl rfl⟩
      · replace hM103 := bif_t hc107 hM103
        refine cond_t hF rfl hc107 ?_
        refine wp_seq ?_
        refine wp_region_lit ?_
        refine op_val (v := .bool true) rfl rfl hF rfl (run_assign rfl rfl) ?_; clear hF; intro a hF
        refine wpList_nil ?_
        refine wp_ret ?_
        repeat with_reducible (first | refine then_ret ?_ | refine in_ret ?_ | refine in_nrm ?_)
        refine ret1_gw (.inl rfl) hF rfl (res_tmp (hF.ev rfl)) ?_
        obtain rfl := Option.some.inj hM103
        obtain rfl := Option.some.inj hM
        exact ⟨rfl, S.sel [] rfl rfl⟩
  · rintro a u ⟨p101, rfl, hF, S⟩
    replace hM := elim_l hM
    refine wp_seq ?_
    refine wp_region_lit ?_
    refine op_val (v := .bool false) rfl rfl hF rfl (run_assign rfl rfl) ?_; clear hF; intro a hF
    refine wpList_nil ?_
    refine wp_ret ?_
    repeat with_reducible (first | refine then_ret ?_ | refine in_ret ?_ | refine in_nrm ?_)
    refine ret1_gw (.inl rfl) hF rfl (res_tmp (hF.ev rfl)) ?_
    obtain rfl := Option.some.inj hM
    exact ⟨rfl, S.sel [] rfl rfl⟩

set_option maxHeartbeats 4000000 in
theorem c_laws_FnWorkHeld {x0 : List Int} {A0 : Option Addr} {n0 c0 : Nat} {w : World} {r : Bool} (h0 : Rt w 1 eU A0 n0 c0 x0) (hM : m_laws_FnWorkHeld x0 = some r) :
    Calls Tryd.prog 3 #[.slice A0 n0 c0] w (fun e w' => e = .returned (.bool r) ∧ St w w' []) := by
  obtain rfl := h0.len
  unfold m_laws_FnWorkHeld at hM
  refine calls_gw Tryd.func3 Tryd.ntmps3 rfl [(0, .slice A0 x0.length c0)] ⟨rfl, trivial⟩ rfl ?_
  intro a hF
  have S := St.nil w
  refine wp_seq ?_
  refine wp_region_lit ?_
  refine op_val (v := .bool false) rfl rfl hF rfl (run_assign rfl rfl) ?_; clear hF; intro a hF
  refine wpList_nil ?_
  refine wp_seq ?_
  refine wp_seq ?_
  refine wp_region_lit ?_
  refine op_val (v := .slice A0 x0.length c0) rfl rfl hF rfl (run_move rfl (hF.ev rfl)) ?_; clear hF; intro a hF
  refine op_val (v := .int .i64 (x0.length : Int)) rfl rfl hF rfl (run_lenL rfl rfl Tryd.underlying22 (hF.ev rfl)) ?_; clear hF; intro a hF
  refine op_val (v := .bool (ltB 1048576 (x0.length : Int))) rfl rfl hF rfl (run_gtr (hF.ev rfl) rfl rfl) ?_; clear hF; intro a hF
  refine wpList_nil ?_
  cases hc101 : (ltB 1048576 (x0.length : Int))
  · replace hM := bif_f hc101 hM
    refine cond_f hF rfl hc101 ?_
    refine wp_skip ?_
    refine wp_seq ?_
    refine wp_region_lit ?_
    refine op_val (v := .slice A0 x0.length c0) rfl rfl hF rfl (run_move rfl (hF.ev rfl)) ?_; clear hF; intro a hF
    obtain ⟨p102, h102, hM⟩ := bind_ex hM
    refine op_call rfl rfl hF rfl (run_call (vs := [.slice A0 x0.length c0]) rfl rfl co7 ⟨(hF.ev rfl), trivial⟩) (c_spec_DrawWorkHeld (x0 := x0) ⟨(S.rc0 h0.rc), rfl⟩ h102) ?_
    rintro e u ⟨B103, n104, d105, B106, n107, d108, B109, n110, d111, rfl, rfl, rfl, rfl, T⟩
    refine ⟨_, rfl, ?_⟩
    clear hF; intro a hF
    replace S := S.call3 T; clear T
    refine op_val (v := .tuple #[.agg #[.slice B103 p102.1.length d105, .slice B106 p102.2.1.length d108, .slice B109 p102.2.2.1.length d111], .int .i64 p102.2.2.2]) rfl rfl hF rfl (run_move rfl (hF.ev rfl)) ?_; clear hF; intro a hF
    refine op_val (v := .agg #[.slice B103 p102.1.length d105, .slice B106 p102.2.1.length d108, .slice B109 p102.2.2.1.length d111]) rfl rfl hF rfl (run_extract rfl (hF.ev rfl) rfl) ?_; clear hF; intro a hF
    refine op_val (v := .int .i64 p102.2.2.2) rfl rfl hF rfl (run_extract rfl (hF.ev rfl) rfl) ?_; clear hF; intro a hF
    refine op_new (cs := #[.slice none 0 0, .slice none 0 0, .slice none 0 0]) rfl rfl hF rfl S (run_allocZ rfl zr26) ?_; clear hF S; intro a g112 u hF S
    refine op_do rfl rfl (run_store (cs' := #[.slice B103 p102.1.length d105, .slice B106 p102.2.1.length d108, .slice B109 p102.2.2.1.length d111]) rfl sz26 (hF.ev rfl) (hF.ev rfl) rfl rfl rfl (S.free 0 rfl) rfl rfl) ?_; replace S := S.put 0 rfl (#[.slice B103 p102.1.length d105, .slice B106 p102.2.1.length d108, .slice B109 p102.2.2.1.length d111])
    generalize World.setRow _ _ _ = u at S ⊢
    refine op_val (v := .int .i64 p102.2.2.2) rfl rfl hF rfl (run_assign rfl (hF.ev rfl)) ?_; clear hF; intro a hF
    refine wpList_nil ?_
    refine wp_seq ?_
    refine wp_region_lit ?_
    refine op_val (v := .agg #[.slice B103 p102.1.length d105, .slice B106 p102.2.1.length d108, .slice B109 p102.2.2.1.length d111]) rfl rfl hF rfl (run_loadN rfl ag26 (hF.ev rfl) rfl ((S.free 0 rfl).cells 0 #[.slice B103 p102.1.length d105, .slice B106 p102.2.1.length d108, .slice B109 p102.2.2.1.length d111] rfl)) ?_; clear hF; intro a hF
    refine op_val (v := .int .i64 p102.2.2.2) rfl rfl hF rfl (run_move rfl (hF.ev rfl)) ?_; clear hF; intro a hF
    obtain ⟨p113, h113, hM⟩ := bind_ex hM
    refine op_call rfl rfl hF rfl (run_call (vs := [.agg #[.slice B103 p102.1.length d105, .slice B106 p102.2.1.length d108, .slice B109 p102.2.2.1.length d111], .int .i64 p102.2.2.2]) rfl rfl co8 ⟨(hF.ev rfl), (hF.ev rfl), trivial⟩) (c_impl_WorkHeld (x0 := p102.1) (x1 := p102.2.1) (x2 := p102.2.2.1) (x3 := p102.2.2.2) ⟨(S.rc 1 rfl), rfl⟩ ⟨(S.rc 2 rfl), rfl⟩ ⟨(S.rc 3 rfl), rfl⟩ h113) ?_
    rintro e u ⟨B114, n115, d116, rfl, rfl, T⟩
    refine ⟨_, rfl, ?_⟩
    clear hF; intro a hF
    replace S := S.call1 T; clear T
    refine op_val (v := .slice B114 p113.length d116) rfl rfl hF rfl (run_assign rfl (hF.ev rfl)) ?_; clear hF; intro a hF
    refine wpList_nil ?_
    refine wp_seq ?_
    refine wp_seq ?_
    refine wp_region_lit ?_
    refine op_val (v := .slice B114 p113.length d116) rfl rfl hF rfl (run_move rfl (hF.ev rfl)) ?_; clear hF; intro a hF
    refine op_val (v := .agg #[.slice B103 p102.1.length d105, .slice B106 p102.2.1.length d108, .slice B109 p102.2.2.1.length d111]) rfl rfl hF rfl (run_loadN rfl ag26 (hF.ev rfl) rfl ((S.free 1 rfl).cells 0 #[.slice B103 p102.1.length d105, .slice B106 p102.2.1.length d108, .slice B109 p102.2.2.1.length d111] rfl)) ?_; clear hF; intro a hF
    refine op_val (v := .int .i64 p102.2.2.2) rfl rfl hF rfl (run_move rfl (hF.ev rfl)) ?_; clear hF; intro a hF
    obtain ⟨p117, h117, hM⟩ := bind_ex hM
    refine op_call rfl rfl hF rfl (run_call (vs := [.agg #[.slice B103 p102.1.length d105, .slice B106 p102.2.1.length d108, .slice B109 p102.2.2.1.length d111], .int .i64 p102.2.2.2]) rfl rfl co10 ⟨(hF.ev rfl), (hF.ev rfl), trivial⟩) (c_spec_WorkHeld (x0 := p102.1) (x1 := p102.2.1) (x2 := p102.2.2.1) (x3 := p102.2.2.2) ⟨(S.rc 2 rfl), rfl⟩ ⟨(S.rc 3 rfl), rfl⟩ ⟨(S.rc 4 rfl), rfl⟩ h117) ?_
    rintro e u ⟨B118, n119, d120, rfl, rfl, T⟩
    refine ⟨_, rfl, ?_⟩
    clear hF; intro a hF
    replace S := S.call1 T; clear T
    obtain ⟨p121, h121, hM⟩ := bind_ex hM
    refine op_call rfl rfl hF rfl (run_call (vs := [.slice B114 p113.length d116, .slice B118 p117.length d120]) rfl rfl co9 ⟨(hF.ev rfl), (hF.ev rfl), trivial⟩) (c_laws_sameInts (x0 := p113) (x1 := p117) ⟨(S.rc 1 rfl), rfl⟩ ⟨(S.rc 0 rfl), rfl⟩ h121) ?_
    rintro e u ⟨rfl, T⟩
    refine ⟨_, rfl, ?_⟩
    clear hF; intro a hF
    replace S := S.call0 T; clear T
    refine op_val (v := .bool (!p121)) rfl rfl hF rfl (run_not rfl (hF.ev rfl)) ?_; clear hF; intro a hF
    refine wpList_nil ?_
    cases hc122 : (p121)
    · replace hM := bif_f hc122 hM
      refine cond_t hF rfl (not_t hc122) ?_
      refine wp_seq ?_
      refine wp_region_lit ?_
      refine op_val (v := .bool false) rfl rfl hF rfl (run_assign rfl rfl) ?_; clear hF; intro a hF
      refine wpList_nil ?_
      refine wp_ret ?_
      repeat with_reducible (first | refine then_ret ?_ | refine in_ret ?_ | refine in_nrm ?_)
      refine ret1_gw (.inl rfl) hF rfl (res_tmp (hF.ev rfl)) ?_
      obtain rfl := Option.some.inj hM
      exact ⟨rfl, S.sel [] rfl rfl⟩
    · replace hM := bif_t hc122 hM
      refine cond_f hF rfl (not_f hc122) ?_
      refine wp_skip ?_
      refine wp_seq ?_
      refine wp_seq ?_
      refine wp_region_lit ?_
      refine op_val (v := .int .i64 0) rfl rfl hF rfl (run_assign rfl rfl) ?_; clear hF; intro a hF
      refine wpList_nil ?_
      obtain ⟨o124, hM125, hM⟩ := bind_ex hM
      refine wp_cut (fun a u => ∃ (p123 : Unit), (Sum.inl p123) = o124 ∧ Fr a 90 [(2, .bool false)] ∧ St w u []) ?_ ?_
      · have _ := trivial
        refine wp_block ?_
        refine loop_gw (fun m a u => ∃ (p126 : Int), m_laws_FnWorkHeld_l1 p102 p113 m p126 = some _ ∧ Fr a 90 [(2, .bool false), (3, .pointer (some ⟨g112, 0, none⟩)), (4, .int .i64 p102.2.2.2), (5, .slice B114 p113.length d116), (6, .int .i64 p126)] ∧ St w u [.box g112 26 #[.slice B103 p102.1.length d105, .slice B106 p102.2.1.length d108, .slice B109 p102.2.2.1.length d111], .row 3 1 (.slice B114 p113.length d116) p113.length (p113.flatMap eI), .row 4 1 (.slice B103 p102.1.length d105) p102.1.length (p102.1.flatMap eB), .row 4 1 (.slice B106 p102.2.1.length d108) p102.2.1.length (p102.2.1.flatMap eB), .row 48 2 (.slice B109 p102.2.2.1.length d111) p102.2.2.1.length (p102.2.2.1.flatMap ePermit)]) FUEL ⟨0, hM125, hF.keep _ ⟨rfl, rfl, rfl, rfl, rfl, trivial⟩, S.sel [2, 1, 3, 4, 5] rfl rfl⟩ ?_
        clear hF S hM125; rintro m a u ⟨p126, hM125, hF, S⟩
        rcases m with _ | f1
        · exact none_some hM125
        rw [m_laws_FnWorkHeld_l1.eq_2] at hM125
        refine wp_seq ?_
        refine wp_seq ?_
        refine wp_region_lit ?_
        refine op_val (v := .int .i64 p126) rfl rfl hF rfl (run_move rfl (hF.ev rfl)) ?_; clear hF; intro a hF
        refine op_val (v := .slice B114 p113.length d116) rfl rfl hF rfl (run_move rfl (hF.ev rfl)) ?_; clear hF; intro a hF
        refine op_val (v := .int .i64 (p113.length : Int)) rfl rfl hF rfl (run_lenL rfl rfl Tryd.underlying29 (hF.ev rfl)) ?_; clear hF; intro a hF
        refine op_val (v := .bool (ltB p126 (p113.length : Int))) rfl rfl hF rfl (run_lss (hF.ev rfl) (hF.ev rfl) rfl) ?_; clear hF; intro a hF
        refine wpList_nil ?_
        cases hc127 : (ltB p126 (p113.length : Int))
        · replace hM125 := bif_f hc127 hM125
          refine cond_f hF rfl hc127 ?_
          refine wp_exit ?_
          repeat with_reducible (first | refine then_exit ?_ | refine in_hit ?_ | refine in_miss rfl ?_)
          obtain rfl := Option.some.inj hM125
          exact ⟨(), rfl, hF.keep _ ⟨rfl, trivial⟩, S.sel [] rfl rfl⟩
        · replace hM125 := bif_t hc127 hM125
          refine cond_t hF rfl hc127 ?_
          refine wp_skip ?_
          refine wp_seq ?_
          refine wp_block ?_
          refine wp_seq ?_
          refine wp_region_lit ?_
          refine op_val (v := .agg #[.slice B103 p102.1.length d105, .slice B106 p102.2.1.length d108, .slice B109 p102.2.2.1.length d111]) rfl rfl hF rfl (run_loadN rfl ag26 (hF.ev rfl) rfl ((S.free 0 rfl).cells 0 #[.slice B103 p102.1.length d105, .slice B106 p102.2.1.length d108, .slice B109 p102.2.2.1.length d111] rfl)) ?_; clear hF; intro a hF
          refine op_val (v := .int .i64 p102.2.2.2) rfl rfl hF rfl (run_move rfl (hF.ev rfl)) ?_; clear hF; intro a hF
          refine op_val (v := .agg #[.int .i64 0, .int .i64 p102.2.2.2, .int .i64 0]) rfl rfl hF rfl (run_build (vs := [(0, .int .i64 0), (1, .int .i64 p102.2.2.2)]) rfl ⟨⟨rfl, rfl⟩, ⟨rfl, (hF.ev rfl)⟩, trivial⟩ (bd35_0_1 rfl rfl)) ?_; clear hF; intro a hF
          obtain ⟨p128, h128, hM125⟩ := bind_ex hM125
          refine op_call rfl rfl hF rfl (run_call (vs := [.agg #[.slice B103 p102.1.length d105, .slice B106 p102.2.1.length d108, .slice B109 p102.2.2.1.length d111], .agg #[.int .i64 0, .int .i64 p102.2.2.2, .int .i64 0]]) rfl rfl co11 ⟨(hF.ev rfl), (hF.ev rfl), trivial⟩) (c_impl_WorkDo (x0 := p102.1) (x1 := p102.2.1) (x2 := p102.2.2.1) (x3 := 0) (x4 := p102.2.2.2) (x5 := 0) ⟨(S.rc 2 rfl), rfl⟩ ⟨(S.rc 3 rfl), rfl⟩ ⟨(S.rc 4 rfl), rfl⟩ h128) ?_
          rintro e u ⟨B129, n130, d131, B132, n133, d134, B135, n136, d137, rfl, rfl, rfl, rfl, T⟩
          refine ⟨_, rfl, ?_⟩
          clear hF; intro a hF
          replace S := S.call3 T; clear T
          refine op_val (v := .tuple #[.agg #[.slice B129 p128.1.length d131, .slice B132 p128.2.1.length d134, .slice B135 p128.2.2.1.length d137], .bool p128.2.2.2]) rfl rfl hF rfl (run_move rfl (hF.ev rfl)) ?_; clear hF; intro a hF
          refine op_val (v := .agg #[.slice B129 p128.1.length d131, .slice B132 p128.2.1.length d134, .slice B135 p128.2.2.1.length d137]) rfl rfl hF rfl (run_extract rfl (hF.ev rfl) rfl) ?_; clear hF; intro a hF
          refine op_val (v := .bool p128.2.2.2) rfl rfl hF rfl (run_extract rfl (hF.ev rfl) rfl) ?_; clear hF; intro a hF
          refine op_new (cs := #[.slice none 0 0, .slice none 0 0, .slice none 0 0]) rfl rfl hF rfl S (run_allocZ rfl zr26) ?_; clear hF S; intro a g138 u hF S
          refine op_do rfl rfl (run_store (cs' := #[.slice B129 p128.1.length d131, .slice B132 p128.2.1.length d134, .slice B135 p128.2.2.1.length d137]) rfl sz26 (hF.ev rfl) (hF.ev rfl) rfl rfl rfl (S.free 0 rfl) rfl rfl) ?_; replace S := S.put 0 rfl (#[.slice B129 p128.1.length d131, .slice B132 p128.2.1.length d134, .slice B135 p128.2.2.1.length d137])
          generalize World.setRow _ _ _ = u at S ⊢
          refine op_val (v := .bool p128.2.2.2) rfl rfl hF rfl (run_assign rfl (hF.ev rfl)) ?_; clear hF; intro a hF
          refine wpList_nil ?_
          refine wp_seq ?_
          refine wp_region_lit ?_
          refine op_val (v := .agg #[.slice B103 p102.1.length d105, .slice B106 p102.2.1.length d108, .slice B109 p102.2.2.1.length d111]) rfl rfl hF rfl (run_loadN rfl ag26 (hF.ev rfl) rfl ((S.free 4 rfl).cells 0 #[.slice B103 p102.1.length d105, .slice B106 p102.2.1.length d108, .slice B109 p102.2.2.1.length d111] rfl)) ?_; clear hF; intro a hF
          refine op_val (v := .int .i64 p102.2.2.2) rfl rfl hF rfl (run_move rfl (hF.ev rfl)) ?_; clear hF; intro a hF
          refine op_val (v := .agg #[.int .i64 3, .int .i64 p102.2.2.2, .int .i64 0]) rfl rfl hF rfl (run_build (vs := [(0, .int .i64 3), (1, .int .i64 p102.2.2.2)]) rfl ⟨⟨rfl, rfl⟩, ⟨rfl, (hF.ev rfl)⟩, trivial⟩ (bd35_0_1 rfl rfl)) ?_; clear hF; intro a hF
          obtain ⟨p139, h139, hM125⟩ := bind_ex hM125
          refine op_call rfl rfl hF rfl (run_call (vs := [.agg #[.slice B103 p102.1.length d105, .slice B106 p102.2.1.length d108, .slice B109 p102.2.2.1.length d111], .agg #[.int .i64 3, .int .i64 p102.2.2.2, .int .i64 0]]) rfl rfl co11 ⟨(hF.ev rfl), (hF.ev rfl), trivial⟩) (c_impl_WorkDo (x0 := p102.1) (x1 := p102.2.1) (x2 := p102.2.2.1) (x3 := 3) (x4 := p102.2.2.2) (x5 := 0) ⟨(S.rc 6 rfl), rfl⟩ ⟨(S.rc 7 rfl), rfl⟩ ⟨(S.rc 8 rfl), rfl⟩ h139) ?_
          rintro e u ⟨B140, n141, d142, B143, n144, d145, B146, n147, d148, rfl, rfl, rfl, rfl, T⟩
          refine ⟨_, rfl, ?_⟩
          clear hF; intro a hF
          replace S := S.call3 T; clear T
          refine op_val (v := .tuple #[.agg #[.slice B140 p139.1.length d142, .slice B143 p139.2.1.length d145, .slice B146 p139.2.2.1.length d148], .bool p139.2.2.2]) rfl rfl hF rfl (run_move rfl (hF.ev rfl)) ?_; clear hF; intro a hF
          refine op_val (v := .agg #[.slice B140 p139.1.length d142, .slice B143 p139.2.1.length d145, .slice B146 p139.2.2.1.length d148]) rfl rfl hF rfl (run_extract rfl (hF.ev rfl) rfl) ?_; clear hF; intro a hF
          refine op_val (v := .bool p139.2.2.2) rfl rfl hF rfl (run_extract rfl (hF.ev rfl) rfl) ?_; clear hF; intro a hF
          refine op_new (cs := #[.slice none 0 0, .slice none 0 0, .slice none 0 0]) rfl rfl hF rfl S (run_allocZ rfl zr26) ?_; clear hF S; intro a g149 u hF S
          refine op_do rfl rfl (run_store (cs' := #[.slice B140 p139.1.length d142, .slice B143 p139.2.1.length d145, .slice B146 p139.2.2.1.length d148]) rfl sz26 (hF.ev rfl) (hF.ev rfl) rfl rfl rfl (S.free 0 rfl) rfl rfl) ?_; replace S := S.put 0 rfl (#[.slice B140 p139.1.length d142, .slice B143 p139.2.1.length d145, .slice B146 p139.2.2.1.length d148])
          generalize World.setRow _ _ _ = u at S ⊢
          refine op_val (v := .bool p139.2.2.2) rfl rfl hF rfl (run_assign rfl (hF.ev rfl)) ?_; clear hF; intro a hF
          refine wpList_nil ?_
          refine wp_seq ?_
          obtain ⟨hk150, hM125⟩ := chk_ex hM125
          replace hk150 := ixB_t hk150
          obtain ⟨p151, h151, hM125⟩ := bind_ex hM125
          refine region_gw (D := [51, 52, 53, 54, 55, 56, 57, 58, 50, 59, 60, 11, 12]) (Lr := [.box g149 26 #[.slice B140 p139.1.length d142, .slice B143 p139.2.1.length d145, .slice B146 p139.2.2.1.length d148], .row 4 1 (.slice B140 p139.1.length d142) p139.1.length (p139.1.flatMap eB), .row 4 1 (.slice B143 p139.2.1.length d145) p139.2.1.length (p139.2.1.flatMap eB), .row 48 2 (.slice B146 p139.2.2.1.length d148) p139.2.2.1.length (p139.2.2.1.flatMap ePermit), .box g138 26 #[.slice B129 p128.1.length d131, .slice B132 p128.2.1.length d134, .slice B135 p128.2.2.1.length d137], .row 4 1 (.slice B129 p128.1.length d131) p128.1.length (p128.1.flatMap eB), .row 4 1 (.slice B132 p128.2.1.length d134) p128.2.1.length (p128.2.1.flatMap eB), .row 48 2 (.slice B135 p128.2.2.1.length d137) p128.2.2.1.length (p128.2.2.1.flatMap ePermit), .box g112 26 #[.slice B103 p102.1.length d105, .slice B106 p102.2.1.length d108, .slice B109 p102.2.2.1.length d111], .row 3 1 (.slice B114 p113.length d116) p113.length (p113.flatMap eI), .row 4 1 (.slice B103 p102.1.length d105) p102.1.length (p102.1.flatMap eB), .row 4 1 (.slice B106 p102.2.1.length d108) p102.2.1.length (p102.2.1.flatMap eB), .row 48 2 (.slice B109 p102.2.2.1.length d111) p102.2.2.1.length (p102.2.2.1.flatMap ePermit)]) (deps := (fun | 0 => [51] | 1 => [52] | 2 => [53] | 3 => [54] | 4 => [55] | 5 => [56] | 6 => [57] | 7 => [58] | 8 => [50, 58] | 9 => [59, 58] | 10 => [60] | 11 => [11] | 12 => [11, 58] | 13 => [12] | _ => [])) (rd := (fun _ => [])) (zr := (fun _ => []))
            (φ := fun i vs => match i, vs with | 0, [v51] => v51 = .agg #[.slice B103 p102.1.length d105, .slice B106 p102.2.1.length d108, .slice B109 p102.2.2.1.length d111] | 1, [v52] => v52 = .int .i64 p102.2.2.2 | 2, [v53] => v53 = .slice B114 p113.length d116 | 3, [v54] => v54 = .int .i64 p126 | 4, [v55] => v55 = .pointer (some ⟨adB B114, adO B114 + p126.toNat * 1, none⟩) | 5, [v56] => v56 = .int .i64 (p113.getD p126.toNat (0 : Int)) | 6, [v57] => v57 = .agg #[.int .i64 5, .int .i64 p102.2.2.2, .int .i64 (p113.getD p126.toNat (0 : Int))] | 7, [v58] => v58 = .tuple #[.agg #[.slice (slA (vtup (vtup v58 0) 0)) p151.1.length (slC (vtup (vtup v58 0) 0)), .slice (slA (vtup (vtup v58 0) 1)) p151.2.1.length (slC (vtup (vtup v58 0) 1)), .slice (slA (vtup (vtup v58 0) 2)) p151.2.2.1.length (slC (vtup (vtup v58 0) 2))], .bool p151.2.2.2] | 8, [v50, v58] => v50 = .tuple #[.agg #[.slice (slA (vtup (vtup v58 0) 0)) p151.1.length (slC (vtup (vtup v58 0) 0)), .slice (slA (vtup (vtup v58 0) 1)) p151.2.1.length (slC (vtup (vtup v58 0) 1)), .slice (slA (vtup (vtup v58 0) 2)) p151.2.2.1.length (slC (vtup (vtup v58 0) 2))], .bool p151.2.2.2] | 9, [v59, v58] => v59 = .agg #[.slice (slA (vtup (vtup v58 0) 0)) p151.1.length (slC (vtup (vtup v58 0) 0)), .slice (slA (vtup (vtup v58 0) 1)) p151.2.1.length (slC (vtup (vtup v58 0) 1)), .slice (slA (vtup (vtup v58 0) 2)) p151.2.2.1.length (slC (vtup (vtup v58 0) 2))] | 10, [v60] => v60 = .bool p151.2.2.2 | 11, [v11] => v11 = .pointer (some ⟨ptB v11, 0, none⟩) | 13, [v12] => v12 = .bool p151.2.2.2 | _, _ => True)
            (C := fun i vs => match i, vs with | 7, [v58] => [.row 4 1 (.slice (slA (vtup (vtup v58 0) 0)) p151.1.length (slC (vtup (vtup v58 0) 0))) p151.1.length (p151.1.flatMap eB), .row 4 1 (.slice (slA (vtup (vtup v58 0) 1)) p151.2.1.length (slC (vtup (vtup v58 0) 1))) p151.2.1.length (p151.2.1.flatMap eB), .row 48 2 (.slice (slA (vtup (vtup v58 0) 2)) p151.2.2.1.length (slC (vtup (vtup v58 0) 2))) p151.2.2.1.length (p151.2.2.1.flatMap ePermit)] | 11, [v11] => [.box (ptB v11) 26 #[.slice none 0 0, .slice none 0 0, .slice none 0 0]] | 12, [v11, v58] => [.box (ptB v11) 26 #[.slice (slA (vtup (vtup v58 0) 0)) p151.1.length (slC (vtup (vtup v58 0) 0)), .slice (slA (vtup (vtup v58 0) 1)) p151.2.1.length (slC (vtup (vtup v58 0) 1)), .slice (slA (vtup (vtup v58 0) 2)) p151.2.2.1.length (slC (vtup (vtup v58 0) 2))]] | _, _ => [])
            (κ := (fun | 11 => some 12 | _ => none)) (Z := (fun _ => [])) mixed hF (by kernel_rfl) S ?_ ?_
          · refine ⟨?_, ?_, ?_, ?_, ?_, ?_, ?_, ?_, ?_, ?_, ?_, ?_, ?_, ?_, trivial⟩
            · intro a u X hB hu hp hr hz hl S
              replace S : St w u ([] ++ X) := S
              exact .inl ⟨rfl, .agg #[.slice B103 p102.1.length d105, .slice B106 p102.2.1.length d108, .slice B109 p102.2.2.1.length d111], u, (run_loadN rfl ag26 (hF.evB hB rfl rfl) rfl ((gr_box S hl 8 rfl).cells 0 #[.slice B103 p102.1.length d105, .slice B106 p102.2.1.length d108, .slice B109 p102.2.2.1.length d111] rfl)), rfl, S⟩
            · intro a u X hB hu hp hr hz hl S
              replace S : St w u ([] ++ X) := S
              exact .inl ⟨rfl, .int .i64 p102.2.2.2, u, (run_move rfl (hF.evB hB rfl rfl)), rfl, S⟩
            · intro a u X hB hu hp hr hz hl S
              replace S : St w u ([] ++ X) := S
              exact .inl ⟨rfl, .slice B114 p113.length d116, u, (run_move rfl (hF.evB hB rfl rfl)), rfl, S⟩
            · intro a u X hB hu hp hr hz hl S
              replace S : St w u ([] ++ X) := S
              exact .inl ⟨rfl, .int .i64 p126, u, (run_move rfl (hF.evB hB rfl rfl)), rfl, S⟩
            · intro a u X hB hu hp hr hz hl S
              replace S : St w u ([] ++ X) := S
              have e53 : sl a 53 = .slice B114 p113.length d116 := hp 2 rfl
              have e54 : sl a 54 = .int .i64 p126 := hp 3 rfl
              exact .inl ⟨rfl, .pointer (some ⟨adB B114, adO B114 + p126.toNat * 1, none⟩), u, (run_indexAddr (b := adB B114) (off := adO B114) rfl Tryd.underlying29 sz3 ((ev_sl e53).trans (congrArg (fun A => Value.slice A p113.length d116) ((gr_rc S hl 9 rfl).rd.ad (ix_pos hk150)))) (ev_sl e54) hk150.1 hk150.2 (k' := adO B114 + p126.toNat * 1) rfl), rfl, S⟩
            · intro a u X hB hu hp hr hz hl S
              replace S : St w u ([] ++ X) := S
              have e55 : sl a 55 = .pointer (some ⟨adB B114, adO B114 + p126.toNat * 1, none⟩) := hp 4 rfl
              exact .inl ⟨rfl, .int .i64 (p113.getD p126.toNat (0 : Int)), u, (run_load1 rfl one3 (ev_sl e55) (rd_el0 (l := p113) (gr_rc S hl 9 rfl).rd rfl eI_len (0 : Int) (ix_ltn hk150 rfl) rfl)), rfl, S⟩
            · intro a u X hB hu hp hr hz hl S
              replace S : St w u ([] ++ X) := S
              have e52 : sl a 52 = .int .i64 p102.2.2.2 := hp 1 rfl
              have e56 : sl a 56 = .int .i64 (p113.getD p126.toNat (0 : Int)) := hp 5 rfl
              exact .inl ⟨rfl, .agg #[.int .i64 5, .int .i64 p102.2.2.2, .int .i64 (p113.getD p126.toNat (0 : Int))], u, (run_build (vs := [(0, .int .i64 5), (1, .int .i64 p102.2.2.2), (2, .int .i64 (p113.getD p126.toNat (0 : Int)))]) rfl ⟨⟨rfl, (ev_const _ _)⟩, ⟨rfl, (ev_sl e52)⟩, ⟨rfl, (ev_sl e56)⟩, trivial⟩ (bd35_0_1_2 rfl rfl rfl)), rfl, S⟩
            · intro a u X hB hu hp hr hz hl S
              replace S : St w u ([] ++ X) := S
              have e51 : sl a 51 = .agg #[.slice B103 p102.1.length d105, .slice B106 p102.2.1.length d108, .slice B109 p102.2.2.1.length d111] := hp 0 rfl
              have e57 : sl a 57 = .agg #[.int .i64 5, .int .i64 p102.2.2.2, .int .i64 (p113.getD p126.toNat (0 : Int))] := hp 6 rfl
              refine .inr (.inr (.inl ⟨rfl, _, _, (run_call (vs := [.agg #[.slice B103 p102.1.length d105, .slice B106 p102.2.1.length d108, .slice B109 p102.2.2.1.length d111], .agg #[.int .i64 5, .int .i64 p102.2.2.2, .int .i64 (p113.getD p126.toNat (0 : Int))]]) rfl rfl co11 ⟨(ev_sl e51), (ev_sl e57), trivial⟩), ?_⟩))
              refine Calls.mono (c_impl_WorkDo (x0 := p102.1) (x1 := p102.2.1) (x2 := p102.2.2.1) (x3 := 5) (x4 := p102.2.2.2) (x5 := (p113.getD p126.toNat (0 : Int))) ⟨(gr_rc S hl 10 rfl), rfl⟩ ⟨(gr_rc S hl 11 rfl), rfl⟩ ⟨(gr_rc S hl 12 rfl), rfl⟩ h151) ?_
              rintro e w1 ⟨B152, n153, d154, B155, n156, d157, B158, n159, d160, rfl, rfl, rfl, rfl, T⟩
              exact ⟨_, rfl, rfl, S.call3 T⟩
            · intro a u X hB hu hp hr hz hl S
              replace S : St w u ([] ++ X) := S
              have e58 : sl a 58 = .tuple #[.agg #[.slice (slA (vtup (vtup (sl a 58) 0) 0)) p151.1.length (slC (vtup (vtup (sl a 58) 0) 0)), .slice (slA (vtup (vtup (sl a 58) 0) 1)) p151.2.1.length (slC (vtup (vtup (sl a 58) 0) 1)), .slice (slA (vtup (vtup (sl a 58) 0) 2)) p151.2.2.1.length (slC (vtup (vtup (sl a 58) 0) 2))], .bool p151.2.2.2] := hp 7 rfl
              exact .inl ⟨rfl, .tuple #[.agg #[.slice (slA (vtup (vtup (sl a 58) 0) 0)) p151.1.length (slC (vtup (vtup (sl a 58) 0) 0)), .slice (slA (vtup (vtup (sl a 58) 0) 1)) p151.2.1.length (slC (vtup (vtup (sl a 58) 0) 1)), .slice (slA (vtup (vtup (sl a 58) 0) 2)) p151.2.2.1.length (slC (vtup (vtup (sl a 58) 0) 2))], .bool p151.2.2.2], u, (run_move rfl (ev_sl e58)), rfl, S⟩
            · intro a u X hB hu hp hr hz hl S
              replace S : St w u ([] ++ X) := S
              have e50 : sl a 50 = .tuple #[.agg #[.slice (slA (vtup (vtup (sl a 58) 0) 0)) p151.1.length (slC (vtup (vtup (sl a 58) 0) 0)), .slice (slA (vtup (vtup (sl a 58) 0) 1)) p151.2.1.length (slC (vtup (vtup (sl a 58) 0) 1)), .slice (slA (vtup (vtup (sl a 58) 0) 2)) p151.2.2.1.length (slC (vtup (vtup (sl a 58) 0) 2))], .bool p151.2.2.2] := hp 8 rfl
              exact .inl ⟨rfl, .agg #[.slice (slA (vtup (vtup (sl a 58) 0) 0)) p151.1.length (slC (vtup (vtup (sl a 58) 0) 0)), .slice (slA (vtup (vtup (sl a 58) 0) 1)) p151.2.1.length (slC (vtup (vtup (sl a 58) 0) 1)), .slice (slA (vtup (vtup (sl a 58) 0) 2)) p151.2.2.1.length (slC (vtup (vtup (sl a 58) 0) 2))], u, (run_extract rfl (ev_sl e50) rfl), rfl, S⟩
            · intro a u X hB hu hp hr hz hl S
              replace S : St w u ([] ++ X) := S
              have e50 : sl a 50 = .tuple #[.agg #[.slice (slA (vtup (vtup (sl a 58) 0) 0)) p151.1.length (slC (vtup (vtup (sl a 58) 0) 0)), .slice (slA (vtup (vtup (sl a 58) 0) 1)) p151.2.1.length (slC (vtup (vtup (sl a 58) 0) 1)), .slice (slA (vtup (vtup (sl a 58) 0) 2)) p151.2.2.1.length (slC (vtup (vtup (sl a 58) 0) 2))], .bool p151.2.2.2] := hp 8 rfl
              exact .inl ⟨rfl, .bool p151.2.2.2, u, (run_extract rfl (ev_sl e50) rfl), rfl, S⟩
            · intro a u X hB hu hp hr hz hl S
              replace S : St w u ([] ++ X) := S
              exact .inl ⟨rfl, _, _, (run_allocZ rfl zr26), rfl, S.alloc _ _⟩
            · intro a u X hB hu hp hr hz hl S
              replace S : St w u ([.box (ptB (sl a 11)) 26 #[.slice none 0 0, .slice none 0 0, .slice none 0 0]] ++ X) := S
              have e11 : sl a 11 = .pointer (some ⟨ptB (sl a 11), 0, none⟩) := hp 11 rfl
              have e59 : sl a 59 = .agg #[.slice (slA (vtup (vtup (sl a 58) 0) 0)) p151.1.length (slC (vtup (vtup (sl a 58) 0) 0)), .slice (slA (vtup (vtup (sl a 58) 0) 1)) p151.2.1.length (slC (vtup (vtup (sl a 58) 0) 1)), .slice (slA (vtup (vtup (sl a 58) 0) 2)) p151.2.2.1.length (slC (vtup (vtup (sl a 58) 0) 2))] := hp 9 rfl
              exact .inr (.inl ⟨rfl, _, run_store (cs' := #[.slice (slA (vtup (vtup (sl a 58) 0) 0)) p151.1.length (slC (vtup (vtup (sl a 58) 0) 0)), .slice (slA (vtup (vtup (sl a 58) 0) 1)) p151.2.1.length (slC (vtup (vtup (sl a 58) 0) 1)), .slice (slA (vtup (vtup (sl a 58) 0) 2)) p151.2.2.1.length (slC (vtup (vtup (sl a 58) 0) 2))]) rfl sz26 (ev_sl e11) (ev_sl e59) rfl rfl rfl (S.free 0 rfl) rfl rfl, trivial, S.put 0 rfl (#[.slice (slA (vtup (vtup (sl a 58) 0) 0)) p151.1.length (slC (vtup (vtup (sl a 58) 0) 0)), .slice (slA (vtup (vtup (sl a 58) 0) 1)) p151.2.1.length (slC (vtup (vtup (sl a 58) 0) 1)), .slice (slA (vtup (vtup (sl a 58) 0) 2)) p151.2.2.1.length (slC (vtup (vtup (sl a 58) 0) 2))])⟩)
            · intro a u X hB hu hp hr hz hl S
              replace S : St w u ([] ++ X) := S
              have e60 : sl a 60 = .bool p151.2.2.2 := hp 10 rfl
              exact .inl ⟨rfl, .bool p151.2.2.2, u, (run_assign rfl (ev_sl e60)), rfl, S⟩
          · intro a u hB hp S
            obtain ⟨q0, q1, q2, q3, q4, q5, q6, q7, q8, q9, q10, q11, q12, q13, _⟩ := hp
            have e51 : sl a 51 = .agg #[.slice B103 p102.1.length d105, .slice B106 p102.2.1.length d108, .slice B109 p102.2.2.1.length d111] := q0
            have e52 : sl a 52 = .int .i64 p102.2.2.2 := q1
            have e53 : sl a 53 = .slice B114 p113.length d116 := q2
            have e54 : sl a 54 = .int .i64 p126 := q3
            have e55 : sl a 55 = .pointer (some ⟨adB B114, adO B114 + p126.toNat * 1, none⟩) := q4
            have e56 : sl a 56 = .int .i64 (p113.getD p126.toNat (0 : Int)) := q5
            have e57 : sl a 57 = .agg #[.int .i64 5, .int .i64 p102.2.2.2, .int .i64 (p113.getD p126.toNat (0 : Int))] := q6
            have e58 : sl a 58 = .tuple #[.agg #[.slice (slA (vtup (vtup (sl a 58) 0) 0)) p151.1.length (slC (vtup (vtup (sl a 58) 0) 0)), .slice (slA (vtup (vtup (sl a 58) 0) 1)) p151.2.1.length (slC (vtup (vtup (sl a 58) 0) 1)), .slice (slA (vtup (vtup (sl a 58) 0) 2)) p151.2.2.1.length (slC (vtup (vtup (sl a 58) 0) 2))], .bool p151.2.2.2] := q7
            have e50 : sl a 50 = .tuple #[.agg #[.slice (slA (vtup (vtup (sl a 58) 0) 0)) p151.1.length (slC (vtup (vtup (sl a 58) 0) 0)), .slice (slA (vtup (vtup (sl a 58) 0) 1)) p151.2.1.length (slC (vtup (vtup (sl a 58) 0) 1)), .slice (slA (vtup (vtup (sl a 58) 0) 2)) p151.2.2.1.length (slC (vtup (vtup (sl a 58) 0) 2))], .bool p151.2.2.2] := q8
            have e59 : sl a 59 = .agg #[.slice (slA (vtup (vtup (sl a 58) 0) 0)) p151.1.length (slC (vtup (vtup (sl a 58) 0) 0)), .slice (slA (vtup (vtup (sl a 58) 0) 1)) p151.2.1.length (slC (vtup (vtup (sl a 58) 0) 1)), .slice (slA (vtup (vtup (sl a 58) 0) 2)) p151.2.2.1.length (slC (vtup (vtup (sl a 58) 0) 2))] := q9
            have e60 : sl a 60 = .bool p151.2.2.2 := q10
            have e11 : sl a 11 = .pointer (some ⟨ptB (sl a 11), 0, none⟩) := q11
            have e12 : sl a 12 = .bool p151.2.2.2 := q13
            replace S : St w u [.row 4 1 (.slice (slA (vtup (vtup (sl a 58) 0) 0)) p151.1.length (slC (vtup (vtup (sl a 58) 0) 0))) p151.1.length (p151.1.flatMap eB), .row 4 1 (.slice (slA (vtup (vtup (sl a 58) 0) 1)) p151.2.1.length (slC (vtup (vtup (sl a 58) 0) 1))) p151.2.1.length (p151.2.1.flatMap eB), .row 48 2 (.slice (slA (vtup (vtup (sl a 58) 0) 2)) p151.2.2.1.length (slC (vtup (vtup (sl a 58) 0) 2))) p151.2.2.1.length (p151.2.2.1.flatMap ePermit), .box (ptB (sl a 11)) 26 #[.slice (slA (vtup (vtup (sl a 58) 0) 0)) p151.1.length (slC (vtup (vtup (sl a 58) 0) 0)), .slice (slA (vtup (vtup (sl a 58) 0) 1)) p151.2.1.length (slC (vtup (vtup (sl a 58) 0) 1)), .slice (slA (vtup (vtup (sl a 58) 0) 2)) p151.2.2.1.length (slC (vtup (vtup (sl a 58) 0) 2))], .box g149 26 #[.slice B140 p139.1.length d142, .slice B143 p139.2.1.length d145, .slice B146 p139.2.2.1.length d148], .row 4 1 (.slice B140 p139.1.length d142) p139.1.length (p139.1.flatMap eB), .row 4 1 (.slice B143 p139.2.1.length d145) p139.2.1.length (p139.2.1.flatMap eB), .row 48 2 (.slice B146 p139.2.2.1.length d148) p139.2.2.1.length (p139.2.2.1.flatMap ePermit), .box g138 26 #[.slice B129 p128.1.length d131, .slice B132 p128.2.1.length d134, .slice B135 p128.2.2.1.length d137], .row 4 1 (.slice B129 p128.1.length d131) p128.1.length (p128.1.flatMap eB), .row 4 1 (.slice B132 p128.2.1.length d134) p128.2.1.length (p128.2.1.flatMap eB), .row 48 2 (.slice B135 p128.2.2.1.length d137) p128.2.2.1.length (p128.2.2.1.flatMap ePermit), .box g112 26 #[.slice B103 p102.1.length d105, .slice B106 p102.2.1.length d108, .slice B109 p102.2.2.1.length d111], .row 3 1 (.slice B114 p113.length d116) p113.length (p113.flatMap eI), .row 4 1 (.slice B103 p102.1.length d105) p102.1.length (p102.1.flatMap eB), .row 4 1 (.slice B106 p102.2.1.length d108) p102.2.1.length (p102.2.1.flatMap eB), .row 48 2 (.slice B109 p102.2.2.1.length d111) p102.2.2.1.length (p102.2.2.1.flatMap ePermit)] := S
            clear q0 q1 q2 q3 q4 q5 q6 q7 q8 q9 q10 q11 q12 q13
            generalize slA (vtup (vtup (sl a 58) 0) 0) = B161 at *
            generalize slC (vtup (vtup (sl a 58) 0) 0) = d162 at *
            generalize slA (vtup (vtup (sl a 58) 0) 1) = B163 at *
            generalize slC (vtup (vtup (sl a 58) 0) 1) = d164 at *
            generalize slA (vtup (vtup (sl a 58) 0) 2) = B165 at *
            generalize slC (vtup (vtup (sl a 58) 0) 2) = d166 at *
            generalize ptB (sl a 11) = g167 at *
            have hF := hF.region hB [(51, .agg #[.slice B103 p102.1.length d105, .slice B106 p102.2.1.length d108, .slice B109 p102.2.2.1.length d111]), (52, .int .i64 p102.2.2.2), (53, .slice B114 p113.length d116), (54, .int .i64 p126), (55, .pointer (some ⟨adB B114, adO B114 + p126.toNat * 1, none⟩)), (56, .int .i64 (p113.getD p126.toNat (0 : Int))), (57, .agg #[.int .i64 5, .int .i64 p102.2.2.2, .int .i64 (p113.getD p126.toNat (0 : Int))]), (58, .tuple #[.agg #[.slice B161 p151.1.length d162, .slice B163 p151.2.1.length d164, .slice B165 p151.2.2.1.length d166], .bool p151.2.2.2]), (50, .tuple #[.agg #[.slice B161 p151.1.length d162, .slice B163 p151.2.1.length d164, .slice B165 p151.2.2.1.length d166], .bool p151.2.2.2]), (59, .agg #[.slice B161 p151.1.length d162, .slice B163 p151.2.1.length d164, .slice B165 p151.2.2.1.length d166]), (60, .bool p151.2.2.2), (11, .pointer (some ⟨g167, 0, none⟩)), (12, .bool p151.2.2.2)] (allSl_mem ⟨e51, e52, e53, e54, e55, e56, e57, e58, e50, e59, e60, e11, e12, trivial⟩) rfl
            clear hB e51 e52 e53 e54 e55 e56 e57 e58 e50 e59 e60 e11 e12
            refine wp_seq ?_
            obtain ⟨o169, hM170, hM125⟩ := bind_ex hM125
            refine wp_cut (fun a u => ∃ (p168 : Bool), p168 = o169 ∧ Fr a 90 [(2, .bool false), (3, .pointer (some ⟨g112, 0, none⟩)), (4, .int .i64 p102.2.2.2), (5, .slice B114 p113.length d116), (6, .int .i64 p126), (88, .bool p168)] ∧ St w u [.box g112 26 #[.slice B103 p102.1.length d105, .slice B106 p102.2.1.length d108, .slice B109 p102.2.2.1.length d111], .row 3 1 (.slice B114 p113.length d116) p113.length (p113.flatMap eI), .row 4 1 (.slice B103 p102.1.length d105) p102.1.length (p102.1.flatMap eB), .row 4 1 (.slice B106 p102.2.1.length d108) p102.2.1.length (p102.2.1.flatMap eB), .row 48 2 (.slice B109 p102.2.2.1.length d111) p102.2.2.1.length (p102.2.2.1.flatMap ePermit)]) ?_ ?_
            · have _ := trivial
              cases hc171 : ((p128.2.2.2 || p139.2.2.2) || (!p151.2.2.2))
              · replace hM170 := bif_f hc171 hM170
                obtain ⟨p172, h172, hM170⟩ := bind_ex hM170
                cases hc176 : ((p172.length : Int) != (w64 ((p113.length : Int) - 1)))
                · replace hM170 := bif_f hc176 hM170
                  obtain ⟨p180, h180, hM170⟩ := bind_ex hM170
                  obtain ⟨hk184, hM170⟩ := chk_ex hM170
                  replace hk184 := ixB_t hk184
                  obtain ⟨p185, h185, hM170⟩ := bind_ex hM170
                  refine region_gw (D := [61, 62, 63, 64, 65, 66, 67, 68, 69, 70, 71, 72, 73, 74, 75, 76, 77, 78, 79, 80, 81, 82, 83, 84, 85, 86, 87, 88]) (Lr := [.row 4 1 (.slice B161 p151.1.length d162) p151.1.length (p151.1.flatMap eB), .row 4 1 (.slice B163 p151.2.1.length d164) p151.2.1.length (p151.2.1.flatMap eB), .row 48 2 (.slice B165 p151.2.2.1.length d166) p151.2.2.1.length (p151.2.2.1.flatMap ePermit), .box g167 26 #[.slice B161 p151.1.length d162, .slice B163 p151.2.1.length d164, .slice B165 p151.2.2.1.length d166], .box g149 26 #[.slice B140 p139.1.length d142, .slice B143 p139.2.1.length d145, .slice B146 p139.2.2.1.length d148], .row 4 1 (.slice B140 p139.1.length d142) p139.1.length (p139.1.flatMap eB), .row 4 1 (.slice B143 p139.2.1.length d145) p139.2.1.length (p139.2.1.flatMap eB), .row 48 2 (.slice B146 p139.2.2.1.length d148) p139.2.2.1.length (p139.2.2.1.flatMap ePermit), .box g138 26 #[.slice B129 p128.1.length d131, .slice B132 p128.2.1.length d134, .slice B135 p128.2.2.1.length d137], .row 4 1 (.slice B129 p128.1.length d131) p128.1.length (p128.1.flatMap eB), .row 4 1 (.slice B132 p128.2.1.length d134) p128.2.1.length (p128.2.1.flatMap eB), .row 48 2 (.slice B135 p128.2.2.1.length d137) p128.2.2.1.length (p128.2.2.1.flatMap ePermit), .box g112 26 #[.slice B103 p102.1.length d105, .slice B106 p102.2.1.length d108, .slice B109 p102.2.2.1.length d111], .row 3 1 (.slice B114 p113.length d116) p113.length (p113.flatMap eI), .row 4 1 (.slice B103 p102.1.length d105) p102.1.length (p102.1.flatMap eB), .row 4 1 (.slice B106 p102.2.1.length d108) p102.2.1.length (p102.2.1.flatMap eB), .row 48 2 (.slice B109 p102.2.2.1.length d111) p102.2.2.1.length (p102.2.2.1.flatMap ePermit)]) (deps := (fun | 0 => [61] | 1 => [62] | 2 => [63] | 3 => [64] | 4 => [65] | 5 => [66] | 6 => [67] | 7 => [68] | 8 => [69] | 9 => [70] | 10 => [71] | 11 => [72] | 12 => [73] | 13 => [74] | 14 => [75] | 15 => [76] | 16 => [77] | 17 => [78] | 18 => [79] | 19 => [80] | 20 => [81] | 21 => [82] | 22 => [83] | 23 => [84] | 24 => [85] | 25 => [86] | 26 => [87] | 27 => [88] | _ => [])) (rd := (fun | 26 => [21] | _ => [])) (zr := (fun _ => []))
                    (φ := fun i vs => match i, vs with | 0, [v61] => v61 = .bool p128.2.2.2 | 1, [v62] => v62 = .bool p128.2.2.2 | 2, [v63] => v63 = gv (!p128.2.2.2) (.bool p139.2.2.2) | 3, [v64] => v64 = .bool (p128.2.2.2 || p139.2.2.2) | 4, [v65] => v65 = .bool (p128.2.2.2 || p139.2.2.2) | 5, [v66] => v66 = gv (!(p128.2.2.2 || p139.2.2.2)) (.bool p151.2.2.2) | 6, [v67] => v67 = gv (!(p128.2.2.2 || p139.2.2.2)) (.bool (!p151.2.2.2)) | 7, [v68] => v68 = .bool ((p128.2.2.2 || p139.2.2.2) || (!p151.2.2.2)) | 8, [v69] => v69 = .bool ((p128.2.2.2 || p139.2.2.2) || (!p151.2.2.2)) | 9, [v70] => v70 = .agg #[.slice B161 p151.1.length d162, .slice B163 p151.2.1.length d164, .slice B165 p151.2.2.1.length d166] | 10, [v71] => v71 = .int .i64 p102.2.2.2 | 11, [v72] => v72 = .slice (slA v72) p172.length (slC v72) | 12, [v73] => v73 = .int .i64 (p172.length : Int) | 13, [v74] => v74 = .slice B114 p113.length d116 | 14, [v75] => v75 = .int .i64 (p113.length : Int) | 15, [v76] => v76 = .int .i64 (w64 ((p113.length : Int) - 1)) | 16, [v77] => v77 = .bool ((p172.length : Int) != (w64 ((p113.length : Int) - 1))) | 17, [v78] => v78 = .bool ((p172.length : Int) != (w64 ((p113.length : Int) - 1))) | 18, [v79] => v79 = .bool ((p172.length : Int) != (w64 ((p113.length : Int) - 1))) | 19, [v80] => v80 = .agg #[.slice B161 p151.1.length d162, .slice B163 p151.2.1.length d164, .slice B165 p151.2.2.1.length d166] | 20, [v81] => v81 = .int .i64 p102.2.2.2 | 21, [v82] => v82 = .slice (slA v82) p180.length (slC v82) | 22, [v83] => v83 = .slice B114 p113.length d116 | 23, [v84] => v84 = .int .i64 p126 | 24, [v85] => v85 = .pointer (some ⟨adB B114, adO B114 + p126.toNat * 1, none⟩) | 25, [v86] => v86 = .int .i64 (p113.getD p126.toNat (0 : Int)) | 26, [v87] => v87 = .bool p185 | 27, [v88] => v88 = .bool p185 | _, _ => True)
                    (C := fun i vs => match i, vs with | 11, [v72] => [.row 3 1 (.slice (slA v72) p172.length (slC v72)) p172.length (p172.flatMap eI)] | 21, [v82] => [.row 3 1 (.slice (slA v82) p180.length (slC v82)) p180.length (p180.flatMap eI)] | _, _ => [])
                    (κ := (fun _ => none)) (Z := (fun _ => [])) mixed hF (by kernel_rfl) S ?_ ?_
                  · refine ⟨?_, ?_, ?_, ?_, ?_, ?_, ?_, ?_, ?_, ?_, ?_, ?_, ?_, ?_, ?_, ?_, ?_, ?_, ?_, ?_, ?_, ?_, ?_, ?_, ?_, ?_, ?_, ?_, trivial⟩
                    · intro a u X hB hu hp hr hz hl S
                      replace S : St w u ([] ++ X) := S
                      exact .inl ⟨rfl, .bool p128.2.2.2, u, (run_move rfl (hF.evB hB rfl rfl)), rfl, S⟩
                    · intro a u X hB hu hp hr hz hl S
                      replace S : St w u ([] ++ X) := S
                      have e61 : sl a 61 = .bool p128.2.2.2 := hp 0 rfl
                      exact .inl ⟨rfl, .bool p128.2.2.2, u, (run_move rfl (ev_sl e61)), rfl, S⟩
                    · intro a u X hB hu hp hr hz hl S
                      replace S : St w u ([] ++ X) := S
                      have e62 : sl a 62 = .bool p128.2.2.2 := hp 1 rfl
                      rcases (Bool.eq_false_or_eq_true (!p128.2.2.2)).symm with hg | hg
                      · exact .inr (.inr (.inr ⟨gr_eg rfl (yf (gr_yield rfl rfl e62)) hg, (gv_f hg).symm, S⟩))
                      · exact .inl ⟨gr_eg rfl (yf (gr_yield rfl rfl e62)) hg, .bool p139.2.2.2, u, (run_move rfl (hF.evB hB rfl rfl)), (gv_t hg).symm, S⟩
                    · intro a u X hB hu hp hr hz hl S
                      replace S : St w u ([] ++ X) := S
                      have e62 : sl a 62 = .bool p128.2.2.2 := hp 1 rfl
                      have e63 : sl a 63 = gv (!p128.2.2.2) (.bool p139.2.2.2) := hp 2 rfl
                      exact .inl ⟨rfl, .bool (p128.2.2.2 || p139.2.2.2), u, (run_pick_or rfl (ev_sl e62) (ev_const _ _) (fun hp => ((ev_sl e63).trans (gv_t (not_t hp))))), rfl, S⟩
                    · intro a u X hB hu hp hr hz hl S
                      replace S : St w u ([] ++ X) := S
                      have e64 : sl a 64 = .bool (p128.2.2.2 || p139.2.2.2) := hp 3 rfl
                      exact .inl ⟨rfl, .bool (p128.2.2.2 || p139.2.2.2), u, (run_move rfl (ev_sl e64)), rfl, S⟩
                    · intro a u X hB hu hp hr hz hl S
                      replace S : St w u ([] ++ X) := S
                      have e65 : sl a 65 = .bool (p128.2.2.2 || p139.2.2.2) := hp 4 rfl
                      rcases (Bool.eq_false_or_eq_true (!(p128.2.2.2 || p139.2.2.2))).symm with hg | hg
                      · exact .inr (.inr (.inr ⟨gr_eg rfl (yf (gr_yield rfl rfl e65)) hg, (gv_f hg).symm, S⟩))
                      · exact .inl ⟨gr_eg rfl (yf (gr_yield rfl rfl e65)) hg, .bool p151.2.2.2, u, (run_move rfl (hF.evB hB rfl rfl)), (gv_t hg).symm, S⟩
                    · intro a u X hB hu hp hr hz hl S
                      replace S : St w u ([] ++ X) := S
                      have e65 : sl a 65 = .bool (p128.2.2.2 || p139.2.2.2) := hp 4 rfl
                      have e66 : sl a 66 = gv (!(p128.2.2.2 || p139.2.2.2)) (.bool p151.2.2.2) := hp 5 rfl
                      rcases (Bool.eq_false_or_eq_true (!(p128.2.2.2 || p139.2.2.2))).symm with hg | hg
                      · exact .inr (.inr (.inr ⟨gr_eg rfl (yf (gr_yield rfl rfl e65)) hg, (gv_f hg).symm, S⟩))
                      · exact .inl ⟨gr_eg rfl (yf (gr_yield rfl rfl e65)) hg, .bool (!p151.2.2.2), u, (run_not rfl ((ev_sl e66).trans (gv_t hg))), (gv_t hg).symm, S⟩
                    · intro a u X hB hu hp hr hz hl S
                      replace S : St w u ([] ++ X) := S
                      have e65 : sl a 65 = .bool (p128.2.2.2 || p139.2.2.2) := hp 4 rfl
                      have e67 : sl a 67 = gv (!(p128.2.2.2 || p139.2.2.2)) (.bool (!p151.2.2.2)) := hp 6 rfl
                      exact .inl ⟨rfl, .bool ((p128.2.2.2 || p139.2.2.2) || (!p151.2.2.2)), u, (run_pick_or rfl (ev_sl e65) (ev_const _ _) (fun hp => ((ev_sl e67).trans (gv_t (not_t hp))))), rfl, S⟩
                    · intro a u X hB hu hp hr hz hl S
                      replace S : St w u ([] ++ X) := S
                      have e68 : sl a 68 = .bool ((p128.2.2.2 || p139.2.2.2) || (!p151.2.2.2)) := hp 7 rfl
                      exact .inl ⟨rfl, .bool ((p128.2.2.2 || p139.2.2.2) || (!p151.2.2.2)), u, (run_move rfl (ev_sl e68)), rfl, S⟩
                    · intro a u X hB hu hp hr hz hl S
                      replace S : St w u ([] ++ X) := S
                      have e69 : sl a 69 = .bool ((p128.2.2.2 || p139.2.2.2) || (!p151.2.2.2)) := hp 8 rfl
                      exact .inl ⟨(gr_wanted rfl ((gr_yield rfl rfl e69).trans (congrArg some hc171))), .agg #[.slice B161 p151.1.length d162, .slice B163 p151.2.1.length d164, .slice B165 p151.2.2.1.length d166], u, (run_loadN rfl ag26 (hF.evB hB rfl rfl) rfl ((gr_box S hl 3 rfl).cells 0 #[.slice B161 p151.1.length d162, .slice B163 p151.2.1.length d164, .slice B165 p151.2.2.1.length d166] rfl)), rfl, S⟩
                    · intro a u X hB hu hp hr hz hl S
                      replace S : St w u ([] ++ X) := S
                      have e69 : sl a 69 = .bool ((p128.2.2.2 || p139.2.2.2) || (!p151.2.2.2)) := hp 8 rfl
                      exact .inl ⟨(gr_wanted rfl ((gr_yield rfl rfl e69).trans (congrArg some hc171))), .int .i64 p102.2.2.2, u, (run_move rfl (hF.evB hB rfl rfl)), rfl, S⟩
                    · intro a u X hB hu hp hr hz hl S
                      replace S : St w u ([] ++ X) := S
                      have e69 : sl a 69 = .bool ((p128.2.2.2 || p139.2.2.2) || (!p151.2.2.2)) := hp 8 rfl
                      have e70 : sl a 70 = .agg #[.slice B161 p151.1.length d162, .slice B163 p151.2.1.length d164, .slice B165 p151.2.2.1.length d166] := hp 9 rfl
                      have e71 : sl a 71 = .int .i64 p102.2.2.2 := hp 10 rfl
                      refine .inr (.inr (.inl ⟨(gr_wanted rfl ((gr_yield rfl rfl e69).trans (congrArg some hc171))), _, _, (run_call (vs := [.agg #[.slice B161 p151.1.length d162, .slice B163 p151.2.1.length d164, .slice B165 p151.2.2.1.length d166], .int .i64 p102.2.2.2]) rfl rfl co8 ⟨(ev_sl e70), (ev_sl e71), trivial⟩), ?_⟩))
                      refine Calls.mono (c_impl_WorkHeld (x0 := p151.1) (x1 := p151.2.1) (x2 := p151.2.2.1) (x3 := p102.2.2.2) ⟨(gr_rc S hl 0 rfl), rfl⟩ ⟨(gr_rc S hl 1 rfl), rfl⟩ ⟨(gr_rc S hl 2 rfl), rfl⟩ h172) ?_
                      rintro e w1 ⟨B177, n178, d179, rfl, rfl, T⟩
                      exact ⟨_, rfl, rfl, S.call1 T⟩
                    · intro a u X hB hu hp hr hz hl S
                      replace S : St w u ([] ++ X) := S
                      have e69 : sl a 69 = .bool ((p128.2.2.2 || p139.2.2.2) || (!p151.2.2.2)) := hp 8 rfl
                      have e72 : sl a 72 = .slice (slA (sl a 72)) p172.length (slC (sl a 72)) := hp 11 rfl
                      exact .inl ⟨(gr_wanted rfl ((gr_yield rfl rfl e69).trans (congrArg some hc171))), .int .i64 (p172.length : Int), u, (run_lenL rfl rfl Tryd.underlying29 (ev_sl e72)), rfl, S⟩
                    · intro a u X hB hu hp hr hz hl S
                      replace S : St w u ([] ++ X) := S
                      have e69 : sl a 69 = .bool ((p128.2.2.2 || p139.2.2.2) || (!p151.2.2.2)) := hp 8 rfl
                      exact .inl ⟨(gr_wanted rfl ((gr_yield rfl rfl e69).trans (congrArg some hc171))), .slice B114 p113.length d116, u, (run_move rfl (hF.evB hB rfl rfl)), rfl, S⟩
                    · intro a u X hB hu hp hr hz hl S
                      replace S : St w u ([] ++ X) := S
                      have e69 : sl a 69 = .bool ((p128.2.2.2 || p139.2.2.2) || (!p151.2.2.2)) := hp 8 rfl
                      have e74 : sl a 74 = .slice B114 p113.length d116 := hp 13 rfl
                      exact .inl ⟨(gr_wanted rfl ((gr_yield rfl rfl e69).trans (congrArg some hc171))), .int .i64 (p113.length : Int), u, (run_lenL rfl rfl Tryd.underlying29 (ev_sl e74)), rfl, S⟩
                    · intro a u X hB hu hp hr hz hl S
                      replace S : St w u ([] ++ X) := S
                      have e69 : sl a 69 = .bool ((p128.2.2.2 || p139.2.2.2) || (!p151.2.2.2)) := hp 8 rfl
                      have e75 : sl a 75 = .int .i64 (p113.length : Int) := hp 14 rfl
                      exact .inl ⟨(gr_wanted rfl ((gr_yield rfl rfl e69).trans (congrArg some hc171))), .int .i64 (w64 ((p113.length : Int) - 1)), u, (run_sub (z := w64 ((p113.length : Int) - 1)) (ev_sl e75) (ev_const _ _) rfl rfl), rfl, S⟩
                    · intro a u X hB hu hp hr hz hl S
                      replace S : St w u ([] ++ X) := S
                      have e69 : sl a 69 = .bool ((p128.2.2.2 || p139.2.2.2) || (!p151.2.2.2)) := hp 8 rfl
                      have e73 : sl a 73 = .int .i64 (p172.length : Int) := hp 12 rfl
                      have e76 : sl a 76 = .int .i64 (w64 ((p113.length : Int) - 1)) := hp 15 rfl
                      exact .inl ⟨(gr_wanted rfl ((gr_yield rfl rfl e69).trans (congrArg some hc171))), .bool ((p172.length : Int) != (w64 ((p113.length : Int) - 1))), u, (run_neq (ev_sl e73) (ev_sl e76) rfl), rfl, S⟩
                    · intro a u X hB hu hp hr hz hl S
                      replace S : St w u ([] ++ X) := S
                      have e69 : sl a 69 = .bool ((p128.2.2.2 || p139.2.2.2) || (!p151.2.2.2)) := hp 8 rfl
                      have e77 : sl a 77 = .bool ((p172.length : Int) != (w64 ((p113.length : Int) - 1))) := hp 16 rfl
                      exact .inl ⟨rfl, .bool ((p172.length : Int) != (w64 ((p113.length : Int) - 1))), u, (run_pick_f rfl (ev_sl e69) hc171 (ev_sl e77)), rfl, S⟩
                    · intro a u X hB hu hp hr hz hl S
                      replace S : St w u ([] ++ X) := S
                      have e78 : sl a 78 = .bool ((p172.length : Int) != (w64 ((p113.length : Int) - 1))) := hp 17 rfl
                      exact .inl ⟨rfl, .bool ((p172.length : Int) != (w64 ((p113.length : Int) - 1))), u, (run_move rfl (ev_sl e78)), rfl, S⟩
                    · intro a u X hB hu hp hr hz hl S
                      replace S : St w u ([] ++ X) := S
                      have e79 : sl a 79 = .bool ((p172.length : Int) != (w64 ((p113.length : Int) - 1))) := hp 18 rfl
                      exact .inl ⟨(gr_wanted rfl ((gr_yield rfl rfl e79).trans (congrArg some hc176))), .agg #[.slice B161 p151.1.length d162, .slice B163 p151.2.1.length d164, .slice B165 p151.2.2.1.length d166], u, (run_loadN rfl ag26 (hF.evB hB rfl rfl) rfl ((gr_box S hl 3 rfl).cells 0 #[.slice B161 p151.1.length d162, .slice B163 p151.2.1.length d164, .slice B165 p151.2.2.1.length d166] rfl)), rfl, S⟩
                    · intro a u X hB hu hp hr hz hl S
                      replace S : St w u ([] ++ X) := S
                      have e79 : sl a 79 = .bool ((p172.length : Int) != (w64 ((p113.length : Int) - 1))) := hp 18 rfl
                      exact .inl ⟨(gr_wanted rfl ((gr_yield rfl rfl e79).trans (congrArg some hc176))), .int .i64 p102.2.2.2, u, (run_move rfl (hF.evB hB rfl rfl)), rfl, S⟩
                    · intro a u X hB hu hp hr hz hl S
                      replace S : St w u ([] ++ X) := S
                      have e79 : sl a 79 = .bool ((p172.length : Int) != (w64 ((p113.length : Int) - 1))) := hp 18 rfl
                      have e80 : sl a 80 = .agg #[.slice B161 p151.1.length d162, .slice B163 p151.2.1.length d164, .slice B165 p151.2.2.1.length d166] := hp 19 rfl
                      have e81 : sl a 81 = .int .i64 p102.2.2.2 := hp 20 rfl
                      refine .inr (.inr (.inl ⟨(gr_wanted rfl ((gr_yield rfl rfl e79).trans (congrArg some hc176))), _, _, (run_call (vs := [.agg #[.slice B161 p151.1.length d162, .slice B163 p151.2.1.length d164, .slice B165 p151.2.2.1.length d166], .int .i64 p102.2.2.2]) rfl rfl co8 ⟨(ev_sl e80), (ev_sl e81), trivial⟩), ?_⟩))
                      refine Calls.mono (c_impl_WorkHeld (x0 := p151.1) (x1 := p151.2.1) (x2 := p151.2.2.1) (x3 := p102.2.2.2) ⟨(gr_rc S hl 0 rfl), rfl⟩ ⟨(gr_rc S hl 1 rfl), rfl⟩ ⟨(gr_rc S hl 2 rfl), rfl⟩ h180) ?_
                      rintro e w1 ⟨B181, n182, d183, rfl, rfl, T⟩
                      exact ⟨_, rfl, rfl, S.call1 T⟩
                    · intro a u X hB hu hp hr hz hl S
                      replace S : St w u ([] ++ X) := S
                      have e79 : sl a 79 = .bool ((p172.length : Int) != (w64 ((p113.length : Int) - 1))) := hp 18 rfl
                      exact .inl ⟨(gr_wanted rfl ((gr_yield rfl rfl e79).trans (congrArg some hc176))), .slice B114 p113.length d116, u, (run_move rfl (hF.evB hB rfl rfl)), rfl, S⟩
                    · intro a u X hB hu hp hr hz hl S
                      replace S : St w u ([] ++ X) := S
                      have e79 : sl a 79 = .bool ((p172.length : Int) != (w64 ((p113.length : Int) - 1))) := hp 18 rfl
                      exact .inl ⟨(gr_wanted rfl ((gr_yield rfl rfl e79).trans (congrArg some hc176))), .int .i64 p126, u, (run_move rfl (hF.evB hB rfl rfl)), rfl, S⟩
                    · intro a u X hB hu hp hr hz hl S
                      replace S : St w u ([] ++ X) := S
                      have e79 : sl a 79 = .bool ((p172.length : Int) != (w64 ((p113.length : Int) - 1))) := hp 18 rfl
                      have e83 : sl a 83 = .slice B114 p113.length d116 := hp 22 rfl
                      have e84 : sl a 84 = .int .i64 p126 := hp 23 rfl
                      exact .inl ⟨(gr_wanted rfl ((gr_yield rfl rfl e79).trans (congrArg some hc176))), .pointer (some ⟨adB B114, adO B114 + p126.toNat * 1, none⟩), u, (run_indexAddr (b := adB B114) (off := adO B114) rfl Tryd.underlying29 sz3 ((ev_sl e83).trans (congrArg (fun A => Value.slice A p113.length d116) ((gr_rc S hl 13 rfl).rd.ad (ix_pos hk184)))) (ev_sl e84) hk184.1 hk184.2 (k' := adO B114 + p126.toNat * 1) rfl), rfl, S⟩
                    · intro a u X hB hu hp hr hz hl S
                      replace S : St w u ([] ++ X) := S
                      have e79 : sl a 79 = .bool ((p172.length : Int) != (w64 ((p113.length : Int) - 1))) := hp 18 rfl
                      have e85 : sl a 85 = .pointer (some ⟨adB B114, adO B114 + p126.toNat * 1, none⟩) := hp 24 rfl
                      exact .inl ⟨(gr_wanted rfl ((gr_yield rfl rfl e79).trans (congrArg some hc176))), .int .i64 (p113.getD p126.toNat (0 : Int)), u, (run_load1 rfl one3 (ev_sl e85) (rd_el0 (l := p113) (gr_rc S hl 13 rfl).rd rfl eI_len (0 : Int) (ix_ltn hk184 rfl) rfl)), rfl, S⟩
                    · intro a u X hB hu hp hr hz hl S
                      replace S : St w u ([] ++ X) := S
                      have e79 : sl a 79 = .bool ((p172.length : Int) != (w64 ((p113.length : Int) - 1))) := hp 18 rfl
                      have e82 : sl a 82 = .slice (slA (sl a 82)) p180.length (slC (sl a 82)) := hp 21 rfl
                      have e86 : sl a 86 = .int .i64 (p113.getD p126.toNat (0 : Int)) := hp 25 rfl
                      refine .inr (.inr (.inl ⟨(gr_wanted rfl ((gr_yield rfl rfl e79).trans (congrArg some hc176))), _, _, (run_call (vs := [.slice (slA (sl a 82)) p180.length (slC (sl a 82)), .int .i64 (p113.getD p126.toNat (0 : Int))]) rfl rfl co12 ⟨(ev_sl e82), (ev_sl e86), trivial⟩), ?_⟩))
                      refine Calls.mono (c_laws_hasInt (x0 := p180) (x1 := (p113.getD p126.toNat (0 : Int))) ⟨(own_rc (show World.ownsRow _ 0 _ _ _ _ _ from S.mem (List.mem_append_right _ (hr 21 (List.mem_of_getElem? (i := 0) rfl) _ (List.mem_of_getElem? (i := 0) rfl))))), rfl⟩ h185) ?_
                      rintro e w1 ⟨rfl, T⟩
                      exact ⟨_, rfl, rfl, S.call0 T⟩
                    · intro a u X hB hu hp hr hz hl S
                      replace S : St w u ([] ++ X) := S
                      have e79 : sl a 79 = .bool ((p172.length : Int) != (w64 ((p113.length : Int) - 1))) := hp 18 rfl
                      have e87 : sl a 87 = .bool p185 := hp 26 rfl
                      exact .inl ⟨rfl, .bool p185, u, (run_pick_f rfl (ev_sl e79) hc176 (ev_sl e87)), rfl, S⟩
                  · intro a u hB hp S
                    obtain ⟨q0, q1, q2, q3, q4, q5, q6, q7, q8, q9, q10, q11, q12, q13, q14, q15, q16, q17, q18, q19, q20, q21, q22, q23, q24, q25, q26, q27, _⟩ := hp
                    have e61 : sl a 61 = .bool p128.2.2.2 := q0
                    have e62 : sl a 62 = .bool p128.2.2.2 := q1
                    have e63 : sl a 63 = gv (!p128.2.2.2) (.bool p139.2.2.2) := q2
                    have e64 : sl a 64 = .bool (p128.2.2.2 || p139.2.2.2) := q3
                    have e65 : sl a 65 = .bool (p128.2.2.2 || p139.2.2.2) := q4
                    have e66 : sl a 66 = gv (!(p128.2.2.2 || p139.2.2.2)) (.bool p151.2.2.2) := q5
                    have e67 : sl a 67 = gv (!(p128.2.2.2 || p139.2.2.2)) (.bool (!p151.2.2.2)) := q6
                    have e68 : sl a 68 = .bool ((p128.2.2.2 || p139.2.2.2) || (!p151.2.2.2)) := q7
                    have e69 : sl a 69 = .bool ((p128.2.2.2 || p139.2.2.2) || (!p151.2.2.2)) := q8
                    have e70 : sl a 70 = .agg #[.slice B161 p151.1.length d162, .slice B163 p151.2.1.length d164, .slice B165 p151.2.2.1.length d166] := q9
                    have e71 : sl a 71 = .int .i64 p102.2.2.2 := q10
                    have e72 : sl a 72 = .slice (slA (sl a 72)) p172.length (slC (sl a 72)) := q11
                    have e73 : sl a 73 = .int .i64 (p172.length : Int) := q12
                    have e74 : sl a 74 = .slice B114 p113.length d116 := q13
                    have e75 : sl a 75 = .int .i64 (p113.length : Int) := q14
                    have e76 : sl a 76 = .int .i64 (w64 ((p113.length : Int) - 1)) := q15
                    have e77 : sl a 77 = .bool ((p172.length : Int) != (w64 ((p113.length : Int) - 1))) := q16
                    have e78 : sl a 78 = .bool ((p172.length : Int) != (w64 ((p113.length : Int) - 1))) := q17
                    have e79 : sl a 79 = .bool ((p172.length : Int) != (w64 ((p113.length : Int) - 1))) := q18
                    have e80 : sl a 80 = .agg #[.slice B161 p151.1.length d162, .slice B163 p151.2.1.length d164, .slice B165 p151.2.2.1.length d166] := q19
                    have e81 : sl a 81 = .int .i64 p102.2.2.2 := q20
                    have e82 : sl a 82 = .slice (slA (sl a 82)) p180.length (slC (sl a 82)) := q21
                    have e83 : sl a 83 = .slice B114 p113.length d116 := q22
                    have e84 : sl a 84 = .int .i64 p126 := q23
                    have e85 : sl a 85 = .pointer (some ⟨adB B114, adO B114 + p126.toNat * 1, none⟩) := q24
                    have e86 : sl a 86 = .int .i64 (p113.getD p126.toNat (0 : Int)) := q25
                    have e87 : sl a 87 = .bool p185 := q26
                    have e88 : sl a 88 = .bool p185 := q27
                    replace S : St w u [.row 3 1 (.slice (slA (sl a 72)) p172.length (slC (sl a 72))) p172.length (p172.flatMap eI), .row 3 1 (.slice (slA (sl a 82)) p180.length (slC (sl a 82))) p180.length (p180.flatMap eI), .row 4 1 (.slice B161 p151.1.length d162) p151.1.length (p151.1.flatMap eB), .row 4 1 (.slice B163 p151.2.1.length d164) p151.2.1.length (p151.2.1.flatMap eB), .row 48 2 (.slice B165 p151.2.2.1.length d166) p151.2.2.1.length (p151.2.2.1.flatMap ePermit), .box g167 26 #[.slice B161 p151.1.length d162, .slice B163 p151.2.1.length d164, .slice B165 p151.2.2.1.length d166], .box g149 26 #[.slice B140 p139.1.length d142, .slice B143 p139.2.1.length d145, .slice B146 p139.2.2.1.length d148], .row 4 1 (.slice B140 p139.1.length d142) p139.1.length (p139.1.flatMap eB), .row 4 1 (.slice B143 p139.2.1.length d145) p139.2.1.length (p139.2.1.flatMap eB), .row 48 2 (.slice B146 p139.2.2.1.length d148) p139.2.2.1.length (p139.2.2.1.flatMap ePermit), .box g138 26 #[.slice B129 p128.1.length d131, .slice B132 p128.2.1.length d134, .slice B135 p128.2.2.1.length d137], .row 4 1 (.slice B129 p128.1.length d131) p128.1.length (p128.1.flatMap eB), .row 4 1 (.slice B132 p128.2.1.length d134) p128.2.1.length (p128.2.1.flatMap eB), .row 48 2 (.slice B135 p128.2.2.1.length d137) p128.2.2.1.length (p128.2.2.1.flatMap ePermit), .box g112 26 #[.slice B103 p102.1.length d105, .slice B106 p102.2.1.length d108, .slice B109 p102.2.2.1.length d111], .row 3 1 (.slice B114 p113.length d116) p113.length (p113.flatMap eI), .row 4 1 (.slice B103 p102.1.length d105) p102.1.length (p102.1.flatMap eB), .row 4 1 (.slice B106 p102.2.1.length d108) p102.2.1.length (p102.2.1.flatMap eB), .row 48 2 (.slice B109 p102.2.2.1.length d111) p102.2.2.1.length (p102.2.2.1.flatMap ePermit)] := S
                    clear q0 q1 q2 q3 q4 q5 q6 q7 q8 q9 q10 q11 q12 q13 q14 q15 q16 q17 q18 q19 q20 q21 q22 q23 q24 q25 q26 q27
                    generalize slA (sl a 72) = B186 at *
                    generalize slC (sl a 72) = d187 at *
                    generalize slA (sl a 82) = B188 at *
                    generalize slC (sl a 82) = d189 at *
                    have hF := hF.region hB [(61, .bool p128.2.2.2), (62, .bool p128.2.2.2), (63, gv (!p128.2.2.2) (.bool p139.2.2.2)), (64, .bool (p128.2.2.2 || p139.2.2.2)), (65, .bool (p128.2.2.2 || p139.2.2.2)), (66, gv (!(p128.2.2.2 || p139.2.2.2)) (.bool p151.2.2.2)), (67, gv (!(p128.2.2.2 || p139.2.2.2)) (.bool (!p151.2.2.2))), (68, .bool ((p128.2.2.2 || p139.2.2.2) || (!p151.2.2.2))), (69, .bool ((p128.2.2.2 || p139.2.2.2) || (!p151.2.2.2))), (70, .agg #[.slice B161 p151.1.length d162, .slice B163 p151.2.1.length d164, .slice B165 p151.2.2.1.length d166]), (71, .int .i64 p102.2.2.2), (72, .slice B186 p172.length d187), (73, .int .i64 (p172.length : Int)), (74, .slice B114 p113.length d116), (75, .int .i64 (p113.length : Int)), (76, .int .i64 (w64 ((p113.length : Int) - 1))), (77, .bool ((p172.length : Int) != (w64 ((p113.length : Int) - 1)))), (78, .bool ((p172.length : Int) != (w64 ((p113.length : Int) - 1)))), (79, .bool ((p172.length : Int) != (w64 ((p113.length : Int) - 1)))), (80, .agg #[.slice B161 p151.1.length d162, .slice B163 p151.2.1.length d164, .slice B165 p151.2.2.1.length d166]), (81, .int .i64 p102.2.2.2), (82, .slice B188 p180.length d189), (83, .slice B114 p113.length d116), (84, .int .i64 p126), (85, .pointer (some ⟨adB B114, adO B114 + p126.toNat * 1, none⟩)), (86, .int .i64 (p113.getD p126.toNat (0 : Int))), (87, .bool p185), (88, .bool p185)] (allSl_mem ⟨e61, e62, e63, e64, e65, e66, e67, e68, e69, e70, e71, e72, e73, e74, e75, e76, e77, e78, e79, e80, e81, e82, e83, e84, e85, e86, e87, e88, trivial⟩) rfl
                    clear hB e61 e62 e63 e64 e65 e66 e67 e68 e69 e70 e71 e72 e73 e74 e75 e76 e77 e78 e79 e80 e81 e82 e83 e84 e85 e86 e87 e88
                    obtain rfl := Option.some.inj hM170
                    exact ⟨p185, rfl, hF.keep _ ⟨rfl, rfl, rfl, rfl, rfl, rfl, trivial⟩, S.sel [14, 15, 16, 17, 18] rfl rfl⟩
                · replace hM170 := bif_t hc176 hM170
                  refine region_gw (D := [61, 62, 63, 64, 65, 66, 67, 68, 69, 70, 71, 72, 73, 74, 75, 76, 77, 78, 79, 80, 81, 82, 83, 84, 85, 86, 87, 88]) (Lr := [.row 4 1 (.slice B161 p151.1.length d162) p151.1.length (p151.1.flatMap eB), .row 4 1 (.slice B163 p151.2.1.length d164) p151.2.1.length (p151.2.1.flatMap eB), .row 48 2 (.slice B165 p151.2.2.1.length d166) p151.2.2.1.length (p151.2.2.1.flatMap ePermit), .box g167 26 #[.slice B161 p151.1.length d162, .slice B163 p151.2.1.length d164, .slice B165 p151.2.2.1.length d166], .box g149 26 #[.slice B140 p139.1.length d142, .slice B143 p139.2.1.length d145, .slice B146 p139.2.2.1.length d148], .row 4 1 (.slice B140 p139.1.length d142) p139.1.length (p139.1.flatMap eB), .row 4 1 (.slice B143 p139.2.1.length d145) p139.2.1.length (p139.2.1.flatMap eB), .row 48 2 (.slice B146 p139.2.2.1.length d148) p139.2.2.1.length (p139.2.2.1.flatMap ePermit), .box g138 26 #[.slice B129 p128.1.length d131, .slice B132 p128.2.1.length d134, .slice B135 p128.2.2.1.length d137], .row 4 1 (.slice B129 p128.1.length d131) p128.1.length (p128.1.flatMap eB), .row 4 1 (.slice B132 p128.2.1.length d134) p128.2.1.length (p128.2.1.flatMap eB), .row 48 2 (.slice B135 p128.2.2.1.length d137) p128.2.2.1.length (p128.2.2.1.flatMap ePermit), .box g112 26 #[.slice B103 p102.1.length d105, .slice B106 p102.2.1.length d108, .slice B109 p102.2.2.1.length d111], .row 3 1 (.slice B114 p113.length d116) p113.length (p113.flatMap eI), .row 4 1 (.slice B103 p102.1.length d105) p102.1.length (p102.1.flatMap eB), .row 4 1 (.slice B106 p102.2.1.length d108) p102.2.1.length (p102.2.1.flatMap eB), .row 48 2 (.slice B109 p102.2.2.1.length d111) p102.2.2.1.length (p102.2.2.1.flatMap ePermit)]) (deps := (fun | 0 => [61] | 1 => [62] | 2 => [63] | 3 => [64] | 4 => [65] | 5 => [66] | 6 => [67] | 7 => [68] | 8 => [69] | 9 => [70] | 10 => [71] | 11 => [72] | 12 => [73] | 13 => [74] | 14 => [75] | 15 => [76] | 16 => [77] | 17 => [78] | 18 => [79] | 19 => [80] | 20 => [81] | 21 => [82] | 22 => [83] | 23 => [84] | 24 => [85] | 25 => [86] | 26 => [87] | 27 => [88] | _ => [])) (rd := (fun _ => [])) (zr := (fun _ => []))
                    (φ := fun i vs => match i, vs with | 0, [v61] => v61 = .bool p128.2.2.2 | 1, [v62] => v62 = .bool p128.2.2.2 | 2, [v63] => v63 = gv (!p128.2.2.2) (.bool p139.2.2.2) | 3, [v64] => v64 = .bool (p128.2.2.2 || p139.2.2.2) | 4, [v65] => v65 = .bool (p128.2.2.2 || p139.2.2.2) | 5, [v66] => v66 = gv (!(p128.2.2.2 || p139.2.2.2)) (.bool p151.2.2.2) | 6, [v67] => v67 = gv (!(p128.2.2.2 || p139.2.2.2)) (.bool (!p151.2.2.2)) | 7, [v68] => v68 = .bool ((p128.2.2.2 || p139.2.2.2) || (!p151.2.2.2)) | 8, [v69] => v69 = .bool ((p128.2.2.2 || p139.2.2.2) || (!p151.2.2.2)) | 9, [v70] => v70 = .agg #[.slice B161 p151.1.length d162, .slice B163 p151.2.1.length d164, .slice B165 p151.2.2.1.length d166] | 10, [v71] => v71 = .int .i64 p102.2.2.2 | 11, [v72] => v72 = .slice (slA v72) p172.length (slC v72) | 12, [v73] => v73 = .int .i64 (p172.length : Int) | 13, [v74] => v74 = .slice B114 p113.length d116 | 14, [v75] => v75 = .int .i64 (p113.length : Int) | 15, [v76] => v76 = .int .i64 (w64 ((p113.length : Int) - 1)) | 16, [v77] => v77 = .bool ((p172.length : Int) != (w64 ((p113.length : Int) - 1))) | 17, [v78] => v78 = .bool ((p172.length : Int) != (w64 ((p113.length : Int) - 1))) | 18, [v79] => v79 = .bool ((p172.length : Int) != (w64 ((p113.length : Int) - 1))) | 19, [v80] => v80 = undef | 20, [v81] => v81 = undef | 21, [v82] => v82 = undef | 22, [v83] => v83 = undef | 23, [v84] => v84 = undef | 24, [v85] => v85 = undef | 25, [v86] => v86 = undef | 26, [v87] => v87 = undef | 27, [v88] => v88 = .bool true | _, _ => True)
                    (C := fun i vs => match i, vs with | 11, [v72] => [.row 3 1 (.slice (slA v72) p172.length (slC v72)) p172.length (p172.flatMap eI)] | _, _ => [])
                    (κ := (fun _ => none)) (Z := (fun _ => [])) mixed hF (by kernel_rfl) S ?_ ?_
                  · refine ⟨?_, ?_, ?_, ?_, ?_, ?_, ?_, ?_, ?_, ?_, ?_, ?_, ?_, ?_, ?_, ?_, ?_, ?_, ?_, ?_, ?_, ?_, ?_, ?_, ?_, ?_, ?_, ?_, trivial⟩
                    · intro a u X hB hu hp hr hz hl S
                      replace S : St w u ([] ++ X) := S
                      exact .inl ⟨rfl, .bool p128.2.2.2, u, (run_move rfl (hF.evB hB rfl rfl)), rfl, S⟩
                    · intro a u X hB hu hp hr hz hl S
                      replace S : St w u ([] ++ X) := S
                      have e61 : sl a 61 = .bool p128.2.2.2 := hp 0 rfl
                      exact .inl ⟨rfl, .bool p128.2.2.2, u, (run_move rfl (ev_sl e61)), rfl, S⟩
                    · intro a u X hB hu hp hr hz hl S
                      replace S : St w u ([] ++ X) := S
                      have e62 : sl a 62 = .bool p128.2.2.2 := hp 1 rfl
                      rcases (Bool.eq_false_or_eq_true (!p128.2.2.2)).symm with hg | hg
                      · exact .inr (.inr (.inr ⟨gr_eg rfl (yf (gr_yield rfl rfl e62)) hg, (gv_f hg).symm, S⟩))
                      · exact .inl ⟨gr_eg rfl (yf (gr_yield rfl rfl e62)) hg, .bool p139.2.2.2, u, (run_move rfl (hF.evB hB rfl rfl)), (gv_t hg).symm, S⟩
                    · intro a u X hB hu hp hr hz hl S
                      replace S : St w u ([] ++ X) := S
                      have e62 : sl a 62 = .bool p128.2.2.2 := hp 1 rfl
                      have e63 : sl a 63 = gv (!p128.2.2.2) (.bool p139.2.2.2) := hp 2 rfl
                      exact .inl ⟨rfl, .bool (p128.2.2.2 || p139.2.2.2), u, (run_pick_or rfl (ev_sl e62) (ev_const _ _) (fun hp => ((ev_sl e63).trans (gv_t (not_t hp))))), rfl, S⟩
                    · intro a u X hB hu hp hr hz hl S
                      replace S : St w u ([] ++ X) := S
                      have e64 : sl a 64 = .bool (p128.2.2.2 || p139.2.2.2) := hp 3 rfl
                      exact .inl ⟨rfl, .bool (p128.2.2.2 || p139.2.2.2), u, (run_move rfl (ev_sl e64)), rfl, S⟩
                    · intro a u X hB hu hp hr hz hl S
                      replace S : St w u ([] ++ X) := S
                      have e65 : sl a 65 = .bool (p128.2.2.2 || p139.2.2.2) := hp 4 rfl
                      rcases (Bool.eq_false_or_eq_true (!(p128.2.2.2 || p139.2.2.2))).symm with hg | hg
                      · exact .inr (.inr (.inr ⟨gr_eg rfl (yf (gr_yield rfl rfl e65)) hg, (gv_f hg).symm, S⟩))
                      · exact .inl ⟨gr_eg rfl (yf (gr_yield rfl rfl e65)) hg, .bool p151.2.2.2, u, (run_move rfl (hF.evB hB rfl rfl)), (gv_t hg).symm, S⟩
                    · intro a u X hB hu hp hr hz hl S
                      replace S : St w u ([] ++ X) := S
                      have e65 : sl a 65 = .bool (p128.2.2.2 || p139.2.2.2) := hp 4 rfl
                      have e66 : sl a 66 = gv (!(p128.2.2.2 || p139.2.2.2)) (.bool p151.2.2.2) := hp 5 rfl
                      rcases (Bool.eq_false_or_eq_true (!(p128.2.2.2 || p139.2.2.2))).symm with hg | hg
                      · exact .inr (.inr (.inr ⟨gr_eg rfl (yf (gr_yield rfl rfl e65)) hg, (gv_f hg).symm, S⟩))
                      · exact .inl ⟨gr_eg rfl (yf (gr_yield rfl rfl e65)) hg, .bool (!p151.2.2.2), u, (run_not rfl ((ev_sl e66).trans (gv_t hg))), (gv_t hg).symm, S⟩
                    · intro a u X hB hu hp hr hz hl S
                      replace S : St w u ([] ++ X) := S
                      have e65 : sl a 65 = .bool (p128.2.2.2 || p139.2.2.2) := hp 4 rfl
                      have e67 : sl a 67 = gv (!(p128.2.2.2 || p139.2.2.2)) (.bool (!p151.2.2.2)) := hp 6 rfl
                      exact .inl ⟨rfl, .bool ((p128.2.2.2 || p139.2.2.2) || (!p151.2.2.2)), u, (run_pick_or rfl (ev_sl e65) (ev_const _ _) (fun hp => ((ev_sl e67).trans (gv_t (not_t hp))))), rfl, S⟩
                    · intro a u X hB hu hp hr hz hl S
                      replace S : St w u ([] ++ X) := S
                      have e68 : sl a 68 = .bool ((p128.2.2.2 || p139.2.2.2) || (!p151.2.2.2)) := hp 7 rfl
                      exact .inl ⟨rfl, .bool ((p128.2.2.2 || p139.2.2.2) || (!p151.2.2.2)), u, (run_move rfl (ev_sl e68)), rfl, S⟩
                    · intro a u X hB hu hp hr hz hl S
                      replace S : St w u ([] ++ X) := S
                      have e69 : sl a 69 = .bool ((p128.2.2.2 || p139.2.2.2) || (!p151.2.2.2)) := hp 8 rfl
                      exact .inl ⟨(gr_wanted rfl ((gr_yield rfl rfl e69).trans (congrArg some hc171))), .agg #[.slice B161 p151.1.length d162, .slice B163 p151.2.1.length d164, .slice B165 p151.2.2.1.length d166], u, (run_loadN rfl ag26 (hF.evB hB rfl rfl) rfl ((gr_box S hl 3 rfl).cells 0 #[.slice B161 p151.1.length d162, .slice B163 p151.2.1.length d164, .slice B165 p151.2.2.1.length d166] rfl)), rfl, S⟩
                    · intro a u X hB hu hp hr hz hl S
                      replace S : St w u ([] ++ X) := S
                      have e69 : sl a 69 = .bool ((p128.2.2.2 || p139.2.2.2) || (!p151.2.2.2)) := hp 8 rfl
                      exact .inl ⟨(gr_wanted rfl ((gr_yield rfl rfl e69).trans (congrArg some hc171))), .int .i64 p102.2.2.2, u, (run_move rfl (hF.evB hB rfl rfl)), rfl, S⟩
                    · intro a u X hB hu hp hr hz hl S
                      replace S : St w u ([] ++ X) := S
                      have e69 : sl a 69 = .bool ((p128.2.2.2 || p139.2.2.2) || (!p151.2.2.2)) := hp 8 rfl
                      have e70 : sl a 70 = .agg #[.slice B161 p151.1.length d162, .slice B163 p151.2.1.length d164, .slice B165 p151.2.2.1.length d166] := hp 9 rfl
                      have e71 : sl a 71 = .int .i64 p102.2.2.2 := hp 10 rfl
                      refine .inr (.inr (.inl ⟨(gr_wanted rfl ((gr_yield rfl rfl e69).trans (congrArg some hc171))), _, _, (run_call (vs := [.agg #[.slice B161 p151.1.length d162, .slice B163 p151.2.1.length d164, .slice B165 p151.2.2.1.length d166], .int .i64 p102.2.2.2]) rfl rfl co8 ⟨(ev_sl e70), (ev_sl e71), trivial⟩), ?_⟩))
                      refine Calls.mono (c_impl_WorkHeld (x0 := p151.1) (x1 := p151.2.1) (x2 := p151.2.2.1) (x3 := p102.2.2.2) ⟨(gr_rc S hl 0 rfl), rfl⟩ ⟨(gr_rc S hl 1 rfl), rfl⟩ ⟨(gr_rc S hl 2 rfl), rfl⟩ h172) ?_
                      rintro e w1 ⟨B190, n191, d192, rfl, rfl, T⟩
                      exact ⟨_, rfl, rfl, S.call1 T⟩
                    · intro a u X hB hu hp hr hz hl S
                      replace S : St w u ([] ++ X) := S
                      have e69 : sl a 69 = .bool ((p128.2.2.2 || p139.2.2.2) || (!p151.2.2.2)) := hp 8 rfl
                      have e72 : sl a 72 = .slice (slA (sl a 72)) p172.length (slC (sl a 72)) := hp 11 rfl
                      exact .inl ⟨(gr_wanted rfl ((gr_yield rfl rfl e69).trans (congrArg some hc171))), .int .i64 (p172.length : Int), u, (run_lenL rfl rfl Tryd.underlying29 (ev_sl e72)), rfl, S⟩
                    · intro a u X hB hu hp hr hz hl S
                      replace S : St w u ([] ++ X) := S
                      have e69 : sl a 69 = .bool ((p128.2.2.2 || p139.2.2.2) || (!p151.2.2.2)) := hp 8 rfl
                      exact .inl ⟨(gr_wanted rfl ((gr_yield rfl rfl e69).trans (congrArg some hc171))), .slice B114 p113.length d116, u, (run_move rfl (hF.evB hB rfl rfl)), rfl, S⟩
                    · intro a u X hB hu hp hr hz hl S
                      replace S : St w u ([] ++ X) := S
                      have e69 : sl a 69 = .bool ((p128.2.2.2 || p139.2.2.2) || (!p151.2.2.2)) := hp 8 rfl
                      have e74 : sl a 74 = .slice B114 p113.length d116 := hp 13 rfl
                      exact .inl ⟨(gr_wanted rfl ((gr_yield rfl rfl e69).trans (congrArg some hc171))), .int .i64 (p113.length : Int), u, (run_lenL rfl rfl Tryd.underlying29 (ev_sl e74)), rfl, S⟩
                    · intro a u X hB hu hp hr hz hl S
                      replace S : St w u ([] ++ X) := S
                      have e69 : sl a 69 = .bool ((p128.2.2.2 || p139.2.2.2) || (!p151.2.2.2)) := hp 8 rfl
                      have e75 : sl a 75 = .int .i64 (p113.length : Int) := hp 14 rfl
                      exact .inl ⟨(gr_wanted rfl ((gr_yield rfl rfl e69).trans (congrArg some hc171))), .int .i64 (w64 ((p113.length : Int) - 1)), u, (run_sub (z := w64 ((p113.length : Int) - 1)) (ev_sl e75) (ev_const _ _) rfl rfl), rfl, S⟩
                    · intro a u X hB hu hp hr hz hl S
                      replace S : St w u ([] ++ X) := S
                      have e69 : sl a 69 = .bool ((p128.2.2.2 || p139.2.2.2) || (!p151.2.2.2)) := hp 8 rfl
                      have e73 : sl a 73 = .int .i64 (p172.length : Int) := hp 12 rfl
                      have e76 : sl a 76 = .int .i64 (w64 ((p113.length : Int) - 1)) := hp 15 rfl
                      exact .inl ⟨(gr_wanted rfl ((gr_yield rfl rfl e69).trans (congrArg some hc171))), .bool ((p172.length : Int) != (w64 ((p113.length : Int) - 1))), u, (run_neq (ev_sl e73) (ev_sl e76) rfl), rfl, S⟩
                    · intro a u X hB hu hp hr hz hl S
                      replace S : St w u ([] ++ X) := S
                      have e69 : sl a 69 = .bool ((p128.2.2.2 || p139.2.2.2) || (!p151.2.2.2)) := hp 8 rfl
                      have e77 : sl a 77 = .bool ((p172.length : Int) != (w64 ((p113.length : Int) - 1))) := hp 16 rfl
                      exact .inl ⟨rfl, .bool ((p172.length : Int) != (w64 ((p113.length : Int) - 1))), u, (run_pick_f rfl (ev_sl e69) hc171 (ev_sl e77)), rfl, S⟩
                    · intro a u X hB hu hp hr hz hl S
                      replace S : St w u ([] ++ X) := S
                      have e78 : sl a 78 = .bool ((p172.length : Int) != (w64 ((p113.length : Int) - 1))) := hp 17 rfl
                      exact .inl ⟨rfl, .bool ((p172.length : Int) != (w64 ((p113.length : Int) - 1))), u, (run_move rfl (ev_sl e78)), rfl, S⟩
                    · intro a u X hB hu hp hr hz hl S
                      replace S : St w u ([] ++ X) := S
                      have e79 : sl a 79 = .bool ((p172.length : Int) != (w64 ((p113.length : Int) - 1))) := hp 18 rfl
                      exact .inr (.inr (.inr ⟨(gr_unwanted rfl ((gr_yield rfl rfl e79).trans (congrArg some hc176)) rfl), rfl, S⟩))
                    · intro a u X hB hu hp hr hz hl S
                      replace S : St w u ([] ++ X) := S
                      have e79 : sl a 79 = .bool ((p172.length : Int) != (w64 ((p113.length : Int) - 1))) := hp 18 rfl
                      exact .inr (.inr (.inr ⟨(gr_unwanted rfl ((gr_yield rfl rfl e79).trans (congrArg some hc176)) rfl), rfl, S⟩))
                    · intro a u X hB hu hp hr hz hl S
                      replace S : St w u ([] ++ X) := S
                      have e79 : sl a 79 = .bool ((p172.length : Int) != (w64 ((p113.length : Int) - 1))) := hp 18 rfl
                      exact .inr (.inr (.inr ⟨(gr_unwanted rfl ((gr_yield rfl rfl e79).trans (congrArg some hc176)) rfl), rfl, S⟩))
                    · intro a u X hB hu hp hr hz hl S
                      replace S : St w u ([] ++ X) := S
                      have e79 : sl a 79 = .bool ((p172.length : Int) != (w64 ((p113.length : Int) - 1))) := hp 18 rfl
                      exact .inr (.inr (.inr ⟨(gr_unwanted rfl ((gr_yield rfl rfl e79).trans (congrArg some hc176)) rfl), rfl, S⟩))
                    · intro a u X hB hu hp hr hz hl S
                      replace S : St w u ([] ++ X) := S
                      have e79 : sl a 79 = .bool ((p172.length : Int) != (w64 ((p113.length : Int) - 1))) := hp 18 rfl
                      exact .inr (.inr (.inr ⟨(gr_unwanted rfl ((gr_yield rfl rfl e79).trans (congrArg some hc176)) rfl), rfl, S⟩))
                    · intro a u X hB hu hp hr hz hl S
                      replace S : St w u ([] ++ X) := S
                      have e79 : sl a 79 = .bool ((p172.length : Int) != (w64 ((p113.length : Int) - 1))) := hp 18 rfl
                      exact .inr (.inr (.inr ⟨(gr_unwanted rfl ((gr_yield rfl rfl e79).trans (congrArg some hc176)) rfl), rfl, S⟩))
                    · intro a u X hB hu hp hr hz hl S
                      replace S : St w u ([] ++ X) := S
                      have e79 : sl a 79 = .bool ((p172.length : Int) != (w64 ((p113.length : Int) - 1))) := hp 18 rfl
                      exact .inr (.inr (.inr ⟨(gr_unwanted rfl ((gr_yield rfl rfl e79).trans (congrArg some hc176)) rfl), rfl, S⟩))
                    · intro a u X hB hu hp hr hz hl S
                      replace S : St w u ([] ++ X) := S
                      have e79 : sl a 79 = .bool ((p172.length : Int) != (w64 ((p113.length : Int) - 1))) := hp 18 rfl
                      exact .inr (.inr (.inr ⟨(gr_unwanted rfl ((gr_yield rfl rfl e79).trans (congrArg some hc176)) rfl), rfl, S⟩))
                    · intro a u X hB hu hp hr hz hl S
                      replace S : St w u ([] ++ X) := S
                      have e79 : sl a 79 = .bool ((p172.length : Int) != (w64 ((p113.length : Int) - 1))) := hp 18 rfl
                      exact .inl ⟨rfl, .bool true, u, (run_pick_t rfl (ev_sl e79) hc176 (ev_const _ _)), rfl, S⟩
                  · intro a u hB hp S
                    obtain ⟨q0, q1, q2, q3, q4, q5, q6, q7, q8, q9, q10, q11, q12, q13, q14, q15, q16, q17, q18, q19, q20, q21, q22, q23, q24, q25, q26, q27, _⟩ := hp
                    have e61 : sl a 61 = .bool p128.2.2.2 := q0
                    have e62 : sl a 62 = .bool p128.2.2.2 := q1
                    have e63 : sl a 63 = gv (!p128.2.2.2) (.bool p139.2.2.2) := q2
                    have e64 : sl a 64 = .bool (p128.2.2.2 || p139.2.2.2) := q3
                    have e65 : sl a 65 = .bool (p128.2.2.2 || p139.2.2.2) := q4
                    have e66 : sl a 66 = gv (!(p128.2.2.2 || p139.2.2.2)) (.bool p151.2.2.2) := q5
                    have e67 : sl a 67 = gv (!(p128.2.2.2 || p139.2.2.2)) (.bool (!p151.2.2.2)) := q6
                    have e68 : sl a 68 = .bool ((p128.2.2.2 || p139.2.2.2) || (!p151.2.2.2)) := q7
                    have e69 : sl a 69 = .bool ((p128.2.2.2 || p139.2.2.2) || (!p151.2.2.2)) := q8
                    have e70 : sl a 70 = .agg #[.slice B161 p151.1.length d162, .slice B163 p151.2.1.length d164, .slice B165 p151.2.2.1.length d166] := q9
                    have e71 : sl a 71 = .int .i64 p102.2.2.2 := q10
                    have e72 : sl a 72 = .slice (slA (sl a 72)) p172.length (slC (sl a 72)) := q11
                    have e73 : sl a 73 = .int .i64 (p172.length : Int) := q12
                    have e74 : sl a 74 = .slice B114 p113.length d116 := q13
                    have e75 : sl a 75 = .int .i64 (p113.length : Int) := q14
                    have e76 : sl a 76 = .int .i64 (w64 ((p113.length : Int) - 1)) := q15
                    have e77 : sl a 77 = .bool ((p172.length : Int) != (w64 ((p113.length : Int) - 1))) := q16
                    have e78 : sl a 78 = .bool ((p172.length : Int) != (w64 ((p113.length : Int) - 1))) := q17
                    have e79 : sl a 79 = .bool ((p172.length : Int) != (w64 ((p113.length : Int) - 1))) := q18
                    have e80 : sl a 80 = undef := q19
                    have e81 : sl a 81 = undef := q20
                    have e82 : sl a 82 = undef := q21
                    have e83 : sl a 83 = undef := q22
                    have e84 : sl a 84 = undef := q23
                    have e85 : sl a 85 = undef := q24
                    have e86 : sl a 86 = undef := q25
                    have e87 : sl a 87 = undef := q26
                    have e88 : sl a 88 = .bool true := q27
                    replace S : St w u [.row 3 1 (.slice (slA (sl a 72)) p172.length (slC (sl a 72))) p172.length (p172.flatMap eI), .row 4 1 (.slice B161 p151.1.length d162) p151.1.length (p151.1.flatMap eB), .row 4 1 (.slice B163 p151.2.1.length d164) p151.2.1.length (p151.2.1.flatMap eB), .row 48 2 (.slice B165 p151.2.2.1.length d166) p151.2.2.1.length (p151.2.2.1.flatMap ePermit), .box g167 26 #[.slice B161 p151.1.length d162, .slice B163 p151.2.1.length d164, .slice B165 p151.2.2.1.length d166], .box g149 26 #[.slice B140 p139.1.length d142, .slice B143 p139.2.1.length d145, .slice B146 p139.2.2.1.length d148], .row 4 1 (.slice B140 p139.1.length d142) p139.1.length (p139.1.flatMap eB), .row 4 1 (.slice B143 p139.2.1.length d145) p139.2.1.length (p139.2.1.flatMap eB), .row 48 2 (.slice B146 p139.2.2.1.length d148) p139.2.2.1.length (p139.2.2.1.flatMap ePermit), .box g138 26 #[.slice B129 p128.1.length d131, .slice B132 p128.2.1.length d134, .slice B135 p128.2.2.1.length d137], .row 4 1 (.slice B129 p128.1.length d131) p128.1.length (p128.1.flatMap eB), .row 4 1 (.slice B132 p128.2.1.length d134) p128.2.1.length (p128.2.1.flatMap eB), .row 48 2 (.slice B135 p128.2.2.1.length d137) p128.2.2.1.length (p128.2.2.1.flatMap ePermit), .box g112 26 #[.slice B103 p102.1.length d105, .slice B106 p102.2.1.length d108, .slice B109 p102.2.2.1.length d111], .row 3 1 (.slice B114 p113.length d116) p113.length (p113.flatMap eI), .row 4 1 (.slice B103 p102.1.length d105) p102.1.length (p102.1.flatMap eB), .row 4 1 (.slice B106 p102.2.1.length d108) p102.2.1.length (p102.2.1.flatMap eB), .row 48 2 (.slice B109 p102.2.2.1.length d111) p102.2.2.1.length (p102.2.2.1.flatMap ePermit)] := S
                    clear q0 q1 q2 q3 q4 q5 q6 q7 q8 q9 q10 q11 q12 q13 q14 q15 q16 q17 q18 q19 q20 q21 q22 q23 q24 q25 q26 q27
                    generalize slA (sl a 72) = B193 at *
                    generalize slC (sl a 72) = d194 at *
                    have hF := hF.region hB [(61, .bool p128.2.2.2), (62, .bool p128.2.2.2), (63, gv (!p128.2.2.2) (.bool p139.2.2.2)), (64, .bool (p128.2.2.2 || p139.2.2.2)), (65, .bool (p128.2.2.2 || p139.2.2.2)), (66, gv (!(p128.2.2.2 || p139.2.2.2)) (.bool p151.2.2.2)), (67, gv (!(p128.2.2.2 || p139.2.2.2)) (.bool (!p151.2.2.2))), (68, .bool ((p128.2.2.2 || p139.2.2.2) || (!p151.2.2.2))), (69, .bool ((p128.2.2.2 || p139.2.2.2) || (!p151.2.2.2))), (70, .agg #[.slice B161 p151.1.length d162, .slice B163 p151.2.1.length d164, .slice B165 p151.2.2.1.length d166]), (71, .int .i64 p102.2.2.2), (72, .slice B193 p172.length d194), (73, .int .i64 (p172.length : Int)), (74, .slice B114 p113.length d116), (75, .int .i64 (p113.length : Int)), (76, .int .i64 (w64 ((p113.length : Int) - 1))), (77, .bool ((p172.length : Int) != (w64 ((p113.length : Int) - 1)))), (78, .bool ((p172.length : Int) != (w64 ((p113.length : Int) - 1)))), (79, .bool ((p172.length : Int) != (w64 ((p113.length : Int) - 1)))), (80, undef), (81, undef), (82, undef), (83, undef), (84, undef), (85, undef), (86, undef), (87, undef), (88, .bool true)] (allSl_mem ⟨e61, e62, e63, e64, e65, e66, e67, e68, e69, e70, e71, e72, e73, e74, e75, e76, e77, e78, e79, e80, e81, e82, e83, e84, e85, e86, e87, e88, trivial⟩) rfl
                    clear hB e61 e62 e63 e64 e65 e66 e67 e68 e69 e70 e71 e72 e73 e74 e75 e76 e77 e78 e79 e80 e81 e82 e83 e84 e85 e86 e87 e88
                    obtain rfl := Option.some.inj hM170
                    exact ⟨true, rfl, hF.keep _ ⟨rfl, rfl, rfl, rfl, rfl, rfl, trivial⟩, S.sel [13, 14, 15, 16, 17] rfl rfl⟩
              · replace hM170 := bif_t hc171 hM170
                refine region_gw (D := [61, 62, 63, 64, 65, 66, 67, 68, 69, 70, 71, 72, 73, 74, 75, 76, 77, 78, 79, 80, 81, 82, 83, 84, 85, 86, 87, 88]) (Lr := [.row 4 1 (.slice B161 p151.1.length d162) p151.1.length (p151.1.flatMap eB), .row 4 1 (.slice B163 p151.2.1.length d164) p151.2.1.length (p151.2.1.flatMap eB), .row 48 2 (.slice B165 p151.2.2.1.length d166) p151.2.2.1.length (p151.2.2.1.flatMap ePermit), .box g167 26 #[.slice B161 p151.1.length d162, .slice B163 p151.2.1.length d164, .slice B165 p151.2.2.1.length d166], .box g149 26 #[.slice B140 p139.1.length d142, .slice B143 p139.2.1.length d145, .slice B146 p139.2.2.1.length d148], .row 4 1 (.slice B140 p139.1.length d142) p139.1.length (p139.1.flatMap eB), .row 4 1 (.slice B143 p139.2.1.length d145) p139.2.1.length (p139.2.1.flatMap eB), .row 48 2 (.slice B146 p139.2.2.1.length d148) p139.2.2.1.length (p139.2.2.1.flatMap ePermit), .box g138 26 #[.slice B129 p128.1.length d131, .slice B132 p128.2.1.length d134, .slice B135 p128.2.2.1.length d137], .row 4 1 (.slice B129 p128.1.length d131) p128.1.length (p128.1.flatMap eB), .row 4 1 (.slice B132 p128.2.1.length d134) p128.2.1.length (p128.2.1.flatMap eB), .row 48 2 (.slice B135 p128.2.2.1.length d137) p128.2.2.1.length (p128.2.2.1.flatMap ePermit), .box g112 26 #[.slice B103 p102.1.length d105, .slice B106 p102.2.1.length d108, .slice B109 p102.2.2.1.length d111], .row 3 1 (.slice B114 p113.length d116) p113.length (p113.flatMap eI), .row 4 1 (.slice B103 p102.1.length d105) p102.1.length (p102.1.flatMap eB), .row 4 1 (.slice B106 p102.2.1.length d108) p102.2.1.length (p102.2.1.flatMap eB), .row 48 2 (.slice B109 p102.2.2.1.length d111) p102.2.2.1.length (p102.2.2.1.flatMap ePermit)]) (deps := (fun | 0 => [61] | 1 => [62] | 2 => [63] | 3 => [64] | 4 => [65] | 5 => [66] | 6 => [67] | 7 => [68] | 8 => [69] | 9 => [70] | 10 => [71] | 11 => [72] | 12 => [73] | 13 => [74] | 14 => [75] | 15 => [76] | 16 => [77] | 17 => [78] | 18 => [79] | 19 => [80] | 20 => [81] | 21 => [82] | 22 => [83] | 23 => [84] | 24 => [85] | 25 => [86] | 26 => [87] | 27 => [88] | _ => [])) (rd := (fun _ => [])) (zr := (fun _ => []))
                  (φ := fun i vs => match i, vs with | 0, [v61] => v61 = .bool p128.2.2.2 | 1, [v62] => v62 = .bool p128.2.2.2 | 2, [v63] => v63 = gv (!p128.2.2.2) (.bool p139.2.2.2) | 3, [v64] => v64 = .bool (p128.2.2.2 || p139.2.2.2) | 4, [v65] => v65 = .bool (p128.2.2.2 || p139.2.2.2) | 5, [v66] => v66 = gv (!(p128.2.2.2 || p139.2.2.2)) (.bool p151.2.2.2) | 6, [v67] => v67 = gv (!(p128.2.2.2 || p139.2.2.2)) (.bool (!p151.2.2.2)) | 7, [v68] => v68 = .bool ((p128.2.2.2 || p139.2.2.2) || (!p151.2.2.2)) | 8, [v69] => v69 = .bool ((p128.2.2.2 || p139.2.2.2) || (!p151.2.2.2)) | 9, [v70] => v70 = undef | 10, [v71] => v71 = undef | 11, [v72] => v72 = undef | 12, [v73] => v73 = undef | 13, [v74] => v74 = undef | 14, [v75] => v75 = undef | 15, [v76] => v76 = undef | 16, [v77] => v77 = undef | 17, [v78] => v78 = .bool true | 18, [v79] => v79 = .bool true | 19, [v80] => v80 = undef | 20, [v81] => v81 = undef | 21, [v82] => v82 = undef | 22, [v83] => v83 = undef | 23, [v84] => v84 = undef | 24, [v85] => v85 = undef | 25, [v86] => v86 = undef | 26, [v87] => v87 = undef | 27, [v88] => v88 = .bool true | _, _ => True)
                  (C := fun _ _ => [])
                  (κ := (fun _ => none)) (Z := (fun _ => [])) mixed hF (by kernel_rfl) S ?_ ?_
                · refine ⟨?_, ?_, ?_, ?_, ?_, ?_, ?_, ?_, ?_, ?_, ?_, ?_, ?_, ?_, ?_, ?_, ?_, ?_, ?_, ?_, ?_, ?_, ?_, ?_, ?_, ?_, ?_, ?_, trivial⟩
                  · intro a u X hB hu hp hr hz hl S
                    replace S : St w u ([] ++ X) := S
                    exact .inl ⟨rfl, .bool p128.2.2.2, u, (run_move rfl (hF.evB hB rfl rfl)), rfl, S⟩
                  · intro a u X hB hu hp hr hz hl S
                    replace S : St w u ([] ++ X) := S
                    have e61 : sl a 61 = .bool p128.2.2.2 := hp 0 rfl
                    exact .inl ⟨rfl, .bool p128.2.2.2, u, (run_move rfl (ev_sl e61)), rfl, S⟩
                  · intro a u X hB hu hp hr hz hl S
                    replace S : St w u ([] ++ X) := S
                    have e62 : sl a 62 = .bool p128.2.2.2 := hp 1 rfl
                    rcases (Bool.eq_false_or_eq_true (!p128.2.2.2)).symm with hg | hg
                    · exact .inr (.inr (.inr ⟨gr_eg rfl (yf (gr_yield rfl rfl e62)) hg, (gv_f hg).symm, S⟩))
                    · exact .inl ⟨gr_eg rfl (yf (gr_yield rfl rfl e62)) hg, .bool p139.2.2.2, u, (run_move rfl (hF.evB hB rfl rfl)), (gv_t hg).symm, S⟩
                  · intro a u X hB hu hp hr hz hl S
                    replace S : St w u ([] ++ X) := S
                    have e62 : sl a 62 = .bool p128.2.2.2 := hp 1 rfl
                    have e63 : sl a 63 = gv (!p128.2.2.2) (.bool p139.2.2.2) := hp 2 rfl
                    exact .inl ⟨rfl, .bool (p128.2.2.2 || p139.2.2.2), u, (run_pick_or rfl (ev_sl e62) (ev_const _ _) (fun hp => ((ev_sl e63).trans (gv_t (not_t hp))))), rfl, S⟩
                  · intro a u X hB hu hp hr hz hl S
                    replace S : St w u ([] ++ X) := S
                    have e64 : sl a 64 = .bool (p128.2.2.2 || p139.2.2.2) := hp 3 rfl
                    exact .inl ⟨rfl, .bool (p128.2.2.2 || p139.2.2.2), u, (run_move rfl (ev_sl e64)), rfl, S⟩
                  · intro a u X hB hu hp hr hz hl S
                    replace S : St w u ([] ++ X) := S
                    have e65 : sl a 65 = .bool (p128.2.2.2 || p139.2.2.2) := hp 4 rfl
                    rcases (Bool.eq_false_or_eq_true (!(p128.2.2.2 || p139.2.2.2))).symm with hg | hg
                    · exact .inr (.inr (.inr ⟨gr_eg rfl (yf (gr_yield rfl rfl e65)) hg, (gv_f hg).symm, S⟩))
                    · exact .inl ⟨gr_eg rfl (yf (gr_yield rfl rfl e65)) hg, .bool p151.2.2.2, u, (run_move rfl (hF.evB hB rfl rfl)), (gv_t hg).symm, S⟩
                  · intro a u X hB hu hp hr hz hl S
                    replace S : St w u ([] ++ X) := S
                    have e65 : sl a 65 = .bool (p128.2.2.2 || p139.2.2.2) := hp 4 rfl
                    have e66 : sl a 66 = gv (!(p128.2.2.2 || p139.2.2.2)) (.bool p151.2.2.2) := hp 5 rfl
                    rcases (Bool.eq_false_or_eq_true (!(p128.2.2.2 || p139.2.2.2))).symm with hg | hg
                    · exact .inr (.inr (.inr ⟨gr_eg rfl (yf (gr_yield rfl rfl e65)) hg, (gv_f hg).symm, S⟩))
                    · exact .inl ⟨gr_eg rfl (yf (gr_yield rfl rfl e65)) hg, .bool (!p151.2.2.2), u, (run_not rfl ((ev_sl e66).trans (gv_t hg))), (gv_t hg).symm, S⟩
                  · intro a u X hB hu hp hr hz hl S
                    replace S : St w u ([] ++ X) := S
                    have e65 : sl a 65 = .bool (p128.2.2.2 || p139.2.2.2) := hp 4 rfl
                    have e67 : sl a 67 = gv (!(p128.2.2.2 || p139.2.2.2)) (.bool (!p151.2.2.2)) := hp 6 rfl
                    exact .inl ⟨rfl, .bool ((p128.2.2.2 || p139.2.2.2) || (!p151.2.2.2)), u, (run_pick_or rfl (ev_sl e65) (ev_const _ _) (fun hp => ((ev_sl e67).trans (gv_t (not_t hp))))), rfl, S⟩
                  · intro a u X hB hu hp hr hz hl S
                    replace S : St w u ([] ++ X) := S
                    have e68 : sl a 68 = .bool ((p128.2.2.2 || p139.2.2.2) || (!p151.2.2.2)) := hp 7 rfl
                    exact .inl ⟨rfl, .bool ((p128.2.2.2 || p139.2.2.2) || (!p151.2.2.2)), u, (run_move rfl (ev_sl e68)), rfl, S⟩
                  · intro a u X hB hu hp hr hz hl S
                    replace S : St w u ([] ++ X) := S
                    have e69 : sl a 69 = .bool ((p128.2.2.2 || p139.2.2.2) || (!p151.2.2.2)) := hp 8 rfl
                    exact .inr (.inr (.inr ⟨(gr_unwanted rfl ((gr_yield rfl rfl e69).trans (congrArg some hc171)) rfl), rfl, S⟩))
                  · intro a u X hB hu hp hr hz hl S
                    replace S : St w u ([] ++ X) := S
                    have e69 : sl a 69 = .bool ((p128.2.2.2 || p139.2.2.2) || (!p151.2.2.2)) := hp 8 rfl
                    exact .inr (.inr (.inr ⟨(gr_unwanted rfl ((gr_yield rfl rfl e69).trans (congrArg some hc171)) rfl), rfl, S⟩))
                  · intro a u X hB hu hp hr hz hl S
                    replace S : St w u ([] ++ X) := S
                    have e69 : sl a 69 = .bool ((p128.2.2.2 || p139.2.2.2) || (!p151.2.2.2)) := hp 8 rfl
                    exact .inr (.inr (.inr ⟨(gr_unwanted rfl ((gr_yield rfl rfl e69).trans (congrArg some hc171)) rfl), rfl, S⟩))
                  · intro a u X hB hu hp hr hz hl S
                    replace S : St w u ([] ++ X) := S
                    have e69 : sl a 69 = .bool ((p128.2.2.2 || p139.2.2.2) || (!p151.2.2.2)) := hp 8 rfl
                    exact .inr (.inr (.inr ⟨(gr_unwanted rfl ((gr_yield rfl rfl e69).trans (congrArg some hc171)) rfl), rfl, S⟩))
                  · intro a u X hB hu hp hr hz hl S
                    replace S : St w u ([] ++ X) := S
                    have e69 : sl a 69 = .bool ((p128.2.2.2 || p139.2.2.2) || (!p151.2.2.2)) := hp 8 rfl
                    exact .inr (.inr (.inr ⟨(gr_unwanted rfl ((gr_yield rfl rfl e69).trans (congrArg some hc171)) rfl), rfl, S⟩))
                  · intro a u X hB hu hp hr hz hl S
                    replace S : St w u ([] ++ X) := S
                    have e69 : sl a 69 = .bool ((p128.2.2.2 || p139.2.2.2) || (!p151.2.2.2)) := hp 8 rfl
                    exact .inr (.inr (.inr ⟨(gr_unwanted rfl ((gr_yield rfl rfl e69).trans (congrArg some hc171)) rfl), rfl, S⟩))
                  · intro a u X hB hu hp hr hz hl S
                    replace S : St w u ([] ++ X) := S
                    have e69 : sl a 69 = .bool ((p128.2.2.2 || p139.2.2.2) || (!p151.2.2.2)) := hp 8 rfl
                    exact .inr (.inr (.inr ⟨(gr_unwanted rfl ((gr_yield rfl rfl e69).trans (congrArg some hc171)) rfl), rfl, S⟩))
                  · intro a u X hB hu hp hr hz hl S
                    replace S : St w u ([] ++ X) := S
                    have e69 : sl a 69 = .bool ((p128.2.2.2 || p139.2.2.2) || (!p151.2.2.2)) := hp 8 rfl
                    exact .inr (.inr (.inr ⟨(gr_unwanted rfl ((gr_yield rfl rfl e69).trans (congrArg some hc171)) rfl), rfl, S⟩))
                  · intro a u X hB hu hp hr hz hl S
                    replace S : St w u ([] ++ X) := S
                    have e69 : sl a 69 = .bool ((p128.2.2.2 || p139.2.2.2) || (!p151.2.2.2)) := hp 8 rfl
                    exact .inl ⟨rfl, .bool true, u, (run_pick_t rfl (ev_sl e69) hc171 (ev_const _ _)), rfl, S⟩
                  · intro a u X hB hu hp hr hz hl S
                    replace S : St w u ([] ++ X) := S
                    have e78 : sl a 78 = .bool true := hp 17 rfl
                    exact .inl ⟨rfl, .bool true, u, (run_move rfl (ev_sl e78)), rfl, S⟩
                  · intro a u X hB hu hp hr hz hl S
                    replace S : St w u ([] ++ X) := S
                    have e79 : sl a 79 = .bool true := hp 18 rfl
                    exact .inr (.inr (.inr ⟨(gr_unwanted rfl ((gr_yield rfl rfl e79).trans (congrArg some rfl)) rfl), rfl, S⟩))
                  · intro a u X hB hu hp hr hz hl S
                    replace S : St w u ([] ++ X) := S
                    have e79 : sl a 79 = .bool true := hp 18 rfl
                    exact .inr (.inr (.inr ⟨(gr_unwanted rfl ((gr_yield rfl rfl e79).trans (congrArg some rfl)) rfl), rfl, S⟩))
                  · intro a u X hB hu hp hr hz hl S
                    replace S : St w u ([] ++ X) := S
                    have e79 : sl a 79 = .bool true := hp 18 rfl
                    exact .inr (.inr (.inr ⟨(gr_unwanted rfl ((gr_yield rfl rfl e79).trans (congrArg some rfl)) rfl), rfl, S⟩))
                  · intro a u X hB hu hp hr hz hl S
                    replace S : St w u ([] ++ X) := S
                    have e79 : sl a 79 = .bool true := hp 18 rfl
                    exact .inr (.inr (.inr ⟨(gr_unwanted rfl ((gr_yield rfl rfl e79).trans (congrArg some rfl)) rfl), rfl, S⟩))
                  · intro a u X hB hu hp hr hz hl S
                    replace S : St w u ([] ++ X) := S
                    have e79 : sl a 79 = .bool true := hp 18 rfl
                    exact .inr (.inr (.inr ⟨(gr_unwanted rfl ((gr_yield rfl rfl e79).trans (congrArg some rfl)) rfl), rfl, S⟩))
                  · intro a u X hB hu hp hr hz hl S
                    replace S : St w u ([] ++ X) := S
                    have e79 : sl a 79 = .bool true := hp 18 rfl
                    exact .inr (.inr (.inr ⟨(gr_unwanted rfl ((gr_yield rfl rfl e79).trans (congrArg some rfl)) rfl), rfl, S⟩))
                  · intro a u X hB hu hp hr hz hl S
                    replace S : St w u ([] ++ X) := S
                    have e79 : sl a 79 = .bool true := hp 18 rfl
                    exact .inr (.inr (.inr ⟨(gr_unwanted rfl ((gr_yield rfl rfl e79).trans (congrArg some rfl)) rfl), rfl, S⟩))
                  · intro a u X hB hu hp hr hz hl S
                    replace S : St w u ([] ++ X) := S
                    have e79 : sl a 79 = .bool true := hp 18 rfl
                    exact .inr (.inr (.inr ⟨(gr_unwanted rfl ((gr_yield rfl rfl e79).trans (congrArg some rfl)) rfl), rfl, S⟩))
                  · intro a u X hB hu hp hr hz hl S
                    replace S : St w u ([] ++ X) := S
                    have e79 : sl a 79 = .bool true := hp 18 rfl
                    exact .inl ⟨rfl, .bool true, u, (run_pick_t rfl (ev_sl e79) rfl (ev_const _ _)), rfl, S⟩
                · intro a u hB hp S
                  obtain ⟨q0, q1, q2, q3, q4, q5, q6, q7, q8, q9, q10, q11, q12, q13, q14, q15, q16, q17, q18, q19, q20, q21, q22, q23, q24, q25, q26, q27, _⟩ := hp
                  have e61 : sl a 61 = .bool p128.2.2.2 := q0
                  have e62 : sl a 62 = .bool p128.2.2.2 := q1
                  have e63 : sl a 63 = gv (!p128.2.2.2) (.bool p139.2.2.2) := q2
                  have e64 : sl a 64 = .bool (p128.2.2.2 || p139.2.2.2) := q3
                  have e65 : sl a 65 = .bool (p128.2.2.2 || p139.2.2.2) := q4
                  have e66 : sl a 66 = gv (!(p128.2.2.2 || p139.2.2.2)) (.bool p151.2.2.2) := q5
                  have e67 : sl a 67 = gv (!(p128.2.2.2 || p139.2.2.2)) (.bool (!p151.2.2.2)) := q6
                  have e68 : sl a 68 = .bool ((p128.2.2.2 || p139.2.2.2) || (!p151.2.2.2)) := q7
                  have e69 : sl a 69 = .bool ((p128.2.2.2 || p139.2.2.2) || (!p151.2.2.2)) := q8
                  have e70 : sl a 70 = undef := q9
                  have e71 : sl a 71 = undef := q10
                  have e72 : sl a 72 = undef := q11
                  have e73 : sl a 73 = undef := q12
                  have e74 : sl a 74 = undef := q13
                  have e75 : sl a 75 = undef := q14
                  have e76 : sl a 76 = undef := q15
                  have e77 : sl a 77 = undef := q16
                  have e78 : sl a 78 = .bool true := q17
                  have e79 : sl a 79 = .bool true := q18
                  have e80 : sl a 80 = undef := q19
                  have e81 : sl a 81 = undef := q20
                  have e82 : sl a 82 = undef := q21
                  have e83 : sl a 83 = undef := q22
                  have e84 : sl a 84 = undef := q23
                  have e85 : sl a 85 = undef := q24
                  have e86 : sl a 86 = undef := q25
                  have e87 : sl a 87 = undef := q26
                  have e88 : sl a 88 = .bool true := q27
                  replace S : St w u [.row 4 1 (.slice B161 p151.1.length d162) p151.1.length (p151.1.flatMap eB), .row 4 1 (.slice B163 p151.2.1.length d164) p151.2.1.length (p151.2.1.flatMap eB), .row 48 2 (.slice B165 p151.2.2.1.length d166) p151.2.2.1.length (p151.2.2.1.flatMap ePermit), .box g167 26 #[.slice B161 p151.1.length d162, .slice B163 p151.2.1.length d164, .slice B165 p151.2.2.1.length d166], .box g149 26 #[.slice B140 p139.1.length d142, .slice B143 p139.2.1.length d145, .slice B146 p139.2.2.1.length d148], .row 4 1 (.slice B140 p139.1.length d142) p139.1.length (p139.1.flatMap eB), .row 4 1 (.slice B143 p139.2.1.length d145) p139.2.1.length (p139.2.1.flatMap eB), .row 48 2 (.slice B146 p139.2.2.1.length d148) p139.2.2.1.length (p139.2.2.1.flatMap ePermit), .box g138 26 #[.slice B129 p128.1.length d131, .slice B132 p128.2.1.length d134, .slice B135 p128.2.2.1.length d137], .row 4 1 (.slice B129 p128.1.length d131) p128.1.length (p128.1.flatMap eB), .row 4 1 (.slice B132 p128.2.1.length d134) p128.2.1.length (p128.2.1.flatMap eB), .row 48 2 (.slice B135 p128.2.2.1.length d137) p128.2.2.1.length (p128.2.2.1.flatMap ePermit), .box g112 26 #[.slice B103 p102.1.length d105, .slice B106 p102.2.1.length d108, .slice B109 p102.2.2.1.length d111], .row 3 1 (.slice B114 p113.length d116) p113.length (p113.flatMap eI), .row 4 1 (.slice B103 p102.1.length d105) p102.1.length (p102.1.flatMap eB), .row 4 1 (.slice B106 p102.2.1.length d108) p102.2.1.length (p102.2.1.flatMap eB), .row 48 2 (.slice B109 p102.2.2.1.length d111) p102.2.2.1.length (p102.2.2.1.flatMap ePermit)] := S
                  clear q0 q1 q2 q3 q4 q5 q6 q7 q8 q9 q10 q11 q12 q13 q14 q15 q16 q17 q18 q19 q20 q21 q22 q23 q24 q25 q26 q27
                  have hF := hF.region hB [(61, .bool p128.2.2.2), (62, .bool p128.2.2.2), (63, gv (!p128.2.2.2) (.bool p139.2.2.2)), (64, .bool (p128.2.2.2 || p139.2.2.2)), (65, .bool (p128.2.2.2 || p139.2.2.2)), (66, gv (!(p128.2.2.2 || p139.2.2.2)) (.bool p151.2.2.2)), (67, gv (!(p128.2.2.2 || p139.2.2.2)) (.bool (!p151.2.2.2))), (68, .bool ((p128.2.2.2 || p139.2.2.2) || (!p151.2.2.2))), (69, .bool ((p128.2.2.2 || p139.2.2.2) || (!p151.2.2.2))), (70, undef), (71, undef), (72, undef), (73, undef), (74, undef), (75, undef), (76, undef), (77, undef), (78, .bool true), (79, .bool true), (80, undef), (81, undef), (82, undef), (83, undef), (84, undef), (85, undef), (86, undef), (87, undef), (88, .bool true)] (allSl_mem ⟨e61, e62, e63, e64, e65, e66, e67, e68, e69, e70, e71, e72, e73, e74, e75, e76, e77, e78, e79, e80, e81, e82, e83, e84, e85, e86, e87, e88, trivial⟩) rfl
                  clear hB e61 e62 e63 e64 e65 e66 e67 e68 e69 e70 e71 e72 e73 e74 e75 e76 e77 e78 e79 e80 e81 e82 e83 e84 e85 e86 e87 e88
                  obtain rfl := Option.some.inj hM170
                  exact ⟨true, rfl, hF.keep _ ⟨rfl, rfl, rfl, rfl, rfl, rfl, trivial⟩, S.sel [12, 13, 14, 15, 16] rfl rfl⟩
            · rintro a u ⟨p168, rfl, hF, S⟩
              cases hc195 : (p168)
              · replace hM125 := bif_f hc195 hM125
                refine cond_f hF rfl hc195 ?_
                refine wp_skip ?_
                refine wp_region_lit ?_
                refine op_val (v := .int .i64 p126) rfl rfl hF rfl (run_move rfl (hF.ev rfl)) ?_; clear hF; intro a hF
                refine op_val (v := .int .i64 (w64 (p126 + 1))) rfl rfl hF rfl (run_add (z := w64 (p126 + 1)) (hF.ev rfl) rfl rfl rfl) ?_; clear hF; intro a hF
                refine op_val (v := .int .i64 (w64 (p126 + 1))) rfl rfl hF rfl (run_assign rfl (hF.ev rfl)) ?_; clear hF; intro a hF
                refine wpList_nil ?_
                exact ⟨f1, Nat.lt_succ_self _, w64 (p126 + 1), hM125, hF.keep _ ⟨rfl, rfl, rfl, rfl, rfl, trivial⟩, S.sel [0, 1, 2, 3, 4] rfl rfl⟩
              · replace hM125 := bif_t hc195 hM125
                refine cond_t hF rfl hc195 ?_
                refine wp_seq ?_
                refine wp_region_lit ?_
                refine op_val (v := .bool false) rfl rfl hF rfl (run_assign rfl rfl) ?_; clear hF; intro a hF
                refine wpList_nil ?_
                refine wp_ret ?_
                repeat with_reducible (first | refine then_ret ?_ | refine in_ret ?_ | refine in_nrm ?_)
                refine ret1_gw (.inl rfl) hF rfl (res_tmp (hF.ev rfl)) ?_
                obtain rfl := Option.some.inj hM125
                obtain rfl := Option.some.inj hM
                exact ⟨rfl, S.sel [] rfl rfl⟩
      · rintro a u ⟨p123, rfl, hF, S⟩
        replace hM := elim_l hM
        refine wp_seq ?_
        refine wp_region_lit ?_
        obtain ⟨p196, h196, hM⟩ := bind_ex hM
        refine op_call rfl rfl hF rfl (run_call (vs := []) rfl rfl co13 trivial) (c_laws_alive   h196) ?_
        rintro e u ⟨rfl, T⟩
        refine ⟨_, rfl, ?_⟩
        clear hF; intro a hF
        replace S := S.call0 T; clear T
        refine op_val (v := .bool p196) rfl rfl hF rfl (run_assign rfl (hF.ev rfl)) ?_; clear hF; intro a hF
        refine wpList_nil ?_
        refine wp_ret ?_
        repeat with_reducible (first | refine then_ret ?_ | refine in_ret ?_ | refine in_nrm ?_)
        refine ret1_gw (.inl rfl) hF rfl (res_tmp (hF.ev rfl)) ?_
        obtain rfl := Option.some.inj hM
        exact ⟨rfl, S.sel [] rfl rfl⟩
  · replace hM := bif_t hc101 hM
    refine cond_t hF rfl hc101 ?_
    refine wp_seq ?_
    refine wp_region_lit ?_
    refine op_val (v := .bool true) rfl rfl hF rfl (run_assign rfl rfl) ?_; clear hF; intro a hF
    refine wpList_nil ?_
    refine wp_ret ?_
    repeat with_reducible (first | refine then_ret ?_ | refine in_ret ?_ | refine in_nrm ?_)
    refine ret1_gw (.inl rfl) hF rfl (res_tmp (hF.ev rfl)) ?_
    obtain rfl := Option.some.inj hM
    exact ⟨rfl, S.sel [] rfl rfl⟩

end Go.Proofs.YtnoeliaefhldmaaDoor
