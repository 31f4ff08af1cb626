/- Calls return what the models say. -/
import Derived.Test.YtnoeliaefhldmaaDoorDa3
namespace Go.Proofs.YtnoeliaefhldmaaDoor
open Go.ChangeShapes Go.WideShapes Go.ChangeAt Go.RowKit
set_option linter.unusedVariables false
set_option linter.unusedSimpArgs false

set_option maxHeartbeats 4000000 in
theorem c_spec_l20WorkDeed {x0 : List Int} {x1 : Int} {x2 : List Bool} {x3 : List Bool} {x4 : List (Int × Int)} {A0 : Option Addr} {n0 c0 : Nat} {g0 : Nat} {A2 : Option Addr} {n2 c2 : Nat} {Y2 : Asn} {A3 : Option Addr} {n3 c3 : Nat} {Y3 : Asn} {A4 : Option Addr} {n4 c4 : Nat} {Y4 : Asn} {w : World} {r : Int × Int × Int × Int} {w0 : World} {X : List Asn} (h0 : Rt w0 1 eU A0 n0 c0 x0) (h2 : n2 = x2.length) (hY2 : ∀ u, Y2.holds u → Rc u 1 A2 n2 c2 (x2.flatMap eB)) (h3 : n3 = x3.length) (hY3 : ∀ u, Y3.holds u → Rc u 1 A3 n3 c3 (x3.flatMap eB)) (h4 : n4 = x4.length) (hY4 : ∀ u, Y4.holds u → Rc u 2 A4 n4 c4 (x4.flatMap ePermit)) (S : St w0 w (Asn.box g0 78 #[.slice A0 n0 c0, .int .i64 x1] :: Y2 :: Y3 :: Y4 :: X)) (hM : m_spec_l20WorkDeed x0 x1 x2 x3 x4 = some r) :
    Calls Tryd.prog 36 #[.pointer (some ⟨g0, 0, none⟩), .agg #[.slice A2 n2 c2, .slice A3 n3 c3, .slice A4 n4 c4]] w (fun e w' => e = .returned (.agg #[.int .i64 r.1, .int .i64 r.2.1, .int .i64 r.2.2.1]) ∧ St w0 w' (Asn.box g0 78 #[.slice A0 n0 c0, .int .i64 r.2.2.2] :: Y2 :: Y3 :: Y4 :: X)) := by
  obtain rfl := h0.len
  obtain rfl := h2
  obtain rfl := h3
  obtain rfl := h4
  unfold m_spec_l20WorkDeed at hM
  refine calls_gw Tryd.func36 Tryd.ntmps36 rfl [(0, .pointer (some ⟨g0, 0, none⟩)), (1, .agg #[.slice A2 x2.length c2, .slice A3 x3.length c3, .slice A4 x4.length c4])] ⟨rfl, rfl, trivial⟩ rfl ?_
  intro a hF
  refine wp_seq ?_
  refine wp_region_lit ?_
  refine op_new (cs := #[.slice A2 x2.length c2, .slice A3 x3.length c3, .slice A4 x4.length c4]) rfl rfl hF rfl S (run_box rfl (hF.ev rfl) rfl) ?_; clear hF S; intro a g101 u hF S
  refine op_new (cs := #[.int .i64 0, .int .i64 0, .int .i64 0]) rfl rfl hF rfl S (run_allocZ rfl zr35) ?_; clear hF S; intro a g102 u hF S
  refine wpList_nil ?_
  refine wp_seq ?_
  obtain ⟨p103, h103, hM⟩ := bind_ex hM
  obtain ⟨p104, h104, hM⟩ := bind_ex hM
  obtain ⟨p105, h105, hM⟩ := bind_ex hM
  obtain ⟨p106, h106, hM⟩ := bind_ex hM
  obtain ⟨p107, h107, hM⟩ := bind_ex hM
  refine region_gw (D := [5, 6, 7, 8, 9, 10, 11, 12, 13, 14, 15, 16, 17, 18, 19, 20, 21, 22, 23]) (Lr := (Asn.box g101 26 #[.slice A2 x2.length c2, .slice A3 x3.length c3, .slice A4 x4.length c4] :: Y2 :: Y3 :: Y4 :: X)) (deps := (fun | 0 => [5] | 1 => [6] | 2 => [7] | 3 => [8] | 4 => [9] | 5 => [10] | 6 => [11] | 7 => [12] | 8 => [13] | 9 => [14] | 10 => [15] | 11 => [16] | 12 => [17] | 13 => [18] | 14 => [19] | 15 => [20] | 16 => [21] | 17 => [22] | 18 => [23] | 19 => [4] | _ => [])) (rd := (fun _ => [])) (zr := (fun _ => []))
    (φ := fun i vs => match i, vs with | 0, [v5] => v5 = .pointer (some ⟨g0, 0, none⟩) | 1, [v6] => v6 = .int .i64 p103.1 | 2, [v7] => v7 = .pointer (some ⟨g0, 0, none⟩) | 3, [v8] => v8 = .int .i64 p104.1 | 4, [v9] => v9 = .int .i64 (w64 (Int.tdiv p104.1 29)) | 5, [v10] => v10 = .int .i64 (w64 (p103.1 + (w64 (Int.tdiv p104.1 29)))) | 6, [v11] => v11 = .pointer (some ⟨g0, 0, none⟩) | 7, [v12] => v12 = .pointer (some ⟨g101, 0, none⟩) | 8, [v13] => v13 = .slice A2 x2.length c2 | 9, [v14] => v14 = .int .i64 (x2.length : Int) | 10, [v15] => v15 = .int .i64 (w64 ((x2.length : Int) + 1)) | 11, [v16] => v16 = .int .i64 p105.1 | 12, [v17] => v17 = .pointer (some ⟨g0, 0, none⟩) | 13, [v18] => v18 = .int .i64 p106.1 | 14, [v19] => v19 = .int .i64 (w64 (Int.tdiv p106.1 11)) | 15, [v20] => v20 = .int .i64 (w64 (p105.1 - (w64 (Int.tdiv p106.1 11)))) | 16, [v21] => v21 = .pointer (some ⟨g0, 0, none⟩) | 17, [v22] => v22 = .int .i64 p107.1 | 18, [v23] => v23 = .agg #[.int .i64 (w64 (p103.1 + (w64 (Int.tdiv p104.1 29)))), .int .i64 (w64 (p105.1 - (w64 (Int.tdiv p106.1 11)))), .int .i64 p107.1] | _, _ => True)
    (C := fun i vs => match i, vs with | 1, [v6] => [.box g0 78 #[.slice A0 x0.length c0, .int .i64 p103.2]] | 3, [v8] => [.box g0 78 #[.slice A0 x0.length c0, .int .i64 p104.2]] | 11, [v16] => [.box g0 78 #[.slice A0 x0.length c0, .int .i64 p105.2]] | 13, [v18] => [.box g0 78 #[.slice A0 x0.length c0, .int .i64 p106.2]] | 17, [v22] => [.box g0 78 #[.slice A0 x0.length c0, .int .i64 p107.2]] | 19, [v4] => [.box g102 35 #[.int .i64 (w64 (p103.1 + (w64 (Int.tdiv p104.1 29)))), .int .i64 (w64 (p105.1 - (w64 (Int.tdiv p106.1 11)))), .int .i64 p107.1]] | _, _ => [])
    (κ := (fun | 1 => some 3 | 3 => some 11 | 11 => some 13 | 13 => some 17 | _ => none)) (Z := (fun | 1 => [.box g0 78 #[.slice A0 x0.length c0, .int .i64 x1]] | 19 => [.box g102 35 #[.int .i64 0, .int .i64 0, .int .i64 0]] | _ => [])) mixed hF (by kernel_rfl) (show St w0 _ (Asn.box g0 78 #[.slice A0 x0.length c0, .int .i64 x1] :: Asn.box g102 35 #[.int .i64 0, .int .i64 0, .int .i64 0] :: Asn.box g101 26 #[.slice A2 x2.length c2, .slice A3 x3.length c3, .slice A4 x4.length c4] :: Y2 :: Y3 :: Y4 :: X) from S.selT (M := [.box g0 78 #[.slice A0 x0.length c0, .int .i64 x1], .box g102 35 #[.int .i64 0, .int .i64 0, .int .i64 0], .box g101 26 #[.slice A2 x2.length c2, .slice A3 x3.length c3, .slice A4 x4.length c4], Y2, Y3, Y4]) 6 [2, 0, 1, 3, 4, 5] rfl rfl rfl) ?_ ?_
  · refine ⟨?_, ?_, ?_, ?_, ?_, ?_, ?_, ?_, ?_, ?_, ?_, ?_, ?_, ?_, ?_, ?_, ?_, ?_, ?_, ?_, trivial⟩
    · intro a u X' hB hu hp hr hz hl S
      replace S : St w0 u ([] ++ X') := S
      exact .inl ⟨rfl, .pointer (some ⟨g0, 0, none⟩), u, (run_move rfl (hF.evB hB rfl rfl)), rfl, S⟩
    · intro a u X' hB hu hp hr hz hl S
      replace S : St w0 u ([.box g0 78 #[.slice A0 x0.length c0, .int .i64 x1]] ++ X') := S
      have e5 : sl a 5 = .pointer (some ⟨g0, 0, none⟩) := hp 0 rfl
      refine .inr (.inr (.inl ⟨rfl, _, _, (run_call (vs := [.pointer (some ⟨g0, 0, none⟩), .int .i64 6]) rfl rfl co29 ⟨(ev_sl e5), (ev_const _ _), trivial⟩), ?_⟩))
      refine Calls.mono (c_spec_l20Rd_pick (x0 := x0) (x1 := x1) (x2 := 6) ⟨h0.rc, rfl⟩ S h103) ?_
      rintro e w1 ⟨rfl, T⟩
      exact ⟨_, rfl, rfl, T⟩
    · intro a u X' hB hu hp hr hz hl S
      replace S : St w0 u ([] ++ X') := S
      exact .inl ⟨rfl, .pointer (some ⟨g0, 0, none⟩), u, (run_move rfl (hF.evB hB rfl rfl)), rfl, S⟩
    · intro a u X' hB hu hp hr hz hl S
      replace S : St w0 u ([.box g0 78 #[.slice A0 x0.length c0, .int .i64 p103.2]] ++ X') := S
      have e7 : sl a 7 = .pointer (some ⟨g0, 0, none⟩) := hp 2 rfl
      refine .inr (.inr (.inl ⟨rfl, _, _, (run_call (vs := [.pointer (some ⟨g0, 0, none⟩), .int .i64 30]) rfl rfl co29 ⟨(ev_sl e7), (ev_const _ _), trivial⟩), ?_⟩))
      refine Calls.mono (c_spec_l20Rd_pick (x0 := x0) (x1 := p103.2) (x2 := 30) ⟨h0.rc, rfl⟩ S h104) ?_
      rintro e w1 ⟨rfl, T⟩
      exact ⟨_, rfl, rfl, T⟩
    · intro a u X' hB hu hp hr hz hl S
      replace S : St w0 u ([] ++ X') := S
      have e8 : sl a 8 = .int .i64 p104.1 := hp 3 rfl
      exact .inl ⟨rfl, .int .i64 (w64 (Int.tdiv p104.1 29)), u, (run_quo (z := w64 (Int.tdiv p104.1 29)) (ev_sl e8) (ev_const _ _) rfl (by decide) rfl), rfl, S⟩
    · intro a u X' hB hu hp hr hz hl S
      replace S : St w0 u ([] ++ X') := S
      have e6 : sl a 6 = .int .i64 p103.1 := hp 1 rfl
      have e9 : sl a 9 = .int .i64 (w64 (Int.tdiv p104.1 29)) := hp 4 rfl
      exact .inl ⟨rfl, .int .i64 (w64 (p103.1 + (w64 (Int.tdiv p104.1 29)))), u, (run_add (z := w64 (p103.1 + (w64 (Int.tdiv p104.1 29)))) (ev_sl e6) (ev_sl e9) rfl rfl), rfl, S⟩
    · intro a u X' hB hu hp hr hz hl S
      replace S : St w0 u ([] ++ X') := S
      exact .inl ⟨rfl, .pointer (some ⟨g0, 0, none⟩), u, (run_move rfl (hF.evB hB rfl rfl)), rfl, S⟩
    · intro a u X' hB hu hp hr hz hl S
      replace S : St w0 u ([] ++ X') := S
      exact .inl ⟨rfl, .pointer (some ⟨g101, 0, none⟩), u, (run_fieldAddr rfl fl26_0 (hF.evB hB rfl rfl) rfl), rfl, S⟩
    · intro a u X' hB hu hp hr hz hl S
      replace S : St w0 u ([] ++ X') := S
      have e12 : sl a 12 = .pointer (some ⟨g101, 0, none⟩) := hp 7 rfl
      exact .inl ⟨rfl, .slice A2 x2.length c2, u, (run_load1 rfl one23 (ev_sl e12) ((gr_box S hl 0 rfl).cell rfl)), rfl, S⟩
    · intro a u X' hB hu hp hr hz hl S
      replace S : St w0 u ([] ++ X') := S
      have e13 : sl a 13 = .slice A2 x2.length c2 := hp 8 rfl
      exact .inl ⟨rfl, .int .i64 (x2.length : Int), u, (run_lenL rfl rfl Tryd.underlying23 (ev_sl e13)), rfl, S⟩
    · intro a u X' hB hu hp hr hz hl S
      replace S : St w0 u ([] ++ X') := S
      have e14 : sl a 14 = .int .i64 (x2.length : Int) := hp 9 rfl
      exact .inl ⟨rfl, .int .i64 (w64 ((x2.length : Int) + 1)), u, (run_add (z := w64 ((x2.length : Int) + 1)) (ev_sl e14) (ev_const _ _) rfl rfl), rfl, S⟩
    · intro a u X' hB hu hp hr hz hl S
      replace S : St w0 u ([.box g0 78 #[.slice A0 x0.length c0, .int .i64 p104.2]] ++ X') := S
      have e11 : sl a 11 = .pointer (some ⟨g0, 0, none⟩) := hp 6 rfl
      have e15 : sl a 15 = .int .i64 (w64 ((x2.length : Int) + 1)) := hp 10 rfl
      refine .inr (.inr (.inl ⟨rfl, _, _, (run_call (vs := [.pointer (some ⟨g0, 0, none⟩), .int .i64 (w64 ((x2.length : Int) + 1))]) rfl rfl co29 ⟨(ev_sl e11), (ev_sl e15), trivial⟩), ?_⟩))
      refine Calls.mono (c_spec_l20Rd_pick (x0 := x0) (x1 := p104.2) (x2 := w64 ((x2.length : Int) + 1)) ⟨h0.rc, rfl⟩ S h105) ?_
      rintro e w1 ⟨rfl, T⟩
      exact ⟨_, rfl, rfl, T⟩
    · intro a u X' hB hu hp hr hz hl S
      replace S : St w0 u ([] ++ X') := S
      exact .inl ⟨rfl, .pointer (some ⟨g0, 0, none⟩), u, (run_move rfl (hF.evB hB rfl rfl)), rfl, S⟩
    · intro a u X' hB hu hp hr hz hl S
      replace S : St w0 u ([.box g0 78 #[.slice A0 x0.length c0, .int .i64 p105.2]] ++ X') := S
      have e17 : sl a 17 = .pointer (some ⟨g0, 0, none⟩) := hp 12 rfl
      refine .inr (.inr (.inl ⟨rfl, _, _, (run_call (vs := [.pointer (some ⟨g0, 0, none⟩), .int .i64 12]) rfl rfl co29 ⟨(ev_sl e17), (ev_const _ _), trivial⟩), ?_⟩))
      refine Calls.mono (c_spec_l20Rd_pick (x0 := x0) (x1 := p105.2) (x2 := 12) ⟨h0.rc, rfl⟩ S h106) ?_
      rintro e w1 ⟨rfl, T⟩
      exact ⟨_, rfl, rfl, T⟩
    · intro a u X' hB hu hp hr hz hl S
      replace S : St w0 u ([] ++ X') := S
      have e18 : sl a 18 = .int .i64 p106.1 := hp 13 rfl
      exact .inl ⟨rfl, .int .i64 (w64 (Int.tdiv p106.1 11)), u, (run_quo (z := w64 (Int.tdiv p106.1 11)) (ev_sl e18) (ev_const _ _) rfl (by decide) rfl), rfl, S⟩
    · intro a u X' hB hu hp hr hz hl S
      replace S : St w0 u ([] ++ X') := S
      have e16 : sl a 16 = .int .i64 p105.1 := hp 11 rfl
      have e19 : sl a 19 = .int .i64 (w64 (Int.tdiv p106.1 11)) := hp 14 rfl
      exact .inl ⟨rfl, .int .i64 (w64 (p105.1 - (w64 (Int.tdiv p106.1 11)))), u, (run_sub (z := w64 (p105.1 - (w64 (Int.tdiv p106.1 11)))) (ev_sl e16) (ev_sl e19) rfl rfl), rfl, S⟩
    · intro a u X' hB hu hp hr hz hl S
      replace S : St w0 u ([] ++ X') := S
      exact .inl ⟨rfl, .pointer (some ⟨g0, 0, none⟩), u, (run_move rfl (hF.evB hB rfl rfl)), rfl, S⟩
    · intro a u X' hB hu hp hr hz hl S
      replace S : St w0 u ([.box g0 78 #[.slice A0 x0.length c0, .int .i64 p106.2]] ++ X') := S
      have e21 : sl a 21 = .pointer (some ⟨g0, 0, none⟩) := hp 16 rfl
      refine .inr (.inr (.inl ⟨rfl, _, _, (run_call (vs := [.pointer (some ⟨g0, 0, none⟩), .int .i64 4]) rfl rfl co29 ⟨(ev_sl e21), (ev_const _ _), trivial⟩), ?_⟩))
      refine Calls.mono (c_spec_l20Rd_pick (x0 := x0) (x1 := p106.2) (x2 := 4) ⟨h0.rc, rfl⟩ S h107) ?_
      rintro e w1 ⟨rfl, T⟩
      exact ⟨_, rfl, rfl, T⟩
    · intro a u X' hB hu hp hr hz hl S
      replace S : St w0 u ([] ++ X') := S
      have e10 : sl a 10 = .int .i64 (w64 (p103.1 + (w64 (Int.tdiv p104.1 29)))) := hp 5 rfl
      have e20 : sl a 20 = .int .i64 (w64 (p105.1 - (w64 (Int.tdiv p106.1 11)))) := hp 15 rfl
      have e22 : sl a 22 = .int .i64 p107.1 := hp 17 rfl
      exact .inl ⟨rfl, .agg #[.int .i64 (w64 (p103.1 + (w64 (Int.tdiv p104.1 29)))), .int .i64 (w64 (p105.1 - (w64 (Int.tdiv p106.1 11)))), .int .i64 p107.1], u, (run_build (vs := [(0, .int .i64 (w64 (p103.1 + (w64 (Int.tdiv p104.1 29))))), (1, .int .i64 (w64 (p105.1 - (w64 (Int.tdiv p106.1 11))))), (2, .int .i64 p107.1)]) rfl ⟨⟨rfl, (ev_sl e10)⟩, ⟨rfl, (ev_sl e20)⟩, ⟨rfl, (ev_sl e22)⟩, trivial⟩ (bd35_0_1_2 rfl rfl rfl)), rfl, S⟩
    · intro a u X' hB hu hp hr hz hl S
      replace S : St w0 u ([.box g102 35 #[.int .i64 0, .int .i64 0, .int .i64 0]] ++ X') := S
      have e23 : sl a 23 = .agg #[.int .i64 (w64 (p103.1 + (w64 (Int.tdiv p104.1 29)))), .int .i64 (w64 (p105.1 - (w64 (Int.tdiv p106.1 11)))), .int .i64 p107.1] := hp 18 rfl
      exact .inr (.inl ⟨rfl, _, run_store (cs' := #[.int .i64 (w64 (p103.1 + (w64 (Int.tdiv p104.1 29)))), .int .i64 (w64 (p105.1 - (w64 (Int.tdiv p106.1 11)))), .int .i64 p107.1]) rfl sz35 (hF.evB hB rfl rfl) (ev_sl e23) rfl rfl rfl (S.free 0 rfl) rfl rfl, trivial, S.put 0 rfl (#[.int .i64 (w64 (p103.1 + (w64 (Int.tdiv p104.1 29)))), .int .i64 (w64 (p105.1 - (w64 (Int.tdiv p106.1 11)))), .int .i64 p107.1])⟩)
  · intro a u hB hp S
    obtain ⟨q0, q1, q2, q3, q4, q5, q6, q7, q8, q9, q10, q11, q12, q13, q14, q15, q16, q17, q18, q19, _⟩ := hp
    have e5 : sl a 5 = .pointer (some ⟨g0, 0, none⟩) := q0
    have e6 : sl a 6 = .int .i64 p103.1 := q1
    have e7 : sl a 7 = .pointer (some ⟨g0, 0, none⟩) := q2
    have e8 : sl a 8 = .int .i64 p104.1 := q3
    have e9 : sl a 9 = .int .i64 (w64 (Int.tdiv p104.1 29)) := q4
    have e10 : sl a 10 = .int .i64 (w64 (p103.1 + (w64 (Int.tdiv p104.1 29)))) := q5
    have e11 : sl a 11 = .pointer (some ⟨g0, 0, none⟩) := q6
    have e12 : sl a 12 = .pointer (some ⟨g101, 0, none⟩) := q7
    have e13 : sl a 13 = .slice A2 x2.length c2 := q8
    have e14 : sl a 14 = .int .i64 (x2.length : Int) := q9
    have e15 : sl a 15 = .int .i64 (w64 ((x2.length : Int) + 1)) := q10
    have e16 : sl a 16 = .int .i64 p105.1 := q11
    have e17 : sl a 17 = .pointer (some ⟨g0, 0, none⟩) := q12
    have e18 : sl a 18 = .int .i64 p106.1 := q13
    have e19 : sl a 19 = .int .i64 (w64 (Int.tdiv p106.1 11)) := q14
    have e20 : sl a 20 = .int .i64 (w64 (p105.1 - (w64 (Int.tdiv p106.1 11)))) := q15
    have e21 : sl a 21 = .pointer (some ⟨g0, 0, none⟩) := q16
    have e22 : sl a 22 = .int .i64 p107.1 := q17
    have e23 : sl a 23 = .agg #[.int .i64 (w64 (p103.1 + (w64 (Int.tdiv p104.1 29)))), .int .i64 (w64 (p105.1 - (w64 (Int.tdiv p106.1 11)))), .int .i64 p107.1] := q18
    replace S : St w0 u (Asn.box g0 78 #[.slice A0 x0.length c0, .int .i64 p107.2] :: Asn.box g102 35 #[.int .i64 (w64 (p103.1 + (w64 (Int.tdiv p104.1 29)))), .int .i64 (w64 (p105.1 - (w64 (Int.tdiv p106.1 11)))), .int .i64 p107.1] :: Asn.box g101 26 #[.slice A2 x2.length c2, .slice A3 x3.length c3, .slice A4 x4.length c4] :: Y2 :: Y3 :: Y4 :: X) := S
    clear q0 q1 q2 q3 q4 q5 q6 q7 q8 q9 q10 q11 q12 q13 q14 q15 q16 q17 q18 q19
    have hF := hF.region hB [(5, .pointer (some ⟨g0, 0, none⟩)), (6, .int .i64 p103.1), (7, .pointer (some ⟨g0, 0, none⟩)), (8, .int .i64 p104.1), (9, .int .i64 (w64 (Int.tdiv p104.1 29))), (10, .int .i64 (w64 (p103.1 + (w64 (Int.tdiv p104.1 29))))), (11, .pointer (some ⟨g0, 0, none⟩)), (12, .pointer (some ⟨g101, 0, none⟩)), (13, .slice A2 x2.length c2), (14, .int .i64 (x2.length : Int)), (15, .int .i64 (w64 ((x2.length : Int) + 1))), (16, .int .i64 p105.1), (17, .pointer (some ⟨g0, 0, none⟩)), (18, .int .i64 p106.1), (19, .int .i64 (w64 (Int.tdiv p106.1 11))), (20, .int .i64 (w64 (p105.1 - (w64 (Int.tdiv p106.1 11))))), (21, .pointer (some ⟨g0, 0, none⟩)), (22, .int .i64 p107.1), (23, .agg #[.int .i64 (w64 (p103.1 + (w64 (Int.tdiv p104.1 29)))), .int .i64 (w64 (p105.1 - (w64 (Int.tdiv p106.1 11)))), .int .i64 p107.1])] (allSl_mem ⟨e5, e6, e7, e8, e9, e10, e11, e12, e13, e14, e15, e16, e17, e18, e19, e20, e21, e22, e23, trivial⟩) rfl
    clear hB e5 e6 e7 e8 e9 e10 e11 e12 e13 e14 e15 e16 e17 e18 e19 e20 e21 e22 e23
    refine wp_ret ?_
    repeat with_reducible (first | refine then_ret ?_ | refine in_ret ?_ | refine in_nrm ?_)
    refine ret1_gw (.inl rfl) hF rfl (res_cell (hF.ev rfl) (res_loadN ag35 rfl (S.cells 1 rfl 0 #[.int .i64 (w64 (p103.1 + (w64 (Int.tdiv p104.1 29)))), .int .i64 (w64 (p105.1 - (w64 (Int.tdiv p106.1 11)))), .int .i64 p107.1] rfl))) ?_
    obtain rfl := Option.some.inj hM
    exact ⟨rfl, S.selT (M := [.box g0 78 #[.slice A0 x0.length c0, .int .i64 p107.2], Y2, Y3, Y4]) 6 [0, 3, 4, 5] rfl rfl rfl⟩

set_option maxHeartbeats 4000000 in
theorem c_spec_DrawWorkDo {x0 : List Int} {A0 : Option Addr} {n0 c0 : Nat} {w : World} {r : List Bool × List Bool × List (Int × Int) × Int × Int × Int} (h0 : Rt w 1 eU A0 n0 c0 x0) (hM : m_spec_DrawWorkDo x0 = some r) :
    Calls Tryd.prog 14 #[.slice A0 n0 c0] w (fun e w' => ∃ (B0 : Option Addr) (N0 D0 : Nat) (B1 : Option Addr) (N1 D1 : Nat) (B2 : Option Addr) (N2 D2 : Nat), e = .returned (.tuple #[.agg #[.slice B0 N0 D0, .slice B1 N1 D1, .slice B2 N2 D2], .agg #[.int .i64 r.2.2.2.1, .int .i64 r.2.2.2.2.1, .int .i64 r.2.2.2.2.2]]) ∧ N0 = r.1.length ∧ N1 = r.2.1.length ∧ N2 = r.2.2.1.length ∧ St w w' [.row 4 1 (.slice B0 N0 D0) N0 (r.1.flatMap eB), .row 4 1 (.slice B1 N1 D1) N1 (r.2.1.flatMap eB), .row 48 2 (.slice B2 N2 D2) N2 (r.2.2.1.flatMap ePermit)]) := by
  obtain rfl := h0.len
  unfold m_spec_DrawWorkDo at hM
  refine calls_gw Tryd.func14 Tryd.ntmps14 rfl [(0, .slice A0 x0.length c0)] ⟨rfl, trivial⟩ rfl ?_
  intro a hF
  have S := St.nil w
  refine wp_seq ?_
  refine wp_region_lit ?_
  refine op_new (cs := #[.slice none 0 0, .slice none 0 0, .slice none 0 0]) rfl rfl hF rfl S (run_allocZ rfl zr26) ?_; clear hF S; intro a g101 u hF S
  refine op_new (cs := #[.int .i64 0, .int .i64 0, .int .i64 0]) rfl rfl hF rfl S (run_allocZ rfl zr35) ?_; clear hF S; intro a g102 u hF S
  refine wpList_nil ?_
  refine wp_seq ?_
  refine wp_region_lit ?_
  refine op_val (v := .slice A0 x0.length c0) rfl rfl hF rfl (run_move rfl (hF.ev rfl)) ?_; clear hF; intro a hF
  refine op_call rfl rfl hF rfl (run_call (vs := [.slice A0 x0.length c0]) rfl rfl co27 ⟨(hF.ev rfl), trivial⟩) (c_spec_l20Open ⟨(S.rc0 h0.rc), rfl⟩) ?_
  rintro e u ⟨g103, rfl, T⟩
  refine ⟨_, rfl, ?_⟩
  clear hF; intro a hF
  replace S := S.call1 T; clear T
  refine op_val (v := .pointer (some ⟨g103, 0, none⟩)) rfl rfl hF rfl (run_assign rfl (hF.ev rfl)) ?_; clear hF; intro a hF
  refine wpList_nil ?_
  refine wp_seq ?_
  refine wp_region_lit ?_
  refine op_val (v := .pointer (some ⟨g103, 0, none⟩)) rfl rfl hF rfl (run_move rfl (hF.ev rfl)) ?_; clear hF; intro a hF
  obtain ⟨p104, h104, hM⟩ := bind_ex hM
  refine op_call rfl rfl hF rfl (run_call (vs := [.pointer (some ⟨g103, 0, none⟩), .int .i64 9]) rfl rfl co28 ⟨(hF.ev rfl), rfl, trivial⟩) (c_spec_l20Work (x0 := x0.take 2000) (x1 := 0) (x2 := 9) ⟨(op_rc h0.rc rfl), rfl⟩ (show St w _ [.box g103 78 #[.slice (opA c0 x0.length A0) ((x0.take 2000).length) c0, .int .i64 0], .box g102 35 #[.int .i64 0, .int .i64 0, .int .i64 0], .box g101 26 #[.slice none 0 0, .slice none 0 0, .slice none 0 0]] from S.sel [0, 1, 2] rfl rfl) h104) ?_
  rintro e u ⟨B105, n106, d107, B108, n109, d110, B111, n112, d113, rfl, rfl, rfl, rfl, T⟩
  refine ⟨_, rfl, ?_⟩
  clear hF; intro a hF
  clear S; have S := T; clear T
  refine op_new (cs := #[.slice none 0 0, .slice none 0 0, .slice none 0 0]) rfl rfl hF rfl S (run_allocZ rfl zr26) ?_; clear hF S; intro a g114 u hF S
  refine op_do rfl rfl (run_store (cs' := #[.slice B105 p104.1.length d107, .slice B108 p104.2.1.length d110, .slice B111 p104.2.2.1.length d113]) rfl sz26 (hF.ev rfl) (hF.ev rfl) rfl rfl rfl (S.free 0 rfl) rfl rfl) ?_; replace S := S.put 0 rfl (#[.slice B105 p104.1.length d107, .slice B108 p104.2.1.length d110, .slice B111 p104.2.2.1.length d113])
  generalize World.setRow _ _ _ = u at S ⊢
  refine wpList_nil ?_
  refine wp_seq ?_
  refine wp_seq ?_
  obtain ⟨o116, hM117, hM⟩ := bind_ex hM
  refine wp_cut (fun a u => ∃ (p115 : Bool × Int), p115 = o116 ∧ Fr a 39 [(2, .pointer (some ⟨g101, 0, none⟩)), (3, .pointer (some ⟨g102, 0, none⟩)), (4, .pointer (some ⟨g103, 0, none⟩)), (5, .pointer (some ⟨g114, 0, none⟩)), (19, .bool p115.1)] ∧ St w u [.box g114 26 #[.slice B105 p104.1.length d107, .slice B108 p104.2.1.length d110, .slice B111 p104.2.2.1.length d113], .box g103 78 #[.slice (opA c0 x0.length A0) ((x0.take 2000).length) c0, .int .i64 p115.2], .box g102 35 #[.int .i64 0, .int .i64 0, .int .i64 0], .box g101 26 #[.slice none 0 0, .slice none 0 0, .slice none 0 0], .row 4 1 (.slice B105 p104.1.length d107) p104.1.length (p104.1.flatMap eB), .row 4 1 (.slice B108 p104.2.1.length d110) p104.2.1.length (p104.2.1.flatMap eB), .row 48 2 (.slice B111 p104.2.2.1.length d113) p104.2.2.1.length (p104.2.2.1.flatMap ePermit)]) ?_ ?_
  · have _ := trivial
    refine wp_region_lit ?_
    refine op_val (v := .pointer (some ⟨g114, 2, none⟩)) rfl rfl hF rfl (run_fieldAddr rfl fl26_2 (hF.ev rfl) rfl) ?_; clear hF; intro a hF
    refine op_val (v := .slice B111 p104.2.2.1.length d113) rfl rfl hF rfl (run_load1 rfl one24 (hF.ev rfl) ((S.free 0 rfl).cell rfl)) ?_; clear hF; intro a hF
    refine op_val (v := .int .i64 (p104.2.2.1.length : Int)) rfl rfl hF rfl (run_lenL rfl rfl Tryd.underlying24 (hF.ev rfl)) ?_; clear hF; intro a hF
    refine op_val (v := .bool (ltB 0 (p104.2.2.1.length : Int))) rfl rfl hF rfl (run_gtr (hF.ev rfl) rfl rfl) ?_; clear hF; intro a hF
    refine op_val (v := .bool (ltB 0 (p104.2.2.1.length : Int))) rfl rfl hF rfl (run_move rfl (hF.ev rfl)) ?_; clear hF; intro a hF
    refine op_gv (v := .pointer (some ⟨g103, 0, none⟩)) rfl rfl hF rfl (yt (gw_yield hF rfl rfl rfl)) (fun hg => (run_move rfl (hF.ev rfl))) ?_; clear hF; intro a hF
    cases hc118 : (ltB 0 (p104.2.2.1.length : Int))
    · replace hM117 := bif_f hc118 hM117
      refine op_skipped rfl ((gw_yield hF rfl rfl rfl).trans (congrArg some hc118)) rfl rfl hF rfl ?_; clear hF; intro a hF
      refine op_skipped rfl ((gw_yield hF rfl rfl rfl).trans (congrArg some hc118)) rfl rfl hF rfl ?_; clear hF; intro a hF
      refine op_val (v := .bool false) rfl rfl hF rfl (run_pick_f rfl (hF.ev rfl) hc118 rfl) ?_; clear hF; intro a hF
      refine wpList_nil ?_
      obtain rfl := Option.some.inj hM117
      exact ⟨(false, p104.2.2.2), rfl, hF.keep _ ⟨rfl, rfl, rfl, rfl, rfl, trivial⟩, S.sel [0, 4, 5, 6, 1, 2, 3] rfl rfl⟩
    · replace hM117 := bif_t hc118 hM117
      refine op_guarded rfl ((gw_yield hF rfl rfl rfl).trans (congrArg some hc118)) ?_
      obtain ⟨p119, h119, hM117⟩ := bind_ex hM117
      refine op_call rfl rfl hF rfl (run_call (vs := [.pointer (some ⟨g103, 0, none⟩), .int .i64 4]) rfl rfl co29 ⟨((hF.ev rfl).trans (gv_t hc118)), rfl, trivial⟩) (c_spec_l20Rd_pick (x0 := x0.take 2000) (x1 := p104.2.2.2) (x2 := 4) ⟨(op_rc h0.rc rfl), rfl⟩ (show St w _ [.box g103 78 #[.slice (opA c0 x0.length A0) ((x0.take 2000).length) c0, .int .i64 p104.2.2.2], .box g114 26 #[.slice B105 p104.1.length d107, .slice B108 p104.2.1.length d110, .slice B111 p104.2.2.1.length d113], .row 4 1 (.slice B105 p104.1.length d107) p104.1.length (p104.1.flatMap eB), .row 4 1 (.slice B108 p104.2.1.length d110) p104.2.1.length (p104.2.1.flatMap eB), .row 48 2 (.slice B111 p104.2.2.1.length d113) p104.2.2.1.length (p104.2.2.1.flatMap ePermit), .box g102 35 #[.int .i64 0, .int .i64 0, .int .i64 0], .box g101 26 #[.slice none 0 0, .slice none 0 0, .slice none 0 0]] from S.sel [4, 0, 1, 2, 3, 5, 6] rfl rfl) h119) ?_
      rintro e u ⟨rfl, T⟩
      refine ⟨_, rfl, ?_⟩
      clear hF; intro a hF
      clear S; have S := T; clear T
      refine op_guarded rfl ((gw_yield hF rfl rfl rfl).trans (congrArg some hc118)) ?_
      refine op_val (v := .bool (p119.1 == 0)) rfl rfl hF rfl (run_eql (hF.ev rfl) rfl rfl) ?_; clear hF; intro a hF
      refine op_val (v := .bool (p119.1 == 0)) rfl rfl hF rfl (run_pick_t rfl (hF.ev rfl) hc118 (hF.ev rfl)) ?_; clear hF; intro a hF
      refine wpList_nil ?_
      obtain rfl := Option.some.inj hM117
      exact ⟨(p119.1 == 0, p119.2), rfl, hF.keep _ ⟨rfl, rfl, rfl, rfl, rfl, trivial⟩, S.sel [1, 0, 5, 6, 2, 3, 4] rfl rfl⟩
  · rintro a u ⟨p115, rfl, hF, S⟩
    cases hc120 : (p115.1)
    · replace hM := bif_f hc120 hM
      refine cond_f hF rfl hc120 ?_
      refine wp_skip ?_
      refine wp_seq ?_
      obtain ⟨p121, h121, hM⟩ := bind_ex hM
      refine region_gw (D := [35, 36, 37, 38]) (Lr := [.box g114 26 #[.slice B105 p104.1.length d107, .slice B108 p104.2.1.length d110, .slice B111 p104.2.2.1.length d113]]) (deps := (fun | 0 => [35] | 1 => [36] | 2 => [37] | 3 => [38] | 4 => [2] | 5 => [3] | _ => [])) (rd := (fun _ => [])) (zr := (fun _ => []))
        (φ := fun i vs => match i, vs with | 0, [v35] => v35 = .agg #[.slice B105 p104.1.length d107, .slice B108 p104.2.1.length d110, .slice B111 p104.2.2.1.length d113] | 1, [v36] => v36 = .pointer (some ⟨g103, 0, none⟩) | 2, [v37] => v37 = .agg #[.slice B105 p104.1.length d107, .slice B108 p104.2.1.length d110, .slice B111 p104.2.2.1.length d113] | 3, [v38] => v38 = .agg #[.int .i64 p121.1, .int .i64 p121.2.1, .int .i64 p121.2.2.1] | _, _ => True)
        (C := fun i vs => match i, vs with | 3, [v38] => [.box g103 78 #[.slice (opA c0 x0.length A0) ((x0.take 2000).length) c0, .int .i64 p121.2.2.2], .row 4 1 (.slice B105 p104.1.length d107) p104.1.length (p104.1.flatMap eB), .row 4 1 (.slice B108 p104.2.1.length d110) p104.2.1.length (p104.2.1.flatMap eB), .row 48 2 (.slice B111 p104.2.2.1.length d113) p104.2.2.1.length (p104.2.2.1.flatMap ePermit)] | 4, [v2] => [.box g101 26 #[.slice B105 p104.1.length d107, .slice B108 p104.2.1.length d110, .slice B111 p104.2.2.1.length d113]] | 5, [v3] => [.box g102 35 #[.int .i64 p121.1, .int .i64 p121.2.1, .int .i64 p121.2.2.1]] | _, _ => [])
        (κ := (fun _ => none)) (Z := (fun | 3 => [.box g103 78 #[.slice (opA c0 x0.length A0) ((x0.take 2000).length) c0, .int .i64 p115.2], .row 4 1 (.slice B105 p104.1.length d107) p104.1.length (p104.1.flatMap eB), .row 4 1 (.slice B108 p104.2.1.length d110) p104.2.1.length (p104.2.1.flatMap eB), .row 48 2 (.slice B111 p104.2.2.1.length d113) p104.2.2.1.length (p104.2.2.1.flatMap ePermit)] | 4 => [.box g101 26 #[.slice none 0 0, .slice none 0 0, .slice none 0 0]] | 5 => [.box g102 35 #[.int .i64 0, .int .i64 0, .int .i64 0]] | _ => [])) mixed hF (by kernel_rfl) (show St w _ [.box g103 78 #[.slice (opA c0 x0.length A0) ((x0.take 2000).length) c0, .int .i64 p115.2], .row 4 1 (.slice B105 p104.1.length d107) p104.1.length (p104.1.flatMap eB), .row 4 1 (.slice B108 p104.2.1.length d110) p104.2.1.length (p104.2.1.flatMap eB), .row 48 2 (.slice B111 p104.2.2.1.length d113) p104.2.2.1.length (p104.2.2.1.flatMap ePermit), .box g101 26 #[.slice none 0 0, .slice none 0 0, .slice none 0 0], .box g102 35 #[.int .i64 0, .int .i64 0, .int .i64 0], .box g114 26 #[.slice B105 p104.1.length d107, .slice B108 p104.2.1.length d110, .slice B111 p104.2.2.1.length d113]] from S.sel [1, 4, 5, 6, 3, 2, 0] rfl rfl) ?_ ?_
      · refine ⟨?_, ?_, ?_, ?_, ?_, ?_, trivial⟩
        · intro a u X hB hu hp hr hz hl S
          replace S : St w u ([] ++ X) := S
          exact .inl ⟨rfl, .agg #[.slice B105 p104.1.length d107, .slice B108 p104.2.1.length d110, .slice B111 p104.2.2.1.length d113], u, (run_loadN rfl ag26 (hF.evB hB rfl rfl) rfl ((gr_box S hl 0 rfl).cells 0 #[.slice B105 p104.1.length d107, .slice B108 p104.2.1.length d110, .slice B111 p104.2.2.1.length d113] rfl)), rfl, S⟩
        · intro a u X hB hu hp hr hz hl S
          replace S : St w u ([] ++ X) := S
          exact .inl ⟨rfl, .pointer (some ⟨g103, 0, none⟩), u, (run_move rfl (hF.evB hB rfl rfl)), rfl, S⟩
        · intro a u X hB hu hp hr hz hl S
          replace S : St w u ([] ++ X) := S
          exact .inl ⟨rfl, .agg #[.slice B105 p104.1.length d107, .slice B108 p104.2.1.length d110, .slice B111 p104.2.2.1.length d113], u, (run_loadN rfl ag26 (hF.evB hB rfl rfl) rfl ((gr_box S hl 0 rfl).cells 0 #[.slice B105 p104.1.length d107, .slice B108 p104.2.1.length d110, .slice B111 p104.2.2.1.length d113] rfl)), rfl, S⟩
        · intro a u X hB hu hp hr hz hl S
          replace S : St w u ([.box g103 78 #[.slice (opA c0 x0.length A0) ((x0.take 2000).length) c0, .int .i64 p115.2], .row 4 1 (.slice B105 p104.1.length d107) p104.1.length (p104.1.flatMap eB), .row 4 1 (.slice B108 p104.2.1.length d110) p104.2.1.length (p104.2.1.flatMap eB), .row 48 2 (.slice B111 p104.2.2.1.length d113) p104.2.2.1.length (p104.2.2.1.flatMap ePermit)] ++ X) := S
          have e36 : sl a 36 = .pointer (some ⟨g103, 0, none⟩) := hp 1 rfl
          have e37 : sl a 37 = .agg #[.slice B105 p104.1.length d107, .slice B108 p104.2.1.length d110, .slice B111 p104.2.2.1.length d113] := hp 2 rfl
          refine .inr (.inr (.inl ⟨rfl, _, _, (run_call (vs := [.pointer (some ⟨g103, 0, none⟩), .agg #[.slice B105 p104.1.length d107, .slice B108 p104.2.1.length d110, .slice B111 p104.2.2.1.length d113]]) rfl rfl co36 ⟨(ev_sl e36), (ev_sl e37), trivial⟩), ?_⟩))
          refine Calls.mono (c_spec_l20WorkDeed (x0 := x0.take 2000) (x1 := p115.2) (x2 := p104.1) (Y2 := .row 4 1 (.slice B105 p104.1.length d107) p104.1.length (p104.1.flatMap eB)) (x3 := p104.2.1) (Y3 := .row 4 1 (.slice B108 p104.2.1.length d110) p104.2.1.length (p104.2.1.flatMap eB)) (x4 := p104.2.2.1) (Y4 := .row 48 2 (.slice B111 p104.2.2.1.length d113) p104.2.2.1.length (p104.2.2.1.flatMap ePermit)) ⟨(op_rc h0.rc rfl), rfl⟩ rfl (fun u h => (own_rc (show u.ownsRow 0 _ _ _ _ _ from h))) rfl (fun u h => (own_rc (show u.ownsRow 0 _ _ _ _ _ from h))) rfl (fun u h => (own_rc (show u.ownsRow 0 _ _ _ _ _ from h))) S h121) ?_
          rintro e w1 ⟨rfl, T⟩
          exact ⟨_, rfl, rfl, T⟩
        · intro a u X hB hu hp hr hz hl S
          replace S : St w u ([.box g101 26 #[.slice none 0 0, .slice none 0 0, .slice none 0 0]] ++ X) := S
          have e35 : sl a 35 = .agg #[.slice B105 p104.1.length d107, .slice B108 p104.2.1.length d110, .slice B111 p104.2.2.1.length d113] := hp 0 rfl
          exact .inr (.inl ⟨rfl, _, run_store (cs' := #[.slice B105 p104.1.length d107, .slice B108 p104.2.1.length d110, .slice B111 p104.2.2.1.length d113]) rfl sz26 (hF.evB hB rfl rfl) (ev_sl e35) rfl rfl rfl (S.free 0 rfl) rfl rfl, trivial, S.put 0 rfl (#[.slice B105 p104.1.length d107, .slice B108 p104.2.1.length d110, .slice B111 p104.2.2.1.length d113])⟩)
        · intro a u X hB hu hp hr hz hl S
          replace S : St w u ([.box g102 35 #[.int .i64 0, .int .i64 0, .int .i64 0]] ++ X) := S
          have e38 : sl a 38 = .agg #[.int .i64 p121.1, .int .i64 p121.2.1, .int .i64 p121.2.2.1] := hp 3 rfl
          exact .inr (.inl ⟨rfl, _, run_store (cs' := #[.int .i64 p121.1, .int .i64 p121.2.1, .int .i64 p121.2.2.1]) rfl sz35 (hF.evB hB rfl rfl) (ev_sl e38) rfl rfl rfl (S.free 0 rfl) rfl rfl, trivial, S.put 0 rfl (#[.int .i64 p121.1, .int .i64 p121.2.1, .int .i64 p121.2.2.1])⟩)
      · intro a u hB hp S
        obtain ⟨q0, q1, q2, q3, q4, q5, _⟩ := hp
        have e35 : sl a 35 = .agg #[.slice B105 p104.1.length d107, .slice B108 p104.2.1.length d110, .slice B111 p104.2.2.1.length d113] := q0
        have e36 : sl a 36 = .pointer (some ⟨g103, 0, none⟩) := q1
        have e37 : sl a 37 = .agg #[.slice B105 p104.1.length d107, .slice B108 p104.2.1.length d110, .slice B111 p104.2.2.1.length d113] := q2
        have e38 : sl a 38 = .agg #[.int .i64 p121.1, .int .i64 p121.2.1, .int .i64 p121.2.2.1] := q3
        replace S : St w u [.box g103 78 #[.slice (opA c0 x0.length A0) ((x0.take 2000).length) c0, .int .i64 p121.2.2.2], .row 4 1 (.slice B105 p104.1.length d107) p104.1.length (p104.1.flatMap eB), .row 4 1 (.slice B108 p104.2.1.length d110) p104.2.1.length (p104.2.1.flatMap eB), .row 48 2 (.slice B111 p104.2.2.1.length d113) p104.2.2.1.length (p104.2.2.1.flatMap ePermit), .box g101 26 #[.slice B105 p104.1.length d107, .slice B108 p104.2.1.length d110, .slice B111 p104.2.2.1.length d113], .box g102 35 #[.int .i64 p121.1, .int .i64 p121.2.1, .int .i64 p121.2.2.1], .box g114 26 #[.slice B105 p104.1.length d107, .slice B108 p104.2.1.length d110, .slice B111 p104.2.2.1.length d113]] := S
        clear q0 q1 q2 q3 q4 q5
        have hF := hF.region hB [(35, .agg #[.slice B105 p104.1.length d107, .slice B108 p104.2.1.length d110, .slice B111 p104.2.2.1.length d113]), (36, .pointer (some ⟨g103, 0, none⟩)), (37, .agg #[.slice B105 p104.1.length d107, .slice B108 p104.2.1.length d110, .slice B111 p104.2.2.1.length d113]), (38, .agg #[.int .i64 p121.1, .int .i64 p121.2.1, .int .i64 p121.2.2.1])] (allSl_mem ⟨e35, e36, e37, e38, trivial⟩) rfl
        clear hB e35 e36 e37 e38
        refine wp_ret ?_
        repeat with_reducible (first | refine then_ret ?_ | refine in_ret ?_ | refine in_nrm ?_)
        refine ret2_gw (.inl rfl) hF rfl (res_cell (hF.ev rfl) (res_loadN ag26 rfl (S.cells 4 rfl 0 #[.slice B105 p104.1.length d107, .slice B108 p104.2.1.length d110, .slice B111 p104.2.2.1.length d113] rfl))) (res_cell (hF.ev rfl) (res_loadN ag35 rfl (S.cells 5 rfl 0 #[.int .i64 p121.1, .int .i64 p121.2.1, .int .i64 p121.2.2.1] rfl))) ?_
        obtain rfl := Option.some.inj hM
        exact ⟨B105, p104.1.length, d107, B108, p104.2.1.length, d110, B111, p104.2.2.1.length, d113, rfl, rfl, rfl, rfl, S.sel [1, 2, 3] rfl rfl⟩
    · replace hM := bif_t hc120 hM
      refine cond_t hF rfl hc120 ?_
      refine wp_seq ?_
      obtain ⟨p122, h122, hM⟩ := bind_ex hM
      obtain ⟨hk123, hM⟩ := chk_ex hM
      replace hk123 := ixB_t hk123
      refine region_gw (D := [20, 21, 22, 23, 24, 25, 26, 27, 28, 6]) (Lr := [.box g114 26 #[.slice B105 p104.1.length d107, .slice B108 p104.2.1.length d110, .slice B111 p104.2.2.1.length d113], .box g102 35 #[.int .i64 0, .int .i64 0, .int .i64 0], .box g101 26 #[.slice none 0 0, .slice none 0 0, .slice none 0 0], .row 4 1 (.slice B105 p104.1.length d107) p104.1.length (p104.1.flatMap eB), .row 4 1 (.slice B108 p104.2.1.length d110) p104.2.1.length (p104.2.1.flatMap eB), .row 48 2 (.slice B111 p104.2.2.1.length d113) p104.2.2.1.length (p104.2.2.1.flatMap ePermit)]) (deps := (fun | 0 => [20] | 1 => [21] | 2 => [22] | 3 => [23] | 4 => [24] | 5 => [25] | 6 => [26] | 7 => [27] | 8 => [28] | 9 => [6] | 10 => [6] | _ => [])) (rd := (fun _ => [])) (zr := (fun _ => []))
        (φ := fun i vs => match i, vs with | 0, [v20] => v20 = .pointer (some ⟨g114, 2, none⟩) | 1, [v21] => v21 = .slice B111 p104.2.2.1.length d113 | 2, [v22] => v22 = .pointer (some ⟨g103, 0, none⟩) | 3, [v23] => v23 = .pointer (some ⟨g114, 2, none⟩) | 4, [v24] => v24 = .slice B111 p104.2.2.1.length d113 | 5, [v25] => v25 = .int .i64 (p104.2.2.1.length : Int) | 6, [v26] => v26 = .int .i64 p122.1 | 7, [v27] => v27 = .pointer (some ⟨adB B111, adO B111 + p122.1.toNat * 2, none⟩) | 8, [v28] => v28 = .agg #[.int .i64 ((p104.2.2.1.getD p122.1.toNat ((0, 0) : Int × Int)).1), .int .i64 ((p104.2.2.1.getD p122.1.toNat ((0, 0) : Int × Int)).2)] | 9, [v6] => v6 = .pointer (some ⟨ptB v6, 0, none⟩) | _, _ => True)
        (C := fun i vs => match i, vs with | 6, [v26] => [.box g103 78 #[.slice (opA c0 x0.length A0) ((x0.take 2000).length) c0, .int .i64 p122.2]] | 9, [v6] => [.box (ptB v6) 48 #[.int .i64 0, .int .i64 0]] | 10, [v6] => [.box (ptB v6) 48 #[.int .i64 ((p104.2.2.1.getD p122.1.toNat ((0, 0) : Int × Int)).1), .int .i64 ((p104.2.2.1.getD p122.1.toNat ((0, 0) : Int × Int)).2)]] | _, _ => [])
        (κ := (fun | 9 => some 10 | _ => none)) (Z := (fun | 6 => [.box g103 78 #[.slice (opA c0 x0.length A0) ((x0.take 2000).length) c0, .int .i64 p115.2]] | _ => [])) mixed hF (by kernel_rfl) (show St w _ [.box g103 78 #[.slice (opA c0 x0.length A0) ((x0.take 2000).length) c0, .int .i64 p115.2], .box g114 26 #[.slice B105 p104.1.length d107, .slice B108 p104.2.1.length d110, .slice B111 p104.2.2.1.length d113], .box g102 35 #[.int .i64 0, .int .i64 0, .int .i64 0], .box g101 26 #[.slice none 0 0, .slice none 0 0, .slice none 0 0], .row 4 1 (.slice B105 p104.1.length d107) p104.1.length (p104.1.flatMap eB), .row 4 1 (.slice B108 p104.2.1.length d110) p104.2.1.length (p104.2.1.flatMap eB), .row 48 2 (.slice B111 p104.2.2.1.length d113) p104.2.2.1.length (p104.2.2.1.flatMap ePermit)] from S.sel [1, 0, 2, 3, 4, 5, 6] rfl rfl) ?_ ?_
      · refine ⟨?_, ?_, ?_, ?_, ?_, ?_, ?_, ?_, ?_, ?_, ?_, trivial⟩
        · intro a u X hB hu hp hr hz hl S
          replace S : St w u ([] ++ X) := S
          exact .inl ⟨rfl, .pointer (some ⟨g114, 2, none⟩), u, (run_fieldAddr rfl fl26_2 (hF.evB hB rfl rfl) rfl), rfl, S⟩
        · intro a u X hB hu hp hr hz hl S
          replace S : St w u ([] ++ X) := S
          have e20 : sl a 20 = .pointer (some ⟨g114, 2, none⟩) := hp 0 rfl
          exact .inl ⟨rfl, .slice B111 p104.2.2.1.length d113, u, (run_load1 rfl one24 (ev_sl e20) ((gr_box S hl 0 rfl).cell rfl)), rfl, S⟩
        · intro a u X hB hu hp hr hz hl S
          replace S : St w u ([] ++ X) := S
          exact .inl ⟨rfl, .pointer (some ⟨g103, 0, none⟩), u, (run_move rfl (hF.evB hB rfl rfl)), rfl, S⟩
        · intro a u X hB hu hp hr hz hl S
          replace S : St w u ([] ++ X) := S
          exact .inl ⟨rfl, .pointer (some ⟨g114, 2, none⟩), u, (run_fieldAddr rfl fl26_2 (hF.evB hB rfl rfl) rfl), rfl, S⟩
        · intro a u X hB hu hp hr hz hl S
          replace S : St w u ([] ++ X) := S
          have e23 : sl a 23 = .pointer (some ⟨g114, 2, none⟩) := hp 3 rfl
          exact .inl ⟨rfl, .slice B111 p104.2.2.1.length d113, u, (run_load1 rfl one24 (ev_sl e23) ((gr_box S hl 0 rfl).cell rfl)), rfl, S⟩
        · intro a u X hB hu hp hr hz hl S
          replace S : St w u ([] ++ X) := S
          have e24 : sl a 24 = .slice B111 p104.2.2.1.length d113 := hp 4 rfl
          exact .inl ⟨rfl, .int .i64 (p104.2.2.1.length : Int), u, (run_lenL rfl rfl Tryd.underlying24 (ev_sl e24)), rfl, S⟩
        · intro a u X hB hu hp hr hz hl S
          replace S : St w u ([.box g103 78 #[.slice (opA c0 x0.length A0) ((x0.take 2000).length) c0, .int .i64 p115.2]] ++ X) := S
          have e22 : sl a 22 = .pointer (some ⟨g103, 0, none⟩) := hp 2 rfl
          have e25 : sl a 25 = .int .i64 (p104.2.2.1.length : Int) := hp 5 rfl
          refine .inr (.inr (.inl ⟨rfl, _, _, (run_call (vs := [.pointer (some ⟨g103, 0, none⟩), .int .i64 (p104.2.2.1.length : Int)]) rfl rfl co29 ⟨(ev_sl e22), (ev_sl e25), trivial⟩), ?_⟩))
          refine Calls.mono (c_spec_l20Rd_pick (x0 := x0.take 2000) (x1 := p115.2) (x2 := (p104.2.2.1.length : Int)) ⟨(op_rc h0.rc rfl), rfl⟩ S h122) ?_
          rintro e w1 ⟨rfl, T⟩
          exact ⟨_, rfl, rfl, T⟩
        · intro a u X hB hu hp hr hz hl S
          replace S : St w u ([] ++ X) := S
          have e21 : sl a 21 = .slice B111 p104.2.2.1.length d113 := hp 1 rfl
          have e26 : sl a 26 = .int .i64 p122.1 := hp 6 rfl
          exact .inl ⟨rfl, .pointer (some ⟨adB B111, adO B111 + p122.1.toNat * 2, none⟩), u, (run_indexAddr (b := adB B111) (off := adO B111) rfl Tryd.underlying24 sz48 ((ev_sl e21).trans (congrArg (fun A => Value.slice A p104.2.2.1.length d113) ((gr_rc S hl 5 rfl).rd.ad (ix_pos hk123)))) (ev_sl e26) hk123.1 hk123.2 (k' := adO B111 + p122.1.toNat * 2) rfl), rfl, S⟩
        · intro a u X hB hu hp hr hz hl S
          replace S : St w u ([] ++ X) := S
          have e27 : sl a 27 = .pointer (some ⟨adB B111, adO B111 + p122.1.toNat * 2, none⟩) := hp 7 rfl
          exact .inl ⟨rfl, .agg #[.int .i64 ((p104.2.2.1.getD p122.1.toNat ((0, 0) : Int × Int)).1), .int .i64 ((p104.2.2.1.getD p122.1.toNat ((0, 0) : Int × Int)).2)], u, (run_loadN (cs := #[.int .i64 ((p104.2.2.1.getD p122.1.toNat ((0, 0) : Int × Int)).1), .int .i64 ((p104.2.2.1.getD p122.1.toNat ((0, 0) : Int × Int)).2)]) rfl ag48 (ev_sl e27) rfl (rd_elN (l := p104.2.2.1) (gr_rc S hl 5 rfl).rd rfl ePermit_len ((0, 0) : Int × Int) (ix_ltn hk123 rfl) rfl)), rfl, S⟩
        · intro a u X hB hu hp hr hz hl S
          replace S : St w u ([] ++ X) := S
          exact .inl ⟨rfl, _, _, (run_allocZ rfl zr48), rfl, S.alloc _ _⟩
        · intro a u X hB hu hp hr hz hl S
          replace S : St w u ([.box (ptB (sl a 6)) 48 #[.int .i64 0, .int .i64 0]] ++ X) := S
          have e6 : sl a 6 = .pointer (some ⟨ptB (sl a 6), 0, none⟩) := hp 9 rfl
          have e28 : sl a 28 = .agg #[.int .i64 ((p104.2.2.1.getD p122.1.toNat ((0, 0) : Int × Int)).1), .int .i64 ((p104.2.2.1.getD p122.1.toNat ((0, 0) : Int × Int)).2)] := hp 8 rfl
          exact .inr (.inl ⟨rfl, _, run_store (cs' := #[.int .i64 ((p104.2.2.1.getD p122.1.toNat ((0, 0) : Int × Int)).1), .int .i64 ((p104.2.2.1.getD p122.1.toNat ((0, 0) : Int × Int)).2)]) rfl sz48 (ev_sl e6) (ev_sl e28) rfl rfl rfl (S.free 0 rfl) rfl rfl, trivial, S.put 0 rfl (#[.int .i64 ((p104.2.2.1.getD p122.1.toNat ((0, 0) : Int × Int)).1), .int .i64 ((p104.2.2.1.getD p122.1.toNat ((0, 0) : Int × Int)).2)])⟩)
      · intro a u hB hp S
        obtain ⟨q0, q1, q2, q3, q4, q5, q6, q7, q8, q9, q10, _⟩ := hp
        have e20 : sl a 20 = .pointer (some ⟨g114, 2, none⟩) := q0
        have e21 : sl a 21 = .slice B111 p104.2.2.1.length d113 := q1
        have e22 : sl a 22 = .pointer (some ⟨g103, 0, none⟩) := q2
        have e23 : sl a 23 = .pointer (some ⟨g114, 2, none⟩) := q3
        have e24 : sl a 24 = .slice B111 p104.2.2.1.length d113 := q4
        have e25 : sl a 25 = .int .i64 (p104.2.2.1.length : Int) := q5
        have e26 : sl a 26 = .int .i64 p122.1 := q6
        have e27 : sl a 27 = .pointer (some ⟨adB B111, adO B111 + p122.1.toNat * 2, none⟩) := q7
        have e28 : sl a 28 = .agg #[.int .i64 ((p104.2.2.1.getD p122.1.toNat ((0, 0) : Int × Int)).1), .int .i64 ((p104.2.2.1.getD p122.1.toNat ((0, 0) : Int × Int)).2)] := q8
        have e6 : sl a 6 = .pointer (some ⟨ptB (sl a 6), 0, none⟩) := q9
        replace S : St w u [.box g103 78 #[.slice (opA c0 x0.length A0) ((x0.take 2000).length) c0, .int .i64 p122.2], .box (ptB (sl a 6)) 48 #[.int .i64 ((p104.2.2.1.getD p122.1.toNat ((0, 0) : Int × Int)).1), .int .i64 ((p104.2.2.1.getD p122.1.toNat ((0, 0) : Int × Int)).2)], .box g114 26 #[.slice B105 p104.1.length d107, .slice B108 p104.2.1.length d110, .slice B111 p104.2.2.1.length d113], .box g102 35 #[.int .i64 0, .int .i64 0, .int .i64 0], .box g101 26 #[.slice none 0 0, .slice none 0 0, .slice none 0 0], .row 4 1 (.slice B105 p104.1.length d107) p104.1.length (p104.1.flatMap eB), .row 4 1 (.slice B108 p104.2.1.length d110) p104.2.1.length (p104.2.1.flatMap eB), .row 48 2 (.slice B111 p104.2.2.1.length d113) p104.2.2.1.length (p104.2.2.1.flatMap ePermit)] := S
        clear q0 q1 q2 q3 q4 q5 q6 q7 q8 q9 q10
        generalize ptB (sl a 6) = g124 at *
        have hF := hF.region hB [(20, .pointer (some ⟨g114, 2, none⟩)), (21, .slice B111 p104.2.2.1.length d113), (22, .pointer (some ⟨g103, 0, none⟩)), (23, .pointer (some ⟨g114, 2, none⟩)), (24, .slice B111 p104.2.2.1.length d113), (25, .int .i64 (p104.2.2.1.length : Int)), (26, .int .i64 p122.1), (27, .pointer (some ⟨adB B111, adO B111 + p122.1.toNat * 2, none⟩)), (28, .agg #[.int .i64 ((p104.2.2.1.getD p122.1.toNat ((0, 0) : Int × Int)).1), .int .i64 ((p104.2.2.1.getD p122.1.toNat ((0, 0) : Int × Int)).2)]), (6, .pointer (some ⟨g124, 0, none⟩))] (allSl_mem ⟨e20, e21, e22, e23, e24, e25, e26, e27, e28, e6, trivial⟩) rfl
        clear hB e20 e21 e22 e23 e24 e25 e26 e27 e28 e6
        refine wp_seq ?_
        refine region_gw (D := [29, 30, 31, 32, 33, 34]) (Lr := [.box g103 78 #[.slice (opA c0 x0.length A0) ((x0.take 2000).length) c0, .int .i64 p122.2], .box g124 48 #[.int .i64 ((p104.2.2.1.getD p122.1.toNat ((0, 0) : Int × Int)).1), .int .i64 ((p104.2.2.1.getD p122.1.toNat ((0, 0) : Int × Int)).2)], .box g114 26 #[.slice B105 p104.1.length d107, .slice B108 p104.2.1.length d110, .slice B111 p104.2.2.1.length d113], .row 4 1 (.slice B105 p104.1.length d107) p104.1.length (p104.1.flatMap eB), .row 4 1 (.slice B108 p104.2.1.length d110) p104.2.1.length (p104.2.1.flatMap eB), .row 48 2 (.slice B111 p104.2.2.1.length d113) p104.2.2.1.length (p104.2.2.1.flatMap ePermit)]) (deps := (fun | 0 => [29] | 1 => [30] | 2 => [31] | 3 => [32] | 4 => [33] | 5 => [34] | 6 => [2] | 7 => [3] | _ => [])) (rd := (fun _ => [])) (zr := (fun _ => []))
          (φ := fun i vs => match i, vs with | 0, [v29] => v29 = .agg #[.slice B105 p104.1.length d107, .slice B108 p104.2.1.length d110, .slice B111 p104.2.2.1.length d113] | 1, [v30] => v30 = .pointer (some ⟨g124, 1, none⟩) | 2, [v31] => v31 = .int .i64 ((p104.2.2.1.getD p122.1.toNat ((0, 0) : Int × Int)).2) | 3, [v32] => v32 = .pointer (some ⟨g124, 0, none⟩) | 4, [v33] => v33 = .int .i64 ((p104.2.2.1.getD p122.1.toNat ((0, 0) : Int × Int)).1) | 5, [v34] => v34 = .agg #[.int .i64 5, .int .i64 ((p104.2.2.1.getD p122.1.toNat ((0, 0) : Int × Int)).2), .int .i64 ((p104.2.2.1.getD p122.1.toNat ((0, 0) : Int × Int)).1)] | _, _ => True)
          (C := fun i vs => match i, vs with | 6, [v2] => [.box g101 26 #[.slice B105 p104.1.length d107, .slice B108 p104.2.1.length d110, .slice B111 p104.2.2.1.length d113]] | 7, [v3] => [.box g102 35 #[.int .i64 5, .int .i64 ((p104.2.2.1.getD p122.1.toNat ((0, 0) : Int × Int)).2), .int .i64 ((p104.2.2.1.getD p122.1.toNat ((0, 0) : Int × Int)).1)]] | _, _ => [])
          (κ := (fun _ => none)) (Z := (fun | 6 => [.box g101 26 #[.slice none 0 0, .slice none 0 0, .slice none 0 0]] | 7 => [.box g102 35 #[.int .i64 0, .int .i64 0, .int .i64 0]] | _ => [])) mixed hF (by kernel_rfl) (show St w _ [.box g101 26 #[.slice none 0 0, .slice none 0 0, .slice none 0 0], .box g102 35 #[.int .i64 0, .int .i64 0, .int .i64 0], .box g103 78 #[.slice (opA c0 x0.length A0) ((x0.take 2000).length) c0, .int .i64 p122.2], .box g124 48 #[.int .i64 ((p104.2.2.1.getD p122.1.toNat ((0, 0) : Int × Int)).1), .int .i64 ((p104.2.2.1.getD p122.1.toNat ((0, 0) : Int × Int)).2)], .box g114 26 #[.slice B105 p104.1.length d107, .slice B108 p104.2.1.length d110, .slice B111 p104.2.2.1.length d113], .row 4 1 (.slice B105 p104.1.length d107) p104.1.length (p104.1.flatMap eB), .row 4 1 (.slice B108 p104.2.1.length d110) p104.2.1.length (p104.2.1.flatMap eB), .row 48 2 (.slice B111 p104.2.2.1.length d113) p104.2.2.1.length (p104.2.2.1.flatMap ePermit)] from S.sel [4, 3, 0, 1, 2, 5, 6, 7] rfl rfl) ?_ ?_
        · refine ⟨?_, ?_, ?_, ?_, ?_, ?_, ?_, ?_, trivial⟩
          · intro a u X hB hu hp hr hz hl S
            replace S : St w u ([] ++ X) := S
            exact .inl ⟨rfl, .agg #[.slice B105 p104.1.length d107, .slice B108 p104.2.1.length d110, .slice B111 p104.2.2.1.length d113], u, (run_loadN rfl ag26 (hF.evB hB rfl rfl) rfl ((gr_box S hl 2 rfl).cells 0 #[.slice B105 p104.1.length d107, .slice B108 p104.2.1.length d110, .slice B111 p104.2.2.1.length d113] rfl)), rfl, S⟩
          · intro a u X hB hu hp hr hz hl S
            replace S : St w u ([] ++ X) := S
            exact .inl ⟨rfl, .pointer (some ⟨g124, 1, none⟩), u, (run_fieldAddr rfl fl48_1 (hF.evB hB rfl rfl) rfl), rfl, S⟩
          · intro a u X hB hu hp hr hz hl S
            replace S : St w u ([] ++ X) := S
            have e30 : sl a 30 = .pointer (some ⟨g124, 1, none⟩) := hp 1 rfl
            exact .inl ⟨rfl, .int .i64 ((p104.2.2.1.getD p122.1.toNat ((0, 0) : Int × Int)).2), u, (run_load1 rfl one3 (ev_sl e30) ((gr_box S hl 1 rfl).cell rfl)), rfl, S⟩
          · intro a u X hB hu hp hr hz hl S
            replace S : St w u ([] ++ X) := S
            exact .inl ⟨rfl, .pointer (some ⟨g124, 0, none⟩), u, (run_fieldAddr rfl fl48_0 (hF.evB hB rfl rfl) rfl), rfl, S⟩
          · intro a u X hB hu hp hr hz hl S
            replace S : St w u ([] ++ X) := S
            have e32 : sl a 32 = .pointer (some ⟨g124, 0, none⟩) := hp 3 rfl
            exact .inl ⟨rfl, .int .i64 ((p104.2.2.1.getD p122.1.toNat ((0, 0) : Int × Int)).1), u, (run_load1 rfl one3 (ev_sl e32) ((gr_box S hl 1 rfl).cell rfl)), rfl, S⟩
          · intro a u X hB hu hp hr hz hl S
            replace S : St w u ([] ++ X) := S
            have e31 : sl a 31 = .int .i64 ((p104.2.2.1.getD p122.1.toNat ((0, 0) : Int × Int)).2) := hp 2 rfl
            have e33 : sl a 33 = .int .i64 ((p104.2.2.1.getD p122.1.toNat ((0, 0) : Int × Int)).1) := hp 4 rfl
            exact .inl ⟨rfl, .agg #[.int .i64 5, .int .i64 ((p104.2.2.1.getD p122.1.toNat ((0, 0) : Int × Int)).2), .int .i64 ((p104.2.2.1.getD p122.1.toNat ((0, 0) : Int × Int)).1)], u, (run_build (vs := [(0, .int .i64 5), (1, .int .i64 ((p104.2.2.1.getD p122.1.toNat ((0, 0) : Int × Int)).2)), (2, .int .i64 ((p104.2.2.1.getD p122.1.toNat ((0, 0) : Int × Int)).1))]) rfl ⟨⟨rfl, (ev_const _ _)⟩, ⟨rfl, (ev_sl e31)⟩, ⟨rfl, (ev_sl e33)⟩, trivial⟩ (bd35_0_1_2 rfl rfl rfl)), rfl, S⟩
          · intro a u X hB hu hp hr hz hl S
            replace S : St w u ([.box g101 26 #[.slice none 0 0, .slice none 0 0, .slice none 0 0]] ++ X) := S
            have e29 : sl a 29 = .agg #[.slice B105 p104.1.length d107, .slice B108 p104.2.1.length d110, .slice B111 p104.2.2.1.length d113] := hp 0 rfl
            exact .inr (.inl ⟨rfl, _, run_store (cs' := #[.slice B105 p104.1.length d107, .slice B108 p104.2.1.length d110, .slice B111 p104.2.2.1.length d113]) rfl sz26 (hF.evB hB rfl rfl) (ev_sl e29) rfl rfl rfl (S.free 0 rfl) rfl rfl, trivial, S.put 0 rfl (#[.slice B105 p104.1.length d107, .slice B108 p104.2.1.length d110, .slice B111 p104.2.2.1.length d113])⟩)
          · intro a u X hB hu hp hr hz hl S
            replace S : St w u ([.box g102 35 #[.int .i64 0, .int .i64 0, .int .i64 0]] ++ X) := S
            have e34 : sl a 34 = .agg #[.int .i64 5, .int .i64 ((p104.2.2.1.getD p122.1.toNat ((0, 0) : Int × Int)).2), .int .i64 ((p104.2.2.1.getD p122.1.toNat ((0, 0) : Int × Int)).1)] := hp 5 rfl
            exact .inr (.inl ⟨rfl, _, run_store (cs' := #[.int .i64 5, .int .i64 ((p104.2.2.1.getD p122.1.toNat ((0, 0) : Int × Int)).2), .int .i64 ((p104.2.2.1.getD p122.1.toNat ((0, 0) : Int × Int)).1)]) rfl sz35 (hF.evB hB rfl rfl) (ev_sl e34) rfl rfl rfl (S.free 0 rfl) rfl rfl, trivial, S.put 0 rfl (#[.int .i64 5, .int .i64 ((p104.2.2.1.getD p122.1.toNat ((0, 0) : Int × Int)).2), .int .i64 ((p104.2.2.1.getD p122.1.toNat ((0, 0) : Int × Int)).1)])⟩)
        · intro a u hB hp S
          obtain ⟨q0, q1, q2, q3, q4, q5, q6, q7, _⟩ := hp
          have e29 : sl a 29 = .agg #[.slice B105 p104.1.length d107, .slice B108 p104.2.1.length d110, .slice B111 p104.2.2.1.length d113] := q0
          have e30 : sl a 30 = .pointer (some ⟨g124, 1, none⟩) := q1
          have e31 : sl a 31 = .int .i64 ((p104.2.2.1.getD p122.1.toNat ((0, 0) : Int × Int)).2) := q2
          have e32 : sl a 32 = .pointer (some ⟨g124, 0, none⟩) := q3
          have e33 : sl a 33 = .int .i64 ((p104.2.2.1.getD p122.1.toNat ((0, 0) : Int × Int)).1) := q4
          have e34 : sl a 34 = .agg #[.int .i64 5, .int .i64 ((p104.2.2.1.getD p122.1.toNat ((0, 0) : Int × Int)).2), .int .i64 ((p104.2.2.1.getD p122.1.toNat ((0, 0) : Int × Int)).1)] := q5
          replace S : St w u [.box g101 26 #[.slice B105 p104.1.length d107, .slice B108 p104.2.1.length d110, .slice B111 p104.2.2.1.length d113], .box g102 35 #[.int .i64 5, .int .i64 ((p104.2.2.1.getD p122.1.toNat ((0, 0) : Int × Int)).2), .int .i64 ((p104.2.2.1.getD p122.1.toNat ((0, 0) : Int × Int)).1)], .box g103 78 #[.slice (opA c0 x0.length A0) ((x0.take 2000).length) c0, .int .i64 p122.2], .box g124 48 #[.int .i64 ((p104.2.2.1.getD p122.1.toNat ((0, 0) : Int × Int)).1), .int .i64 ((p104.2.2.1.getD p122.1.toNat ((0, 0) : Int × Int)).2)], .box g114 26 #[.slice B105 p104.1.length d107, .slice B108 p104.2.1.length d110, .slice B111 p104.2.2.1.length d113], .row 4 1 (.slice B105 p104.1.length d107) p104.1.length (p104.1.flatMap eB), .row 4 1 (.slice B108 p104.2.1.length d110) p104.2.1.length (p104.2.1.flatMap eB), .row 48 2 (.slice B111 p104.2.2.1.length d113) p104.2.2.1.length (p104.2.2.1.flatMap ePermit)] := S
          clear q0 q1 q2 q3 q4 q5 q6 q7
          have hF := hF.region hB [(29, .agg #[.slice B105 p104.1.length d107, .slice B108 p104.2.1.length d110, .slice B111 p104.2.2.1.length d113]), (30, .pointer (some ⟨g124, 1, none⟩)), (31, .int .i64 ((p104.2.2.1.getD p122.1.toNat ((0, 0) : Int × Int)).2)), (32, .pointer (some ⟨g124, 0, none⟩)), (33, .int .i64 ((p104.2.2.1.getD p122.1.toNat ((0, 0) : Int × Int)).1)), (34, .agg #[.int .i64 5, .int .i64 ((p104.2.2.1.getD p122.1.toNat ((0, 0) : Int × Int)).2), .int .i64 ((p104.2.2.1.getD p122.1.toNat ((0, 0) : Int × Int)).1)])] (allSl_mem ⟨e29, e30, e31, e32, e33, e34, trivial⟩) rfl
          clear hB e29 e30 e31 e32 e33 e34
          refine wp_ret ?_
          repeat with_reducible (first | refine then_ret ?_ | refine in_ret ?_ | refine in_nrm ?_)
          refine ret2_gw (.inl rfl) hF rfl (res_cell (hF.ev rfl) (res_loadN ag26 rfl (S.cells 0 rfl 0 #[.slice B105 p104.1.length d107, .slice B108 p104.2.1.length d110, .slice B111 p104.2.2.1.length d113] rfl))) (res_cell (hF.ev rfl) (res_loadN ag35 rfl (S.cells 1 rfl 0 #[.int .i64 5, .int .i64 ((p104.2.2.1.getD p122.1.toNat ((0, 0) : Int × Int)).2), .int .i64 ((p104.2.2.1.getD p122.1.toNat ((0, 0) : Int × Int)).1)] rfl))) ?_
          obtain rfl := Option.some.inj hM
          exact ⟨B105, p104.1.length, d107, B108, p104.2.1.length, d110, B111, p104.2.2.1.length, d113, rfl, rfl, rfl, rfl, S.sel [5, 6, 7] rfl rfl⟩

set_option maxHeartbeats 4000000 in
theorem c_laws_sameBools {x0 : List Bool} {x1 : List Bool} {A0 : Option Addr} {n0 c0 : Nat} {A1 : Option Addr} {n1 c1 : Nat} {w : World} {r : Bool} (h0 : Rt w 1 eB A0 n0 c0 x0) (h1 : Rt w 1 eB A1 n1 c1 x1) (hM : m_laws_sameBools x0 x1 = some r) :
    Calls Tryd.prog 41 #[.slice A0 n0 c0, .slice A1 n1 c1] w (fun e w' => e = .returned (.bool r) ∧ St w w' []) := by
  obtain rfl := h0.len
  obtain rfl := h1.len
  unfold m_laws_sameBools at hM
  refine calls_gw Tryd.func41 Tryd.ntmps41 rfl [(0, .slice A0 x0.length c0), (1, .slice A1 x1.length c1)] ⟨rfl, rfl, trivial⟩ rfl ?_
  intro a hF
  have S := St.nil w
  refine wp_seq ?_
  refine wp_region_lit ?_
  refine op_val (v := .bool false) rfl rfl hF rfl (run_assign rfl rfl) ?_; clear hF; intro a hF
  refine wpList_nil ?_
  refine wp_seq ?_
  refine wp_seq ?_
  refine wp_region_lit ?_
  refine op_val (v := .slice A0 x0.length c0) rfl rfl hF rfl (run_move rfl (hF.ev rfl)) ?_; clear hF; intro a hF
  refine op_val (v := .int .i64 (x0.length : Int)) rfl rfl hF rfl (run_lenL rfl rfl Tryd.underlying23 (hF.ev rfl)) ?_; clear hF; intro a hF
  refine op_val (v := .slice A1 x1.length c1) rfl rfl hF rfl (run_move rfl (hF.ev rfl)) ?_; clear hF; intro a hF
  refine op_val (v := .int .i64 (x1.length : Int)) rfl rfl hF rfl (run_lenL rfl rfl Tryd.underlying23 (hF.ev rfl)) ?_; clear hF; intro a hF
  refine op_val (v := .bool ((x0.length : Int) != (x1.length : Int))) rfl rfl hF rfl (run_neq (hF.ev rfl) (hF.ev rfl) rfl) ?_; clear hF; intro a hF
  refine wpList_nil ?_
  cases hc101 : ((x0.length : Int) != (x1.length : Int))
  · replace hM := bif_f hc101 hM
    refine cond_f hF rfl hc101 ?_
    refine wp_skip ?_
    refine wp_seq ?_
    refine wp_seq ?_
    refine wp_region_lit ?_
    refine op_val (v := .int .i64 0) rfl rfl hF rfl (run_assign rfl rfl) ?_; clear hF; intro a hF
    refine wpList_nil ?_
    obtain ⟨o103, hM104, hM⟩ := bind_ex hM
    refine wp_cut (fun a u => ∃ (p102 : Unit), (Sum.inl p102) = o103 ∧ Fr a 26 [(4, .bool false)] ∧ St w u []) ?_ ?_
    · have _ := trivial
      refine wp_block ?_
      refine loop_gw (fun m a u => ∃ (p105 : Int), m_laws_sameBools_l1 x0 x1 m p105 = some _ ∧ Fr a 26 [(0, .slice A0 x0.length c0), (1, .slice A1 x1.length c1), (4, .bool false), (5, .int .i64 p105)] ∧ St w u []) FUEL ⟨0, hM104, hF.keep _ ⟨rfl, rfl, rfl, rfl, trivial⟩, S.sel [] rfl rfl⟩ ?_
      clear hF S hM104; rintro m a u ⟨p105, hM104, hF, S⟩
      rcases m with _ | f1
      · exact none_some hM104
      rw [m_laws_sameBools_l1.eq_2] at hM104
      refine wp_seq ?_
      refine wp_seq ?_
      refine wp_region_lit ?_
      refine op_val (v := .int .i64 p105) rfl rfl hF rfl (run_move rfl (hF.ev rfl)) ?_; clear hF; intro a hF
      refine op_val (v := .slice A0 x0.length c0) rfl rfl hF rfl (run_move rfl (hF.ev rfl)) ?_; clear hF; intro a hF
      refine op_val (v := .int .i64 (x0.length : Int)) rfl rfl hF rfl (run_lenL rfl rfl Tryd.underlying23 (hF.ev rfl)) ?_; clear hF; intro a hF
      refine op_val (v := .bool (ltB p105 (x0.length : Int))) rfl rfl hF rfl (run_lss (hF.ev rfl) (hF.ev rfl) rfl) ?_; clear hF; intro a hF
      refine wpList_nil ?_
      cases hc106 : (ltB p105 (x0.length : Int))
      · replace hM104 := bif_f hc106 hM104
        refine cond_f hF rfl hc106 ?_
        refine wp_exit ?_
        repeat with_reducible (first | refine then_exit ?_ | refine in_hit ?_ | refine in_miss rfl ?_)
        obtain rfl := Option.some.inj hM104
        exact ⟨(), rfl, hF.keep _ ⟨rfl, trivial⟩, S.sel [] rfl rfl⟩
      · replace hM104 := bif_t hc106 hM104
        refine cond_t hF rfl hc106 ?_
        refine wp_skip ?_
        refine wp_seq ?_
        refine wp_block ?_
        refine wp_seq ?_
        obtain ⟨hk107, hM104⟩ := chk_ex hM104
        replace hk107 := ixB_t hk107
        obtain ⟨hk108, hM104⟩ := chk_ex hM104
        replace hk108 := ixB_t hk108
        refine region_gw (D := [17, 18, 19, 20, 21, 22, 23, 24, 25]) (Lr := []) (deps := (fun | 0 => [17] | 1 => [18] | 2 => [19] | 3 => [20] | 4 => [21] | 5 => [22] | 6 => [23] | 7 => [24] | 8 => [25] | _ => [])) (rd := (fun _ => [])) (zr := (fun _ => []))
          (φ := fun i vs => match i, vs with | 0, [v17] => v17 = .slice A0 x0.length c0 | 1, [v18] => v18 = .int .i64 p105 | 2, [v19] => v19 = .pointer (some ⟨adB A0, adO A0 + p105.toNat * 1, none⟩) | 3, [v20] => v20 = .bool (x0.getD p105.toNat false) | 4, [v21] => v21 = .slice A1 x1.length c1 | 5, [v22] => v22 = .int .i64 p105 | 6, [v23] => v23 = .pointer (some ⟨adB A1, adO A1 + p105.toNat * 1, none⟩) | 7, [v24] => v24 = .bool (x1.getD p105.toNat false) | 8, [v25] => v25 = .bool ((x0.getD p105.toNat false) != (x1.getD p105.toNat false)) | _, _ => True)
          (C := fun _ _ => [])
          (κ := (fun _ => none)) (Z := (fun _ => [])) mixed hF (by kernel_rfl) S ?_ ?_
        · refine ⟨?_, ?_, ?_, ?_, ?_, ?_, ?_, ?_, ?_, trivial⟩
          · intro a u X hB hu hp hr hz hl S
            replace S : St w u ([] ++ X) := S
            exact .inl ⟨rfl, .slice A0 x0.length c0, u, (run_move rfl (hF.evB hB rfl rfl)), rfl, S⟩
          · intro a u X hB hu hp hr hz hl S
            replace S : St w u ([] ++ X) := S
            exact .inl ⟨rfl, .int .i64 p105, u, (run_move rfl (hF.evB hB rfl rfl)), rfl, S⟩
          · intro a u X hB hu hp hr hz hl S
            replace S : St w u ([] ++ X) := S
            have e17 : sl a 17 = .slice A0 x0.length c0 := hp 0 rfl
            have e18 : sl a 18 = .int .i64 p105 := hp 1 rfl
            exact .inl ⟨rfl, .pointer (some ⟨adB A0, adO A0 + p105.toNat * 1, none⟩), u, (run_indexAddr (b := adB A0) (off := adO A0) rfl Tryd.underlying23 sz4 ((ev_sl e17).trans (congrArg (fun A => Value.slice A x0.length c0) ((S.rc0 h0.rc).rd.ad (ix_pos hk107)))) (ev_sl e18) hk107.1 hk107.2 (k' := adO A0 + p105.toNat * 1) rfl), rfl, S⟩
          · intro a u X hB hu hp hr hz hl S
            replace S : St w u ([] ++ X) := S
            have e19 : sl a 19 = .pointer (some ⟨adB A0, adO A0 + p105.toNat * 1, none⟩) := hp 2 rfl
            exact .inl ⟨rfl, .bool (x0.getD p105.toNat false), u, (run_load1 rfl one4 (ev_sl e19) (rd_el0 (l := x0) (S.rc0 h0.rc).rd rfl eB_len false (ix_ltn hk107 rfl) rfl)), rfl, S⟩
          · intro a u X hB hu hp hr hz hl S
            replace S : St w u ([] ++ X) := S
            exact .inl ⟨rfl, .slice A1 x1.length c1, u, (run_move rfl (hF.evB hB rfl rfl)), rfl, S⟩
          · intro a u X hB hu hp hr hz hl S
            replace S : St w u ([] ++ X) := S
            exact .inl ⟨rfl, .int .i64 p105, u, (run_move rfl (hF.evB hB rfl rfl)), rfl, S⟩
          · intro a u X hB hu hp hr hz hl S
            replace S : St w u ([] ++ X) := S
            have e21 : sl a 21 = .slice A1 x1.length c1 := hp 4 rfl
            have e22 : sl a 22 = .int .i64 p105 := hp 5 rfl
            exact .inl ⟨rfl, .pointer (some ⟨adB A1, adO A1 + p105.toNat * 1, none⟩), u, (run_indexAddr (b := adB A1) (off := adO A1) rfl Tryd.underlying23 sz4 ((ev_sl e21).trans (congrArg (fun A => Value.slice A x1.length c1) ((S.rc0 h1.rc).rd.ad (ix_pos hk108)))) (ev_sl e22) hk108.1 hk108.2 (k' := adO A1 + p105.toNat * 1) rfl), rfl, S⟩
          · intro a u X hB hu hp hr hz hl S
            replace S : St w u ([] ++ X) := S
            have e23 : sl a 23 = .pointer (some ⟨adB A1, adO A1 + p105.toNat * 1, none⟩) := hp 6 rfl
            exact .inl ⟨rfl, .bool (x1.getD p105.toNat false), u, (run_load1 rfl one4 (ev_sl e23) (rd_el0 (l := x1) (S.rc0 h1.rc).rd rfl eB_len false (ix_ltn hk108 rfl) rfl)), rfl, S⟩
          · intro a u X hB hu hp hr hz hl S
            replace S : St w u ([] ++ X) := S
            have e20 : sl a 20 = .bool (x0.getD p105.toNat false) := hp 3 rfl
            have e24 : sl a 24 = .bool (x1.getD p105.toNat false) := hp 7 rfl
            exact .inl ⟨rfl, .bool ((x0.getD p105.toNat false) != (x1.getD p105.toNat false)), u, (run_neqB (ev_sl e20) (ev_sl e24) Tryd.underlying4 rfl), rfl, S⟩
        · intro a u hB hp S
          obtain ⟨q0, q1, q2, q3, q4, q5, q6, q7, q8, _⟩ := hp
          have e17 : sl a 17 = .slice A0 x0.length c0 := q0
          have e18 : sl a 18 = .int .i64 p105 := q1
          have e19 : sl a 19 = .pointer (some ⟨adB A0, adO A0 + p105.toNat * 1, none⟩) := q2
          have e20 : sl a 20 = .bool (x0.getD p105.toNat false) := q3
          have e21 : sl a 21 = .slice A1 x1.length c1 := q4
          have e22 : sl a 22 = .int .i64 p105 := q5
          have e23 : sl a 23 = .pointer (some ⟨adB A1, adO A1 + p105.toNat * 1, none⟩) := q6
          have e24 : sl a 24 = .bool (x1.getD p105.toNat false) := q7
          have e25 : sl a 25 = .bool ((x0.getD p105.toNat false) != (x1.getD p105.toNat false)) := q8
          replace S : St w u [] := S
          clear q0 q1 q2 q3 q4 q5 q6 q7 q8
          have hF := hF.region hB [(17, .slice A0 x0.length c0), (18, .int .i64 p105), (19, .pointer (some ⟨adB A0, adO A0 + p105.toNat * 1, none⟩)), (20, .bool (x0.getD p105.toNat false)), (21, .slice A1 x1.length c1), (22, .int .i64 p105), (23, .pointer (some ⟨adB A1, adO A1 + p105.toNat * 1, none⟩)), (24, .bool (x1.getD p105.toNat false)), (25, .bool ((x0.getD p105.toNat false) != (x1.getD p105.toNat false)))] (allSl_mem ⟨e17, e18, e19, e20, e21, e22, e23, e24, e25, trivial⟩) rfl
          clear hB e17 e18 e19 e20 e21 e22 e23 e24 e25
          cases hc109 : ((x0.getD p105.toNat false) != (x1.getD p105.toNat false))
          · replace hM104 := bif_f hc109 hM104
            refine cond_f hF rfl hc109 ?_
            refine wp_skip ?_
            refine wp_region_lit ?_
            refine op_val (v := .int .i64 p105) rfl rfl hF rfl (run_move rfl (hF.ev rfl)) ?_; clear hF; intro a hF
            refine op_val (v := .int .i64 (w64 (p105 + 1))) rfl rfl hF rfl (run_add (z := w64 (p105 + 1)) (hF.ev rfl) rfl rfl rfl) ?_; clear hF; intro a hF
            refine op_val (v := .int .i64 (w64 (p105 + 1))) rfl rfl hF rfl (run_assign rfl (hF.ev rfl)) ?_; clear hF; intro a hF
            refine wpList_nil ?_
            exact ⟨f1, Nat.lt_succ_self _, w64 (p105 + 1), hM104, hF.keep _ ⟨rfl, rfl, rfl, rfl, trivial⟩, S.sel [] rfl rfl⟩
          · replace hM104 := bif_t hc109 hM104
            refine cond_t hF rfl hc109 ?_
            refine wp_seq ?_
            refine wp_region_lit ?_
            refine op_val (v := .bool false) rfl rfl hF rfl (run_assign rfl rfl) ?_; clear hF; intro a hF
            refine wpList_nil ?_
            refine wp_ret ?_
            repeat with_reducible (first | refine then_ret ?_ | refine in_ret ?_ | refine in_nrm ?_)
            refine ret1_gw (.inl rfl) hF rfl (res_tmp (hF.ev rfl)) ?_
            obtain rfl := Option.some.inj hM104
            obtain rfl := Option.some.inj hM
            exact ⟨rfl, S.sel [] rfl rfl⟩
    · rintro a u ⟨p102, rfl, hF, S⟩
      replace hM := elim_l hM
      refine wp_seq ?_
      refine wp_region_lit ?_
      refine op_val (v := .bool true) rfl rfl hF rfl (run_assign rfl rfl) ?_; clear hF; intro a hF
      refine wpList_nil ?_
      refine wp_ret ?_
      repeat with_reducible (first | refine then_ret ?_ | refine in_ret ?_ | refine in_nrm ?_)
      refine ret1_gw (.inl rfl) hF rfl (res_tmp (hF.ev rfl)) ?_
      obtain rfl := Option.some.inj hM
      exact ⟨rfl, S.sel [] rfl rfl⟩
  · replace hM := bif_t hc101 hM
    refine cond_t hF rfl hc101 ?_
    refine wp_seq ?_
    refine wp_region_lit ?_
    refine op_val (v := .bool false) rfl rfl hF rfl (run_assign rfl rfl) ?_; clear hF; intro a hF
    refine wpList_nil ?_
    refine wp_ret ?_
    repeat with_reducible (first | refine then_ret ?_ | refine in_ret ?_ | refine in_nrm ?_)
    refine ret1_gw (.inl rfl) hF rfl (res_tmp (hF.ev rfl)) ?_
    obtain rfl := Option.some.inj hM
    exact ⟨rfl, S.sel [] rfl rfl⟩

set_option maxHeartbeats 4000000 in
theorem c_laws_samePermits {x0 : List (Int × Int)} {x1 : List (Int × Int)} {A0 : Option Addr} {n0 c0 : Nat} {A1 : Option Addr} {n1 c1 : Nat} {w : World} {r : Bool} (h0 : Rt w 2 ePermit A0 n0 c0 x0) (h1 : Rt w 2 ePermit A1 n1 c1 x1) (hM : m_laws_samePermits x0 x1 = some r) :
    Calls Tryd.prog 42 #[.slice A0 n0 c0, .slice A1 n1 c1] w (fun e w' => e = .returned (.bool r) ∧ St w w' []) := by
  obtain rfl := h0.len
  obtain rfl := h1.len
  unfold m_laws_samePermits at hM
  refine calls_gw Tryd.func42 Tryd.ntmps42 rfl [(0, .slice A0 x0.length c0), (1, .slice A1 x1.length c1)] ⟨rfl, rfl, trivial⟩ rfl ?_
  intro a hF
  have S := St.nil w
  refine wp_seq ?_
  refine wp_region_lit ?_
  refine op_val (v := .bool false) rfl rfl hF rfl (run_assign rfl rfl) ?_; clear hF; intro a hF
  refine wpList_nil ?_
  refine wp_seq ?_
  refine wp_seq ?_
  refine wp_region_lit ?_
  refine op_val (v := .slice A0 x0.length c0) rfl rfl hF rfl (run_move rfl (hF.ev rfl)) ?_; clear hF; intro a hF
  refine op_val (v := .int .i64 (x0.length : Int)) rfl rfl hF rfl (run_lenL rfl rfl Tryd.underlying24 (hF.ev rfl)) ?_; clear hF; intro a hF
  refine op_val (v := .slice A1 x1.length c1) rfl rfl hF rfl (run_move rfl (hF.ev rfl)) ?_; clear hF; intro a hF
  refine op_val (v := .int .i64 (x1.length : Int)) rfl rfl hF rfl (run_lenL rfl rfl Tryd.underlying24 (hF.ev rfl)) ?_; clear hF; intro a hF
  refine op_val (v := .bool ((x0.length : Int) != (x1.length : Int))) rfl rfl hF rfl (run_neq (hF.ev rfl) (hF.ev rfl) rfl) ?_; clear hF; intro a hF
  refine wpList_nil ?_
  cases hc101 : ((x0.length : Int) != (x1.length : Int))
  · replace hM := bif_f hc101 hM
    refine cond_f hF rfl hc101 ?_
    refine wp_skip ?_
    refine wp_seq ?_
    refine wp_seq ?_
    refine wp_region_lit ?_
    refine op_val (v := .int .i64 0) rfl rfl hF rfl (run_assign rfl rfl) ?_; clear hF; intro a hF
    refine wpList_nil ?_
    obtain ⟨o103, hM104, hM⟩ := bind_ex hM
    refine wp_cut (fun a u => ∃ (p102 : Unit), (Sum.inl p102) = o103 ∧ Fr a 26 [(4, .bool false)] ∧ St w u []) ?_ ?_
    · have _ := trivial
      refine wp_block ?_
      refine loop_gw (fun m a u => ∃ (p105 : Int), m_laws_samePermits_l1 x0 x1 m p105 = some _ ∧ Fr a 26 [(0, .slice A0 x0.length c0), (1, .slice A1 x1.length c1), (4, .bool false), (5, .int .i64 p105)] ∧ St w u []) FUEL ⟨0, hM104, hF.keep _ ⟨rfl, rfl, rfl, rfl, trivial⟩, S.sel [] rfl rfl⟩ ?_
      clear hF S hM104; rintro m a u ⟨p105, hM104, hF, S⟩
      rcases m with _ | f1
      · exact none_some hM104
      rw [m_laws_samePermits_l1.eq_2] at hM104
      refine wp_seq ?_
      refine wp_seq ?_
      refine wp_region_lit ?_
      refine op_val (v := .int .i64 p105) rfl rfl hF rfl (run_move rfl (hF.ev rfl)) ?_; clear hF; intro a hF
      refine op_val (v := .slice A0 x0.length c0) rfl rfl hF rfl (run_move rfl (hF.ev rfl)) ?_; clear hF; intro a hF
      refine op_val (v := .int .i64 (x0.length : Int)) rfl rfl hF rfl (run_lenL rfl rfl Tryd.underlying24 (hF.ev rfl)) ?_; clear hF; intro a hF
      refine op_val (v := .bool (ltB p105 (x0.length : Int))) rfl rfl hF rfl (run_lss (hF.ev rfl) (hF.ev rfl) rfl) ?_; clear hF; intro a hF
      refine wpList_nil ?_
      cases hc106 : (ltB p105 (x0.length : Int))
      · replace hM104 := bif_f hc106 hM104
        refine cond_f hF rfl hc106 ?_
        refine wp_exit ?_
        repeat with_reducible (first | refine then_exit ?_ | refine in_hit ?_ | refine in_miss rfl ?_)
        obtain rfl := Option.some.inj hM104
        exact ⟨(), rfl, hF.keep _ ⟨rfl, trivial⟩, S.sel [] rfl rfl⟩
      · replace hM104 := bif_t hc106 hM104
        refine cond_t hF rfl hc106 ?_
        refine wp_skip ?_
        refine wp_seq ?_
        refine wp_block ?_
        refine wp_seq ?_
        obtain ⟨hk107, hM104⟩ := chk_ex hM104
        replace hk107 := ixB_t hk107
        obtain ⟨hk108, hM104⟩ := chk_ex hM104
        replace hk108 := ixB_t hk108
        refine region_gw (D := [17, 18, 19, 20, 21, 22, 23, 24, 25]) (Lr := []) (deps := (fun | 0 => [17] | 1 => [18] | 2 => [19] | 3 => [20] | 4 => [21] | 5 => [22] | 6 => [23] | 7 => [24] | 8 => [25] | _ => [])) (rd := (fun _ => [])) (zr := (fun _ => []))
          (φ := fun i vs => match i, vs with | 0, [v17] => v17 = .slice A0 x0.length c0 | 1, [v18] => v18 = .int .i64 p105 | 2, [v19] => v19 = .pointer (some ⟨adB A0, adO A0 + p105.toNat * 2, none⟩) | 3, [v20] => v20 = .agg #[.int .i64 ((x0.getD p105.toNat ((0, 0) : Int × Int)).1), .int .i64 ((x0.getD p105.toNat ((0, 0) : Int × Int)).2)] | 4, [v21] => v21 = .slice A1 x1.length c1 | 5, [v22] => v22 = .int .i64 p105 | 6, [v23] => v23 = .pointer (some ⟨adB A1, adO A1 + p105.toNat * 2, none⟩) | 7, [v24] => v24 = .agg #[.int .i64 ((x1.getD p105.toNat ((0, 0) : Int × Int)).1), .int .i64 ((x1.getD p105.toNat ((0, 0) : Int × Int)).2)] | 8, [v25] => v25 = .bool (!((((x0.getD p105.toNat ((0, 0) : Int × Int)).1) == ((x1.getD p105.toNat ((0, 0) : Int × Int)).1)) && (((x0.getD p105.toNat ((0, 0) : Int × Int)).2) == ((x1.getD p105.toNat ((0, 0) : Int × Int)).2)))) | _, _ => True)
          (C := fun _ _ => [])
          (κ := (fun _ => none)) (Z := (fun _ => [])) mixed hF (by kernel_rfl) S ?_ ?_
        · refine ⟨?_, ?_, ?_, ?_, ?_, ?_, ?_, ?_, ?_, trivial⟩
          · intro a u X hB hu hp hr hz hl S
            replace S : St w u ([] ++ X) := S
            exact .inl ⟨rfl, .slice A0 x0.length c0, u, (run_move rfl (hF.evB hB rfl rfl)), rfl, S⟩
          · intro a u X hB hu hp hr hz hl S
            replace S : St w u ([] ++ X) := S
            exact .inl ⟨rfl, .int .i64 p105, u, (run_move rfl (hF.evB hB rfl rfl)), rfl, S⟩
          · intro a u X hB hu hp hr hz hl S
            replace S : St w u ([] ++ X) := S
            have e17 : sl a 17 = .slice A0 x0.length c0 := hp 0 rfl
            have e18 : sl a 18 = .int .i64 p105 := hp 1 rfl
            exact .inl ⟨rfl, .pointer (some ⟨adB A0, adO A0 + p105.toNat * 2, none⟩), u, (run_indexAddr (b := adB A0) (off := adO A0) rfl Tryd.underlying24 sz48 ((ev_sl e17).trans (congrArg (fun A => Value.slice A x0.length c0) ((S.rc0 h0.rc).rd.ad (ix_pos hk107)))) (ev_sl e18) hk107.1 hk107.2 (k' := adO A0 + p105.toNat * 2) rfl), rfl, S⟩
          · intro a u X hB hu hp hr hz hl S
            replace S : St w u ([] ++ X) := S
            have e19 : sl a 19 = .pointer (some ⟨adB A0, adO A0 + p105.toNat * 2, none⟩) := hp 2 rfl
            exact .inl ⟨rfl, .agg #[.int .i64 ((x0.getD p105.toNat ((0, 0) : Int × Int)).1), .int .i64 ((x0.getD p105.toNat ((0, 0) : Int × Int)).2)], u, (run_loadN (cs := #[.int .i64 ((x0.getD p105.toNat ((0, 0) : Int × Int)).1), .int .i64 ((x0.getD p105.toNat ((0, 0) : Int × Int)).2)]) rfl ag48 (ev_sl e19) rfl (rd_elN (l := x0) (S.rc0 h0.rc).rd rfl ePermit_len ((0, 0) : Int × Int) (ix_ltn hk107 rfl) rfl)), rfl, S⟩
          · intro a u X hB hu hp hr hz hl S
            replace S : St w u ([] ++ X) := S
            exact .inl ⟨rfl, .slice A1 x1.length c1, u, (run_move rfl (hF.evB hB rfl rfl)), rfl, S⟩
          · intro a u X hB hu hp hr hz hl S
            replace S : St w u ([] ++ X) := S
            exact .inl ⟨rfl, .int .i64 p105, u, (run_move rfl (hF.evB hB rfl rfl)), rfl, S⟩
          · intro a u X hB hu hp hr hz hl S
            replace S : St w u ([] ++ X) := S
            have e21 : sl a 21 = .slice A1 x1.length c1 := hp 4 rfl
            have e22 : sl a 22 = .int .i64 p105 := hp 5 rfl
            exact .inl ⟨rfl, .pointer (some ⟨adB A1, adO A1 + p105.toNat * 2, none⟩), u, (run_indexAddr (b := adB A1) (off := adO A1) rfl Tryd.underlying24 sz48 ((ev_sl e21).trans (congrArg (fun A => Value.slice A x1.length c1) ((S.rc0 h1.rc).rd.ad (ix_pos hk108)))) (ev_sl e22) hk108.1 hk108.2 (k' := adO A1 + p105.toNat * 2) rfl), rfl, S⟩
          · intro a u X hB hu hp hr hz hl S
            replace S : St w u ([] ++ X) := S
            have e23 : sl a 23 = .pointer (some ⟨adB A1, adO A1 + p105.toNat * 2, none⟩) := hp 6 rfl
            exact .inl ⟨rfl, .agg #[.int .i64 ((x1.getD p105.toNat ((0, 0) : Int × Int)).1), .int .i64 ((x1.getD p105.toNat ((0, 0) : Int × Int)).2)], u, (run_loadN (cs := #[.int .i64 ((x1.getD p105.toNat ((0, 0) : Int × Int)).1), .int .i64 ((x1.getD p105.toNat ((0, 0) : Int × Int)).2)]) rfl ag48 (ev_sl e23) rfl (rd_elN (l := x1) (S.rc0 h1.rc).rd rfl ePermit_len ((0, 0) : Int × Int) (ix_ltn hk108 rfl) rfl)), rfl, S⟩
          · intro a u X hB hu hp hr hz hl S
            replace S : St w u ([] ++ X) := S
            have e20 : sl a 20 = .agg #[.int .i64 ((x0.getD p105.toNat ((0, 0) : Int × Int)).1), .int .i64 ((x0.getD p105.toNat ((0, 0) : Int × Int)).2)] := hp 3 rfl
            have e24 : sl a 24 = .agg #[.int .i64 ((x1.getD p105.toNat ((0, 0) : Int × Int)).1), .int .i64 ((x1.getD p105.toNat ((0, 0) : Int × Int)).2)] := hp 7 rfl
            exact .inl ⟨rfl, .bool (!((((x0.getD p105.toNat ((0, 0) : Int × Int)).1) == ((x1.getD p105.toNat ((0, 0) : Int × Int)).1)) && (((x0.getD p105.toNat ((0, 0) : Int × Int)).2) == ((x1.getD p105.toNat ((0, 0) : Int × Int)).2)))), u, (run_neqA (ev_sl e20) (ev_sl e24) rfl eg48 eq48), rfl, S⟩
        · intro a u hB hp S
          obtain ⟨q0, q1, q2, q3, q4, q5, q6, q7, q8, _⟩ := hp
          have e17 : sl a 17 = .slice A0 x0.length c0 := q0
          have e18 : sl a 18 = .int .i64 p105 := q1
          have e19 : sl a 19 = .pointer (some ⟨adB A0, adO A0 + p105.toNat * 2, none⟩) := q2
          have e20 : sl a 20 = .agg #[.int .i64 ((x0.getD p105.toNat ((0, 0) : Int × Int)).1), .int .i64 ((x0.getD p105.toNat ((0, 0) : Int × Int)).2)] := q3
          have e21 : sl a 21 = .slice A1 x1.length c1 := q4
          have e22 : sl a 22 = .int .i64 p105 := q5
          have e23 : sl a 23 = .pointer (some ⟨adB A1, adO A1 + p105.toNat * 2, none⟩) := q6
          have e24 : sl a 24 = .agg #[.int .i64 ((x1.getD p105.toNat ((0, 0) : Int × Int)).1), .int .i64 ((x1.getD p105.toNat ((0, 0) : Int × Int)).2)] := q7
          have e25 : sl a 25 = .bool (!((((x0.getD p105.toNat ((0, 0) : Int × Int)).1) == ((x1.getD p105.toNat ((0, 0) : Int × Int)).1)) && (((x0.getD p105.toNat ((0, 0) : Int × Int)).2) == ((x1.getD p105.toNat ((0, 0) : Int × Int)).2)))) := q8
          replace S : St w u [] := S
          clear q0 q1 q2 q3 q4 q5 q6 q7 q8
          have hF := hF.region hB [(17, .slice A0 x0.length c0), (18, .int .i64 p105), (19, .pointer (some ⟨adB A0, adO A0 + p105.toNat * 2, none⟩)), (20, .agg #[.int .i64 ((x0.getD p105.toNat ((0, 0) : Int × Int)).1), .int .i64 ((x0.getD p105.toNat ((0, 0) : Int × Int)).2)]), (21, .slice A1 x1.length c1), (22, .int .i64 p105), (23, .pointer (some ⟨adB A1, adO A1 + p105.toNat * 2, none⟩)), (24, .agg #[.int .i64 ((x1.getD p105.toNat ((0, 0) : Int × Int)).1), .int .i64 ((x1.getD p105.toNat ((0, 0) : Int × Int)).2)]), (25, .bool (!((((x0.getD p105.toNat ((0, 0) : Int × Int)).1) == ((x1.getD p105.toNat ((0, 0) : Int × Int)).1)) && (((x0.getD p105.toNat ((0, 0) : Int × Int)).2) == ((x1.getD p105.toNat ((0, 0) : Int × Int)).2)))))] (allSl_mem ⟨e17, e18, e19, e20, e21, e22, e23, e24, e25, trivial⟩) rfl
          clear hB e17 e18 e19 e20 e21 e22 e23 e24 e25
          cases hc109 : ((((x0.getD p105.toNat ((0, 0) : Int × Int)).1) == ((x1.getD p105.toNat ((0, 0) : Int × Int)).1)) && (((x0.getD p105.toNat ((0, 0) : Int × Int)).2) == ((x1.getD p105.toNat ((0, 0) : Int × Int)).2)))
          · replace hM104 := bif_f hc109 hM104
            refine cond_t hF rfl (not_t hc109) ?_
            refine wp_seq ?_
            refine wp_region_lit ?_
            refine op_val (v := .bool false) rfl rfl hF rfl (run_assign rfl rfl) ?_; clear hF; intro a hF
            refine wpList_nil ?_
            refine wp_ret ?_
            repeat with_reducible (first | refine then_ret ?_ | refine in_ret ?_ | refine in_nrm ?_)
            refine ret1_gw (.inl rfl) hF rfl (res_tmp (hF.ev rfl)) ?_
            obtain rfl := Option.some.inj hM104
            obtain rfl := Option.some.inj hM
            exact ⟨rfl, S.sel [] rfl rfl⟩
          · replace hM104 := bif_t hc109 hM104
            refine cond_f hF rfl (not_f hc109) ?_
            refine wp_skip ?_
            refine wp_region_lit ?_
            refine op_val (v := .int .i64 p105) rfl rfl hF rfl (run_move rfl (hF.ev rfl)) ?_; clear hF; intro a hF
            refine op_val (v := .int .i64 (w64 (p105 + 1))) rfl rfl hF rfl (run_add (z := w64 (p105 + 1)) (hF.ev rfl) rfl rfl rfl) ?_; clear hF; intro a hF
            refine op_val (v := .int .i64 (w64 (p105 + 1))) rfl rfl hF rfl (run_assign rfl (hF.ev rfl)) ?_; clear hF; intro a hF
            refine wpList_nil ?_
            exact ⟨f1, Nat.lt_succ_self _, w64 (p105 + 1), hM104, hF.keep _ ⟨rfl, rfl, rfl, rfl, trivial⟩, S.sel [] rfl rfl⟩
    · rintro a u ⟨p102, rfl, hF, S⟩
      replace hM := elim_l hM
      refine wp_seq ?_
      refine wp_region_lit ?_
      refine op_val (v := .bool true) rfl rfl hF rfl (run_assign rfl rfl) ?_; clear hF; intro a hF
      refine wpList_nil ?_
      refine wp_ret ?_
      repeat with_reducible (first | refine then_ret ?_ | refine in_ret ?_ | refine in_nrm ?_)
      refine ret1_gw (.inl rfl) hF rfl (res_tmp (hF.ev rfl)) ?_
      obtain rfl := Option.some.inj hM
      exact ⟨rfl, S.sel [] rfl rfl⟩
  · replace hM := bif_t hc101 hM
    refine cond_t hF rfl hc101 ?_
    refine wp_seq ?_
    refine wp_region_lit ?_
    refine op_val (v := .bool false) rfl rfl hF rfl (run_assign rfl rfl) ?_; clear hF; intro a hF
    refine wpList_nil ?_
    refine wp_ret ?_
    repeat with_reducible (first | refine then_ret ?_ | refine in_ret ?_ | refine in_nrm ?_)
    refine ret1_gw (.inl rfl) hF rfl (res_tmp (hF.ev rfl)) ?_
    obtain rfl := Option.some.inj hM
    exact ⟨rfl, S.sel [] rfl rfl⟩

set_option maxHeartbeats 4000000 in
theorem c_laws_sameWork {x0 : List Bool} {x1 : List Bool} {x2 : List (Int × Int)} {x3 : List Bool} {x4 : List Bool} {x5 : List (Int × Int)} {A0 : Option Addr} {n0 c0 : Nat} {A1 : Option Addr} {n1 c1 : Nat} {A2 : Option Addr} {n2 c2 : Nat} {A3 : Option Addr} {n3 c3 : Nat} {A4 : Option Addr} {n4 c4 : Nat} {A5 : Option Addr} {n5 c5 : Nat} {w : World} {r : Bool} (h0 : Rt w 1 eB A0 n0 c0 x0) (h1 : Rt w 1 eB A1 n1 c1 x1) (h2 : Rt w 2 ePermit A2 n2 c2 x2) (h3 : Rt w 1 eB A3 n3 c3 x3) (h4 : Rt w 1 eB A4 n4 c4 x4) (h5 : Rt w 2 ePermit A5 n5 c5 x5) (hM : m_laws_sameWork x0 x1 x2 x3 x4 x5 = some r) :
    Calls Tryd.prog 16 #[.agg #[.slice A0 n0 c0, .slice A1 n1 c1, .slice A2 n2 c2], .agg #[.slice A3 n3 c3, .slice A4 n4 c4, .slice A5 n5 c5]] w (fun e w' => e = .returned (.bool r) ∧ St w w' []) := by
  obtain rfl := h0.len
  obtain rfl := h1.len
  obtain rfl := h2.len
  obtain rfl := h3.len
  obtain rfl := h4.len
  obtain rfl := h5.len
  unfold m_laws_sameWork at hM
  refine calls_gw Tryd.func16 Tryd.ntmps16 rfl [(0, .agg #[.slice A0 x0.length c0, .slice A1 x1.length c1, .slice A2 x2.length c2]), (1, .agg #[.slice A3 x3.length c3, .slice A4 x4.length c4, .slice A5 x5.length c5])] ⟨rfl, rfl, trivial⟩ rfl ?_
  intro a hF
  have S := St.nil w
  refine wp_seq ?_
  refine wp_region_lit ?_
  refine op_new (cs := #[.slice A0 x0.length c0, .slice A1 x1.length c1, .slice A2 x2.length c2]) rfl rfl hF rfl S (run_box rfl (hF.ev rfl) rfl) ?_; clear hF S; intro a g101 u hF S
  refine op_new (cs := #[.slice A3 x3.length c3, .slice A4 x4.length c4, .slice A5 x5.length c5]) rfl rfl hF rfl S (run_box rfl (hF.ev rfl) rfl) ?_; clear hF S; intro a g102 u hF S
  refine op_val (v := .bool false) rfl rfl hF rfl (run_assign rfl rfl) ?_; clear hF; intro a hF
  refine wpList_nil ?_
  refine wp_seq ?_
  refine wp_region_lit ?_
  refine op_val (v := .pointer (some ⟨g101, 0, none⟩)) rfl rfl hF rfl (run_fieldAddr rfl fl26_0 (hF.ev rfl) rfl) ?_; clear hF; intro a hF
  refine op_val (v := .slice A0 x0.length c0) rfl rfl hF rfl (run_load1 rfl one23 (hF.ev rfl) ((S.free 1 rfl).cell rfl)) ?_; clear hF; intro a hF
  refine op_val (v := .pointer (some ⟨g102, 0, none⟩)) rfl rfl hF rfl (run_fieldAddr rfl fl26_0 (hF.ev rfl) rfl) ?_; clear hF; intro a hF
  refine op_val (v := .slice A3 x3.length c3) rfl rfl hF rfl (run_load1 rfl one23 (hF.ev rfl) ((S.free 0 rfl).cell rfl)) ?_; clear hF; intro a hF
  obtain ⟨p103, h103, hM⟩ := bind_ex hM
  refine op_call rfl rfl hF rfl (run_call (vs := [.slice A0 x0.length c0, .slice A3 x3.length c3]) rfl rfl co41 ⟨(hF.ev rfl), (hF.ev rfl), trivial⟩) (c_laws_sameBools (x0 := x0) (x1 := x3) ⟨(S.rc0 h0.rc), rfl⟩ ⟨(S.rc0 h3.rc), rfl⟩ h103) ?_
  rintro e u ⟨rfl, T⟩
  refine ⟨_, rfl, ?_⟩
  clear hF; intro a hF
  replace S := S.call0 T; clear T
  refine op_val (v := .bool p103) rfl rfl hF rfl (run_move rfl (hF.ev rfl)) ?_; clear hF; intro a hF
  refine op_gv (v := .pointer (some ⟨g101, 1, none⟩)) rfl rfl hF rfl (yt (gw_yield hF rfl rfl rfl)) (fun hg => (run_fieldAddr rfl fl26_1 (hF.ev rfl) rfl)) ?_; clear hF; intro a hF
  refine op_gv (v := .slice A1 x1.length c1) rfl rfl hF rfl (yt (gw_yield hF rfl rfl rfl)) (fun hg => (run_load1 rfl one23 ((hF.ev rfl).trans (gv_t hg)) ((S.free 1 rfl).cell rfl))) ?_; clear hF; intro a hF
  refine op_gv (v := .pointer (some ⟨g102, 1, none⟩)) rfl rfl hF rfl (yt (gw_yield hF rfl rfl rfl)) (fun hg => (run_fieldAddr rfl fl26_1 (hF.ev rfl) rfl)) ?_; clear hF; intro a hF
  refine op_gv (v := .slice A4 x4.length c4) rfl rfl hF rfl (yt (gw_yield hF rfl rfl rfl)) (fun hg => (run_load1 rfl one23 ((hF.ev rfl).trans (gv_t hg)) ((S.free 0 rfl).cell rfl))) ?_; clear hF; intro a hF
  obtain ⟨p104, h104, hM⟩ := bind_ex hM
  refine op_gcall (v := .bool p104) rfl rfl hF rfl S (yt (gw_yield hF rfl rfl rfl)) (fun hg => (run_call (vs := [.slice A1 x1.length c1, .slice A4 x4.length c4]) rfl rfl co41 ⟨((hF.ev rfl).trans (gv_t hg)), ((hF.ev rfl).trans (gv_t hg)), trivial⟩)) (fun hg => c_laws_sameBools (x0 := x1) (x1 := x4) ⟨(S.rc0 h1.rc), rfl⟩ ⟨(S.rc0 h4.rc), rfl⟩ (gb_t h104 hg)) ?_; clear hF S; intro a u hF S
  refine op_val (v := .bool (p103 && p104)) rfl rfl hF rfl (run_pick_and rfl (hF.ev rfl) (fun hp => ((hF.ev rfl).trans (gv_t hp))) rfl) ?_; clear hF; intro a hF
  refine op_val (v := .bool (p103 && p104)) rfl rfl hF rfl (run_move rfl (hF.ev rfl)) ?_; clear hF; intro a hF
  refine op_gv (v := .pointer (some ⟨g101, 2, none⟩)) rfl rfl hF rfl (yt (gw_yield hF rfl rfl rfl)) (fun hg => (run_fieldAddr rfl fl26_2 (hF.ev rfl) rfl)) ?_; clear hF; intro a hF
  refine op_gv (v := .slice A2 x2.length c2) rfl rfl hF rfl (yt (gw_yield hF rfl rfl rfl)) (fun hg => (run_load1 rfl one24 ((hF.ev rfl).trans (gv_t hg)) ((S.free 1 rfl).cell rfl))) ?_; clear hF; intro a hF
  refine op_gv (v := .pointer (some ⟨g102, 2, none⟩)) rfl rfl hF rfl (yt (gw_yield hF rfl rfl rfl)) (fun hg => (run_fieldAddr rfl fl26_2 (hF.ev rfl) rfl)) ?_; clear hF; intro a hF
  refine op_gv (v := .slice A5 x5.length c5) rfl rfl hF rfl (yt (gw_yield hF rfl rfl rfl)) (fun hg => (run_load1 rfl one24 ((hF.ev rfl).trans (gv_t hg)) ((S.free 0 rfl).cell rfl))) ?_; clear hF; intro a hF
  obtain ⟨p105, h105, hM⟩ := bind_ex hM
  refine op_gcall (v := .bool p105) rfl rfl hF rfl S (yt (gw_yield hF rfl rfl rfl)) (fun hg => (run_call (vs := [.slice A2 x2.length c2, .slice A5 x5.length c5]) rfl rfl co42 ⟨((hF.ev rfl).trans (gv_t hg)), ((hF.ev rfl).trans (gv_t hg)), trivial⟩)) (fun hg => c_laws_samePermits (x0 := x2) (x1 := x5) ⟨(S.rc0 h2.rc), rfl⟩ ⟨(S.rc0 h5.rc), rfl⟩ (gb_t h105 hg)) ?_; clear hF S; intro a u hF S
  refine op_val (v := .bool ((p103 && p104) && p105)) rfl rfl hF rfl (run_pick_and rfl (hF.ev rfl) (fun hp => ((hF.ev rfl).trans (gv_t hp))) rfl) ?_; clear hF; intro a hF
  refine op_val (v := .bool ((p103 && p104) && p105)) rfl rfl hF rfl (run_assign rfl (hF.ev rfl)) ?_; clear hF; intro a hF
  refine wpList_nil ?_
  refine wp_ret ?_
  repeat with_reducible (first | refine then_ret ?_ | refine in_ret ?_ | refine in_nrm ?_)
  refine ret1_gw (.inl rfl) hF rfl (res_tmp (hF.ev rfl)) ?_
  obtain rfl := Option.some.inj hM
  exact ⟨rfl, S.sel [] rfl rfl⟩

set_option maxHeartbeats 4000000 in
theorem c_laws_FnWorkDo {x0 : List Int} {A0 : Option Addr} {n0 c0 : Nat} {w : World} {r : Bool} (h0 : Rt w 1 eU A0 n0 c0 x0) (hM : m_laws_FnWorkDo x0 = some r) :
    Calls Tryd.prog 4 #[.slice A0 n0 c0] w (fun e w' => e = .returned (.bool r) ∧ St w w' []) := by
  obtain rfl := h0.len
  unfold m_laws_FnWorkDo at hM
  refine calls_gw Tryd.func4 Tryd.ntmps4 rfl [(0, .slice A0 x0.length c0)] ⟨rfl, trivial⟩ rfl ?_
  intro a hF
  have S := St.nil w
  refine wp_seq ?_
  refine wp_region_lit ?_
  refine op_val (v := .bool false) rfl rfl hF rfl (run_assign rfl rfl) ?_; clear hF; intro a hF
  refine wpList_nil ?_
  refine wp_seq ?_
  refine wp_seq ?_
  refine wp_region_lit ?_
  refine op_val (v := .slice A0 x0.length c0) rfl rfl hF rfl (run_move rfl (hF.ev rfl)) ?_; clear hF; intro a hF
  refine op_val (v := .int .i64 (x0.length : Int)) rfl rfl hF rfl (run_lenL rfl rfl Tryd.underlying22 (hF.ev rfl)) ?_; clear hF; intro a hF
  refine op_val (v := .bool (ltB 1048576 (x0.length : Int))) rfl rfl hF rfl (run_gtr (hF.ev rfl) rfl rfl) ?_; clear hF; intro a hF
  refine wpList_nil ?_
  cases hc101 : (ltB 1048576 (x0.length : Int))
  · replace hM := bif_f hc101 hM
    refine cond_f hF rfl hc101 ?_
    refine wp_skip ?_
    refine wp_seq ?_
    refine wp_region_lit ?_
    refine op_val (v := .slice A0 x0.length c0) rfl rfl hF rfl (run_move rfl (hF.ev rfl)) ?_; clear hF; intro a hF
    obtain ⟨p102, h102, hM⟩ := bind_ex hM
    refine op_call rfl rfl hF rfl (run_call (vs := [.slice A0 x0.length c0]) rfl rfl co14 ⟨(hF.ev rfl), trivial⟩) (c_spec_DrawWorkDo (x0 := x0) ⟨(S.rc0 h0.rc), rfl⟩ h102) ?_
    rintro e u ⟨B103, n104, d105, B106, n107, d108, B109, n110, d111, rfl, rfl, rfl, rfl, T⟩
    refine ⟨_, rfl, ?_⟩
    clear hF; intro a hF
    replace S := S.call3 T; clear T
    refine op_val (v := .tuple #[.agg #[.slice B103 p102.1.length d105, .slice B106 p102.2.1.length d108, .slice B109 p102.2.2.1.length d111], .agg #[.int .i64 p102.2.2.2.1, .int .i64 p102.2.2.2.2.1, .int .i64 p102.2.2.2.2.2]]) rfl rfl hF rfl (run_move rfl (hF.ev rfl)) ?_; clear hF; intro a hF
    refine op_val (v := .agg #[.slice B103 p102.1.length d105, .slice B106 p102.2.1.length d108, .slice B109 p102.2.2.1.length d111]) rfl rfl hF rfl (run_extract rfl (hF.ev rfl) rfl) ?_; clear hF; intro a hF
    refine op_val (v := .agg #[.int .i64 p102.2.2.2.1, .int .i64 p102.2.2.2.2.1, .int .i64 p102.2.2.2.2.2]) rfl rfl hF rfl (run_extract rfl (hF.ev rfl) rfl) ?_; clear hF; intro a hF
    refine op_new (cs := #[.slice none 0 0, .slice none 0 0, .slice none 0 0]) rfl rfl hF rfl S (run_allocZ rfl zr26) ?_; clear hF S; intro a g112 u hF S
    refine op_new (cs := #[.int .i64 0, .int .i64 0, .int .i64 0]) rfl rfl hF rfl S (run_allocZ rfl zr35) ?_; clear hF S; intro a g113 u hF S
    refine op_do rfl rfl (run_store (cs' := #[.slice B103 p102.1.length d105, .slice B106 p102.2.1.length d108, .slice B109 p102.2.2.1.length d111]) rfl sz26 (hF.ev rfl) (hF.ev rfl) rfl rfl rfl (S.free 1 rfl) rfl rfl) ?_; replace S := S.put 1 rfl (#[.slice B103 p102.1.length d105, .slice B106 p102.2.1.length d108, .slice B109 p102.2.2.1.length d111])
    generalize World.setRow _ _ _ = u at S ⊢
    refine op_do rfl rfl (run_store (cs' := #[.int .i64 p102.2.2.2.1, .int .i64 p102.2.2.2.2.1, .int .i64 p102.2.2.2.2.2]) rfl sz35 (hF.ev rfl) (hF.ev rfl) rfl rfl rfl (S.free 0 rfl) rfl rfl) ?_; replace S := S.put 0 rfl (#[.int .i64 p102.2.2.2.1, .int .i64 p102.2.2.2.2.1, .int .i64 p102.2.2.2.2.2])
    generalize World.setRow _ _ _ = u at S ⊢
    refine wpList_nil ?_
    refine wp_seq ?_
    refine wp_region_lit ?_
    refine op_val (v := .agg #[.slice B103 p102.1.length d105, .slice B106 p102.2.1.length d108, .slice B109 p102.2.2.1.length d111]) rfl rfl hF rfl (run_loadN rfl ag26 (hF.ev rfl) rfl ((S.free 1 rfl).cells 0 #[.slice B103 p102.1.length d105, .slice B106 p102.2.1.length d108, .slice B109 p102.2.2.1.length d111] rfl)) ?_; clear hF; intro a hF
    refine op_val (v := .agg #[.int .i64 p102.2.2.2.1, .int .i64 p102.2.2.2.2.1, .int .i64 p102.2.2.2.2.2]) rfl rfl hF rfl (run_loadN rfl ag35 (hF.ev rfl) rfl ((S.free 0 rfl).cells 0 #[.int .i64 p102.2.2.2.1, .int .i64 p102.2.2.2.2.1, .int .i64 p102.2.2.2.2.2] rfl)) ?_; clear hF; intro a hF
    obtain ⟨p114, h114, hM⟩ := bind_ex hM
    refine op_call rfl rfl hF rfl (run_call (vs := [.agg #[.slice B103 p102.1.length d105, .slice B106 p102.2.1.length d108, .slice B109 p102.2.2.1.length d111], .agg #[.int .i64 p102.2.2.2.1, .int .i64 p102.2.2.2.2.1, .int .i64 p102.2.2.2.2.2]]) rfl rfl co11 ⟨(hF.ev rfl), (hF.ev rfl), trivial⟩) (c_impl_WorkDo (x0 := p102.1) (x1 := p102.2.1) (x2 := p102.2.2.1) (x3 := p102.2.2.2.1) (x4 := p102.2.2.2.2.1) (x5 := p102.2.2.2.2.2) ⟨(S.rc 2 rfl), rfl⟩ ⟨(S.rc 3 rfl), rfl⟩ ⟨(S.rc 4 rfl), rfl⟩ h114) ?_
    rintro e u ⟨B115, n116, d117, B118, n119, d120, B121, n122, d123, rfl, rfl, rfl, rfl, T⟩
    refine ⟨_, rfl, ?_⟩
    clear hF; intro a hF
    replace S := S.call3 T; clear T
    refine op_val (v := .tuple #[.agg #[.slice B115 p114.1.length d117, .slice B118 p114.2.1.length d120, .slice B121 p114.2.2.1.length d123], .bool p114.2.2.2]) rfl rfl hF rfl (run_move rfl (hF.ev rfl)) ?_; clear hF; intro a hF
    refine op_val (v := .agg #[.slice B115 p114.1.length d117, .slice B118 p114.2.1.length d120, .slice B121 p114.2.2.1.length d123]) rfl rfl hF rfl (run_extract rfl (hF.ev rfl) rfl) ?_; clear hF; intro a hF
    refine op_val (v := .bool p114.2.2.2) rfl rfl hF rfl (run_extract rfl (hF.ev rfl) rfl) ?_; clear hF; intro a hF
    refine op_new (cs := #[.slice none 0 0, .slice none 0 0, .slice none 0 0]) rfl rfl hF rfl S (run_allocZ rfl zr26) ?_; clear hF S; intro a g124 u hF S
    refine op_do rfl rfl (run_store (cs' := #[.slice B115 p114.1.length d117, .slice B118 p114.2.1.length d120, .slice B121 p114.2.2.1.length d123]) rfl sz26 (hF.ev rfl) (hF.ev rfl) rfl rfl rfl (S.free 0 rfl) rfl rfl) ?_; replace S := S.put 0 rfl (#[.slice B115 p114.1.length d117, .slice B118 p114.2.1.length d120, .slice B121 p114.2.2.1.length d123])
    generalize World.setRow _ _ _ = u at S ⊢
    refine op_val (v := .bool p114.2.2.2) rfl rfl hF rfl (run_assign rfl (hF.ev rfl)) ?_; clear hF; intro a hF
    refine wpList_nil ?_
    refine wp_seq ?_
    refine wp_region_lit ?_
    refine op_val (v := .agg #[.slice B103 p102.1.length d105, .slice B106 p102.2.1.length d108, .slice B109 p102.2.2.1.length d111]) rfl rfl hF rfl (run_loadN rfl ag26 (hF.ev rfl) rfl ((S.free 5 rfl).cells 0 #[.slice B103 p102.1.length d105, .slice B106 p102.2.1.length d108, .slice B109 p102.2.2.1.length d111] rfl)) ?_; clear hF; intro a hF
    refine op_val (v := .agg #[.int .i64 p102.2.2.2.1, .int .i64 p102.2.2.2.2.1, .int .i64 p102.2.2.2.2.2]) rfl rfl hF rfl (run_loadN rfl ag35 (hF.ev rfl) rfl ((S.free 4 rfl).cells 0 #[.int .i64 p102.2.2.2.1, .int .i64 p102.2.2.2.2.1, .int .i64 p102.2.2.2.2.2] rfl)) ?_; clear hF; intro a hF
    obtain ⟨p125, h125, hM⟩ := bind_ex hM
    refine op_call rfl rfl hF rfl (run_call (vs := [.agg #[.slice B103 p102.1.length d105, .slice B106 p102.2.1.length d108, .slice B109 p102.2.2.1.length d111], .agg #[.int .i64 p102.2.2.2.1, .int .i64 p102.2.2.2.2.1, .int .i64 p102.2.2.2.2.2]]) rfl rfl co15 ⟨(hF.ev rfl), (hF.ev rfl), trivial⟩) (c_spec_WorkDo (x0 := p102.1) (x1 := p102.2.1) (x2 := p102.2.2.1) (x3 := p102.2.2.2.1) (x4 := p102.2.2.2.2.1) (x5 := p102.2.2.2.2.2) ⟨(S.rc 6 rfl), rfl⟩ ⟨(S.rc 7 rfl), rfl⟩ ⟨(S.rc 8 rfl), rfl⟩ h125) ?_
    rintro e u ⟨B126, n127, d128, B129, n130, d131, B132, n133, d134, rfl, rfl, rfl, rfl, T⟩
    refine ⟨_, rfl, ?_⟩
    clear hF; intro a hF
    replace S := S.call3 T; clear T
    refine op_val (v := .tuple #[.agg #[.slice B126 p125.1.length d128, .slice B129 p125.2.1.length d131, .slice B132 p125.2.2.1.length d134], .bool p125.2.2.2]) rfl rfl hF rfl (run_move rfl (hF.ev rfl)) ?_; clear hF; intro a hF
    refine op_val (v := .agg #[.slice B126 p125.1.length d128, .slice B129 p125.2.1.length d131, .slice B132 p125.2.2.1.length d134]) rfl rfl hF rfl (run_extract rfl (hF.ev rfl) rfl) ?_; clear hF; intro a hF
    refine op_val (v := .bool p125.2.2.2) rfl rfl hF rfl (run_extract rfl (hF.ev rfl) rfl) ?_; clear hF; intro a hF
    refine op_new (cs := #[.slice none 0 0, .slice none 0 0, .slice none 0 0]) rfl rfl hF rfl S (run_allocZ rfl zr26) ?_; clear hF S; intro a g135 u hF S
    refine op_do rfl rfl (run_store (cs' := #[.slice B126 p125.1.length d128, .slice B129 p125.2.1.length d131, .slice B132 p125.2.2.1.length d134]) rfl sz26 (hF.ev rfl) (hF.ev rfl) rfl rfl rfl (S.free 0 rfl) rfl rfl) ?_; replace S := S.put 0 rfl (#[.slice B126 p125.1.length d128, .slice B129 p125.2.1.length d131, .slice B132 p125.2.2.1.length d134])
    generalize World.setRow _ _ _ = u at S ⊢
    refine op_val (v := .bool p125.2.2.2) rfl rfl hF rfl (run_assign rfl (hF.ev rfl)) ?_; clear hF; intro a hF
    refine wpList_nil ?_
    refine wp_seq ?_
    refine wp_seq ?_
    refine wp_region_lit ?_
    refine op_val (v := .agg #[.slice B115 p114.1.length d117, .slice B118 p114.2.1.length d120, .slice B121 p114.2.2.1.length d123]) rfl rfl hF rfl (run_loadN rfl ag26 (hF.ev rfl) rfl ((S.free 4 rfl).cells 0 #[.slice B115 p114.1.length d117, .slice B118 p114.2.1.length d120, .slice B121 p114.2.2.1.length d123] rfl)) ?_; clear hF; intro a hF
    refine op_val (v := .agg #[.slice B126 p125.1.length d128, .slice B129 p125.2.1.length d131, .slice B132 p125.2.2.1.length d134]) rfl rfl hF rfl (run_loadN rfl ag26 (hF.ev rfl) rfl ((S.free 0 rfl).cells 0 #[.slice B126 p125.1.length d128, .slice B129 p125.2.1.length d131, .slice B132 p125.2.2.1.length d134] rfl)) ?_; clear hF; intro a hF
    obtain ⟨p136, h136, hM⟩ := bind_ex hM
    refine op_call rfl rfl hF rfl (run_call (vs := [.agg #[.slice B115 p114.1.length d117, .slice B118 p114.2.1.length d120, .slice B121 p114.2.2.1.length d123], .agg #[.slice B126 p125.1.length d128, .slice B129 p125.2.1.length d131, .slice B132 p125.2.2.1.length d134]]) rfl rfl co16 ⟨(hF.ev rfl), (hF.ev rfl), trivial⟩) (c_laws_sameWork (x0 := p114.1) (x1 := p114.2.1) (x2 := p114.2.2.1) (x3 := p125.1) (x4 := p125.2.1) (x5 := p125.2.2.1) ⟨(S.rc 5 rfl), rfl⟩ ⟨(S.rc 6 rfl), rfl⟩ ⟨(S.rc 7 rfl), rfl⟩ ⟨(S.rc 1 rfl), rfl⟩ ⟨(S.rc 2 rfl), rfl⟩ ⟨(S.rc 3 rfl), rfl⟩ h136) ?_
    rintro e u ⟨rfl, T⟩
    refine ⟨_, rfl, ?_⟩
    clear hF; intro a hF
    replace S := S.call0 T; clear T
    refine op_val (v := .bool (!p136)) rfl rfl hF rfl (run_not rfl (hF.ev rfl)) ?_; clear hF; intro a hF
    refine op_val (v := .bool (!p136)) rfl rfl hF rfl (run_move rfl (hF.ev rfl)) ?_; clear hF; intro a hF
    refine op_gv (v := .bool p114.2.2.2) rfl rfl hF rfl (yf (gw_yield hF rfl rfl rfl)) (fun hg => (run_move rfl (hF.ev rfl))) ?_; clear hF; intro a hF
    refine op_gv (v := .bool p125.2.2.2) rfl rfl hF rfl (yf (gw_yield hF rfl rfl rfl)) (fun hg => (run_move rfl (hF.ev rfl))) ?_; clear hF; intro a hF
    refine op_gv (v := .bool (p114.2.2.2 != p125.2.2.2)) rfl rfl hF rfl (yf (gw_yield hF rfl rfl rfl)) (fun hg => (run_neqB ((hF.ev rfl).trans (gv_t hg)) ((hF.ev rfl).trans (gv_t hg)) Tryd.underlying4 rfl)) ?_; clear hF; intro a hF
    refine op_val (v := .bool ((!p136) || (p114.2.2.2 != p125.2.2.2))) rfl rfl hF rfl (run_pick_or rfl (hF.ev rfl) rfl (fun hp => ((hF.ev rfl).trans (gv_t (not_t hp))))) ?_; clear hF; intro a hF
    refine wpList_nil ?_
    cases hc137 : ((!p136) || (p114.2.2.2 != p125.2.2.2))
    · replace hM := bif_f hc137 hM
      refine cond_f hF rfl hc137 ?_
      refine wp_skip ?_
      refine wp_seq ?_
      refine wp_seq ?_
      refine wp_region_lit ?_
      refine op_val (v := .bool p114.2.2.2) rfl rfl hF rfl (run_move rfl (hF.ev rfl)) ?_; clear hF; intro a hF
      refine op_val (v := .bool (!p114.2.2.2)) rfl rfl hF rfl (run_not rfl (hF.ev rfl)) ?_; clear hF; intro a hF
      refine wpList_nil ?_
      cases hc138 : (p114.2.2.2)
      · replace hM := bif_f hc138 hM
        refine cond_t hF rfl (not_t hc138) ?_
        refine wp_seq ?_
        refine wp_region_lit ?_
        refine op_val (v := .agg #[.slice B115 p114.1.length d117, .slice B118 p114.2.1.length d120, .slice B121 p114.2.2.1.length d123]) rfl rfl hF rfl (run_loadN rfl ag26 (hF.ev rfl) rfl ((S.free 4 rfl).cells 0 #[.slice B115 p114.1.length d117, .slice B118 p114.2.1.length d120, .slice B121 p114.2.2.1.length d123] rfl)) ?_; clear hF; intro a hF
        refine op_val (v := .agg #[.slice B103 p102.1.length d105, .slice B106 p102.2.1.length d108, .slice B109 p102.2.2.1.length d111]) rfl rfl hF rfl (run_loadN rfl ag26 (hF.ev rfl) rfl ((S.free 9 rfl).cells 0 #[.slice B103 p102.1.length d105, .slice B106 p102.2.1.length d108, .slice B109 p102.2.2.1.length d111] rfl)) ?_; clear hF; intro a hF
        obtain ⟨p139, h139, hM⟩ := bind_ex hM
        refine op_call rfl rfl hF rfl (run_call (vs := [.agg #[.slice B115 p114.1.length d117, .slice B118 p114.2.1.length d120, .slice B121 p114.2.2.1.length d123], .agg #[.slice B103 p102.1.length d105, .slice B106 p102.2.1.length d108, .slice B109 p102.2.2.1.length d111]]) rfl rfl co16 ⟨(hF.ev rfl), (hF.ev rfl), trivial⟩) (c_laws_sameWork (x0 := p114.1) (x1 := p114.2.1) (x2 := p114.2.2.1) (x3 := p102.1) (x4 := p102.2.1) (x5 := p102.2.2.1) ⟨(S.rc 5 rfl), rfl⟩ ⟨(S.rc 6 rfl), rfl⟩ ⟨(S.rc 7 rfl), rfl⟩ ⟨(S.rc 10 rfl), rfl⟩ ⟨(S.rc 11 rfl), rfl⟩ ⟨(S.rc 12 rfl), rfl⟩ h139) ?_
        rintro e u ⟨rfl, T⟩
        refine ⟨_, rfl, ?_⟩
        clear hF; intro a hF
        replace S := S.call0 T; clear T
        refine op_val (v := .bool p139) rfl rfl hF rfl (run_move rfl (hF.ev rfl)) ?_; clear hF; intro a hF
        refine op_gv (v := .pointer (some ⟨g124, 0, none⟩)) rfl rfl hF rfl (yf (gw_yield hF rfl rfl rfl)) (fun hg => (run_fieldAddr rfl fl26_0 (hF.ev rfl) rfl)) ?_; clear hF; intro a hF
        refine op_gv (v := .slice B115 p114.1.length d117) rfl rfl hF rfl (yf (gw_yield hF rfl rfl rfl)) (fun hg => (run_load1 rfl one23 ((hF.ev rfl).trans (gv_t hg)) ((S.free 4 rfl).cell rfl))) ?_; clear hF; intro a hF
        refine op_gv (v := .int .i64 (p114.1.length : Int)) rfl rfl hF rfl (yf (gw_yield hF rfl rfl rfl)) (fun hg => (run_lenL rfl rfl Tryd.underlying23 ((hF.ev rfl).trans (gv_t hg)))) ?_; clear hF; intro a hF
        refine op_gv (v := .bool ((p114.1.length : Int) == 0)) rfl rfl hF rfl (yf (gw_yield hF rfl rfl rfl)) (fun hg => (run_eql ((hF.ev rfl).trans (gv_t hg)) rfl rfl)) ?_; clear hF; intro a hF
        refine op_val (v := .bool (p139 || ((p114.1.length : Int) == 0))) rfl rfl hF rfl (run_pick_or rfl (hF.ev rfl) rfl (fun hp => ((hF.ev rfl).trans (gv_t (not_t hp))))) ?_; clear hF; intro a hF
        refine op_val (v := .bool (p139 || ((p114.1.length : Int) == 0))) rfl rfl hF rfl (run_move rfl (hF.ev rfl)) ?_; clear hF; intro a hF
        obtain ⟨p140, h140, hM⟩ := bind_ex hM
        refine op_gcall (v := .bool p140) rfl rfl hF rfl S (yt (gw_yield hF rfl rfl rfl)) (fun hg => (run_call (vs := []) rfl rfl co13 trivial)) (fun hg => c_laws_alive   (gb_t h140 hg)) ?_; clear hF S; intro a u hF S
        refine op_val (v := .bool ((p139 || ((p114.1.length : Int) == 0)) && p140)) rfl rfl hF rfl (run_pick_and rfl (hF.ev rfl) (fun hp => ((hF.ev rfl).trans (gv_t hp))) rfl) ?_; clear hF; intro a hF
        refine op_val (v := .bool ((p139 || ((p114.1.length : Int) == 0)) && p140)) rfl rfl hF rfl (run_assign rfl (hF.ev rfl)) ?_; clear hF; intro a hF
        refine wpList_nil ?_
        refine wp_ret ?_
        repeat with_reducible (first | refine then_ret ?_ | refine in_ret ?_ | refine in_nrm ?_)
        refine ret1_gw (.inl rfl) hF rfl (res_tmp (hF.ev rfl)) ?_
        obtain rfl := Option.some.inj hM
        exact ⟨rfl, S.sel [] rfl rfl⟩
      · replace hM := bif_t hc138 hM
        refine cond_f hF rfl (not_f hc138) ?_
        refine wp_skip ?_
        refine wp_seq ?_
        refine wp_region_lit ?_
        refine op_val (v := .agg #[.slice B115 p114.1.length d117, .slice B118 p114.2.1.length d120, .slice B121 p114.2.2.1.length d123]) rfl rfl hF rfl (run_loadN rfl ag26 (hF.ev rfl) rfl ((S.free 4 rfl).cells 0 #[.slice B115 p114.1.length d117, .slice B118 p114.2.1.length d120, .slice B121 p114.2.2.1.length d123] rfl)) ?_; clear hF; intro a hF
        refine op_val (v := .agg #[.int .i64 p102.2.2.2.1, .int .i64 p102.2.2.2.2.1, .int .i64 p102.2.2.2.2.2]) rfl rfl hF rfl (run_loadN rfl ag35 (hF.ev rfl) rfl ((S.free 8 rfl).cells 0 #[.int .i64 p102.2.2.2.1, .int .i64 p102.2.2.2.2.1, .int .i64 p102.2.2.2.2.2] rfl)) ?_; clear hF; intro a hF
        obtain ⟨p141, h141, hM⟩ := bind_ex hM
        refine op_call rfl rfl hF rfl (run_call (vs := [.agg #[.slice B115 p114.1.length d117, .slice B118 p114.2.1.length d120, .slice B121 p114.2.2.1.length d123], .agg #[.int .i64 p102.2.2.2.1, .int .i64 p102.2.2.2.2.1, .int .i64 p102.2.2.2.2.2]]) rfl rfl co11 ⟨(hF.ev rfl), (hF.ev rfl), trivial⟩) (c_impl_WorkDo (x0 := p114.1) (x1 := p114.2.1) (x2 := p114.2.2.1) (x3 := p102.2.2.2.1) (x4 := p102.2.2.2.2.1) (x5 := p102.2.2.2.2.2) ⟨(S.rc 5 rfl), rfl⟩ ⟨(S.rc 6 rfl), rfl⟩ ⟨(S.rc 7 rfl), rfl⟩ h141) ?_
        rintro e u ⟨B142, n143, d144, B145, n146, d147, B148, n149, d150, rfl, rfl, rfl, rfl, T⟩
        refine ⟨_, rfl, ?_⟩
        clear hF; intro a hF
        replace S := S.call3 T; clear T
        refine op_val (v := .tuple #[.agg #[.slice B142 p141.1.length d144, .slice B145 p141.2.1.length d147, .slice B148 p141.2.2.1.length d150], .bool p141.2.2.2]) rfl rfl hF rfl (run_move rfl (hF.ev rfl)) ?_; clear hF; intro a hF
        refine op_val (v := .agg #[.slice B142 p141.1.length d144, .slice B145 p141.2.1.length d147, .slice B148 p141.2.2.1.length d150]) rfl rfl hF rfl (run_extract rfl (hF.ev rfl) rfl) ?_; clear hF; intro a hF
        refine op_val (v := .bool p141.2.2.2) rfl rfl hF rfl (run_extract rfl (hF.ev rfl) rfl) ?_; clear hF; intro a hF
        refine op_new (cs := #[.slice none 0 0, .slice none 0 0, .slice none 0 0]) rfl rfl hF rfl S (run_allocZ rfl zr26) ?_; clear hF S; intro a g151 u hF S
        refine op_do rfl rfl (run_store (cs' := #[.slice B142 p141.1.length d144, .slice B145 p141.2.1.length d147, .slice B148 p141.2.2.1.length d150]) rfl sz26 (hF.ev rfl) (hF.ev rfl) rfl rfl rfl (S.free 0 rfl) rfl rfl) ?_; replace S := S.put 0 rfl (#[.slice B142 p141.1.length d144, .slice B145 p141.2.1.length d147, .slice B148 p141.2.2.1.length d150])
        generalize World.setRow _ _ _ = u at S ⊢
        refine op_val (v := .bool p141.2.2.2) rfl rfl hF rfl (run_assign rfl (hF.ev rfl)) ?_; clear hF; intro a hF
        refine wpList_nil ?_
        refine wp_seq ?_
        refine wp_region_lit ?_
        refine op_val (v := .agg #[.slice B115 p114.1.length d117, .slice B118 p114.2.1.length d120, .slice B121 p114.2.2.1.length d123]) rfl rfl hF rfl (run_loadN rfl ag26 (hF.ev rfl) rfl ((S.free 8 rfl).cells 0 #[.slice B115 p114.1.length d117, .slice B118 p114.2.1.length d120, .slice B121 p114.2.2.1.length d123] rfl)) ?_; clear hF; intro a hF
        obtain ⟨p152, h152, hM⟩ := bind_ex hM
        refine op_call rfl rfl hF rfl (run_call (vs := [.agg #[.slice B115 p114.1.length d117, .slice B118 p114.2.1.length d120, .slice B121 p114.2.2.1.length d123]]) rfl rfl co17 ⟨(hF.ev rfl), trivial⟩) (c_impl_WorkValid (x0 := p114.1) (x1 := p114.2.1) (x2 := p114.2.2.1) ⟨(S.rc 9 rfl), rfl⟩ ⟨(S.rc 10 rfl), rfl⟩ ⟨(S.rc 11 rfl), rfl⟩ h152) ?_
        rintro e u ⟨rfl, T⟩
        refine ⟨_, rfl, ?_⟩
        clear hF; intro a hF
        replace S := S.call0 T; clear T
        refine op_val (v := .bool p152) rfl rfl hF rfl (run_move rfl (hF.ev rfl)) ?_; clear hF; intro a hF
        refine op_gv (v := .agg #[.slice B115 p114.1.length d117, .slice B118 p114.2.1.length d120, .slice B121 p114.2.2.1.length d123]) rfl rfl hF rfl (yt (gw_yield hF rfl rfl rfl)) (fun hg => (run_loadN rfl ag26 (hF.ev rfl) rfl ((S.free 8 rfl).cells 0 #[.slice B115 p114.1.length d117, .slice B118 p114.2.1.length d120, .slice B121 p114.2.2.1.length d123] rfl))) ?_; clear hF; intro a hF
        refine op_gv (v := .agg #[.slice B103 p102.1.length d105, .slice B106 p102.2.1.length d108, .slice B109 p102.2.2.1.length d111]) rfl rfl hF rfl (yt (gw_yield hF rfl rfl rfl)) (fun hg => (run_loadN rfl ag26 (hF.ev rfl) rfl ((S.free 13 rfl).cells 0 #[.slice B103 p102.1.length d105, .slice B106 p102.2.1.length d108, .slice B109 p102.2.2.1.length d111] rfl))) ?_; clear hF; intro a hF
        obtain ⟨p153, h153, hM⟩ := bind_ex hM
        refine op_gcall (v := .bool p153) rfl rfl hF rfl S (yt (gw_yield hF rfl rfl rfl)) (fun hg => (run_call (vs := [.agg #[.slice B115 p114.1.length d117, .slice B118 p114.2.1.length d120, .slice B121 p114.2.2.1.length d123], .agg #[.slice B103 p102.1.length d105, .slice B106 p102.2.1.length d108, .slice B109 p102.2.2.1.length d111]]) rfl rfl co16 ⟨((hF.ev rfl).trans (gv_t hg)), ((hF.ev rfl).trans (gv_t hg)), trivial⟩)) (fun hg => c_laws_sameWork (x0 := p114.1) (x1 := p114.2.1) (x2 := p114.2.2.1) (x3 := p102.1) (x4 := p102.2.1) (x5 := p102.2.2.1) ⟨(S.rc 9 rfl), rfl⟩ ⟨(S.rc 10 rfl), rfl⟩ ⟨(S.rc 11 rfl), rfl⟩ ⟨(S.rc 14 rfl), rfl⟩ ⟨(S.rc 15 rfl), rfl⟩ ⟨(S.rc 16 rfl), rfl⟩ (gb_t h153 hg)) ?_; clear hF S; intro a u hF S
        refine op_gv (v := .bool (!p153)) rfl rfl hF rfl (yt (gw_yield hF rfl rfl rfl)) (fun hg => (run_not rfl ((hF.ev rfl).trans (gv_t hg)))) ?_; clear hF; intro a hF
        refine op_val (v := .bool (p152 && (!p153))) rfl rfl hF rfl (run_pick_and rfl (hF.ev rfl) (fun hp => ((hF.ev rfl).trans (gv_t hp))) rfl) ?_; clear hF; intro a hF
        refine op_val (v := .bool (p152 && (!p153))) rfl rfl hF rfl (run_move rfl (hF.ev rfl)) ?_; clear hF; intro a hF
        refine op_gv (v := .bool p141.2.2.2) rfl rfl hF rfl (yt (gw_yield hF rfl rfl rfl)) (fun hg => (run_move rfl (hF.ev rfl))) ?_; clear hF; intro a hF
        refine op_gv (v := .bool (!p141.2.2.2)) rfl rfl hF rfl (yt (gw_yield hF rfl rfl rfl)) (fun hg => (run_not rfl ((hF.ev rfl).trans (gv_t hg)))) ?_; clear hF; intro a hF
        refine op_val (v := .bool ((p152 && (!p153)) && (!p141.2.2.2))) rfl rfl hF rfl (run_pick_and rfl (hF.ev rfl) (fun hp => ((hF.ev rfl).trans (gv_t hp))) rfl) ?_; clear hF; intro a hF
        refine op_val (v := .bool ((p152 && (!p153)) && (!p141.2.2.2))) rfl rfl hF rfl (run_assign rfl (hF.ev rfl)) ?_; clear hF; intro a hF
        refine wpList_nil ?_
        refine wp_ret ?_
        repeat with_reducible (first | refine then_ret ?_ | refine in_ret ?_ | refine in_nrm ?_)
        refine ret1_gw (.inl rfl) hF rfl (res_tmp (hF.ev rfl)) ?_
        obtain rfl := Option.some.inj hM
        exact ⟨rfl, S.sel [] rfl rfl⟩
    · replace hM := bif_t hc137 hM
      refine cond_t hF rfl hc137 ?_
      refine wp_seq ?_
      refine wp_region_lit ?_
      refine op_val (v := .bool false) rfl rfl hF rfl (run_assign rfl rfl) ?_; clear hF; intro a hF
      refine wpList_nil ?_
      refine wp_ret ?_
      repeat with_reducible (first | refine then_ret ?_ | refine in_ret ?_ | refine in_nrm ?_)
      refine ret1_gw (.inl rfl) hF rfl (res_tmp (hF.ev rfl)) ?_
      obtain rfl := Option.some.inj hM
      exact ⟨rfl, S.sel [] rfl rfl⟩
  · replace hM := bif_t hc101 hM
    refine cond_t hF rfl hc101 ?_
    refine wp_seq ?_
    refine wp_region_lit ?_
    refine op_val (v := .bool true) rfl rfl hF rfl (run_assign rfl rfl) ?_; clear hF; intro a hF
    refine wpList_nil ?_
    refine wp_ret ?_
    repeat with_reducible (first | refine then_ret ?_ | refine in_ret ?_ | refine in_nrm ?_)
    refine ret1_gw (.inl rfl) hF rfl (res_tmp (hF.ev rfl)) ?_
    obtain rfl := Option.some.inj hM
    exact ⟨rfl, S.sel [] rfl rfl⟩

end Go.Proofs.YtnoeliaefhldmaaDoor
