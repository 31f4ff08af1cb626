/- Calls return what the models say. -/
import Derived.Test.YtnoeliaefhldmaaDoorDa3
namespace Go.Proofs.YtnoeliaefhldmaaDoor
open Go.ChangeShapes Go.WideShapes Go.ChangeAt Go.RowKit
set_option linter.unusedVariables false
set_option linter.unusedSimpArgs false

set_option maxHeartbeats 4000000 in
theorem c_spec_l20WorkDeed {x0 : List Int} {x1 : Int} {x2 : List Bool} {x3 : List Bool} {x4 : List (Int × Int)} {A0 : Option Addr} {n0 c0 : Nat} {g0 : Nat} {A2 : Option Addr} {n2 c2 : Nat} {Y2 : Asn} {A3 : Option Addr} {n3 c3 : Nat} {Y3 : Asn} {A4 : Option Addr} {n4 c4 : Nat} {Y4 : Asn} {w : World} {r : Int × Int × Int × Int} {w0 : World} {X : List Asn} (h0 : Rt w0 1 eU A0 n0 c0 x0) (h2 : n2 = x2.length) (hY2 : ∀ u, Y2.holds u → Rc u 1 A2 n2 c2 (x2.flatMap eB)) (h3 : n3 = x3.length) (hY3 : ∀ u, Y3.holds u → Rc u 1 A3 n3 c3 (x3.flatMap eB)) (h4 : n4 = x4.length) (hY4 : ∀ u, Y4.holds u → Rc u 2 A4 n4 c4 (x4.flatMap ePermit)) (S : St w0 w (Asn.box g0 78 #[.slice A0 n0 c0, .int .i64 x1] :: Y2 :: Y3 :: Y4 :: X)) (hM : m_spec_l20WorkDeed x0 x1 x2 x3 x4 = some r) :
    Calls Tryd.prog 36 #[.pointer (some ⟨g0, 0, none⟩), .agg #[.slice A2 n2 c2, .slice A3 n3 c3, .slice A4 n4 c4]] w (fun e w' => e = .returned (.agg #[.int .i64 r.1, .int .i64 r.2.1, .int .i64 r.2.2.1]) ∧ St w0 w' (Asn.box g0 78 #[.slice A0 n0 c0, .int .i64 r.2.2.2] :: Y2 :: Y3 :: Y4 :: X)) := by
  obtain rfl := h0.len
  obtain rfl := h2
  obtain rfl := h3
  obtain rfl := h4
  unfold m_spec_l20WorkDeed at hM
  refine calls_gw Tryd.func36 Tryd.ntmps36 rfl [(0, .pointer (some ⟨g0, 0, none⟩)), (1, .agg #[.slice A2 x2.length c2, .slice A3 x3.length c3, .slice A4 x4.length c4])] ⟨rfl, rfl, trivial⟩ rfl ?_
  intro a hF
  refine wp_seq ?_
  refine wp_region_lit ?_
  refine op_new (cs := #[.slice A2 x2.length c2, .slice A3 x3.length c3, .slice A4 x4.length c4]) rfl rfl hF rfl S (run_box rfl (hF.ev rfl) rfl) ?_; clear hF S; intro a g101 u hF S
  refine op_new (cs := #[.int .i64 0, .int .i64 0, .int .i64 0]) rfl rfl hF rfl S (run_allocZ rfl zr35) ?_; clear hF S; intro a g102 u hF S
  refine wpList_nil ?_
  refine wp_seq ?_
  obtain ⟨p103, h103, hM⟩ := bind_ex hM
  obtain ⟨p104, h104, hM⟩ := bind_ex hM
  obtain ⟨p105, h105, hM⟩ := bind_ex hM
  obtain ⟨p106, h106, hM⟩ := bind_ex hM
  obtain ⟨p107, h107, hM⟩ := bind_ex hM
  refine region_gw (D := [5, 6, 7, 8, 9, 10, 11, 12, 13, 14, 15, 16, 17, 18, 19, 20, 21, 22, 23]) (Lr := (Asn.box g101 26 #[.slice A2 x2.length c2, .slice A3 x3.length c3, .slice A4 x4.length c4] :: Y2 :: Y3 :: Y4 :: X)) (deps := (fun | 0 => [5] | 1 => [6] | 2 => [7] | 3 => [8] | 4 => [9] | 5 => [10] | 6 => [11] | 7 => [12] | 8 => [13] | 9 => [14] | 10 => [15] | 11 => [16] | 12 => [17] | 13 => [18] | 14 => [19] | 15 => [20] | 16 => [21] | 17 => [22] | 18 => [23] | 19 => [4] | _ => [])) (rd := (fun _ => [])) (zr := (fun _ => []))
    (φ := fun i vs => match i, vs with | 0, [v5] => v5 = .pointer (some ⟨g0, 0, none⟩) | 1, [v6] => v6 = .int .i64 p103.1 | 2, [v7] => v7 = .pointer (some ⟨g0, 0, none⟩) | 3, [v8] => v8 = .int .i64 p104.1 | 4, [v9] => v9 = .int .i64 (w64 (Int.tdiv p104.1 29)) | 5, [v10] => v10 = .int .i64 (w64 (p103.1 + (w64 (Int.tdiv p104.1 29)))) | 6, [v11] => v11 = .pointer (some ⟨g0, 0, none⟩) | 7, [v12] => v12 = .pointer (some ⟨g101, 0, none⟩) | 8, [v13] => v13 = .slice A2 x2.length c2 | 9, [v14] => v14 = .int .i64 (x2.length : Int) | 10, [v15] => v15 = .int .i64 (w64 ((x2.length : Int) + 1)) | 11, [v16] => v16 = .int .i64 p105.1 | 12, [v17] => v17 = .pointer (some ⟨g0, 0, none⟩) | 13, [v18] => v18 = .int .i64 p106.1 | 14, [v19] => v19 = .int .i64 (w64 (Int.tdiv p106.1 11)) | 15, [v20] => v20 = .int .i64 (w64 (p105.1 - (w64 (Int.tdiv p106.1 11)))) | 16, [v21] => v21 = .pointer (some ⟨g0, 0, none⟩) | 17, [v22] => v22 = .int .i64 p107.1 | 18, [v23] => v23 = .agg #[.int .i64 (w64 (p103.1 + (w64 (Int.tdiv p104.1 29)))), .int .i64 (w64 (p105.1 - (w64 (Int.tdiv p106.1 11)))), .int .i64 p107.1] | _, _ => True)
    (C := fun i vs => match i, vs with | 1, [v6] => [.box g0 78 #[.slice A0 x0.length c0, .int .i64 p103.2]] | 3, [v8] => [.box g0 78 #[.slice A0 x0.length c0, .int .i64 p104.2]] | 11, [v16] => [.box g0 78 #[.slice A0 x0.length c0, .int .i64 p105.2]] | 13, [v18] => [.box g0 78 #[.slice A0 x0.length c0, .int .i64 p106.2]] | 17, [v22] => [.box g0 78 #[.slice A0 x0.length c0, .int .i64 p107.2]] | 19, [v4] => [.box g102 35 #[.int .i64 (w64 (p103.1 + (w64 (Int.tdiv p104.1 29)))), .int .i64 (w64 (p105.1 - (w64 (Int.tdiv p106.1 11)))), .int .i64 p107.1]] | _, _ => [])
    (κ := (fun | 1 => some 3 | 3 => some 11 | 11 => some 13 | 13 => some 17 | _ => none)) (Z := (fun | 1 => [.box g0 78 #[.slice A0 x0.length c0, .int .i64 x1]] | 19 => [.box g102 35 #[.int .i64 0, .int .i64 0, .int .i64 0]] | _ => [])) mixed hF (by kernel_rfl) (show St w0 _ (Asn.box g0 78 #[.slice A0 x0.length c0, .int .i64 x1] :: Asn.box g102 35 #[.int .i64 0, .int .i64 0, .int .i64 0] :: Asn.box g101 26 #[.slice A2 x2.length c2, .slice A3 x3.length c3, .slice A4 x4.length c4] :: Y2 :: Y3 :: Y4 :: X) from S.selT (M := [.box g0 78 #[.slice A0 x0.length c0, .int .i64 x1], .box g102 35 #[.int .i64 0, .int .i64 0, .int .i64 0], .box g101 26 #[.slice A2 x2.length c2, .slice A3 x3.length c3, .slice A4 x4.length c4], Y2, Y3, Y4]) 6 [2, 0, 1, 3, 4, 5] rfl rfl rfl) ?_ ?_
  · refine ⟨?_, ?_, ?_, ?_, ?_, ?_, ?_, ?_, ?_, ?_, ?_, ?_, ?_, ?_, ?_, ?_, ?_, ?_, ?_, ?_, trivial⟩
    · intro a u X' hB hu hp hr hz hl S
      replace S : St w0 u ([] ++ X') := S
      exact .inl ⟨rfl, .pointer (some ⟨g0, 0, none⟩), u, (run_move rfl (hF.evB hB rfl rfl)), rfl, S⟩
    · intro a u X' hB hu hp hr hz hl S
      replace S : St w0 u ([.box g0 78 #[.slice A0 x0.length c0, .int .i64 x1]] ++ X') := S
      have e5 : sl a 5 = .pointer (some ⟨g0, 0, none⟩) := hp 0 rfl
      refine .inr (.inr (.inl ⟨rfl, _, _, (run_call (vs := [.pointer (some ⟨g0, 0, none⟩), .int .i64 6]) rfl rfl co29 ⟨(ev_sl e5), (ev_const _ _), trivial⟩), ?_⟩))
      refine Calls.mono (c_spec_l20Rd_pick (x0 := x0) (x1 := x1) (x2 := 6) ⟨h0.rc, rfl⟩ S h103) ?_
      rintro e w1 ⟨rfl, T⟩
      exact ⟨_, rfl, rfl, T⟩
    · intro a u X' hB hu hp hr hz hl S
      replace S : St w0 u ([] ++ X') := S
      exact .inl ⟨rfl, .pointer (some ⟨g0, 0, none⟩), u, (run_move rfl (hF.evB hB rfl rfl)), rfl, S⟩
    · intro a u X' hB hu hp hr hz hl S
      replace S : St w0 u ([.box g0 78 #[.slice A0 x0.length c0, .int .i64 p103.2]] ++ X') := S
      have e7 : sl a 7 = .pointer (some ⟨g0, 0, none⟩) := hp 2 rfl
      refine .inr (.inr (.inl ⟨rfl, _, _, (run_call (vs := [.pointer (some ⟨g0, 0, none⟩), .int .i64 30]) rfl rfl co29 ⟨(ev_sl e7), (ev_const _ _), trivial⟩), ?_⟩))
      refine Calls.mono (c_spec_l20Rd_pick (x0 := x0) (x1 := p103.2) (x2 := 30) ⟨h0.rc, rfl⟩ S h104) ?_
      rintro e w1 ⟨rfl, T⟩
      exact ⟨_, rfl, rfl, T⟩
    · intro a u X' hB hu hp hr hz hl S
      replace S : St w0 u ([] ++ X') := S
      have e8 : sl a 8 = .int .i64 p104.1 := hp 3 rfl
      exact .inl ⟨rfl, .int .i64 (w64 (Int.tdiv p104.1 29)), u, (run_quo (z := w64 (Int.tdiv p104.1 29)) (ev_sl e8) (ev_const _ _) rfl (by decide) rfl), rfl, S⟩
    · intro a u X' hB hu hp hr hz hl S
      replace S : St w0 u ([] ++ X') := S
      have e6 : sl a 6 = .int .i64 p103.1 := hp 1 rfl
      have e9 : sl a 9 = .int .i64 (w64 (Int.tdiv p104.1 29)) := hp 4 rfl
      exact .inl ⟨rfl, .int .i64 (w64 (p103.1 + (w64 (Int.tdiv p104.1 29)))), u, (run_add (z := w64 (p103.1 + (w64 (Int.tdiv p104.1 29)))) (ev_sl e6) (ev_sl e9) rfl rfl), rfl, S⟩
    · intro a u X' hB hu hp hr hz hl S
      replace S : St w0 u ([] ++ X') := S
      exact .inl ⟨rfl, .pointer (some ⟨g0, 0, none⟩), u, (run_move rfl (hF.evB hB rfl rfl)), rfl, S⟩
    · intro a u X' hB hu hp hr hz hl S
      replace S : St w0 u ([] ++ X') := S
      exact .inl ⟨rfl, .pointer (some ⟨g101, 0, none⟩), u, (run_fieldAddr rfl fl26_0 (hF.evB hB rfl rfl) rfl), rfl, S⟩
    · intro a u X' hB hu hp hr hz hl S
      replace S : St w0 u ([] ++ X') := S
      have e12 : sl a 12 = .pointer (some ⟨g101, 0, none⟩) := hp 7 rfl
      exact .inl ⟨rfl, .slice A2 x2.length c2, u, (run_load1 rfl one23 (ev_sl e12) ((gr_box S hl 0 rfl).cell rfl)), rfl, S⟩
    · intro a u X' hB hu hp hr hz hl S
      replace S : St w0 u ([] ++ X') := S
      have e13 : sl a 13 = .slice A2 x2.length c2 := hp 8 rfl
      exact .inl ⟨rfl, .int .i64 (x2.length : Int), u, (run_lenL rfl rfl Tryd.underlying23 (ev_sl e13)), rfl, S⟩
    · intro a u X' hB hu hp hr hz hl S
      replace S : St w0 u ([] ++ X') := S
      have e14 : sl a 14 = .int .i64 (x2.length : Int) := hp 9 rfl
      exact .inl ⟨rfl, .int .i64 (w64 ((x2.length : Int) + 1)), u, (run_add (z := w64 ((x2.length : Int) + 1)) (ev_sl e14) (ev_const _ _) rfl rfl), rfl, S⟩
    · intro a u X' hB hu hp hr hz hl S
      replace S : St w0 u ([.box g0 78 #[.slice A0 x0.length c0, .int .i64 p104.2]] ++ X') := S
      have e11 : sl a 11 = .pointer (some ⟨g0, 0, none⟩) := hp 6 rfl
      have e15 : sl a 15 = .int .i64 (w64 ((x2.length : Int) + 1)) := hp 10 rfl
      refine .inr (.inr (.inl ⟨rfl, _, _, (run_call (vs := [.pointer (some ⟨g0, 0, none⟩), .int .i64 (w64 ((x2.length : Int) + 1))]) rfl rfl co29 ⟨(ev_sl e11), (ev_sl e15), trivial⟩), ?_⟩))
      refine Calls.mono (c_spec_l20Rd_pick (x0 := x0) (x1 := p104.2) (x2 := w64 ((x2.length : Int) + 1)) ⟨h0.rc, rfl⟩ S h105) ?_
      rintro e w1 ⟨rfl, T⟩
      exact ⟨_, rfl, rfl, T⟩
    · intro a u X' hB hu hp hr hz hl S
      replace S : St w0 u ([] ++ X') := S
      exact .inl ⟨rfl, .pointer (some ⟨g0, 0, none⟩), u, (run_move rfl (hF.evB hB rfl rfl)), rfl, S⟩
    · intro a u X' hB hu hp hr hz hl S
      replace S : St w0 u ([.box g0 78 #[.slice A0 x0.length c0, .int .i64 p105.2]] ++ X') := S
      have e17 : sl a 17 = .pointer (some ⟨g0, 0, none⟩) := hp 12 rfl
      refine .inr (.inr (.inl ⟨rfl, _, _, (run_call (vs := [.pointer (some ⟨g0, 0, none⟩), .int .i64 12]) rfl rfl co29 ⟨(ev_sl e17), (ev_const _ _), trivial⟩), ?_⟩))
      refine Calls.mono (c_spec_l20Rd_pick (x0 := x0) (x1 := p105.2) (x2 := 12) ⟨h0.rc, rfl⟩ S h106) ?_
      rintro e w1 ⟨rfl, T⟩
      exact ⟨_, rfl, rfl, T⟩
    · intro a u X' hB hu hp hr hz hl S
      replace S : St w0 u ([] ++ X') := S
      have e18 : sl a 18 = .int .i64 p106.1 := hp 13 rfl
      exact .inl ⟨rfl, .int .i64 (w64 (Int.tdiv p106.1 11)), u, (run_quo (z := w64 (Int.tdiv p106.1 11)) (ev_sl e18) (ev_const _ _) rfl (by decide) rfl), rfl, S⟩
    · intro a u X' hB hu hp hr hz hl S
      replace S : St w0 u ([] ++ X') := S
      have e16 : sl a 16 = .int .i64 p105.1 := hp 11 rfl
      have e19 : sl a 19 = .int .i64 (w64 (Int.tdiv p106.1 11)) := hp 14 rfl
      exact .inl ⟨rfl, .int .i64 (w64 (p105.1 - (w64 (Int.tdiv p106.1 11)))), u, (run_sub (z := w64 (p105.1 - (w64 (Int.tdiv p106.1 11)))) (ev_sl e16) (ev_sl e19) rfl rfl), rfl, S⟩
    · intro a u X' hB hu hp hr hz hl S
      replace S : St w0 u ([] ++ X') := S
      exact .inl ⟨rfl, .pointer (some ⟨g0, 0, none⟩), u, (run_move rfl (hF.evB hB rfl rfl)), rfl, S⟩
    · intro a u X' hB hu hp hr hz hl S
      replace S : St w0 u ([.box g0 78 #[.slice A0 x0.length c0, .int .i64 p106.2]] ++ X') := S
      have e21 : sl a 21 = .pointer (some ⟨g0, 0, none⟩) := hp 16 rfl
      refine .inr (.inr (.inl ⟨rfl, _, _, (run_call (vs := [.pointer (some ⟨g0, 0, none⟩), .int .i64 4]) rfl rfl co29 ⟨(ev_sl e21), (ev_const _ _), trivial⟩), ?_⟩))
      refine Calls.mono (c_spec_l20Rd_pick (x0 := x0) (x1 := p106.2) (x2 := 4) ⟨h0.rc, rfl⟩ S h107) ?_
      rintro e w1 ⟨rfl, T⟩
      exact ⟨_, rfl, rfl, T⟩
    · intro a u X' hB hu hp hr hz hl S
      replace S : St w0 u ([] ++ X') := S
      have e10 : sl a 10 = .int .i64 (w64 (p103.1 + (w64 (Int.tdiv p104.1 29)))) := hp 5 rfl
      have e20 : sl a 20 = .int .i64 (w64 (p105.1 - (w64 (Int.tdiv p106.1 11)))) := hp 15 rfl
      have e22 : sl a 22 = .int .i64 p107.1 := hp 17 rfl
      exact .inl ⟨rfl, .agg #[.int .i64 (w64 (p103.1 + (w64 (Int.tdiv p104.1 29)))), .int .i64 (w64 (p105.1 - (w64 (Int.tdiv p106.1 11)))), .int .i64 p107.1], u, (run_build (vs := [(0, .int .i64 (w64 (p103.1 + (w64 (Int.tdiv p104.1 29))))), (1, .int .i64 (w64 (p105.1 - (w64 (Int.tdiv p106.1 11))))), (2, .int .i64 p107.1)]) rfl ⟨⟨rfl, (ev_sl e10)⟩, ⟨rfl, (ev_sl e20)⟩, ⟨rfl, (ev_sl e22)⟩, trivial⟩ (bd35_0_1_2 rfl rfl rfl)), rfl, S⟩
    · intro a u X' hB hu hp hr hz hl S
      replace S : St w0 u ([.box g102 35 #[.int .i64 0, .int .i64 0, .int .i64 0]] ++ X') := S
      have e23 : sl a 23 = .agg #[.int .i64 (w64 (p103.1 + (w64 (Int.tdiv p104.1 29)))), .int .i64 (w64 (p105.1 - (w64 (Int.tdiv p106.1 11)))), .int .i64 p107.1] := hp 18 rfl
      exact .inr (.inl ⟨rfl, _, run_store (cs' := #[.int .i64 (w64 (p103.1 + (w64 (Int.tdiv p104.1 29)))), .int .i64 (w64 (p105.1 - (w64 (Int.tdiv p106.1 11)))), .int .i64 p107.1]) rfl sz35 (hF.evB hB rfl rfl) (ev_sl e23) rfl rfl rfl (S.free 0 rfl) rfl rfl, trivial, S.put 0 rfl (#[.int .i64 (w64 (p103.1 + (w64 (Int.tdiv p104.1 29)))), .int .i64 (w64 (p105.1 - (w64 (Int.tdiv p106.1 11)))), .int .i64 p107.1])⟩)
  · intro a u hB hp S
    obtain ⟨q0, q1, q2, q3, q4, q5, q6, q7, q8, q9, q10, q11, q12, q13, q14, q15, q16, q17, q18, q19, _⟩ := hp
    have e5 : sl a 5 = .pointer (some ⟨g0, 0, none⟩) := q0
    have e6 : sl a 6 = .int .i64 p103.1 := q1
    have e7 : sl a 7 = .pointer (some ⟨g0, 0, none⟩) := q2
    have e8 : sl a 8 = .int .i64 p104.1 := q3
    have e9 : sl a 9 = .int .i64 (w64 (Int.tdiv p104.1 29)) := q4
    have e10 : sl a 10 = .int .i64 (w64 (p103.1 + (w64 (Int.tdiv p104.1 29)))) := q5
    have e11 : sl a 11 = .pointer (some ⟨g0, 0, none⟩) := q6
    have e12 : sl a 12 = .pointer (some ⟨g101, 0, none⟩) := q7
    have e13 : sl a 13 = .slice A2 x2.length c2 := q8
    have e14 : sl a 14 = .int .i64 (x2.length : Int) := q9
    have e15 : sl a 15 = .int .i64 (w64 ((x2.length : Int) + 1)) := q10
    have e16 : sl a 16 = .int .i64 p105.1 := q11
    have e17 : sl a 17 = .pointer (some ⟨g0, 0, none⟩) := q12
    have e18 : sl a 18 = .int .i64 p106.1 := q13
    have e19 : sl a 19 = .int .i64 (w64 (Int.tdiv p106.1 11)) := q14
    have e20 : sl a 20 = .int .i64 (w64 (p105.1 - (w64 (Int.tdiv p106.1 11)))) := q15
    have e21 : sl a 21 = .pointer (some ⟨g0, 0, none⟩) := q16
    have e22 : sl a 22 = .int .i64 p107.1 := q17
    have e23 : sl a 23 = .agg #[.int .i64 (w64 (p103.1 + (w64 (Int.tdiv p104.1 29)))), .int .i64 (w64 (p105.1 - (w64 (Int.tdiv p106.1 11)))), .int .i64 p107.1] := q18
    replace S : St w0 u (Asn.box g0 78 #[.slice A0 x0.length c0, .int .i64 p107.2] :: Asn.box g102 35 #[.int .i64 (w64 (p103.1 + (w64 (Int.tdiv p104.1 29)))), .int .i64 (w64 (p105.1 - (w64 (Int.tdiv p106.1 11)))), .int .i64 p107.1] :: Asn.box g101 26 #[.slice A2 x2.length c2, .slice A3 x3.length c3, .slice A4 x4.length c4] :: Y2 :: Y3 :: Y4 :: X) := S
    clear q0 q1 q2 q3 q4 q5 q6 q7 q8 q9 q10 q11 q12 q13 q14 q15 q16 q17 q18 q19
    have hF := hF.region hB [(5, .pointer (some ⟨g0, 0, none⟩)), (6, .int .i64 p103.1), (7, .pointer (some ⟨g0, 0, none⟩)), (8, .int .i64 p104.1), (9, .int .i64 (w64 (Int.tdiv p104.1 29))), (10, .int .i64 (w64 (p103.1 + (w64 (Int.tdiv p104.1 29))))), (11, .pointer (some ⟨g0, 0, none⟩)), (12, .pointer (some ⟨g101, 0, none⟩)), (13, .slice A2 x2.length c2), (14, .int .i64 (x2.length : Int)), (15, .int .i64 (w64 ((x2.length : Int) + 1))), (16, .int .i64 p105.1), (17, .pointer (some ⟨g0, 0, none⟩)), (18, .int .i64 p106.1), (19, .int .i64 (w64 (Int.tdiv p106.1 11))), (20, .int .i64 (w64 (p105.1 - (w64 (Int.tdiv p106.1 11))))), (21, .pointer (some ⟨g0, 0, none⟩)), (22, .int .i64 p107.1), (23, .agg #[.int .i64 (w64 (p103.1 + (w64 (Int.tdiv p104.1 29)))), .int .i64 (w64 (p105.1 - (w64 (Int.tdiv p106.1 11)))), .int .i64 p107.1])] (allSl_mem ⟨e5, e6, e7, e8, e9, e10, e11, e12, e13, e14, e15, e16, e17, e18, e19, e20, e21, e22, e23, trivial⟩) rfl
    clear hB e5 e6 e7 e8 e9 e10 e11 e12 e13 e14 e15 e16 e17 e18 e19 e20 e21 e22 e23
    refine wp_ret ?_
    repeat with_reducible (first | refine then_ret ?_ | refine in_ret ?_ | refine in_nrm ?_)
    refine ret1_gw (.inl rfl) hF rfl (res_cell (hF.ev rfl) (res_loadN ag35 rfl (S.cells 1 rfl 0 #[.int .i64 (w64 (p103.1 + (w64 (Int.tdiv p104.1 29)))), .int .i64 (w64 (p105.1 - (w64 (Int.tdiv p106.1 11)))), .int .i64 p107.1] rfl))) ?_
    obtain rfl := Option.some.inj hM
    exact ⟨rfl, S.selT (M := [.box g0 78 #[.slice A0 x0.length c0, .int .i64 p107.2], Y2, Y3, Y4]) 6 [0, 3, 4, 5] rfl rfl rfl⟩

set_option maxHeartbeats 4000000 in
theorem c_laws_sameBools {x0 : List Bool} {x1 : List Bool} {A0 : Option Addr} {n0 c0 : Nat} {A1 : Option Addr} {n1 c1 : Nat} {w : World} {r : Bool} (h0 : Rt w 1 eB A0 n0 c0 x0) (h1 : Rt w 1 eB A1 n1 c1 x1) (hM : m_laws_sameBools x0 x1 = some r) :
    Calls Tryd.prog 41 #[.slice A0 n0 c0, .slice A1 n1 c1] w (fun e w' => e = .returned (.bool r) ∧ St w w' []) := by
  obtain rfl := h0.len
  obtain rfl := h1.len
  unfold m_laws_sameBools at hM
  refine calls_gw Tryd.func41 Tryd.ntmps41 rfl [(0, .slice A0 x0.length c0), (1, .slice A1 x1.length c1)] ⟨rfl, rfl, trivial⟩ rfl ?_
  intro a hF
  have S := St.nil w
  refine wp_seq ?_
  refine wp_region_lit ?_
  refine op_val (v := .bool false) rfl rfl hF rfl (run_assign rfl rfl) ?_; clear hF; intro a hF
  refine wpList_nil ?_
  refine wp_seq ?_
  refine wp_seq ?_
  refine wp_region_lit ?_
  refine op_val (v := .slice A0 x0.length c0) rfl rfl hF rfl (run_move rfl (hF.ev rfl)) ?_; clear hF; intro a hF
  refine op_val (v := .int .i64 (x0.length : Int)) rfl rfl hF rfl (run_lenL rfl rfl Tryd.underlying23 (hF.ev rfl)) ?_; clear hF; intro a hF
  refine op_val (v := .slice A1 x1.length c1) rfl rfl hF rfl (run_move rfl (hF.ev rfl)) ?_; clear hF; intro a hF
  refine op_val (v := .int .i64 (x1.length : Int)) rfl rfl hF rfl (run_lenL rfl rfl Tryd.underlying23 (hF.ev rfl)) ?_; clear hF; intro a hF
  refine op_val (v := .bool ((x0.length : Int) != (x1.length : Int))) rfl rfl hF rfl (run_neq (hF.ev rfl) (hF.ev rfl) rfl) ?_; clear hF; intro a hF
  refine wpList_nil ?_
  cases hc101 : ((x0.length : Int) != (x1.length : Int))
  · replace hM := bif_f hc101 hM
    refine cond_f hF rfl hc101 ?_
    refine wp_skip ?_
    refine wp_seq ?_
    refine wp_seq ?_
    refine wp_region_lit ?_
    refine op_val (v := .int .i64 0) rfl rfl hF rfl (run_assign rfl rfl) ?_; clear hF; intro a hF
    refine wpList_nil ?_
    obtain ⟨o103, hM104, hM⟩ := bind_ex hM
    refine wp_cut (fun a u => ∃ (p102 : Unit), (Sum.inl p102) = o103 ∧ Fr a 26 [(4, .bool false)] ∧ St w u []) ?_ ?_
    · have _ := trivial
      refine wp_block ?_
      refine loop_gw (fun m a u => ∃ (p105 : Int), m_laws_sameBools_l1 x0 x1 m p105 = some _ ∧ Fr a 26 [(0, .slice A0 x0.length c0), (1, .slice A1 x1.length c1), (4, .bool false), (5, .int .i64 p105)] ∧ St w u []) FUEL ⟨0, hM104, hF.keep _ ⟨rfl, rfl, rfl, rfl, trivial⟩, S.sel [] rfl rfl⟩ ?_
      clear hF S hM104; rintro m a u ⟨p105, hM104, hF, S⟩
      rcases m with _ | f1
      · exact none_some hM104
      rw [m_laws_sameBools_l1.eq_2] at hM104
      refine wp_seq ?_
      refine wp_seq ?_
      refine wp_region_lit ?_
      refine op_val (v := .int .i64 p105) rfl rfl hF rfl (run_move rfl (hF.ev rfl)) ?_; clear hF; intro a hF
      refine op_val (v := .slice A0 x0.length c0) rfl rfl hF rfl (run_move rfl (hF.ev rfl)) ?_; clear hF; intro a hF
      refine op_val (v := .int .i64 (x0.length : Int)) rfl rfl hF rfl (run_lenL rfl rfl Tryd.underlying23 (hF.ev rfl)) ?_; clear hF; intro a hF
      refine op_val (v := .bool (ltB p105 (x0.length : Int))) rfl rfl hF rfl (run_lss (hF.ev rfl) (hF.ev rfl) rfl) ?_; clear hF; intro a hF
      refine wpList_nil ?_
      cases hc106 : (ltB p105 (x0.length : Int))
      · replace hM104 := bif_f hc106 hM104
        refine cond_f hF rfl hc106 ?_
        refine wp_exit ?_
        repeat with_reducible (first | refine then_exit ?_ | refine in_hit ?_ | refine in_miss rfl ?_)
        obtain rfl := Option.some.inj hM104
        exact ⟨(), rfl, hF.keep _ ⟨rfl, trivial⟩, S.sel [] rfl rfl⟩
      · replace hM104 := bif_t hc106 hM104
        refine cond_t hF rfl hc106 ?_
        refine wp_skip ?_
        refine wp_seq ?_
        refine wp_block ?_
        refine wp_seq ?_
        obtain ⟨hk107, hM104⟩ := chk_ex hM104
        replace hk107 := ixB_t hk107
        obtain ⟨hk108, hM104⟩ := chk_ex hM104
        replace hk108 := ixB_t hk108
        refine region_gw (D := [17, 18, 19, 20, 21, 22, 23, 24, 25]) (Lr := []) (deps := (fun | 0 => [17] | 1 => [18] | 2 => [19] | 3 => [20] | 4 => [21] | 5 => [22] | 6 => [23] | 7 => [24] | 8 => [25] | _ => [])) (rd := (fun _ => [])) (zr := (fun _ => []))
          (φ := fun i vs => match i, vs with | 0, [v17] => v17 = .slice A0 x0.length c0 | 1, [v18] => v18 = .int .i64 p105 | 2, [v19] => v19 = .pointer (some ⟨adB A0, adO A0 + p105.toNat * 1, none⟩) | 3, [v20] => v20 = .bool (x0.getD p105.toNat false) | 4, [v21] => v21 = .slice A1 x1.length c1 | 5, [v22] => v22 = .int .i64 p105 | 6, [v23] => v23 = .pointer (some ⟨adB A1, adO A1 + p105.toNat * 1, none⟩) | 7, [v24] => v24 = .bool (x1.getD p105.toNat false) | 8, [v25] => v25 = .bool ((x0.getD p105.toNat false) != (x1.getD p105.toNat false)) | _, _ => True)
          (C := fun _ _ => [])
          (κ := (fun _ => none)) (Z := (fun _ => [])) mixed hF (by kernel_rfl) S ?_ ?_
        · refine ⟨?_, ?_, ?_, ?_, ?_, ?_, ?_, ?_, ?_, trivial⟩
          · intro a u X hB hu hp hr hz hl S
            replace S : St w u ([] ++ X) := S
            exact .inl ⟨rfl, .slice A0 x0.length c0, u, (run_move rfl (hF.evB hB rfl rfl)), rfl, S⟩
          · intro a u X hB hu hp hr hz hl S
            replace S : St w u ([] ++ X) := S
            exact .inl ⟨rfl, .int .i64 p105, u, (run_move rfl (hF.evB hB rfl rfl)), rfl, S⟩
          · intro a u X hB hu hp hr hz hl S
            replace S : St w u ([] ++ X) := S
            have e17 : sl a 17 = .slice A0 x0.length c0 := hp 0 rfl
            have e18 : sl a 18 = .int .i64 p105 := hp 1 rfl
            exact .inl ⟨rfl, .pointer (some ⟨adB A0, adO A0 + p105.toNat * 1, none⟩), u, (run_indexAddr (b := adB A0) (off := adO A0) rfl Tryd.underlying23 sz4 ((ev_sl e17).trans (congrArg (fun A => Value.slice A x0.length c0) ((S.rc0 h0.rc).rd.ad (ix_pos hk107)))) (ev_sl e18) hk107.1 hk107.2 (k' := adO A0 + p105.toNat * 1) rfl), rfl, S⟩
          · intro a u X hB hu hp hr hz hl S
            replace S : St w u ([] ++ X) := S
            have e19 : sl a 19 = .pointer (some ⟨adB A0, adO A0 + p105.toNat * 1, none⟩) := hp 2 rfl
            exact .inl ⟨rfl, .bool (x0.getD p105.toNat false), u, (run_load1 rfl one4 (ev_sl e19) (rd_el0 (l := x0) (S.rc0 h0.rc).rd rfl eB_len false (ix_ltn hk107 rfl) rfl)), rfl, S⟩
          · intro a u X hB hu hp hr hz hl S
            replace S : St w u ([] ++ X) := S
            exact .inl ⟨rfl, .slice A1 x1.length c1, u, (run_move rfl (hF.evB hB rfl rfl)), rfl, S⟩
          · intro a u X hB hu hp hr hz hl S
            replace S : St w u ([] ++ X) := S
            exact .inl ⟨rfl, .int .i64 p105, u, (run_move rfl (hF.evB hB rfl rfl)), rfl, S⟩
          · intro a u X hB hu hp hr hz hl S
            replace S : St w u ([] ++ X) := S
            have e21 : sl a 21 = .slice A1 x1.length c1 := hp 4 rfl
            have e22 : sl a 22 = .int .i64 p105 := hp 5 rfl
            exact .inl ⟨rfl, .pointer (some ⟨adB A1, adO A1 + p105.toNat * 1, none⟩), u, (run_indexAddr (b := adB A1) (off := adO A1) rfl Tryd.underlying23 sz4 ((ev_sl e21).trans (congrArg (fun A => Value.slice A x1.length c1) ((S.rc0 h1.rc).rd.ad (ix_pos hk108)))) (ev_sl e22) hk108.1 hk108.2 (k' := adO A1 + p105.toNat * 1) rfl), rfl, S⟩
          · intro a u X hB hu hp hr hz hl S
            replace S : St w u ([] ++ X) := S
            have e23 : sl a 23 = .pointer (some ⟨adB A1, adO A1 + p105.toNat * 1, none⟩) := hp 6 rfl
            exact .inl ⟨rfl, .bool (x1.getD p105.toNat false), u, (run_load1 rfl one4 (ev_sl e23) (rd_el0 (l := x1) (S.rc0 h1.rc).rd rfl eB_len false (ix_ltn hk108 rfl) rfl)), rfl, S⟩
          · intro a u X hB hu hp hr hz hl S
            replace S : St w u ([] ++ X) := S
            have e20 : sl a 20 = .bool (x0.getD p105.toNat false) := hp 3 rfl
            have e24 : sl a 24 = .bool (x1.getD p105.toNat false) := hp 7 rfl
            exact .inl ⟨rfl, .bool ((x0.getD p105.toNat false) != (x1.getD p105.toNat false)), u, (run_neqB (ev_sl e20) (ev_sl e24) Tryd.underlying4 rfl), rfl, S⟩
        · intro a u hB hp S
          obtain ⟨q0, q1, q2, q3, q4, q5, q6, q7, q8, _⟩ := hp
          have e17 : sl a 17 = .slice A0 x0.length c0 := q0
          have e18 : sl a 18 = .int .i64 p105 := q1
          have e19 : sl a 19 = .pointer (some ⟨adB A0, adO A0 + p105.toNat * 1, none⟩) := q2
          have e20 : sl a 20 = .bool (x0.getD p105.toNat false) := q3
          have e21 : sl a 21 = .slice A1 x1.length c1 := q4
          have e22 : sl a 22 = .int .i64 p105 := q5
          have e23 : sl a 23 = .pointer (some ⟨adB A1, adO A1 + p105.toNat * 1, none⟩) := q6
          have e24 : sl a 24 = .bool (x1.getD p105.toNat false) := q7
          have e25 : sl a 25 = .bool ((x0.getD p105.toNat false) != (x1.getD p105.toNat false)) := q8
          replace S : St w u [] := S
          clear q0 q1 q2 q3 q4 q5 q6 q7 q8
          have hF := hF.region hB [(17, .slice A0 x0.length c0), (18, .int .i64 p105), (19, .pointer (some ⟨adB A0, adO A0 + p105.toNat * 1, none⟩)), (20, .bool (x0.getD p105.toNat false)), (21, .slice A1 x1.length c1), (22, .int .i64 p105), (23, .pointer (some ⟨adB A1, adO A1 + p105.toNat * 1, none⟩)), (24, .bool (x1.getD p105.toNat false)), (25, .bool ((x0.getD p105.toNat false) != (x1.getD p105.toNat false)))] (allSl_mem ⟨e17, e18, e19, e20, e21, e22, e23, e24, e25, trivial⟩) rfl
          clear hB e17 e18 e19 e20 e21 e22 e23 e24 e25
          cases hc109 : ((x0.getD p105.toNat false) != (x1.getD p105.toNat false))
          · replace hM104 := bif_f hc109 hM104
            refine cond_f hF rfl hc109 ?_
            refine wp_skip ?_
            refine wp_region_lit ?_
            refine op_val (v := .int .i64 p105) rfl rfl hF rfl (run_move rfl (hF.ev rfl)) ?_; clear hF; intro a hF
            refine op_val (v := .int .i64 (w64 (p105 + 1))) rfl rfl hF rfl (run_add (z := w64 (p105 + 1)) (hF.ev rfl) rfl rfl rfl) ?_; clear hF; intro a hF
            refine op_val (v := .int .i64 (w64 (p105 + 1))) rfl rfl hF rfl (run_assign rfl (hF.ev rfl)) ?_; clear hF; intro a hF
            refine wpList_nil ?_
            exact ⟨f1, Nat.lt_succ_self _, w64 (p105 + 1), hM104, hF.keep _ ⟨rfl, rfl, rfl, rfl, trivial⟩, S.sel [] rfl rfl⟩
          · replace hM104 := bif_t hc109 hM104
            refine cond_t hF rfl hc109 ?_
            refine wp_seq ?_
            refine wp_region_lit ?_
            refine op_val (v := .bool false) rfl rfl hF rfl (run_assign rfl rfl) ?_; clear hF; intro a hF
            refine wpList_nil ?_
            refine wp_ret ?_
            repeat with_reducible (first | refine then_ret ?_ | refine in_ret ?_ | refine in_nrm ?_)
            refine ret1_gw (.inl rfl) hF rfl (res_tmp (hF.ev rfl)) ?_
            obtain rfl := Option.some.inj hM104
            obtain rfl := Option.some.inj hM
            exact ⟨rfl, S.sel [] rfl rfl⟩
    · rintro a u ⟨p102, rfl, hF, S⟩
      replace hM := elim_l hM
      refine wp_seq ?_
      refine wp_region_lit ?_
      refine op_val (v := .bool true) rfl rfl hF rfl (run_assign rfl rfl) ?_; clear hF; intro a hF
      refine wpList_nil ?_
      refine wp_ret ?_
      repeat with_reducible (first | refine then_ret ?_ | refine in_ret ?_ | refine in_nrm ?_)
      refine ret1_gw (.inl rfl) hF rfl (res_tmp (hF.ev rfl)) ?_
      obtain rfl := Option.some.inj hM
      exact ⟨rfl, S.sel [] rfl rfl⟩
  · replace hM := bif_t hc101 hM
    refine cond_t hF rfl hc101 ?_
    refine wp_seq ?_
    refine wp_region_lit ?_
    refine op_val (v := .bool false) rfl rfl hF rfl (run_assign rfl rfl) ?_; clear hF; intro a hF
    refine wpList_nil ?_
    refine wp_ret ?_
    repeat with_reducible (first | refine then_ret ?_ | refine in_ret ?_ | refine in_nrm ?_)
    refine ret1_gw (.inl rfl) hF rfl (res_tmp (hF.ev rfl)) ?_
    obtain rfl := Option.some.inj hM
    exact ⟨rfl, S.sel [] rfl rfl⟩

set_option maxHeartbeats 4000000 in
theorem c_laws_samePermits {x0 : List (Int × Int)} {x1 : List (Int × Int)} {A0 : Option Addr} {n0 c0 : Nat} {A1 : Option Addr} {n1 c1 : Nat} {w : World} {r : Bool} (h0 : Rt w 2 ePermit A0 n0 c0 x0) (h1 : Rt w 2 ePermit A1 n1 c1 x1) (hM : m_laws_samePermits x0 x1 = some r) :
    Calls Tryd.prog 42 #[.slice A0 n0 c0, .slice A1 n1 c1] w (fun e w' => e = .returned (.bool r) ∧ St w w' []) := by
  obtain rfl := h0.len
  obtain rfl := h1.len
  unfold m_laws_samePermits at hM
  refine calls_gw Tryd.func42 Tryd.ntmps42 rfl [(0, .slice A0 x0.length c0), (1, .slice A1 x1.length c1)] ⟨rfl, rfl, trivial⟩ rfl ?_
  intro a hF
  have S := St.nil w
  refine wp_seq ?_
  refine wp_region_lit ?_
  refine op_val (v := .bool false) rfl rfl hF rfl (run_assign rfl rfl) ?_; clear hF; intro a hF
  refine wpList_nil ?_
  refine wp_seq ?_
  refine wp_seq ?_
  refine wp_region_lit ?_
  refine op_val (v := .slice A0 x0.length c0) rfl rfl hF rfl (run_move rfl (hF.ev rfl)) ?_; clear hF; intro a hF
  refine op_val (v := .int .i64 (x0.length : Int)) rfl rfl hF rfl (run_lenL rfl rfl Tryd.underlying24 (hF.ev rfl)) ?_; clear hF; intro a hF
  refine op_val (v := .slice A1 x1.length c1) rfl rfl hF rfl (run_move rfl (hF.ev rfl)) ?_; clear hF; intro a hF
  refine op_val (v := .int .i64 (x1.length : Int)) rfl rfl hF rfl (run_lenL rfl rfl Tryd.underlying24 (hF.ev rfl)) ?_; clear hF; intro a hF
  refine op_val (v := .bool ((x0.length : Int) != (x1.length : Int))) rfl rfl hF rfl (run_neq (hF.ev rfl) (hF.ev rfl) rfl) ?_; clear hF; intro a hF
  refine wpList_nil ?_
  cases hc101 : ((x0.length : Int) != (x1.length : Int))
  · replace hM := bif_f hc101 hM
    refine cond_f hF rfl hc101 ?_
    refine wp_skip ?_
    refine wp_seq ?_
    refine wp_seq ?_
    refine wp_region_lit ?_
    refine op_val (v := .int .i64 0) rfl rfl hF rfl (run_assign rfl rfl) ?_; clear hF; intro a hF
    refine wpList_nil ?_
    obtain ⟨o103, hM104, hM⟩ := bind_ex hM
    refine wp_cut (fun a u => ∃ (p102 : Unit), (Sum.inl p102) = o103 ∧ Fr a 26 [(4, .bool false)] ∧ St w u []) ?_ ?_
    · have _ := trivial
      refine wp_block ?_
      refine loop_gw (fun m a u => ∃ (p105 : Int), m_laws_samePermits_l1 x0 x1 m p105 = some _ ∧ Fr a 26 [(0, .slice A0 x0.length c0), (1, .slice A1 x1.length c1), (4, .bool false), (5, .int .i64 p105)] ∧ St w u []) FUEL ⟨0, hM104, hF.keep _ ⟨rfl, rfl, rfl, rfl, trivial⟩, S.sel [] rfl rfl⟩ ?_
      clear hF S hM104; rintro m a u ⟨p105, hM104, hF, S⟩
      rcases m with _ | f1
      · exact none_some hM104
      rw [m_laws_samePermits_l1.eq_2] at hM104
      refine wp_seq ?_
      refine wp_seq ?_
      refine wp_region_lit ?_
      refine op_val (v := .int .i64 p105) rfl rfl hF rfl (run_move rfl (hF.ev rfl)) ?_; clear hF; intro a hF
      refine op_val (v := .slice A0 x0.length c0) rfl rfl hF rfl (run_move rfl (hF.ev rfl)) ?_; clear hF; intro a hF
      refine op_val (v := .int .i64 (x0.length : Int)) rfl rfl hF rfl (run_lenL rfl rfl Tryd.underlying24 (hF.ev rfl)) ?_; clear hF; intro a hF
      refine op_val (v := .bool (ltB p105 (x0.length : Int))) rfl rfl hF rfl (run_lss (hF.ev rfl) (hF.ev rfl) rfl) ?_; clear hF; intro a hF
      refine wpList_nil ?_
      cases hc106 : (ltB p105 (x0.length : Int))
      · replace hM104 := bif_f hc106 hM104
        refine cond_f hF rfl hc106 ?_
        refine wp_exit ?_
        repeat with_reducible (first | refine then_exit ?_ | refine in_hit ?_ | refine in_miss rfl ?_)
        obtain rfl := Option.some.inj hM104
        exact ⟨(), rfl, hF.keep _ ⟨rfl, trivial⟩, S.sel [] rfl rfl⟩
      · replace hM104 := bif_t hc106 hM104
        refine cond_t hF rfl hc106 ?_
        refine wp_skip ?_
        refine wp_seq ?_
        refine wp_block ?_
        refine wp_seq ?_
        obtain ⟨hk107, hM104⟩ := chk_ex hM104
        replace hk107 := ixB_t hk107
        obtain ⟨hk108, hM104⟩ := chk_ex hM104
        replace hk108 := ixB_t hk108
        refine region_gw (D := [17, 18, 19, 20, 21, 22, 23, 24, 25]) (Lr := []) (deps := (fun | 0 => [17] | 1 => [18] | 2 => [19] | 3 => [20] | 4 => [21] | 5 => [22] | 6 => [23] | 7 => [24] | 8 => [25] | _ => [])) (rd := (fun _ => [])) (zr := (fun _ => []))
          (φ := fun i vs => match i, vs with | 0, [v17] => v17 = .slice A0 x0.length c0 | 1, [v18] => v18 = .int .i64 p105 | 2, [v19] => v19 = .pointer (some ⟨adB A0, adO A0 + p105.toNat * 2, none⟩) | 3, [v20] => v20 = .agg #[.int .i64 ((x0.getD p105.toNat ((0, 0) : Int × Int)).1), .int .i64 ((x0.getD p105.toNat ((0, 0) : Int × Int)).2)] | 4, [v21] => v21 = .slice A1 x1.length c1 | 5, [v22] => v22 = .int .i64 p105 | 6, [v23] => v23 = .pointer (some ⟨adB A1, adO A1 + p105.toNat * 2, none⟩) | 7, [v24] => v24 = .agg #[.int .i64 ((x1.getD p105.toNat ((0, 0) : Int × Int)).1), .int .i64 ((x1.getD p105.toNat ((0, 0) : Int × Int)).2)] | 8, [v25] => v25 = .bool (!((((x0.getD p105.toNat ((0, 0) : Int × Int)).1) == ((x1.getD p105.toNat ((0, 0) : Int × Int)).1)) && (((x0.getD p105.toNat ((0, 0) : Int × Int)).2) == ((x1.getD p105.toNat ((0, 0) : Int × Int)).2)))) | _, _ => True)
          (C := fun _ _ => [])
          (κ := (fun _ => none)) (Z := (fun _ => [])) mixed hF (by kernel_rfl) S ?_ ?_
        · refine ⟨?_, ?_, ?_, ?_, ?_, ?_, ?_, ?_, ?_, trivial⟩
          · intro a u X hB hu hp hr hz hl S
            replace S : St w u ([] ++ X) := S
            exact .inl ⟨rfl, .slice A0 x0.length c0, u, (run_move rfl (hF.evB hB rfl rfl)), rfl, S⟩
          · intro a u X hB hu hp hr hz hl S
            replace S : St w u ([] ++ X) := S
            exact .inl ⟨rfl, .int .i64 p105, u, (run_move rfl (hF.evB hB rfl rfl)), rfl, S⟩
          · intro a u X hB hu hp hr hz hl S
            replace S : St w u ([] ++ X) := S
            have e17 : sl a 17 = .slice A0 x0.length c0 := hp 0 rfl
            have e18 : sl a 18 = .int .i64 p105 := hp 1 rfl
            exact .inl ⟨rfl, .pointer (some ⟨adB A0, adO A0 + p105.toNat * 2, none⟩), u, (run_indexAddr (b := adB A0) (off := adO A0) rfl Tryd.underlying24 sz48 ((ev_sl e17).trans (congrArg (fun A => Value.slice A x0.length c0) ((S.rc0 h0.rc).rd.ad (ix_pos hk107)))) (ev_sl e18) hk107.1 hk107.2 (k' := adO A0 + p105.toNat * 2) rfl), rfl, S⟩
          · intro a u X hB hu hp hr hz hl S
            replace S : St w u ([] ++ X) := S
            have e19 : sl a 19 = .pointer (some ⟨adB A0, adO A0 + p105.toNat * 2, none⟩) := hp 2 rfl
            exact .inl ⟨rfl, .agg #[.int .i64 ((x0.getD p105.toNat ((0, 0) : Int × Int)).1), .int .i64 ((x0.getD p105.toNat ((0, 0) : Int × Int)).2)], u, (run_loadN (cs := #[.int .i64 ((x0.getD p105.toNat ((0, 0) : Int × Int)).1), .int .i64 ((x0.getD p105.toNat ((0, 0) : Int × Int)).2)]) rfl ag48 (ev_sl e19) rfl (rd_elN (l := x0) (S.rc0 h0.rc).rd rfl ePermit_len ((0, 0) : Int × Int) (ix_ltn hk107 rfl) rfl)), rfl, S⟩
          · intro a u X hB hu hp hr hz hl S
            replace S : St w u ([] ++ X) := S
            exact .inl ⟨rfl, .slice A1 x1.length c1, u, (run_move rfl (hF.evB hB rfl rfl)), rfl, S⟩
          · intro a u X hB hu hp hr hz hl S
            replace S : St w u ([] ++ X) := S
            exact .inl ⟨rfl, .int .i64 p105, u, (run_move rfl (hF.evB hB rfl rfl)), rfl, S⟩
          · intro a u X hB hu hp hr hz hl S
            replace S : St w u ([] ++ X) := S
            have e21 : sl a 21 = .slice A1 x1.length c1 := hp 4 rfl
            have e22 : sl a 22 = .int .i64 p105 := hp 5 rfl
            exact .inl ⟨rfl, .pointer (some ⟨adB A1, adO A1 + p105.toNat * 2, none⟩), u, (run_indexAddr (b := adB A1) (off := adO A1) rfl Tryd.underlying24 sz48 ((ev_sl e21).trans (congrArg (fun A => Value.slice A x1.length c1) ((S.rc0 h1.rc).rd.ad (ix_pos hk108)))) (ev_sl e22) hk108.1 hk108.2 (k' := adO A1 + p105.toNat * 2) rfl), rfl, S⟩
          · intro a u X hB hu hp hr hz hl S
            replace S : St w u ([] ++ X) := S
            have e23 : sl a 23 = .pointer (some ⟨adB A1, adO A1 + p105.toNat * 2, none⟩) := hp 6 rfl
            exact .inl ⟨rfl, .agg #[.int .i64 ((x1.getD p105.toNat ((0, 0) : Int × Int)).1), .int .i64 ((x1.getD p105.toNat ((0, 0) : Int × Int)).2)], u, (run_loadN (cs := #[.int .i64 ((x1.getD p105.toNat ((0, 0) : Int × Int)).1), .int .i64 ((x1.getD p105.toNat ((0, 0) : Int × Int)).2)]) rfl ag48 (ev_sl e23) rfl (rd_elN (l := x1) (S.rc0 h1.rc).rd rfl ePermit_len ((0, 0) : Int × Int) (ix_ltn hk108 rfl) rfl)), rfl, S⟩
          · intro a u X hB hu hp hr hz hl S
            replace S : St w u ([] ++ X) := S
            have e20 : sl a 20 = .agg #[.int .i64 ((x0.getD p105.toNat ((0, 0) : Int × Int)).1), .int .i64 ((x0.getD p105.toNat ((0, 0) : Int × Int)).2)] := hp 3 rfl
            have e24 : sl a 24 = .agg #[.int .i64 ((x1.getD p105.toNat ((0, 0) : Int × Int)).1), .int .i64 ((x1.getD p105.toNat ((0, 0) : Int × Int)).2)] := hp 7 rfl
            exact .inl ⟨rfl, .bool (!((((x0.getD p105.toNat ((0, 0) : Int × Int)).1) == ((x1.getD p105.toNat ((0, 0) : Int × Int)).1)) && (((x0.getD p105.toNat ((0, 0) : Int × Int)).2) == ((x1.getD p105.toNat ((0, 0) : Int × Int)).2)))), u, (run_neqA (ev_sl e20) (ev_sl e24) rfl eg48 eq48), rfl, S⟩
        · intro a u hB hp S
          obtain ⟨q0, q1, q2, q3, q4, q5, q6, q7, q8, _⟩ := hp
          have e17 : sl a 17 = .slice A0 x0.length c0 := q0
          have e18 : sl a 18 = .int .i64 p105 := q1
          have e19 : sl a 19 = .pointer (some ⟨adB A0, adO A0 + p105.toNat * 2, none⟩) := q2
          have e20 : sl a 20 = .agg #[.int .i64 ((x0.getD p105.toNat ((0, 0) : Int × Int)).1), .int .i64 ((x0.getD p105.toNat ((0, 0) : Int × Int)).2)] := q3
          have e21 : sl a 21 = .slice A1 x1.length c1 := q4
          have e22 : sl a 22 = .int .i64 p105 := q5
          have e23 : sl a 23 = .pointer (some ⟨adB A1, adO A1 + p105.toNat * 2, none⟩) := q6
          have e24 : sl a 24 = .agg #[.int .i64 ((x1.getD p105.toNat ((0, 0) : Int × Int)).1), .int .i64 ((x1.getD p105.toNat ((0, 0) : Int × Int)).2)] := q7
          have e25 : sl a 25 = .bool (!((((x0.getD p105.toNat ((0, 0) : Int × Int)).1) == ((x1.getD p105.toNat ((0, 0) : Int × Int)).1)) && (((x0.getD p105.toNat ((0, 0) : Int × Int)).2) == ((x1.getD p105.toNat ((0, 0) : Int × Int)).2)))) := q8
          replace S : St w u [] := S
          clear q0 q1 q2 q3 q4 q5 q6 q7 q8
          have hF := hF.region hB [(17, .slice A0 x0.length c0), (18, .int .i64 p105), (19, .pointer (some ⟨adB A0, adO A0 + p105.toNat * 2, none⟩)), (20, .agg #[.int .i64 ((x0.getD p105.toNat ((0, 0) : Int × Int)).1), .int .i64 ((x0.getD p105.toNat ((0, 0) : Int × Int)).2)]), (21, .slice A1 x1.length c1), (22, .int .i64 p105), (23, .pointer (some ⟨adB A1, adO A1 + p105.toNat * 2, none⟩)), (24, .agg #[.int .i64 ((x1.getD p105.toNat ((0, 0) : Int × Int)).1), .int .i64 ((x1.getD p105.toNat ((0, 0) : Int × Int)).2)]), (25, .bool (!((((x0.getD p105.toNat ((0, 0) : Int × Int)).1) == ((x1.getD p105.toNat ((0, 0) : Int × Int)).1)) && (((x0.getD p105.toNat ((0, 0) : Int × Int)).2) == ((x1.getD p105.toNat ((0, 0) : Int × Int)).2)))))] (allSl_mem ⟨e17, e18, e19, e20, e21, e22, e23, e24, e25, trivial⟩) rfl
          clear hB e17 e18 e19 e20 e21 e22 e23 e24 e25
          cases hc109 : ((((x0.getD p105.toNat ((0, 0) : Int × Int)).1) == ((x1.getD p105.toNat ((0, 0) : Int × Int)).1)) && (((x0.getD p105.toNat ((0, 0) : Int × Int)).2) == ((x1.getD p105.toNat ((0, 0) : Int × Int)).2)))
          · replace hM104 := bif_f hc109 hM104
            refine cond_t hF rfl (not_t hc109) ?_
            refine wp_seq ?_
            refine wp_region_lit ?_
            refine op_val (v := .bool false) rfl rfl hF rfl (run_assign rfl rfl) ?_; clear hF; intro a hF
            refine wpList_nil ?_
            refine wp_ret ?_
            repeat with_reducible (first | refine then_ret ?_ | refine in_ret ?_ | refine in_nrm ?_)
            refine ret1_gw (.inl rfl) hF rfl (res_tmp (hF.ev rfl)) ?_
            obtain rfl := Option.some.inj hM104
            obtain rfl := Option.some.inj hM
            exact ⟨rfl, S.sel [] rfl rfl⟩
          · replace hM104 := bif_t hc109 hM104
            refine cond_f hF rfl (not_f hc109) ?_
            refine wp_skip ?_
            refine wp_region_lit ?_
            refine op_val (v := .int .i64 p105) rfl rfl hF rfl (run_move rfl (hF.ev rfl)) ?_; clear hF; intro a hF
            refine op_val (v := .int .i64 (w64 (p105 + 1))) rfl rfl hF rfl (run_add (z := w64 (p105 + 1)) (hF.ev rfl) rfl rfl rfl) ?_; clear hF; intro a hF
            refine op_val (v := .int .i64 (w64 (p105 + 1))) rfl rfl hF rfl (run_assign rfl (hF.ev rfl)) ?_; clear hF; intro a hF
            refine wpList_nil ?_
            exact ⟨f1, Nat.lt_succ_self _, w64 (p105 + 1), hM104, hF.keep _ ⟨rfl, rfl, rfl, rfl, trivial⟩, S.sel [] rfl rfl⟩
    · rintro a u ⟨p102, rfl, hF, S⟩
      replace hM := elim_l hM
      refine wp_seq ?_
      refine wp_region_lit ?_
      refine op_val (v := .bool true) rfl rfl hF rfl (run_assign rfl rfl) ?_; clear hF; intro a hF
      refine wpList_nil ?_
      refine wp_ret ?_
      repeat with_reducible (first | refine then_ret ?_ | refine in_ret ?_ | refine in_nrm ?_)
      refine ret1_gw (.inl rfl) hF rfl (res_tmp (hF.ev rfl)) ?_
      obtain rfl := Option.some.inj hM
      exact ⟨rfl, S.sel [] rfl rfl⟩
  · replace hM := bif_t hc101 hM
    refine cond_t hF rfl hc101 ?_
    refine wp_seq ?_
    refine wp_region_lit ?_
    refine op_val (v := .bool false) rfl rfl hF rfl (run_assign rfl rfl) ?_; clear hF; intro a hF
    refine wpList_nil ?_
    refine wp_ret ?_
    repeat with_reducible (first | refine then_ret ?_ | refine in_ret ?_ | refine in_nrm ?_)
    refine ret1_gw (.inl rfl) hF rfl (res_tmp (hF.ev rfl)) ?_
    obtain rfl := Option.some.inj hM
    exact ⟨rfl, S.sel [] rfl rfl⟩

set_option maxHeartbeats 4000000 in
theorem c_laws_sameWork {x0 : List Bool} {x1 : List Bool} {x2 : List (Int × Int)} {x3 : List Bool} {x4 : List Bool} {x5 : List (Int × Int)} {A0 : Option Addr} {n0 c0 : Nat} {A1 : Option Addr} {n1 c1 : Nat} {A2 : Option Addr} {n2 c2 : Nat} {A3 : Option Addr} {n3 c3 : Nat} {A4 : Option Addr} {n4 c4 : Nat} {A5 : Option Addr} {n5 c5 : Nat} {w : World} {r : Bool} (h0 : Rt w 1 eB A0 n0 c0 x0) (h1 : Rt w 1 eB A1 n1 c1 x1) (h2 : Rt w 2 ePermit A2 n2 c2 x2) (h3 : Rt w 1 eB A3 n3 c3 x3) (h4 : Rt w 1 eB A4 n4 c4 x4) (h5 : Rt w 2 ePermit A5 n5 c5 x5) (hM : m_laws_sameWork x0 x1 x2 x3 x4 x5 = some r) :
    Calls Tryd.prog 16 #[.agg #[.slice A0 n0 c0, .slice A1 n1 c1, .slice A2 n2 c2], .agg #[.slice A3 n3 c3, .slice A4 n4 c4, .slice A5 n5 c5]] w (fun e w' => e = .returned (.bool r) ∧ St w w' []) := by
  obtain rfl := h0.len
  obtain rfl := h1.len
  obtain rfl := h2.len
  obtain rfl := h3.len
  obtain rfl := h4.len
  obtain rfl := h5.len
  unfold m_laws_sameWork at hM
  refine calls_gw Tryd.func16 Tryd.ntmps16 rfl [(0, .agg #[.slice A0 x0.length c0, .slice A1 x1.length c1, .slice A2 x2.length c2]), (1, .agg #[.slice A3 x3.length c3, .slice A4 x4.length c4, .slice A5 x5.length c5])] ⟨rfl, rfl, trivial⟩ rfl ?_
  intro a hF
  have S := St.nil w
  refine wp_seq ?_
  refine wp_region_lit ?_
  refine op_new (cs := #[.slice A0 x0.length c0, .slice A1 x1.length c1, .slice A2 x2.length c2]) rfl rfl hF rfl S (run_box rfl (hF.ev rfl) rfl) ?_; clear hF S; intro a g101 u hF S
  refine op_new (cs := #[.slice A3 x3.length c3, .slice A4 x4.length c4, .slice A5 x5.length c5]) rfl rfl hF rfl S (run_box rfl (hF.ev rfl) rfl) ?_; clear hF S; intro a g102 u hF S
  refine op_val (v := .bool false) rfl rfl hF rfl (run_assign rfl rfl) ?_; clear hF; intro a hF
  refine wpList_nil ?_
  refine wp_seq ?_
  refine wp_region_lit ?_
  refine op_val (v := .pointer (some ⟨g101, 0, none⟩)) rfl rfl hF rfl (run_fieldAddr rfl fl26_0 (hF.ev rfl) rfl) ?_; clear hF; intro a hF
  refine op_val (v := .slice A0 x0.length c0) rfl rfl hF rfl (run_load1 rfl one23 (hF.ev rfl) ((S.free 1 rfl).cell rfl)) ?_; clear hF; intro a hF
  refine op_val (v := .pointer (some ⟨g102, 0, none⟩)) rfl rfl hF rfl (run_fieldAddr rfl fl26_0 (hF.ev rfl) rfl) ?_; clear hF; intro a hF
  refine op_val (v := .slice A3 x3.length c3) rfl rfl hF rfl (run_load1 rfl one23 (hF.ev rfl) ((S.free 0 rfl).cell rfl)) ?_; clear hF; intro a hF
  obtain ⟨p103, h103, hM⟩ := bind_ex hM
  refine op_call rfl rfl hF rfl (run_call (vs := [.slice A0 x0.length c0, .slice A3 x3.length c3]) rfl rfl co41 ⟨(hF.ev rfl), (hF.ev rfl), trivial⟩) (c_laws_sameBools (x0 := x0) (x1 := x3) ⟨(S.rc0 h0.rc), rfl⟩ ⟨(S.rc0 h3.rc), rfl⟩ h103) ?_
  rintro e u ⟨rfl, T⟩
  refine ⟨_, rfl, ?_⟩
  clear hF; intro a hF
  replace S := S.call0 T; clear T
  refine op_val (v := .bool p103) rfl rfl hF rfl (run_move rfl (hF.ev rfl)) ?_; clear hF; intro a hF
  refine op_gv (v := .pointer (some ⟨g101, 1, none⟩)) rfl rfl hF rfl (yt (gw_yield hF rfl rfl rfl)) (fun hg => (run_fieldAddr rfl fl26_1 (hF.ev rfl) rfl)) ?_; clear hF; intro a hF
  refine op_gv (v := .slice A1 x1.length c1) rfl rfl hF rfl (yt (gw_yield hF rfl rfl rfl)) (fun hg => (run_load1 rfl one23 ((hF.ev rfl).trans (gv_t hg)) ((S.free 1 rfl).cell rfl))) ?_; clear hF; intro a hF
  refine op_gv (v := .pointer (some ⟨g102, 1, none⟩)) rfl rfl hF rfl (yt (gw_yield hF rfl rfl rfl)) (fun hg => (run_fieldAddr rfl fl26_1 (hF.ev rfl) rfl)) ?_; clear hF; intro a hF
  refine op_gv (v := .slice A4 x4.length c4) rfl rfl hF rfl (yt (gw_yield hF rfl rfl rfl)) (fun hg => (run_load1 rfl one23 ((hF.ev rfl).trans (gv_t hg)) ((S.free 0 rfl).cell rfl))) ?_; clear hF; intro a hF
  obtain ⟨p104, h104, hM⟩ := bind_ex hM
  refine op_gcall (v := .bool p104) rfl rfl hF rfl S (yt (gw_yield hF rfl rfl rfl)) (fun hg => (run_call (vs := [.slice A1 x1.length c1, .slice A4 x4.length c4]) rfl rfl co41 ⟨((hF.ev rfl).trans (gv_t hg)), ((hF.ev rfl).trans (gv_t hg)), trivial⟩)) (fun hg => c_laws_sameBools (x0 := x1) (x1 := x4) ⟨(S.rc0 h1.rc), rfl⟩ ⟨(S.rc0 h4.rc), rfl⟩ (gb_t h104 hg)) ?_; clear hF S; intro a u hF S
  refine op_val (v := .bool (p103 && p104)) rfl rfl hF rfl (run_pick_and rfl (hF.ev rfl) (fun hp => ((hF.ev rfl).trans (gv_t hp))) rfl) ?_; clear hF; intro a hF
  refine op_val (v := .bool (p103 && p104)) rfl rfl hF rfl (run_move rfl (hF.ev rfl)) ?_; clear hF; intro a hF
  refine op_gv (v := .pointer (some ⟨g101, 2, none⟩)) rfl rfl hF rfl (yt (gw_yield hF rfl rfl rfl)) (fun hg => (run_fieldAddr rfl fl26_2 (hF.ev rfl) rfl)) ?_; clear hF; intro a hF
  refine op_gv (v := .slice A2 x2.length c2) rfl rfl hF rfl (yt (gw_yield hF rfl rfl rfl)) (fun hg => (run_load1 rfl one24 ((hF.ev rfl).trans (gv_t hg)) ((S.free 1 rfl).cell rfl))) ?_; clear hF; intro a hF
  refine op_gv (v := .pointer (some ⟨g102, 2, none⟩)) rfl rfl hF rfl (yt (gw_yield hF rfl rfl rfl)) (fun hg => (run_fieldAddr rfl fl26_2 (hF.ev rfl) rfl)) ?_; clear hF; intro a hF
  refine op_gv (v := .slice A5 x5.length c5) rfl rfl hF rfl (yt (gw_yield hF rfl rfl rfl)) (fun hg => (run_load1 rfl one24 ((hF.ev rfl).trans (gv_t hg)) ((S.free 0 rfl).cell rfl))) ?_; clear hF; intro a hF
  obtain ⟨p105, h105, hM⟩ := bind_ex hM
  refine op_gcall (v := .bool p105) rfl rfl hF rfl S (yt (gw_yield hF rfl rfl rfl)) (fun hg => (run_call (vs := [.slice A2 x2.length c2, .slice A5 x5.length c5]) rfl rfl co42 ⟨((hF.ev rfl).trans (gv_t hg)), ((hF.ev rfl).trans (gv_t hg)), trivial⟩)) (fun hg => c_laws_samePermits (x0 := x2) (x1 := x5) ⟨(S.rc0 h2.rc), rfl⟩ ⟨(S.rc0 h5.rc), rfl⟩ (gb_t h105 hg)) ?_; clear hF S; intro a u hF S
  refine op_val (v := .bool ((p103 && p104) && p105)) rfl rfl hF rfl (run_pick_and rfl (hF.ev rfl) (fun hp => ((hF.ev rfl).trans (gv_t hp))) rfl) ?_; clear hF; intro a hF
  refine op_val (v := .bool ((p103 && p104) && p105)) rfl rfl hF rfl (run_assign rfl (hF.ev rfl)) ?_; clear hF; intro a hF
  refine wpList_nil ?_
  refine wp_ret ?_
  repeat with_reducible (first | refine then_ret ?_ | refine in_ret ?_ | refine in_nrm ?_)
  refine ret1_gw (.inl rfl) hF rfl (res_tmp (hF.ev rfl)) ?_
  obtain rfl := Option.some.inj hM
  exact ⟨rfl, S.sel [] rfl rfl⟩

set_option maxHeartbeats 4000000 in
theorem c_spec_DrawWorkRun {x0 : List Int} {A0 : Option Addr} {n0 c0 : Nat} {w : World} {r : List Bool × List Bool × List (Int × Int) × List (Int × Int × Int)} (h0 : Rt w 1 eU A0 n0 c0 x0) (hM : m_spec_DrawWorkRun x0 = some r) :
    Calls Tryd.prog 18 #[.slice A0 n0 c0] w (fun e w' => ∃ (B0 : Option Addr) (N0 D0 : Nat) (B1 : Option Addr) (N1 D1 : Nat) (B2 : Option Addr) (N2 D2 : Nat) (B3 : Option Addr) (N3 D3 : Nat), e = .returned (.tuple #[.agg #[.slice B0 N0 D0, .slice B1 N1 D1, .slice B2 N2 D2], .slice B3 N3 D3]) ∧ N0 = r.1.length ∧ N1 = r.2.1.length ∧ N2 = r.2.2.1.length ∧ N3 = r.2.2.2.length ∧ St w w' [.row 4 1 (.slice B0 N0 D0) N0 (r.1.flatMap eB), .row 4 1 (.slice B1 N1 D1) N1 (r.2.1.flatMap eB), .row 48 2 (.slice B2 N2 D2) N2 (r.2.2.1.flatMap ePermit), .row 35 3 (.slice B3 N3 D3) N3 (r.2.2.2.flatMap eWorkDeed)]) := by
  obtain rfl := h0.len
  unfold m_spec_DrawWorkRun at hM
  refine calls_gw Tryd.func18 Tryd.ntmps18 rfl [(0, .slice A0 x0.length c0)] ⟨rfl, trivial⟩ rfl ?_
  intro a hF
  have S := St.nil w
  refine wp_seq ?_
  refine wp_region_lit ?_
  refine op_new (cs := #[.slice none 0 0, .slice none 0 0, .slice none 0 0]) rfl rfl hF rfl S (run_allocZ rfl zr26) ?_; clear hF S; intro a g101 u hF S
  refine op_val (v := .slice none 0 0) rfl rfl hF rfl (run_assign rfl rfl) ?_; clear hF; intro a hF
  refine wpList_nil ?_
  refine wp_seq ?_
  refine wp_region_lit ?_
  refine op_val (v := .slice A0 x0.length c0) rfl rfl hF rfl (run_move rfl (hF.ev rfl)) ?_; clear hF; intro a hF
  refine op_call rfl rfl hF rfl (run_call (vs := [.slice A0 x0.length c0]) rfl rfl co27 ⟨(hF.ev rfl), trivial⟩) (c_spec_l20Open ⟨(S.rc0 h0.rc), rfl⟩) ?_
  rintro e u ⟨g102, rfl, T⟩
  refine ⟨_, rfl, ?_⟩
  clear hF; intro a hF
  replace S := S.call1 T; clear T
  refine op_val (v := .pointer (some ⟨g102, 0, none⟩)) rfl rfl hF rfl (run_assign rfl (hF.ev rfl)) ?_; clear hF; intro a hF
  refine wpList_nil ?_
  refine wp_seq ?_
  refine wp_region_lit ?_
  refine op_val (v := .pointer (some ⟨g102, 0, none⟩)) rfl rfl hF rfl (run_move rfl (hF.ev rfl)) ?_; clear hF; intro a hF
  obtain ⟨p103, h103, hM⟩ := bind_ex hM
  refine op_call rfl rfl hF rfl (run_call (vs := [.pointer (some ⟨g102, 0, none⟩), .int .i64 9]) rfl rfl co28 ⟨(hF.ev rfl), rfl, trivial⟩) (c_spec_l20Work (x0 := x0.take 2000) (x1 := 0) (x2 := 9) ⟨(op_rc h0.rc rfl), rfl⟩ (show St w _ [.box g102 78 #[.slice (opA c0 x0.length A0) ((x0.take 2000).length) c0, .int .i64 0], .box g101 26 #[.slice none 0 0, .slice none 0 0, .slice none 0 0]] from S.sel [0, 1] rfl rfl) h103) ?_
  rintro e u ⟨B104, n105, d106, B107, n108, d109, B110, n111, d112, rfl, rfl, rfl, rfl, T⟩
  refine ⟨_, rfl, ?_⟩
  clear hF; intro a hF
  clear S; have S := T; clear T
  refine op_new (cs := #[.slice none 0 0, .slice none 0 0, .slice none 0 0]) rfl rfl hF rfl S (run_allocZ rfl zr26) ?_; clear hF S; intro a g113 u hF S
  refine op_do rfl rfl (run_store (cs' := #[.slice B104 p103.1.length d106, .slice B107 p103.2.1.length d109, .slice B110 p103.2.2.1.length d112]) rfl sz26 (hF.ev rfl) (hF.ev rfl) rfl rfl rfl (S.free 0 rfl) rfl rfl) ?_; replace S := S.put 0 rfl (#[.slice B104 p103.1.length d106, .slice B107 p103.2.1.length d109, .slice B110 p103.2.2.1.length d112])
  generalize World.setRow _ _ _ = u at S ⊢
  refine wpList_nil ?_
  refine wp_seq ?_
  refine wp_region_lit ?_
  refine op_newrow (cs := #[]) (size := 3) rfl rfl hF rfl S (run_buildSlice0 rfl Tryd.underlying43 (congrArg Option.isSome sz35)) rfl (Nat.zero_le _) ?_; clear hF S; intro a g114 u hF S
  refine op_val (v := .slice (some ⟨g114, 0, none⟩) 0 0) rfl rfl hF rfl (run_assign rfl (hF.ev rfl)) ?_; clear hF; intro a hF
  refine wpList_nil ?_
  refine wp_seq ?_
  refine wp_seq ?_
  refine wp_region_lit ?_
  refine op_val (v := .pointer (some ⟨g102, 0, none⟩)) rfl rfl hF rfl (run_move rfl (hF.ev rfl)) ?_; clear hF; intro a hF
  obtain ⟨p115, h115, hM⟩ := bind_ex hM
  refine op_call rfl rfl hF rfl (run_call (vs := [.pointer (some ⟨g102, 0, none⟩), .int .i64 14]) rfl rfl co29 ⟨(hF.ev rfl), rfl, trivial⟩) (c_spec_l20Rd_pick (x0 := x0.take 2000) (x1 := p103.2.2.2) (x2 := 14) ⟨(op_rc h0.rc rfl), rfl⟩ (show St w _ [.box g102 78 #[.slice (opA c0 x0.length A0) ((x0.take 2000).length) c0, .int .i64 p103.2.2.2], .row 35 3 (.slice (some ⟨g114, 0, none⟩) 0 0) 0 (([] : List (Int × Int × Int)).flatMap eWorkDeed), .box g113 26 #[.slice B104 p103.1.length d106, .slice B107 p103.2.1.length d109, .slice B110 p103.2.2.1.length d112], .row 4 1 (.slice B104 p103.1.length d106) p103.1.length (p103.1.flatMap eB), .row 4 1 (.slice B107 p103.2.1.length d109) p103.2.1.length (p103.2.1.flatMap eB), .row 48 2 (.slice B110 p103.2.2.1.length d112) p103.2.2.1.length (p103.2.2.1.flatMap ePermit), .box g101 26 #[.slice none 0 0, .slice none 0 0, .slice none 0 0]] from S.sel [5, 0, 1, 2, 3, 4, 6] rfl rfl) h115) ?_
  rintro e u ⟨rfl, T⟩
  refine ⟨_, rfl, ?_⟩
  clear hF; intro a hF
  clear S; have S := T; clear T
  refine op_val (v := .int .i64 p115.1) rfl rfl hF rfl (run_assign rfl (hF.ev rfl)) ?_; clear hF; intro a hF
  refine wpList_nil ?_
  obtain ⟨o117, hM120, hM⟩ := bind_ex hM
  refine wp_cut (fun a u => ∃ (p116 : List (Int × Int × Int)) (B118 : Option Addr) (d119 : Nat), p116 = o117 ∧ Fr a 27 [(2, .pointer (some ⟨g101, 0, none⟩)), (3, .slice none 0 0), (5, .pointer (some ⟨g113, 0, none⟩)), (6, .slice B118 p116.length d119)] ∧ St w u [.box g113 26 #[.slice B104 p103.1.length d106, .slice B107 p103.2.1.length d109, .slice B110 p103.2.2.1.length d112], .box g101 26 #[.slice none 0 0, .slice none 0 0, .slice none 0 0], .row 35 3 (.slice B118 p116.length d119) p116.length (p116.flatMap eWorkDeed), .row 4 1 (.slice B104 p103.1.length d106) p103.1.length (p103.1.flatMap eB), .row 4 1 (.slice B107 p103.2.1.length d109) p103.2.1.length (p103.2.1.flatMap eB), .row 48 2 (.slice B110 p103.2.2.1.length d112) p103.2.2.1.length (p103.2.2.1.flatMap ePermit)]) ?_ ?_
  · have _ := trivial
    refine wp_block ?_
    refine loop_gw (fun m a u => ∃ (p121 : List (Int × Int × Int) × Int × Int) (B122 : Option Addr) (d123 : Nat), m_spec_DrawWorkRun_l1 x0 p103 m p121 = some _ ∧ Fr a 27 [(2, .pointer (some ⟨g101, 0, none⟩)), (3, .slice none 0 0), (4, .pointer (some ⟨g102, 0, none⟩)), (5, .pointer (some ⟨g113, 0, none⟩)), (6, .slice B122 p121.1.length d123), (7, .int .i64 p121.2.1)] ∧ St w u [.box g102 78 #[.slice (opA c0 x0.length A0) ((x0.take 2000).length) c0, .int .i64 p121.2.2], .box g113 26 #[.slice B104 p103.1.length d106, .slice B107 p103.2.1.length d109, .slice B110 p103.2.2.1.length d112], .box g101 26 #[.slice none 0 0, .slice none 0 0, .slice none 0 0], .row 35 3 (.slice B122 p121.1.length d123) p121.1.length (p121.1.flatMap eWorkDeed), .row 4 1 (.slice B104 p103.1.length d106) p103.1.length (p103.1.flatMap eB), .row 4 1 (.slice B107 p103.2.1.length d109) p103.2.1.length (p103.2.1.flatMap eB), .row 48 2 (.slice B110 p103.2.2.1.length d112) p103.2.2.1.length (p103.2.2.1.flatMap ePermit)]) FUEL ⟨(([] : List (Int × Int × Int)), p115.1, p115.2), (some ⟨g114, 0, none⟩), 0, hM120, hF.keep _ ⟨rfl, rfl, rfl, rfl, rfl, rfl, trivial⟩, S.sel [0, 2, 6, 1, 3, 4, 5] rfl rfl⟩ ?_
    clear hF S hM120; rintro m a u ⟨p121, B122, d123, hM120, hF, S⟩
    rcases m with _ | f1
    · exact none_some hM120
    rw [m_spec_DrawWorkRun_l1.eq_2] at hM120
    refine wp_seq ?_
    refine wp_seq ?_
    refine wp_region_lit ?_
    refine op_val (v := .int .i64 p121.2.1) rfl rfl hF rfl (run_move rfl (hF.ev rfl)) ?_; clear hF; intro a hF
    refine op_val (v := .bool (ltB 0 p121.2.1)) rfl rfl hF rfl (run_gtr (hF.ev rfl) rfl rfl) ?_; clear hF; intro a hF
    refine wpList_nil ?_
    cases hc124 : (ltB 0 p121.2.1)
    · replace hM120 := bif_f hc124 hM120
      refine cond_f hF rfl hc124 ?_
      refine wp_exit ?_
      repeat with_reducible (first | refine then_exit ?_ | refine in_hit ?_ | refine in_miss rfl ?_)
      obtain rfl := Option.some.inj hM120
      exact ⟨p121.1, B122, d123, rfl, hF.keep _ ⟨rfl, rfl, rfl, rfl, trivial⟩, S.sel [1, 2, 3, 4, 5, 6] rfl rfl⟩
    · replace hM120 := bif_t hc124 hM120
      refine cond_t hF rfl hc124 ?_
      refine wp_skip ?_
      refine wp_seq ?_
      refine wp_block ?_
      refine wp_region_lit ?_
      refine op_val (v := .slice B122 p121.1.length d123) rfl rfl hF rfl (run_move rfl (hF.ev rfl)) ?_; clear hF; intro a hF
      refine op_val (v := .pointer (some ⟨g102, 0, none⟩)) rfl rfl hF rfl (run_move rfl (hF.ev rfl)) ?_; clear hF; intro a hF
      refine op_val (v := .agg #[.slice B104 p103.1.length d106, .slice B107 p103.2.1.length d109, .slice B110 p103.2.2.1.length d112]) rfl rfl hF rfl (run_loadN rfl ag26 (hF.ev rfl) rfl ((S.free 1 rfl).cells 0 #[.slice B104 p103.1.length d106, .slice B107 p103.2.1.length d109, .slice B110 p103.2.2.1.length d112] rfl)) ?_; clear hF; intro a hF
      obtain ⟨p125, h125, hM120⟩ := bind_ex hM120
      refine op_call rfl rfl hF rfl (run_call (vs := [.pointer (some ⟨g102, 0, none⟩), .agg #[.slice B104 p103.1.length d106, .slice B107 p103.2.1.length d109, .slice B110 p103.2.2.1.length d112]]) rfl rfl co36 ⟨(hF.ev rfl), (hF.ev rfl), trivial⟩) (c_spec_l20WorkDeed (x0 := x0.take 2000) (x1 := p121.2.2) (x2 := p103.1) (Y2 := .row 4 1 (.slice B104 p103.1.length d106) p103.1.length (p103.1.flatMap eB)) (x3 := p103.2.1) (Y3 := .row 4 1 (.slice B107 p103.2.1.length d109) p103.2.1.length (p103.2.1.flatMap eB)) (x4 := p103.2.2.1) (Y4 := .row 48 2 (.slice B110 p103.2.2.1.length d112) p103.2.2.1.length (p103.2.2.1.flatMap ePermit)) ⟨(op_rc h0.rc rfl), rfl⟩ rfl (fun u h => (own_rc (show u.ownsRow 0 _ _ _ _ _ from h))) rfl (fun u h => (own_rc (show u.ownsRow 0 _ _ _ _ _ from h))) rfl (fun u h => (own_rc (show u.ownsRow 0 _ _ _ _ _ from h))) (show St w _ [.box g102 78 #[.slice (opA c0 x0.length A0) ((x0.take 2000).length) c0, .int .i64 p121.2.2], .row 4 1 (.slice B104 p103.1.length d106) p103.1.length (p103.1.flatMap eB), .row 4 1 (.slice B107 p103.2.1.length d109) p103.2.1.length (p103.2.1.flatMap eB), .row 48 2 (.slice B110 p103.2.2.1.length d112) p103.2.2.1.length (p103.2.2.1.flatMap ePermit), .box g113 26 #[.slice B104 p103.1.length d106, .slice B107 p103.2.1.length d109, .slice B110 p103.2.2.1.length d112], .box g101 26 #[.slice none 0 0, .slice none 0 0, .slice none 0 0], .row 35 3 (.slice B122 p121.1.length d123) p121.1.length (p121.1.flatMap eWorkDeed)] from S.sel [0, 4, 5, 6, 1, 2, 3] rfl rfl) h125) ?_
      rintro e u ⟨rfl, T⟩
      refine ⟨_, rfl, ?_⟩
      clear hF; intro a hF
      clear S; have S := T; clear T
      refine op_newrowL (ls := (([(p125.1, p125.2.1, p125.2.2.1)] : List (Int × Int × Int)) : List (Int × Int × Int))) (e := eWorkDeed) rfl rfl hF rfl S (run_buildS (vs := [(0, .agg #[.int .i64 p125.1, .int .i64 p125.2.1, .int .i64 p125.2.2.1])]) rfl ⟨⟨rfl, (hF.ev rfl)⟩, trivial⟩ (bs43_1_3 )) rfl eWorkDeed_len (Nat.le_of_ble_eq_true rfl) ?_; clear hF S; intro a g126 u hF S
      obtain ⟨hk129, hM120⟩ := chk_ex hM120
      replace hk129 := apB_t hk129
      refine op_appendL (lx := p121.1) (ly := ([(p125.1, p125.2.1, p125.2.2.1)] : List (Int × Int × Int))) rfl rfl hF rfl S rfl (hF.ev rfl) (hF.ev rfl) (i := 7) rfl rfl Tryd.underlying43 inf35 rfl (by decide) (S.rc 0 rfl).rd rfl eWorkDeed_one hk129 (by decide) ?_; clear hF S; intro a B127 d128 u hF S
      refine op_val (v := .slice B127 ((p121.1 ++ ([(p125.1, p125.2.1, p125.2.2.1)] : List (Int × Int × Int))).length) d128) rfl rfl hF rfl (run_assign rfl (hF.ev rfl)) ?_; clear hF; intro a hF
      refine wpList_nil ?_
      refine wp_region_lit ?_
      refine op_val (v := .int .i64 p121.2.1) rfl rfl hF rfl (run_move rfl (hF.ev rfl)) ?_; clear hF; intro a hF
      refine op_val (v := .int .i64 (w64 (p121.2.1 - 1))) rfl rfl hF rfl (run_sub (z := w64 (p121.2.1 - 1)) (hF.ev rfl) rfl rfl rfl) ?_; clear hF; intro a hF
      refine op_val (v := .int .i64 (w64 (p121.2.1 - 1))) rfl rfl hF rfl (run_assign rfl (hF.ev rfl)) ?_; clear hF; intro a hF
      refine wpList_nil ?_
      exact ⟨f1, Nat.lt_succ_self _, (p121.1 ++ ([(p125.1, p125.2.1, p125.2.2.1)] : List (Int × Int × Int)), w64 (p121.2.1 - 1), p125.2.2.2), B127, d128, hM120, hF.keep _ ⟨rfl, rfl, rfl, rfl, rfl, rfl, trivial⟩, S.sel [1, 5, 6, 7, 2, 3, 4] rfl rfl⟩
  · rintro a u ⟨p116, B118, d119, rfl, hF, S⟩
    refine wp_seq ?_
    refine wp_region_lit ?_
    refine op_val (v := .agg #[.slice B104 p103.1.length d106, .slice B107 p103.2.1.length d109, .slice B110 p103.2.2.1.length d112]) rfl rfl hF rfl (run_loadN rfl ag26 (hF.ev rfl) rfl ((S.free 0 rfl).cells 0 #[.slice B104 p103.1.length d106, .slice B107 p103.2.1.length d109, .slice B110 p103.2.2.1.length d112] rfl)) ?_; clear hF; intro a hF
    refine op_val (v := .slice B118 p116.length d119) rfl rfl hF rfl (run_move rfl (hF.ev rfl)) ?_; clear hF; intro a hF
    refine op_do rfl rfl (run_store (cs' := #[.slice B104 p103.1.length d106, .slice B107 p103.2.1.length d109, .slice B110 p103.2.2.1.length d112]) rfl sz26 (hF.ev rfl) (hF.ev rfl) rfl rfl rfl (S.free 1 rfl) rfl rfl) ?_; replace S := S.put 1 rfl (#[.slice B104 p103.1.length d106, .slice B107 p103.2.1.length d109, .slice B110 p103.2.2.1.length d112])
    generalize World.setRow _ _ _ = u at S ⊢
    refine op_val (v := .slice B118 p116.length d119) rfl rfl hF rfl (run_assign rfl (hF.ev rfl)) ?_; clear hF; intro a hF
    refine wpList_nil ?_
    refine wp_ret ?_
    repeat with_reducible (first | refine then_ret ?_ | refine in_ret ?_ | refine in_nrm ?_)
    refine ret2_gw (.inl rfl) hF rfl (res_cell (hF.ev rfl) (res_loadN ag26 rfl (S.cells 1 rfl 0 #[.slice B104 p103.1.length d106, .slice B107 p103.2.1.length d109, .slice B110 p103.2.2.1.length d112] rfl))) (res_tmp (hF.ev rfl)) ?_
    obtain rfl := Option.some.inj hM
    exact ⟨B104, p103.1.length, d106, B107, p103.2.1.length, d109, B110, p103.2.2.1.length, d112, B118, p116.length, d119, rfl, rfl, rfl, rfl, rfl, S.sel [3, 4, 5, 2] rfl rfl⟩

set_option maxHeartbeats 4000000 in
theorem c_impl_WorkRun {x0 : List Bool} {x1 : List Bool} {x2 : List (Int × Int)} {x3 : List (Int × Int × Int)} {A0 : Option Addr} {n0 c0 : Nat} {A1 : Option Addr} {n1 c1 : Nat} {A2 : Option Addr} {n2 c2 : Nat} {A3 : Option Addr} {n3 c3 : Nat} {w : World} {r : List Bool × List Bool × List (Int × Int) × Int} (h0 : Rt w 1 eB A0 n0 c0 x0) (h1 : Rt w 1 eB A1 n1 c1 x1) (h2 : Rt w 2 ePermit A2 n2 c2 x2) (h3 : Rt w 3 eWorkDeed A3 n3 c3 x3) (hM : m_impl_WorkRun x0 x1 x2 x3 = some r) :
    Calls Tryd.prog 19 #[.agg #[.slice A0 n0 c0, .slice A1 n1 c1, .slice A2 n2 c2], .slice A3 n3 c3] w (fun e w' => ∃ (B0 : Option Addr) (N0 D0 : Nat) (B1 : Option Addr) (N1 D1 : Nat) (B2 : Option Addr) (N2 D2 : Nat), e = .returned (.tuple #[.agg #[.slice B0 N0 D0, .slice B1 N1 D1, .slice B2 N2 D2], .int .i64 r.2.2.2]) ∧ N0 = r.1.length ∧ N1 = r.2.1.length ∧ N2 = r.2.2.1.length ∧ St w w' [.row 4 1 (.slice B0 N0 D0) N0 (r.1.flatMap eB), .row 4 1 (.slice B1 N1 D1) N1 (r.2.1.flatMap eB), .row 48 2 (.slice B2 N2 D2) N2 (r.2.2.1.flatMap ePermit)]) := by
  obtain rfl := h0.len
  obtain rfl := h1.len
  obtain rfl := h2.len
  obtain rfl := h3.len
  unfold m_impl_WorkRun at hM
  refine calls_gw Tryd.func19 Tryd.ntmps19 rfl [(0, .agg #[.slice A0 x0.length c0, .slice A1 x1.length c1, .slice A2 x2.length c2]), (1, .slice A3 x3.length c3)] ⟨rfl, rfl, trivial⟩ rfl ?_
  intro a hF
  have S := St.nil w
  refine wp_seq ?_
  refine wp_region_lit ?_
  refine op_new (cs := #[.slice A0 x0.length c0, .slice A1 x1.length c1, .slice A2 x2.length c2]) rfl rfl hF rfl S (run_box rfl (hF.ev rfl) rfl) ?_; clear hF S; intro a g101 u hF S
  refine op_new (cs := #[.slice none 0 0, .slice none 0 0, .slice none 0 0]) rfl rfl hF rfl S (run_allocZ rfl zr26) ?_; clear hF S; intro a g102 u hF S
  refine op_val (v := .int .i64 0) rfl rfl hF rfl (run_assign rfl rfl) ?_; clear hF; intro a hF
  refine wpList_nil ?_
  refine wp_seq ?_
  refine wp_seq ?_
  refine wp_region_lit ?_
  refine op_val (v := .agg #[.slice A0 x0.length c0, .slice A1 x1.length c1, .slice A2 x2.length c2]) rfl rfl hF rfl (run_loadN rfl ag26 (hF.ev rfl) rfl ((S.free 1 rfl).cells 0 #[.slice A0 x0.length c0, .slice A1 x1.length c1, .slice A2 x2.length c2] rfl)) ?_; clear hF; intro a hF
  obtain ⟨p103, h103, hM⟩ := bind_ex hM
  refine op_call rfl rfl hF rfl (run_call (vs := [.agg #[.slice A0 x0.length c0, .slice A1 x1.length c1, .slice A2 x2.length c2]]) rfl rfl co17 ⟨(hF.ev rfl), trivial⟩) (c_impl_WorkValid (x0 := x0) (x1 := x1) (x2 := x2) ⟨(S.rc0 h0.rc), rfl⟩ ⟨(S.rc0 h1.rc), rfl⟩ ⟨(S.rc0 h2.rc), rfl⟩ h103) ?_
  rintro e u ⟨rfl, T⟩
  refine ⟨_, rfl, ?_⟩
  clear hF; intro a hF
  replace S := S.call0 T; clear T
  refine op_val (v := .bool (!p103)) rfl rfl hF rfl (run_not rfl (hF.ev rfl)) ?_; clear hF; intro a hF
  refine wpList_nil ?_
  cases hc104 : (p103)
  · replace hM := bif_f hc104 hM
    refine cond_t hF rfl (not_t hc104) ?_
    refine wp_seq ?_
    refine wp_region_lit ?_
    refine op_val (v := .agg #[.slice none 0 0, .slice none 0 0, .slice none 0 0]) rfl rfl hF rfl (run_build (vs := []) rfl trivial (bd26 )) ?_; clear hF; intro a hF
    refine op_do rfl rfl (run_store (cs' := #[.slice none 0 0, .slice none 0 0, .slice none 0 0]) rfl sz26 (hF.ev rfl) (hF.ev rfl) rfl rfl rfl (S.free 0 rfl) rfl rfl) ?_; replace S := S.put 0 rfl (#[.slice none 0 0, .slice none 0 0, .slice none 0 0])
    generalize World.setRow _ _ _ = u at S ⊢
    refine op_val (v := .int .i64 0) rfl rfl hF rfl (run_assign rfl rfl) ?_; clear hF; intro a hF
    refine wpList_nil ?_
    refine wp_ret ?_
    repeat with_reducible (first | refine then_ret ?_ | refine in_ret ?_ | refine in_nrm ?_)
    refine ret2_gw (.inl rfl) hF rfl (res_cell (hF.ev rfl) (res_loadN ag26 rfl (S.cells 0 rfl 0 #[.slice none 0 0, .slice none 0 0, .slice none 0 0] rfl))) (res_tmp (hF.ev rfl)) ?_
    obtain rfl := Option.some.inj hM
    replace S := S.nilrow 4 1
    replace S := S.nilrow 4 1
    replace S := S.nilrow 48 2
    exact ⟨none, 0, 0, none, 0, 0, none, 0, 0, rfl, rfl, rfl, rfl, S.sel [2, 1, 0] rfl rfl⟩
  · replace hM := bif_t hc104 hM
    refine cond_f hF rfl (not_f hc104) ?_
    refine wp_skip ?_
    refine wp_seq ?_
    refine wp_region_lit ?_
    refine op_val (v := .agg #[.slice A0 x0.length c0, .slice A1 x1.length c1, .slice A2 x2.length c2]) rfl rfl hF rfl (run_loadN rfl ag26 (hF.ev rfl) rfl ((S.free 1 rfl).cells 0 #[.slice A0 x0.length c0, .slice A1 x1.length c1, .slice A2 x2.length c2] rfl)) ?_; clear hF; intro a hF
    obtain ⟨p105, h105, hM⟩ := bind_ex hM
    refine op_call rfl rfl hF rfl (run_call (vs := [.agg #[.slice A0 x0.length c0, .slice A1 x1.length c1, .slice A2 x2.length c2]]) rfl rfl co30 ⟨(hF.ev rfl), trivial⟩) (c_impl_Work_clone (x0 := x0) (x1 := x1) (x2 := x2) ⟨(S.rc0 h0.rc), rfl⟩ ⟨(S.rc0 h1.rc), rfl⟩ ⟨(S.rc0 h2.rc), rfl⟩ h105) ?_
    rintro e u ⟨B106, n107, d108, B109, n110, d111, B112, n113, d114, rfl, rfl, rfl, rfl, T⟩
    refine ⟨_, rfl, ?_⟩
    clear hF; intro a hF
    replace S := S.call3 T; clear T
    refine op_new (cs := #[.slice none 0 0, .slice none 0 0, .slice none 0 0]) rfl rfl hF rfl S (run_allocZ rfl zr26) ?_; clear hF S; intro a g115 u hF S
    refine op_do rfl rfl (run_store (cs' := #[.slice B106 p105.1.length d108, .slice B109 p105.2.1.length d111, .slice B112 p105.2.2.length d114]) rfl sz26 (hF.ev rfl) (hF.ev rfl) rfl rfl rfl (S.free 0 rfl) rfl rfl) ?_; replace S := S.put 0 rfl (#[.slice B106 p105.1.length d108, .slice B109 p105.2.1.length d111, .slice B112 p105.2.2.length d114])
    generalize World.setRow _ _ _ = u at S ⊢
    refine op_val (v := .int .i64 0) rfl rfl hF rfl (run_assign rfl rfl) ?_; clear hF; intro a hF
    refine wpList_nil ?_
    refine wp_seq ?_
    refine wp_seq ?_
    refine wp_region_lit ?_
    refine op_val (v := .slice A3 x3.length c3) rfl rfl hF rfl (run_move rfl (hF.ev rfl)) ?_; clear hF; intro a hF
    refine op_val (v := .int .i64 (x3.length : Int)) rfl rfl hF rfl (run_lenL rfl rfl Tryd.underlying43 (hF.ev rfl)) ?_; clear hF; intro a hF
    refine op_val (v := .int .i64 0) rfl rfl hF rfl (run_move rfl rfl) ?_; clear hF; intro a hF
    refine wpList_nil ?_
    obtain ⟨o117, hM124, hM⟩ := bind_ex hM
    refine wp_cut (fun a u => ∃ (p116 : Int × List Bool × List Bool × List (Int × Int)) (B118 : Option Addr) (d119 : Nat) (B120 : Option Addr) (d121 : Nat) (B122 : Option Addr) (d123 : Nat), p116 = o117 ∧ Fr a 37 [(4, .pointer (some ⟨g102, 0, none⟩)), (5, .int .i64 0), (6, .pointer (some ⟨g115, 0, none⟩)), (7, .int .i64 p116.1)] ∧ St w u [.box g115 26 #[.slice B118 p116.2.1.length d119, .slice B120 p116.2.2.1.length d121, .slice B122 p116.2.2.2.length d123], .box g102 26 #[.slice none 0 0, .slice none 0 0, .slice none 0 0], .row 4 1 (.slice B118 p116.2.1.length d119) p116.2.1.length (p116.2.1.flatMap eB), .row 4 1 (.slice B120 p116.2.2.1.length d121) p116.2.2.1.length (p116.2.2.1.flatMap eB), .row 48 2 (.slice B122 p116.2.2.2.length d123) p116.2.2.2.length (p116.2.2.2.flatMap ePermit)]) ?_ ?_
    · have _ := trivial
      refine wp_block ?_
      refine loop_gw (fun m a u => ∃ (p125 : Int × Int × List Bool × List Bool × List (Int × Int)) (B126 : Option Addr) (d127 : Nat) (B128 : Option Addr) (d129 : Nat) (B130 : Option Addr) (d131 : Nat), m_impl_WorkRun_l1 x3 m p125 = some _ ∧ Fr a 37 [(4, .pointer (some ⟨g102, 0, none⟩)), (5, .int .i64 0), (6, .pointer (some ⟨g115, 0, none⟩)), (7, .int .i64 p125.1), (18, .slice A3 x3.length c3), (19, .int .i64 (x3.length : Int)), (20, .int .i64 p125.2.1)] ∧ St w u [.box g115 26 #[.slice B126 p125.2.2.1.length d127, .slice B128 p125.2.2.2.1.length d129, .slice B130 p125.2.2.2.2.length d131], .box g102 26 #[.slice none 0 0, .slice none 0 0, .slice none 0 0], .row 4 1 (.slice B126 p125.2.2.1.length d127) p125.2.2.1.length (p125.2.2.1.flatMap eB), .row 4 1 (.slice B128 p125.2.2.2.1.length d129) p125.2.2.2.1.length (p125.2.2.2.1.flatMap eB), .row 48 2 (.slice B130 p125.2.2.2.2.length d131) p125.2.2.2.2.length (p125.2.2.2.2.flatMap ePermit)]) FUEL ⟨(0, 0, p105.1, p105.2.1, p105.2.2), B106, d108, B109, d111, B112, d114, hM124, hF.keep _ ⟨rfl, rfl, rfl, rfl, rfl, rfl, rfl, trivial⟩, S.sel [0, 4, 1, 2, 3] rfl rfl⟩ ?_
      clear hF S hM124; rintro m a u ⟨p125, B126, d127, B128, d129, B130, d131, hM124, hF, S⟩
      rcases m with _ | f1
      · exact none_some hM124
      rw [m_impl_WorkRun_l1.eq_2] at hM124
      refine wp_seq ?_
      refine wp_region_lit ?_
      refine op_val (v := .bool (ltB p125.2.1 (x3.length : Int))) rfl rfl hF rfl (run_lss (hF.ev rfl) (hF.ev rfl) rfl) ?_; clear hF; intro a hF
      refine wpList_nil ?_
      refine wp_seq ?_
      cases hc132 : (ltB p125.2.1 (x3.length : Int))
      · replace hM124 := bif_f hc132 hM124
        refine cond_f hF rfl hc132 ?_
        refine wp_exit ?_
        repeat with_reducible (first | refine then_exit ?_ | refine in_hit ?_ | refine in_miss rfl ?_)
        obtain rfl := Option.some.inj hM124
        exact ⟨(p125.1, p125.2.2.1, p125.2.2.2.1, p125.2.2.2.2), B126, d127, B128, d129, B130, d131, rfl, hF.keep _ ⟨rfl, rfl, rfl, rfl, trivial⟩, S.sel [0, 1, 2, 3, 4] rfl rfl⟩
      · replace hM124 := bif_t hc132 hM124
        refine cond_t hF rfl hc132 ?_
        refine wp_skip ?_
        refine wp_seq ?_
        refine wp_block ?_
        refine wp_seq ?_
        refine wp_region_lit ?_
        obtain ⟨hk133, hM124⟩ := chk_ex hM124
        replace hk133 := ixB_t hk133
        refine op_val (v := .pointer (some ⟨adB A3, adO A3 + p125.2.1.toNat * 3, none⟩)) rfl rfl hF rfl (run_indexAddr (b := adB A3) (off := adO A3) rfl Tryd.underlying43 sz35 ((hF.ev rfl).trans (congrArg (fun A => Value.slice A x3.length c3) ((S.rc0 h3.rc).rd.ad (ix_pos hk133)))) (hF.ev rfl) hk133.1 hk133.2 (k' := adO A3 + p125.2.1.toNat * 3) rfl) ?_; clear hF; intro a hF
        refine op_val (v := .agg #[.int .i64 ((x3.getD p125.2.1.toNat ((0, 0, 0) : Int × Int × Int)).1), .int .i64 ((x3.getD p125.2.1.toNat ((0, 0, 0) : Int × Int × Int)).2.1), .int .i64 ((x3.getD p125.2.1.toNat ((0, 0, 0) : Int × Int × Int)).2.2)]) rfl rfl hF rfl (run_loadN (cs := #[.int .i64 ((x3.getD p125.2.1.toNat ((0, 0, 0) : Int × Int × Int)).1), .int .i64 ((x3.getD p125.2.1.toNat ((0, 0, 0) : Int × Int × Int)).2.1), .int .i64 ((x3.getD p125.2.1.toNat ((0, 0, 0) : Int × Int × Int)).2.2)]) rfl ag35 (hF.ev rfl) rfl (rd_elN (l := x3) (S.rc0 h3.rc).rd rfl eWorkDeed_len ((0, 0, 0) : Int × Int × Int) (ix_ltn hk133 rfl) rfl)) ?_; clear hF; intro a hF
        refine op_new (cs := #[.int .i64 0, .int .i64 0, .int .i64 0]) rfl rfl hF rfl S (run_allocZ rfl zr35) ?_; clear hF S; intro a g134 u hF S
        refine op_do rfl rfl (run_store (cs' := #[.int .i64 ((x3.getD p125.2.1.toNat ((0, 0, 0) : Int × Int × Int)).1), .int .i64 ((x3.getD p125.2.1.toNat ((0, 0, 0) : Int × Int × Int)).2.1), .int .i64 ((x3.getD p125.2.1.toNat ((0, 0, 0) : Int × Int × Int)).2.2)]) rfl sz35 (hF.ev rfl) (hF.ev rfl) rfl rfl rfl (S.free 0 rfl) rfl rfl) ?_; replace S := S.put 0 rfl (#[.int .i64 ((x3.getD p125.2.1.toNat ((0, 0, 0) : Int × Int × Int)).1), .int .i64 ((x3.getD p125.2.1.toNat ((0, 0, 0) : Int × Int × Int)).2.1), .int .i64 ((x3.getD p125.2.1.toNat ((0, 0, 0) : Int × Int × Int)).2.2)])
        generalize World.setRow _ _ _ = u at S ⊢
        refine wpList_nil ?_
        refine wp_seq ?_
        refine wp_region_lit ?_
        refine op_val (v := .agg #[.slice B126 p125.2.2.1.length d127, .slice B128 p125.2.2.2.1.length d129, .slice B130 p125.2.2.2.2.length d131]) rfl rfl hF rfl (run_loadN rfl ag26 (hF.ev rfl) rfl ((S.free 1 rfl).cells 0 #[.slice B126 p125.2.2.1.length d127, .slice B128 p125.2.2.2.1.length d129, .slice B130 p125.2.2.2.2.length d131] rfl)) ?_; clear hF; intro a hF
        refine op_val (v := .agg #[.int .i64 ((x3.getD p125.2.1.toNat ((0, 0, 0) : Int × Int × Int)).1), .int .i64 ((x3.getD p125.2.1.toNat ((0, 0, 0) : Int × Int × Int)).2.1), .int .i64 ((x3.getD p125.2.1.toNat ((0, 0, 0) : Int × Int × Int)).2.2)]) rfl rfl hF rfl (run_loadN rfl ag35 (hF.ev rfl) rfl ((S.free 0 rfl).cells 0 #[.int .i64 ((x3.getD p125.2.1.toNat ((0, 0, 0) : Int × Int × Int)).1), .int .i64 ((x3.getD p125.2.1.toNat ((0, 0, 0) : Int × Int × Int)).2.1), .int .i64 ((x3.getD p125.2.1.toNat ((0, 0, 0) : Int × Int × Int)).2.2)] rfl)) ?_; clear hF; intro a hF
        obtain ⟨p135, h135, hM124⟩ := bind_ex hM124
        refine op_call rfl rfl hF rfl (run_call (vs := [.agg #[.slice B126 p125.2.2.1.length d127, .slice B128 p125.2.2.2.1.length d129, .slice B130 p125.2.2.2.2.length d131], .agg #[.int .i64 ((x3.getD p125.2.1.toNat ((0, 0, 0) : Int × Int × Int)).1), .int .i64 ((x3.getD p125.2.1.toNat ((0, 0, 0) : Int × Int × Int)).2.1), .int .i64 ((x3.getD p125.2.1.toNat ((0, 0, 0) : Int × Int × Int)).2.2)]]) rfl rfl co11 ⟨(hF.ev rfl), (hF.ev rfl), trivial⟩) (c_impl_WorkDo (x0 := p125.2.2.1) (x1 := p125.2.2.2.1) (x2 := p125.2.2.2.2) (x3 := (x3.getD p125.2.1.toNat ((0, 0, 0) : Int × Int × Int)).1) (x4 := (x3.getD p125.2.1.toNat ((0, 0, 0) : Int × Int × Int)).2.1) (x5 := (x3.getD p125.2.1.toNat ((0, 0, 0) : Int × Int × Int)).2.2) ⟨(S.rc 3 rfl), rfl⟩ ⟨(S.rc 4 rfl), rfl⟩ ⟨(S.rc 5 rfl), rfl⟩ h135) ?_
        rintro e u ⟨B136, n137, d138, B139, n140, d141, B142, n143, d144, rfl, rfl, rfl, rfl, T⟩
        refine ⟨_, rfl, ?_⟩
        clear hF; intro a hF
        replace S := S.call3 T; clear T
        refine op_val (v := .tuple #[.agg #[.slice B136 p135.1.length d138, .slice B139 p135.2.1.length d141, .slice B142 p135.2.2.1.length d144], .bool p135.2.2.2]) rfl rfl hF rfl (run_move rfl (hF.ev rfl)) ?_; clear hF; intro a hF
        refine op_val (v := .agg #[.slice B136 p135.1.length d138, .slice B139 p135.2.1.length d141, .slice B142 p135.2.2.1.length d144]) rfl rfl hF rfl (run_extract rfl (hF.ev rfl) rfl) ?_; clear hF; intro a hF
        refine op_val (v := .bool p135.2.2.2) rfl rfl hF rfl (run_extract rfl (hF.ev rfl) rfl) ?_; clear hF; intro a hF
        refine op_new (cs := #[.slice none 0 0, .slice none 0 0, .slice none 0 0]) rfl rfl hF rfl S (run_allocZ rfl zr26) ?_; clear hF S; intro a g145 u hF S
        refine op_do rfl rfl (run_store (cs' := #[.slice B136 p135.1.length d138, .slice B139 p135.2.1.length d141, .slice B142 p135.2.2.1.length d144]) rfl sz26 (hF.ev rfl) (hF.ev rfl) rfl rfl rfl (S.free 0 rfl) rfl rfl) ?_; replace S := S.put 0 rfl (#[.slice B136 p135.1.length d138, .slice B139 p135.2.1.length d141, .slice B142 p135.2.2.1.length d144])
        generalize World.setRow _ _ _ = u at S ⊢
        refine op_val (v := .bool p135.2.2.2) rfl rfl hF rfl (run_assign rfl (hF.ev rfl)) ?_; clear hF; intro a hF
        refine wpList_nil ?_
        refine wp_seq ?_
        refine wp_region_lit ?_
        refine op_val (v := .bool p135.2.2.2) rfl rfl hF rfl (run_move rfl (hF.ev rfl)) ?_; clear hF; intro a hF
        refine wpList_nil ?_
        obtain ⟨o147, hM154, hM124⟩ := bind_ex hM124
        refine wp_cut (fun a u => ∃ (p146 : Int × List Bool × List Bool × List (Int × Int)) (B148 : Option Addr) (d149 : Nat) (B150 : Option Addr) (d151 : Nat) (B152 : Option Addr) (d153 : Nat), p146 = o147 ∧ Fr a 37 [(4, .pointer (some ⟨g102, 0, none⟩)), (5, .int .i64 0), (6, .pointer (some ⟨g115, 0, none⟩)), (7, .int .i64 p146.1), (18, .slice A3 x3.length c3), (19, .int .i64 (x3.length : Int)), (20, .int .i64 p125.2.1)] ∧ St w u [.box g115 26 #[.slice B148 p146.2.1.length d149, .slice B150 p146.2.2.1.length d151, .slice B152 p146.2.2.2.length d153], .box g102 26 #[.slice none 0 0, .slice none 0 0, .slice none 0 0], .row 4 1 (.slice B148 p146.2.1.length d149) p146.2.1.length (p146.2.1.flatMap eB), .row 4 1 (.slice B150 p146.2.2.1.length d151) p146.2.2.1.length (p146.2.2.1.flatMap eB), .row 48 2 (.slice B152 p146.2.2.2.length d153) p146.2.2.2.length (p146.2.2.2.flatMap ePermit)]) ?_ ?_
        · have _ := trivial
          cases hc155 : (p135.2.2.2)
          · replace hM154 := bif_f hc155 hM154
            refine cond_f hF rfl hc155 ?_
            refine wp_skip ?_
            obtain rfl := Option.some.inj hM154
            exact ⟨(p125.1, p125.2.2.1, p125.2.2.2.1, p125.2.2.2.2), B126, d127, B128, d129, B130, d131, rfl, hF.keep _ ⟨rfl, rfl, rfl, rfl, rfl, rfl, rfl, trivial⟩, S.sel [5, 6, 7, 8, 9] rfl rfl⟩
          · replace hM154 := bif_t hc155 hM154
            refine cond_t hF rfl hc155 ?_
            refine wp_seq ?_
            refine wp_region_lit ?_
            refine op_val (v := .agg #[.slice B136 p135.1.length d138, .slice B139 p135.2.1.length d141, .slice B142 p135.2.2.1.length d144]) rfl rfl hF rfl (run_loadN rfl ag26 (hF.ev rfl) rfl ((S.free 0 rfl).cells 0 #[.slice B136 p135.1.length d138, .slice B139 p135.2.1.length d141, .slice B142 p135.2.2.1.length d144] rfl)) ?_; clear hF; intro a hF
            refine op_do rfl rfl (run_store (cs' := #[.slice B136 p135.1.length d138, .slice B139 p135.2.1.length d141, .slice B142 p135.2.2.1.length d144]) rfl sz26 (hF.ev rfl) (hF.ev rfl) rfl rfl rfl (S.free 5 rfl) rfl rfl) ?_; replace S := S.put 5 rfl (#[.slice B136 p135.1.length d138, .slice B139 p135.2.1.length d141, .slice B142 p135.2.2.1.length d144])
            generalize World.setRow _ _ _ = u at S ⊢
            refine wpList_nil ?_
            refine wp_region_lit ?_
            refine op_val (v := .int .i64 p125.1) rfl rfl hF rfl (run_move rfl (hF.ev rfl)) ?_; clear hF; intro a hF
            refine op_val (v := .int .i64 (w64 (p125.1 + 1))) rfl rfl hF rfl (run_add (z := w64 (p125.1 + 1)) (hF.ev rfl) rfl rfl rfl) ?_; clear hF; intro a hF
            refine op_val (v := .int .i64 (w64 (p125.1 + 1))) rfl rfl hF rfl (run_assign rfl (hF.ev rfl)) ?_; clear hF; intro a hF
            refine wpList_nil ?_
            obtain rfl := Option.some.inj hM154
            exact ⟨(w64 (p125.1 + 1), p135.1, p135.2.1, p135.2.2.1), B136, d138, B139, d141, B142, d144, rfl, hF.keep _ ⟨rfl, rfl, rfl, rfl, rfl, rfl, rfl, trivial⟩, S.sel [5, 6, 1, 2, 3] rfl rfl⟩
        · rintro a u ⟨p146, B148, d149, B150, d151, B152, d153, rfl, hF, S⟩
          refine wp_region_lit ?_
          refine op_val (v := .int .i64 (w64 (p125.2.1 + 1))) rfl rfl hF rfl (run_add (z := w64 (p125.2.1 + 1)) (hF.ev rfl) rfl rfl rfl) ?_; clear hF; intro a hF
          refine op_val (v := .int .i64 (w64 (p125.2.1 + 1))) rfl rfl hF rfl (run_move rfl (hF.ev rfl)) ?_; clear hF; intro a hF
          refine wpList_nil ?_
          exact ⟨f1, Nat.lt_succ_self _, (p146.1, w64 (p125.2.1 + 1), p146.2.1, p146.2.2.1, p146.2.2.2), B148, d149, B150, d151, B152, d153, hM124, hF.keep _ ⟨rfl, rfl, rfl, rfl, rfl, rfl, rfl, trivial⟩, S.sel [0, 1, 2, 3, 4] rfl rfl⟩
    · rintro a u ⟨p116, B118, d119, B120, d121, B122, d123, rfl, hF, S⟩
      refine wp_seq ?_
      refine wp_region_lit ?_
      refine op_val (v := .agg #[.slice B118 p116.2.1.length d119, .slice B120 p116.2.2.1.length d121, .slice B122 p116.2.2.2.length d123]) rfl rfl hF rfl (run_loadN rfl ag26 (hF.ev rfl) rfl ((S.free 0 rfl).cells 0 #[.slice B118 p116.2.1.length d119, .slice B120 p116.2.2.1.length d121, .slice B122 p116.2.2.2.length d123] rfl)) ?_; clear hF; intro a hF
      refine op_val (v := .int .i64 p116.1) rfl rfl hF rfl (run_move rfl (hF.ev rfl)) ?_; clear hF; intro a hF
      refine op_do rfl rfl (run_store (cs' := #[.slice B118 p116.2.1.length d119, .slice B120 p116.2.2.1.length d121, .slice B122 p116.2.2.2.length d123]) rfl sz26 (hF.ev rfl) (hF.ev rfl) rfl rfl rfl (S.free 1 rfl) rfl rfl) ?_; replace S := S.put 1 rfl (#[.slice B118 p116.2.1.length d119, .slice B120 p116.2.2.1.length d121, .slice B122 p116.2.2.2.length d123])
      generalize World.setRow _ _ _ = u at S ⊢
      refine op_val (v := .int .i64 p116.1) rfl rfl hF rfl (run_assign rfl (hF.ev rfl)) ?_; clear hF; intro a hF
      refine wpList_nil ?_
      refine wp_ret ?_
      repeat with_reducible (first | refine then_ret ?_ | refine in_ret ?_ | refine in_nrm ?_)
      refine ret2_gw (.inl rfl) hF rfl (res_cell (hF.ev rfl) (res_loadN ag26 rfl (S.cells 1 rfl 0 #[.slice B118 p116.2.1.length d119, .slice B120 p116.2.2.1.length d121, .slice B122 p116.2.2.2.length d123] rfl))) (res_tmp (hF.ev rfl)) ?_
      obtain rfl := Option.some.inj hM
      exact ⟨B118, p116.2.1.length, d119, B120, p116.2.2.1.length, d121, B122, p116.2.2.2.length, d123, rfl, rfl, rfl, rfl, S.sel [2, 3, 4] rfl rfl⟩

set_option maxHeartbeats 4000000 in
theorem c_spec_WorkRun {x0 : List Bool} {x1 : List Bool} {x2 : List (Int × Int)} {x3 : List (Int × Int × Int)} {A0 : Option Addr} {n0 c0 : Nat} {A1 : Option Addr} {n1 c1 : Nat} {A2 : Option Addr} {n2 c2 : Nat} {A3 : Option Addr} {n3 c3 : Nat} {w : World} {r : List Bool × List Bool × List (Int × Int) × Int} (h0 : Rt w 1 eB A0 n0 c0 x0) (h1 : Rt w 1 eB A1 n1 c1 x1) (h2 : Rt w 2 ePermit A2 n2 c2 x2) (h3 : Rt w 3 eWorkDeed A3 n3 c3 x3) (hM : m_spec_WorkRun x0 x1 x2 x3 = some r) :
    Calls Tryd.prog 20 #[.agg #[.slice A0 n0 c0, .slice A1 n1 c1, .slice A2 n2 c2], .slice A3 n3 c3] w (fun e w' => ∃ (B0 : Option Addr) (N0 D0 : Nat) (B1 : Option Addr) (N1 D1 : Nat) (B2 : Option Addr) (N2 D2 : Nat), e = .returned (.tuple #[.agg #[.slice B0 N0 D0, .slice B1 N1 D1, .slice B2 N2 D2], .int .i64 r.2.2.2]) ∧ N0 = r.1.length ∧ N1 = r.2.1.length ∧ N2 = r.2.2.1.length ∧ St w w' [.row 4 1 (.slice B0 N0 D0) N0 (r.1.flatMap eB), .row 4 1 (.slice B1 N1 D1) N1 (r.2.1.flatMap eB), .row 48 2 (.slice B2 N2 D2) N2 (r.2.2.1.flatMap ePermit)]) := by
  obtain rfl := h0.len
  obtain rfl := h1.len
  obtain rfl := h2.len
  obtain rfl := h3.len
  unfold m_spec_WorkRun at hM
  refine calls_gw Tryd.func20 Tryd.ntmps20 rfl [(0, .agg #[.slice A0 x0.length c0, .slice A1 x1.length c1, .slice A2 x2.length c2]), (1, .slice A3 x3.length c3)] ⟨rfl, rfl, trivial⟩ rfl ?_
  intro a hF
  have S := St.nil w
  refine wp_seq ?_
  refine wp_region_lit ?_
  refine op_new (cs := #[.slice A0 x0.length c0, .slice A1 x1.length c1, .slice A2 x2.length c2]) rfl rfl hF rfl S (run_box rfl (hF.ev rfl) rfl) ?_; clear hF S; intro a g101 u hF S
  refine op_new (cs := #[.slice none 0 0, .slice none 0 0, .slice none 0 0]) rfl rfl hF rfl S (run_allocZ rfl zr26) ?_; clear hF S; intro a g102 u hF S
  refine op_val (v := .int .i64 0) rfl rfl hF rfl (run_assign rfl rfl) ?_; clear hF; intro a hF
  refine wpList_nil ?_
  refine wp_seq ?_
  refine wp_seq ?_
  refine wp_region_lit ?_
  refine op_val (v := .agg #[.slice A0 x0.length c0, .slice A1 x1.length c1, .slice A2 x2.length c2]) rfl rfl hF rfl (run_loadN rfl ag26 (hF.ev rfl) rfl ((S.free 1 rfl).cells 0 #[.slice A0 x0.length c0, .slice A1 x1.length c1, .slice A2 x2.length c2] rfl)) ?_; clear hF; intro a hF
  obtain ⟨p103, h103, hM⟩ := bind_ex hM
  refine op_call rfl rfl hF rfl (run_call (vs := [.agg #[.slice A0 x0.length c0, .slice A1 x1.length c1, .slice A2 x2.length c2]]) rfl rfl co21 ⟨(hF.ev rfl), trivial⟩) (c_spec_WorkValid (x0 := x0) (x1 := x1) (x2 := x2) ⟨(S.rc0 h0.rc), rfl⟩ ⟨(S.rc0 h1.rc), rfl⟩ ⟨(S.rc0 h2.rc), rfl⟩ h103) ?_
  rintro e u ⟨rfl, T⟩
  refine ⟨_, rfl, ?_⟩
  clear hF; intro a hF
  replace S := S.call0 T; clear T
  refine op_val (v := .bool (!p103)) rfl rfl hF rfl (run_not rfl (hF.ev rfl)) ?_; clear hF; intro a hF
  refine wpList_nil ?_
  cases hc104 : (p103)
  · replace hM := bif_f hc104 hM
    refine cond_t hF rfl (not_t hc104) ?_
    refine wp_seq ?_
    refine wp_region_lit ?_
    refine op_val (v := .agg #[.slice none 0 0, .slice none 0 0, .slice none 0 0]) rfl rfl hF rfl (run_build (vs := []) rfl trivial (bd26 )) ?_; clear hF; intro a hF
    refine op_do rfl rfl (run_store (cs' := #[.slice none 0 0, .slice none 0 0, .slice none 0 0]) rfl sz26 (hF.ev rfl) (hF.ev rfl) rfl rfl rfl (S.free 0 rfl) rfl rfl) ?_; replace S := S.put 0 rfl (#[.slice none 0 0, .slice none 0 0, .slice none 0 0])
    generalize World.setRow _ _ _ = u at S ⊢
    refine op_val (v := .int .i64 0) rfl rfl hF rfl (run_assign rfl rfl) ?_; clear hF; intro a hF
    refine wpList_nil ?_
    refine wp_ret ?_
    repeat with_reducible (first | refine then_ret ?_ | refine in_ret ?_ | refine in_nrm ?_)
    refine ret2_gw (.inl rfl) hF rfl (res_cell (hF.ev rfl) (res_loadN ag26 rfl (S.cells 0 rfl 0 #[.slice none 0 0, .slice none 0 0, .slice none 0 0] rfl))) (res_tmp (hF.ev rfl)) ?_
    obtain rfl := Option.some.inj hM
    replace S := S.nilrow 4 1
    replace S := S.nilrow 4 1
    replace S := S.nilrow 48 2
    exact ⟨none, 0, 0, none, 0, 0, none, 0, 0, rfl, rfl, rfl, rfl, S.sel [2, 1, 0] rfl rfl⟩
  · replace hM := bif_t hc104 hM
    refine cond_f hF rfl (not_f hc104) ?_
    refine wp_skip ?_
    refine wp_seq ?_
    refine wp_region_lit ?_
    refine op_val (v := .agg #[.slice A0 x0.length c0, .slice A1 x1.length c1, .slice A2 x2.length c2]) rfl rfl hF rfl (run_loadN rfl ag26 (hF.ev rfl) rfl ((S.free 1 rfl).cells 0 #[.slice A0 x0.length c0, .slice A1 x1.length c1, .slice A2 x2.length c2] rfl)) ?_; clear hF; intro a hF
    obtain ⟨p105, h105, hM⟩ := bind_ex hM
    refine op_call rfl rfl hF rfl (run_call (vs := [.agg #[.slice A0 x0.length c0, .slice A1 x1.length c1, .slice A2 x2.length c2]]) rfl rfl co37 ⟨(hF.ev rfl), trivial⟩) (c_spec_l12Copy (x0 := x0) (x1 := x1) (x2 := x2) ⟨(S.rc0 h0.rc), rfl⟩ ⟨(S.rc0 h1.rc), rfl⟩ ⟨(S.rc0 h2.rc), rfl⟩ h105) ?_
    rintro e u ⟨B106, n107, d108, B109, n110, d111, B112, n113, d114, rfl, rfl, rfl, rfl, T⟩
    refine ⟨_, rfl, ?_⟩
    clear hF; intro a hF
    replace S := S.call3 T; clear T
    refine op_new (cs := #[.slice none 0 0, .slice none 0 0, .slice none 0 0]) rfl rfl hF rfl S (run_allocZ rfl zr26) ?_; clear hF S; intro a g115 u hF S
    refine op_do rfl rfl (run_store (cs' := #[.slice B106 p105.1.length d108, .slice B109 p105.2.1.length d111, .slice B112 p105.2.2.length d114]) rfl sz26 (hF.ev rfl) (hF.ev rfl) rfl rfl rfl (S.free 0 rfl) rfl rfl) ?_; replace S := S.put 0 rfl (#[.slice B106 p105.1.length d108, .slice B109 p105.2.1.length d111, .slice B112 p105.2.2.length d114])
    generalize World.setRow _ _ _ = u at S ⊢
    refine wpList_nil ?_
    refine wp_seq ?_
    refine wp_region_lit ?_
    refine op_val (v := .int .i64 0) rfl rfl hF rfl (run_assign rfl rfl) ?_; clear hF; intro a hF
    refine wpList_nil ?_
    refine wp_seq ?_
    refine wp_seq ?_
    refine wp_region_lit ?_
    refine op_val (v := .int .i64 0) rfl rfl hF rfl (run_assign rfl rfl) ?_; clear hF; intro a hF
    refine wpList_nil ?_
    obtain ⟨o117, hM124, hM⟩ := bind_ex hM
    refine wp_cut (fun a u => ∃ (p116 : Int × List Bool × List Bool × List (Int × Int)) (B118 : Option Addr) (d119 : Nat) (B120 : Option Addr) (d121 : Nat) (B122 : Option Addr) (d123 : Nat), p116 = o117 ∧ Fr a 38 [(4, .pointer (some ⟨g102, 0, none⟩)), (5, .int .i64 0), (6, .pointer (some ⟨g115, 0, none⟩)), (7, .int .i64 p116.1)] ∧ St w u [.box g115 26 #[.slice B118 p116.2.1.length d119, .slice B120 p116.2.2.1.length d121, .slice B122 p116.2.2.2.length d123], .box g102 26 #[.slice none 0 0, .slice none 0 0, .slice none 0 0], .row 4 1 (.slice B118 p116.2.1.length d119) p116.2.1.length (p116.2.1.flatMap eB), .row 4 1 (.slice B120 p116.2.2.1.length d121) p116.2.2.1.length (p116.2.2.1.flatMap eB), .row 48 2 (.slice B122 p116.2.2.2.length d123) p116.2.2.2.length (p116.2.2.2.flatMap ePermit)]) ?_ ?_
    · have _ := trivial
      refine wp_block ?_
      refine loop_gw (fun m a u => ∃ (p125 : Int × Int × List Bool × List Bool × List (Int × Int)) (B126 : Option Addr) (d127 : Nat) (B128 : Option Addr) (d129 : Nat) (B130 : Option Addr) (d131 : Nat), m_spec_WorkRun_l1 x3 m p125 = some _ ∧ Fr a 38 [(1, .slice A3 x3.length c3), (4, .pointer (some ⟨g102, 0, none⟩)), (5, .int .i64 0), (6, .pointer (some ⟨g115, 0, none⟩)), (7, .int .i64 p125.1), (8, .int .i64 p125.2.1)] ∧ St w u [.box g115 26 #[.slice B126 p125.2.2.1.length d127, .slice B128 p125.2.2.2.1.length d129, .slice B130 p125.2.2.2.2.length d131], .box g102 26 #[.slice none 0 0, .slice none 0 0, .slice none 0 0], .row 4 1 (.slice B126 p125.2.2.1.length d127) p125.2.2.1.length (p125.2.2.1.flatMap eB), .row 4 1 (.slice B128 p125.2.2.2.1.length d129) p125.2.2.2.1.length (p125.2.2.2.1.flatMap eB), .row 48 2 (.slice B130 p125.2.2.2.2.length d131) p125.2.2.2.2.length (p125.2.2.2.2.flatMap ePermit)]) FUEL ⟨(0, 0, p105.1, p105.2.1, p105.2.2), B106, d108, B109, d111, B112, d114, hM124, hF.keep _ ⟨rfl, rfl, rfl, rfl, rfl, rfl, trivial⟩, S.sel [0, 4, 1, 2, 3] rfl rfl⟩ ?_
      clear hF S hM124; rintro m a u ⟨p125, B126, d127, B128, d129, B130, d131, hM124, hF, S⟩
      rcases m with _ | f1
      · exact none_some hM124
      rw [m_spec_WorkRun_l1.eq_2] at hM124
      refine wp_seq ?_
      refine wp_seq ?_
      refine wp_region_lit ?_
      refine op_val (v := .int .i64 p125.2.1) rfl rfl hF rfl (run_move rfl (hF.ev rfl)) ?_; clear hF; intro a hF
      refine op_val (v := .slice A3 x3.length c3) rfl rfl hF rfl (run_move rfl (hF.ev rfl)) ?_; clear hF; intro a hF
      refine op_val (v := .int .i64 (x3.length : Int)) rfl rfl hF rfl (run_lenL rfl rfl Tryd.underlying43 (hF.ev rfl)) ?_; clear hF; intro a hF
      refine op_val (v := .bool (ltB p125.2.1 (x3.length : Int))) rfl rfl hF rfl (run_lss (hF.ev rfl) (hF.ev rfl) rfl) ?_; clear hF; intro a hF
      refine wpList_nil ?_
      cases hc132 : (ltB p125.2.1 (x3.length : Int))
      · replace hM124 := bif_f hc132 hM124
        refine cond_f hF rfl hc132 ?_
        refine wp_exit ?_
        repeat with_reducible (first | refine then_exit ?_ | refine in_hit ?_ | refine in_miss rfl ?_)
        obtain rfl := Option.some.inj hM124
        exact ⟨(p125.1, p125.2.2.1, p125.2.2.2.1, p125.2.2.2.2), B126, d127, B128, d129, B130, d131, rfl, hF.keep _ ⟨rfl, rfl, rfl, rfl, trivial⟩, S.sel [0, 1, 2, 3, 4] rfl rfl⟩
      · replace hM124 := bif_t hc132 hM124
        refine cond_t hF rfl hc132 ?_
        refine wp_skip ?_
        refine wp_seq ?_
        refine wp_block ?_
        refine wp_seq ?_
        obtain ⟨hk133, hM124⟩ := chk_ex hM124
        replace hk133 := ixB_t hk133
        obtain ⟨p134, h134, hM124⟩ := bind_ex hM124
        refine region_gw (D := [24, 25, 26, 27, 28, 29, 23, 30, 31, 9, 10]) (Lr := [.box g115 26 #[.slice B126 p125.2.2.1.length d127, .slice B128 p125.2.2.2.1.length d129, .slice B130 p125.2.2.2.2.length d131], .box g102 26 #[.slice none 0 0, .slice none 0 0, .slice none 0 0], .row 4 1 (.slice B126 p125.2.2.1.length d127) p125.2.2.1.length (p125.2.2.1.flatMap eB), .row 4 1 (.slice B128 p125.2.2.2.1.length d129) p125.2.2.2.1.length (p125.2.2.2.1.flatMap eB), .row 48 2 (.slice B130 p125.2.2.2.2.length d131) p125.2.2.2.2.length (p125.2.2.2.2.flatMap ePermit)]) (deps := (fun | 0 => [24] | 1 => [25] | 2 => [26] | 3 => [27] | 4 => [28] | 5 => [29] | 6 => [23, 29] | 7 => [30, 29] | 8 => [31] | 9 => [9] | 10 => [9, 29] | 11 => [10] | _ => [])) (rd := (fun _ => [])) (zr := (fun _ => []))
          (φ := fun i vs => match i, vs with | 0, [v24] => v24 = .agg #[.slice B126 p125.2.2.1.length d127, .slice B128 p125.2.2.2.1.length d129, .slice B130 p125.2.2.2.2.length d131] | 1, [v25] => v25 = .slice A3 x3.length c3 | 2, [v26] => v26 = .int .i64 p125.2.1 | 3, [v27] => v27 = .pointer (some ⟨adB A3, adO A3 + p125.2.1.toNat * 3, none⟩) | 4, [v28] => v28 = .agg #[.int .i64 ((x3.getD p125.2.1.toNat ((0, 0, 0) : Int × Int × Int)).1), .int .i64 ((x3.getD p125.2.1.toNat ((0, 0, 0) : Int × Int × Int)).2.1), .int .i64 ((x3.getD p125.2.1.toNat ((0, 0, 0) : Int × Int × Int)).2.2)] | 5, [v29] => v29 = .tuple #[.agg #[.slice (slA (vtup (vtup v29 0) 0)) p134.1.length (slC (vtup (vtup v29 0) 0)), .slice (slA (vtup (vtup v29 0) 1)) p134.2.1.length (slC (vtup (vtup v29 0) 1)), .slice (slA (vtup (vtup v29 0) 2)) p134.2.2.1.length (slC (vtup (vtup v29 0) 2))], .bool p134.2.2.2] | 6, [v23, v29] => v23 = .tuple #[.agg #[.slice (slA (vtup (vtup v29 0) 0)) p134.1.length (slC (vtup (vtup v29 0) 0)), .slice (slA (vtup (vtup v29 0) 1)) p134.2.1.length (slC (vtup (vtup v29 0) 1)), .slice (slA (vtup (vtup v29 0) 2)) p134.2.2.1.length (slC (vtup (vtup v29 0) 2))], .bool p134.2.2.2] | 7, [v30, v29] => v30 = .agg #[.slice (slA (vtup (vtup v29 0) 0)) p134.1.length (slC (vtup (vtup v29 0) 0)), .slice (slA (vtup (vtup v29 0) 1)) p134.2.1.length (slC (vtup (vtup v29 0) 1)), .slice (slA (vtup (vtup v29 0) 2)) p134.2.2.1.length (slC (vtup (vtup v29 0) 2))] | 8, [v31] => v31 = .bool p134.2.2.2 | 9, [v9] => v9 = .pointer (some ⟨ptB v9, 0, none⟩) | 11, [v10] => v10 = .bool p134.2.2.2 | _, _ => True)
          (C := fun i vs => match i, vs with | 5, [v29] => [.row 4 1 (.slice (slA (vtup (vtup v29 0) 0)) p134.1.length (slC (vtup (vtup v29 0) 0))) p134.1.length (p134.1.flatMap eB), .row 4 1 (.slice (slA (vtup (vtup v29 0) 1)) p134.2.1.length (slC (vtup (vtup v29 0) 1))) p134.2.1.length (p134.2.1.flatMap eB), .row 48 2 (.slice (slA (vtup (vtup v29 0) 2)) p134.2.2.1.length (slC (vtup (vtup v29 0) 2))) p134.2.2.1.length (p134.2.2.1.flatMap ePermit)] | 9, [v9] => [.box (ptB v9) 26 #[.slice none 0 0, .slice none 0 0, .slice none 0 0]] | 10, [v9, v29] => [.box (ptB v9) 26 #[.slice (slA (vtup (vtup v29 0) 0)) p134.1.length (slC (vtup (vtup v29 0) 0)), .slice (slA (vtup (vtup v29 0) 1)) p134.2.1.length (slC (vtup (vtup v29 0) 1)), .slice (slA (vtup (vtup v29 0) 2)) p134.2.2.1.length (slC (vtup (vtup v29 0) 2))]] | _, _ => [])
          (κ := (fun | 9 => some 10 | _ => none)) (Z := (fun _ => [])) mixed hF (by kernel_rfl) S ?_ ?_
        · refine ⟨?_, ?_, ?_, ?_, ?_, ?_, ?_, ?_, ?_, ?_, ?_, ?_, trivial⟩
          · intro a u X hB hu hp hr hz hl S
            replace S : St w u ([] ++ X) := S
            exact .inl ⟨rfl, .agg #[.slice B126 p125.2.2.1.length d127, .slice B128 p125.2.2.2.1.length d129, .slice B130 p125.2.2.2.2.length d131], u, (run_loadN rfl ag26 (hF.evB hB rfl rfl) rfl ((gr_box S hl 0 rfl).cells 0 #[.slice B126 p125.2.2.1.length d127, .slice B128 p125.2.2.2.1.length d129, .slice B130 p125.2.2.2.2.length d131] rfl)), rfl, S⟩
          · intro a u X hB hu hp hr hz hl S
            replace S : St w u ([] ++ X) := S
            exact .inl ⟨rfl, .slice A3 x3.length c3, u, (run_move rfl (hF.evB hB rfl rfl)), rfl, S⟩
          · intro a u X hB hu hp hr hz hl S
            replace S : St w u ([] ++ X) := S
            exact .inl ⟨rfl, .int .i64 p125.2.1, u, (run_move rfl (hF.evB hB rfl rfl)), rfl, S⟩
          · intro a u X hB hu hp hr hz hl S
            replace S : St w u ([] ++ X) := S
            have e25 : sl a 25 = .slice A3 x3.length c3 := hp 1 rfl
            have e26 : sl a 26 = .int .i64 p125.2.1 := hp 2 rfl
            exact .inl ⟨rfl, .pointer (some ⟨adB A3, adO A3 + p125.2.1.toNat * 3, none⟩), u, (run_indexAddr (b := adB A3) (off := adO A3) rfl Tryd.underlying43 sz35 ((ev_sl e25).trans (congrArg (fun A => Value.slice A x3.length c3) ((S.rc0 h3.rc).rd.ad (ix_pos hk133)))) (ev_sl e26) hk133.1 hk133.2 (k' := adO A3 + p125.2.1.toNat * 3) rfl), rfl, S⟩
          · intro a u X hB hu hp hr hz hl S
            replace S : St w u ([] ++ X) := S
            have e27 : sl a 27 = .pointer (some ⟨adB A3, adO A3 + p125.2.1.toNat * 3, none⟩) := hp 3 rfl
            exact .inl ⟨rfl, .agg #[.int .i64 ((x3.getD p125.2.1.toNat ((0, 0, 0) : Int × Int × Int)).1), .int .i64 ((x3.getD p125.2.1.toNat ((0, 0, 0) : Int × Int × Int)).2.1), .int .i64 ((x3.getD p125.2.1.toNat ((0, 0, 0) : Int × Int × Int)).2.2)], u, (run_loadN (cs := #[.int .i64 ((x3.getD p125.2.1.toNat ((0, 0, 0) : Int × Int × Int)).1), .int .i64 ((x3.getD p125.2.1.toNat ((0, 0, 0) : Int × Int × Int)).2.1), .int .i64 ((x3.getD p125.2.1.toNat ((0, 0, 0) : Int × Int × Int)).2.2)]) rfl ag35 (ev_sl e27) rfl (rd_elN (l := x3) (S.rc0 h3.rc).rd rfl eWorkDeed_len ((0, 0, 0) : Int × Int × Int) (ix_ltn hk133 rfl) rfl)), rfl, S⟩
          · intro a u X hB hu hp hr hz hl S
            replace S : St w u ([] ++ X) := S
            have e24 : sl a 24 = .agg #[.slice B126 p125.2.2.1.length d127, .slice B128 p125.2.2.2.1.length d129, .slice B130 p125.2.2.2.2.length d131] := hp 0 rfl
            have e28 : sl a 28 = .agg #[.int .i64 ((x3.getD p125.2.1.toNat ((0, 0, 0) : Int × Int × Int)).1), .int .i64 ((x3.getD p125.2.1.toNat ((0, 0, 0) : Int × Int × Int)).2.1), .int .i64 ((x3.getD p125.2.1.toNat ((0, 0, 0) : Int × Int × Int)).2.2)] := hp 4 rfl
            refine .inr (.inr (.inl ⟨rfl, _, _, (run_call (vs := [.agg #[.slice B126 p125.2.2.1.length d127, .slice B128 p125.2.2.2.1.length d129, .slice B130 p125.2.2.2.2.length d131], .agg #[.int .i64 ((x3.getD p125.2.1.toNat ((0, 0, 0) : Int × Int × Int)).1), .int .i64 ((x3.getD p125.2.1.toNat ((0, 0, 0) : Int × Int × Int)).2.1), .int .i64 ((x3.getD p125.2.1.toNat ((0, 0, 0) : Int × Int × Int)).2.2)]]) rfl rfl co15 ⟨(ev_sl e24), (ev_sl e28), trivial⟩), ?_⟩))
            refine Calls.mono (c_spec_WorkDo (x0 := p125.2.2.1) (x1 := p125.2.2.2.1) (x2 := p125.2.2.2.2) (x3 := (x3.getD p125.2.1.toNat ((0, 0, 0) : Int × Int × Int)).1) (x4 := (x3.getD p125.2.1.toNat ((0, 0, 0) : Int × Int × Int)).2.1) (x5 := (x3.getD p125.2.1.toNat ((0, 0, 0) : Int × Int × Int)).2.2) ⟨(gr_rc S hl 2 rfl), rfl⟩ ⟨(gr_rc S hl 3 rfl), rfl⟩ ⟨(gr_rc S hl 4 rfl), rfl⟩ h134) ?_
            rintro e w1 ⟨B135, n136, d137, B138, n139, d140, B141, n142, d143, rfl, rfl, rfl, rfl, T⟩
            exact ⟨_, rfl, rfl, S.call3 T⟩
          · intro a u X hB hu hp hr hz hl S
            replace S : St w u ([] ++ X) := S
            have e29 : sl a 29 = .tuple #[.agg #[.slice (slA (vtup (vtup (sl a 29) 0) 0)) p134.1.length (slC (vtup (vtup (sl a 29) 0) 0)), .slice (slA (vtup (vtup (sl a 29) 0) 1)) p134.2.1.length (slC (vtup (vtup (sl a 29) 0) 1)), .slice (slA (vtup (vtup (sl a 29) 0) 2)) p134.2.2.1.length (slC (vtup (vtup (sl a 29) 0) 2))], .bool p134.2.2.2] := hp 5 rfl
            exact .inl ⟨rfl, .tuple #[.agg #[.slice (slA (vtup (vtup (sl a 29) 0) 0)) p134.1.length (slC (vtup (vtup (sl a 29) 0) 0)), .slice (slA (vtup (vtup (sl a 29) 0) 1)) p134.2.1.length (slC (vtup (vtup (sl a 29) 0) 1)), .slice (slA (vtup (vtup (sl a 29) 0) 2)) p134.2.2.1.length (slC (vtup (vtup (sl a 29) 0) 2))], .bool p134.2.2.2], u, (run_move rfl (ev_sl e29)), rfl, S⟩
          · intro a u X hB hu hp hr hz hl S
            replace S : St w u ([] ++ X) := S
            have e23 : sl a 23 = .tuple #[.agg #[.slice (slA (vtup (vtup (sl a 29) 0) 0)) p134.1.length (slC (vtup (vtup (sl a 29) 0) 0)), .slice (slA (vtup (vtup (sl a 29) 0) 1)) p134.2.1.length (slC (vtup (vtup (sl a 29) 0) 1)), .slice (slA (vtup (vtup (sl a 29) 0) 2)) p134.2.2.1.length (slC (vtup (vtup (sl a 29) 0) 2))], .bool p134.2.2.2] := hp 6 rfl
            exact .inl ⟨rfl, .agg #[.slice (slA (vtup (vtup (sl a 29) 0) 0)) p134.1.length (slC (vtup (vtup (sl a 29) 0) 0)), .slice (slA (vtup (vtup (sl a 29) 0) 1)) p134.2.1.length (slC (vtup (vtup (sl a 29) 0) 1)), .slice (slA (vtup (vtup (sl a 29) 0) 2)) p134.2.2.1.length (slC (vtup (vtup (sl a 29) 0) 2))], u, (run_extract rfl (ev_sl e23) rfl), rfl, S⟩
          · intro a u X hB hu hp hr hz hl S
            replace S : St w u ([] ++ X) := S
            have e23 : sl a 23 = .tuple #[.agg #[.slice (slA (vtup (vtup (sl a 29) 0) 0)) p134.1.length (slC (vtup (vtup (sl a 29) 0) 0)), .slice (slA (vtup (vtup (sl a 29) 0) 1)) p134.2.1.length (slC (vtup (vtup (sl a 29) 0) 1)), .slice (slA (vtup (vtup (sl a 29) 0) 2)) p134.2.2.1.length (slC (vtup (vtup (sl a 29) 0) 2))], .bool p134.2.2.2] := hp 6 rfl
            exact .inl ⟨rfl, .bool p134.2.2.2, u, (run_extract rfl (ev_sl e23) rfl), rfl, S⟩
          · intro a u X hB hu hp hr hz hl S
            replace S : St w u ([] ++ X) := S
            exact .inl ⟨rfl, _, _, (run_allocZ rfl zr26), rfl, S.alloc _ _⟩
          · intro a u X hB hu hp hr hz hl S
            replace S : St w u ([.box (ptB (sl a 9)) 26 #[.slice none 0 0, .slice none 0 0, .slice none 0 0]] ++ X) := S
            have e9 : sl a 9 = .pointer (some ⟨ptB (sl a 9), 0, none⟩) := hp 9 rfl
            have e30 : sl a 30 = .agg #[.slice (slA (vtup (vtup (sl a 29) 0) 0)) p134.1.length (slC (vtup (vtup (sl a 29) 0) 0)), .slice (slA (vtup (vtup (sl a 29) 0) 1)) p134.2.1.length (slC (vtup (vtup (sl a 29) 0) 1)), .slice (slA (vtup (vtup (sl a 29) 0) 2)) p134.2.2.1.length (slC (vtup (vtup (sl a 29) 0) 2))] := hp 7 rfl
            exact .inr (.inl ⟨rfl, _, run_store (cs' := #[.slice (slA (vtup (vtup (sl a 29) 0) 0)) p134.1.length (slC (vtup (vtup (sl a 29) 0) 0)), .slice (slA (vtup (vtup (sl a 29) 0) 1)) p134.2.1.length (slC (vtup (vtup (sl a 29) 0) 1)), .slice (slA (vtup (vtup (sl a 29) 0) 2)) p134.2.2.1.length (slC (vtup (vtup (sl a 29) 0) 2))]) rfl sz26 (ev_sl e9) (ev_sl e30) rfl rfl rfl (S.free 0 rfl) rfl rfl, trivial, S.put 0 rfl (#[.slice (slA (vtup (vtup (sl a 29) 0) 0)) p134.1.length (slC (vtup (vtup (sl a 29) 0) 0)), .slice (slA (vtup (vtup (sl a 29) 0) 1)) p134.2.1.length (slC (vtup (vtup (sl a 29) 0) 1)), .slice (slA (vtup (vtup (sl a 29) 0) 2)) p134.2.2.1.length (slC (vtup (vtup (sl a 29) 0) 2))])⟩)
          · intro a u X hB hu hp hr hz hl S
            replace S : St w u ([] ++ X) := S
            have e31 : sl a 31 = .bool p134.2.2.2 := hp 8 rfl
            exact .inl ⟨rfl, .bool p134.2.2.2, u, (run_assign rfl (ev_sl e31)), rfl, S⟩
        · intro a u hB hp S
          obtain ⟨q0, q1, q2, q3, q4, q5, q6, q7, q8, q9, q10, q11, _⟩ := hp
          have e24 : sl a 24 = .agg #[.slice B126 p125.2.2.1.length d127, .slice B128 p125.2.2.2.1.length d129, .slice B130 p125.2.2.2.2.length d131] := q0
          have e25 : sl a 25 = .slice A3 x3.length c3 := q1
          have e26 : sl a 26 = .int .i64 p125.2.1 := q2
          have e27 : sl a 27 = .pointer (some ⟨adB A3, adO A3 + p125.2.1.toNat * 3, none⟩) := q3
          have e28 : sl a 28 = .agg #[.int .i64 ((x3.getD p125.2.1.toNat ((0, 0, 0) : Int × Int × Int)).1), .int .i64 ((x3.getD p125.2.1.toNat ((0, 0, 0) : Int × Int × Int)).2.1), .int .i64 ((x3.getD p125.2.1.toNat ((0, 0, 0) : Int × Int × Int)).2.2)] := q4
          have e29 : sl a 29 = .tuple #[.agg #[.slice (slA (vtup (vtup (sl a 29) 0) 0)) p134.1.length (slC (vtup (vtup (sl a 29) 0) 0)), .slice (slA (vtup (vtup (sl a 29) 0) 1)) p134.2.1.length (slC (vtup (vtup (sl a 29) 0) 1)), .slice (slA (vtup (vtup (sl a 29) 0) 2)) p134.2.2.1.length (slC (vtup (vtup (sl a 29) 0) 2))], .bool p134.2.2.2] := q5
          have e23 : sl a 23 = .tuple #[.agg #[.slice (slA (vtup (vtup (sl a 29) 0) 0)) p134.1.length (slC (vtup (vtup (sl a 29) 0) 0)), .slice (slA (vtup (vtup (sl a 29) 0) 1)) p134.2.1.length (slC (vtup (vtup (sl a 29) 0) 1)), .slice (slA (vtup (vtup (sl a 29) 0) 2)) p134.2.2.1.length (slC (vtup (vtup (sl a 29) 0) 2))], .bool p134.2.2.2] := q6
          have e30 : sl a 30 = .agg #[.slice (slA (vtup (vtup (sl a 29) 0) 0)) p134.1.length (slC (vtup (vtup (sl a 29) 0) 0)), .slice (slA (vtup (vtup (sl a 29) 0) 1)) p134.2.1.length (slC (vtup (vtup (sl a 29) 0) 1)), .slice (slA (vtup (vtup (sl a 29) 0) 2)) p134.2.2.1.length (slC (vtup (vtup (sl a 29) 0) 2))] := q7
          have e31 : sl a 31 = .bool p134.2.2.2 := q8
          have e9 : sl a 9 = .pointer (some ⟨ptB (sl a 9), 0, none⟩) := q9
          have e10 : sl a 10 = .bool p134.2.2.2 := q11
          replace S : St w u [.row 4 1 (.slice (slA (vtup (vtup (sl a 29) 0) 0)) p134.1.length (slC (vtup (vtup (sl a 29) 0) 0))) p134.1.length (p134.1.flatMap eB), .row 4 1 (.slice (slA (vtup (vtup (sl a 29) 0) 1)) p134.2.1.length (slC (vtup (vtup (sl a 29) 0) 1))) p134.2.1.length (p134.2.1.flatMap eB), .row 48 2 (.slice (slA (vtup (vtup (sl a 29) 0) 2)) p134.2.2.1.length (slC (vtup (vtup (sl a 29) 0) 2))) p134.2.2.1.length (p134.2.2.1.flatMap ePermit), .box (ptB (sl a 9)) 26 #[.slice (slA (vtup (vtup (sl a 29) 0) 0)) p134.1.length (slC (vtup (vtup (sl a 29) 0) 0)), .slice (slA (vtup (vtup (sl a 29) 0) 1)) p134.2.1.length (slC (vtup (vtup (sl a 29) 0) 1)), .slice (slA (vtup (vtup (sl a 29) 0) 2)) p134.2.2.1.length (slC (vtup (vtup (sl a 29) 0) 2))], .box g115 26 #[.slice B126 p125.2.2.1.length d127, .slice B128 p125.2.2.2.1.length d129, .slice B130 p125.2.2.2.2.length d131], .box g102 26 #[.slice none 0 0, .slice none 0 0, .slice none 0 0], .row 4 1 (.slice B126 p125.2.2.1.length d127) p125.2.2.1.length (p125.2.2.1.flatMap eB), .row 4 1 (.slice B128 p125.2.2.2.1.length d129) p125.2.2.2.1.length (p125.2.2.2.1.flatMap eB), .row 48 2 (.slice B130 p125.2.2.2.2.length d131) p125.2.2.2.2.length (p125.2.2.2.2.flatMap ePermit)] := S
          clear q0 q1 q2 q3 q4 q5 q6 q7 q8 q9 q10 q11
          generalize slA (vtup (vtup (sl a 29) 0) 0) = B144 at *
          generalize slC (vtup (vtup (sl a 29) 0) 0) = d145 at *
          generalize slA (vtup (vtup (sl a 29) 0) 1) = B146 at *
          generalize slC (vtup (vtup (sl a 29) 0) 1) = d147 at *
          generalize slA (vtup (vtup (sl a 29) 0) 2) = B148 at *
          generalize slC (vtup (vtup (sl a 29) 0) 2) = d149 at *
          generalize ptB (sl a 9) = g150 at *
          have hF := hF.region hB [(24, .agg #[.slice B126 p125.2.2.1.length d127, .slice B128 p125.2.2.2.1.length d129, .slice B130 p125.2.2.2.2.length d131]), (25, .slice A3 x3.length c3), (26, .int .i64 p125.2.1), (27, .pointer (some ⟨adB A3, adO A3 + p125.2.1.toNat * 3, none⟩)), (28, .agg #[.int .i64 ((x3.getD p125.2.1.toNat ((0, 0, 0) : Int × Int × Int)).1), .int .i64 ((x3.getD p125.2.1.toNat ((0, 0, 0) : Int × Int × Int)).2.1), .int .i64 ((x3.getD p125.2.1.toNat ((0, 0, 0) : Int × Int × Int)).2.2)]), (29, .tuple #[.agg #[.slice B144 p134.1.length d145, .slice B146 p134.2.1.length d147, .slice B148 p134.2.2.1.length d149], .bool p134.2.2.2]), (23, .tuple #[.agg #[.slice B144 p134.1.length d145, .slice B146 p134.2.1.length d147, .slice B148 p134.2.2.1.length d149], .bool p134.2.2.2]), (30, .agg #[.slice B144 p134.1.length d145, .slice B146 p134.2.1.length d147, .slice B148 p134.2.2.1.length d149]), (31, .bool p134.2.2.2), (9, .pointer (some ⟨g150, 0, none⟩)), (10, .bool p134.2.2.2)] (allSl_mem ⟨e24, e25, e26, e27, e28, e29, e23, e30, e31, e9, e10, trivial⟩) rfl
          clear hB e24 e25 e26 e27 e28 e29 e23 e30 e31 e9 e10
          refine wp_seq ?_
          refine wp_region_lit ?_
          refine op_val (v := .bool p134.2.2.2) rfl rfl hF rfl (run_move rfl (hF.ev rfl)) ?_; clear hF; intro a hF
          refine wpList_nil ?_
          obtain ⟨o152, hM159, hM124⟩ := bind_ex hM124
          refine wp_cut (fun a u => ∃ (p151 : Int × List Bool × List Bool × List (Int × Int)) (B153 : Option Addr) (d154 : Nat) (B155 : Option Addr) (d156 : Nat) (B157 : Option Addr) (d158 : Nat), p151 = o152 ∧ Fr a 38 [(1, .slice A3 x3.length c3), (4, .pointer (some ⟨g102, 0, none⟩)), (5, .int .i64 0), (6, .pointer (some ⟨g115, 0, none⟩)), (7, .int .i64 p151.1), (8, .int .i64 p125.2.1)] ∧ St w u [.box g115 26 #[.slice B153 p151.2.1.length d154, .slice B155 p151.2.2.1.length d156, .slice B157 p151.2.2.2.length d158], .box g102 26 #[.slice none 0 0, .slice none 0 0, .slice none 0 0], .row 4 1 (.slice B153 p151.2.1.length d154) p151.2.1.length (p151.2.1.flatMap eB), .row 4 1 (.slice B155 p151.2.2.1.length d156) p151.2.2.1.length (p151.2.2.1.flatMap eB), .row 48 2 (.slice B157 p151.2.2.2.length d158) p151.2.2.2.length (p151.2.2.2.flatMap ePermit)]) ?_ ?_
          · have _ := trivial
            cases hc160 : (p134.2.2.2)
            · replace hM159 := bif_f hc160 hM159
              refine cond_f hF rfl hc160 ?_
              refine wp_skip ?_
              obtain rfl := Option.some.inj hM159
              exact ⟨(p125.1, p125.2.2.1, p125.2.2.2.1, p125.2.2.2.2), B126, d127, B128, d129, B130, d131, rfl, hF.keep _ ⟨rfl, rfl, rfl, rfl, rfl, rfl, trivial⟩, S.sel [4, 5, 6, 7, 8] rfl rfl⟩
            · replace hM159 := bif_t hc160 hM159
              refine cond_t hF rfl hc160 ?_
              refine wp_seq ?_
              refine wp_region_lit ?_
              refine op_val (v := .agg #[.slice B144 p134.1.length d145, .slice B146 p134.2.1.length d147, .slice B148 p134.2.2.1.length d149]) rfl rfl hF rfl (run_loadN rfl ag26 (hF.ev rfl) rfl ((S.free 3 rfl).cells 0 #[.slice B144 p134.1.length d145, .slice B146 p134.2.1.length d147, .slice B148 p134.2.2.1.length d149] rfl)) ?_; clear hF; intro a hF
              refine op_do rfl rfl (run_store (cs' := #[.slice B144 p134.1.length d145, .slice B146 p134.2.1.length d147, .slice B148 p134.2.2.1.length d149]) rfl sz26 (hF.ev rfl) (hF.ev rfl) rfl rfl rfl (S.free 4 rfl) rfl rfl) ?_; replace S := S.put 4 rfl (#[.slice B144 p134.1.length d145, .slice B146 p134.2.1.length d147, .slice B148 p134.2.2.1.length d149])
              generalize World.setRow _ _ _ = u at S ⊢
              refine wpList_nil ?_
              refine wp_region_lit ?_
              refine op_val (v := .int .i64 p125.1) rfl rfl hF rfl (run_move rfl (hF.ev rfl)) ?_; clear hF; intro a hF
              refine op_val (v := .int .i64 (w64 (p125.1 + 1))) rfl rfl hF rfl (run_add (z := w64 (p125.1 + 1)) (hF.ev rfl) rfl rfl rfl) ?_; clear hF; intro a hF
              refine op_val (v := .int .i64 (w64 (p125.1 + 1))) rfl rfl hF rfl (run_assign rfl (hF.ev rfl)) ?_; clear hF; intro a hF
              refine wpList_nil ?_
              obtain rfl := Option.some.inj hM159
              exact ⟨(w64 (p125.1 + 1), p134.1, p134.2.1, p134.2.2.1), B144, d145, B146, d147, B148, d149, rfl, hF.keep _ ⟨rfl, rfl, rfl, rfl, rfl, rfl, trivial⟩, S.sel [4, 5, 0, 1, 2] rfl rfl⟩
          · rintro a u ⟨p151, B153, d154, B155, d156, B157, d158, rfl, hF, S⟩
            refine wp_region_lit ?_
            refine op_val (v := .int .i64 p125.2.1) rfl rfl hF rfl (run_move rfl (hF.ev rfl)) ?_; clear hF; intro a hF
            refine op_val (v := .int .i64 (w64 (p125.2.1 + 1))) rfl rfl hF rfl (run_add (z := w64 (p125.2.1 + 1)) (hF.ev rfl) rfl rfl rfl) ?_; clear hF; intro a hF
            refine op_val (v := .int .i64 (w64 (p125.2.1 + 1))) rfl rfl hF rfl (run_assign rfl (hF.ev rfl)) ?_; clear hF; intro a hF
            refine wpList_nil ?_
            exact ⟨f1, Nat.lt_succ_self _, (p151.1, w64 (p125.2.1 + 1), p151.2.1, p151.2.2.1, p151.2.2.2), B153, d154, B155, d156, B157, d158, hM124, hF.keep _ ⟨rfl, rfl, rfl, rfl, rfl, rfl, trivial⟩, S.sel [0, 1, 2, 3, 4] rfl rfl⟩
    · rintro a u ⟨p116, B118, d119, B120, d121, B122, d123, rfl, hF, S⟩
      refine wp_seq ?_
      refine wp_region_lit ?_
      refine op_val (v := .agg #[.slice B118 p116.2.1.length d119, .slice B120 p116.2.2.1.length d121, .slice B122 p116.2.2.2.length d123]) rfl rfl hF rfl (run_loadN rfl ag26 (hF.ev rfl) rfl ((S.free 0 rfl).cells 0 #[.slice B118 p116.2.1.length d119, .slice B120 p116.2.2.1.length d121, .slice B122 p116.2.2.2.length d123] rfl)) ?_; clear hF; intro a hF
      refine op_val (v := .int .i64 p116.1) rfl rfl hF rfl (run_move rfl (hF.ev rfl)) ?_; clear hF; intro a hF
      refine op_do rfl rfl (run_store (cs' := #[.slice B118 p116.2.1.length d119, .slice B120 p116.2.2.1.length d121, .slice B122 p116.2.2.2.length d123]) rfl sz26 (hF.ev rfl) (hF.ev rfl) rfl rfl rfl (S.free 1 rfl) rfl rfl) ?_; replace S := S.put 1 rfl (#[.slice B118 p116.2.1.length d119, .slice B120 p116.2.2.1.length d121, .slice B122 p116.2.2.2.length d123])
      generalize World.setRow _ _ _ = u at S ⊢
      refine op_val (v := .int .i64 p116.1) rfl rfl hF rfl (run_assign rfl (hF.ev rfl)) ?_; clear hF; intro a hF
      refine wpList_nil ?_
      refine wp_ret ?_
      repeat with_reducible (first | refine then_ret ?_ | refine in_ret ?_ | refine in_nrm ?_)
      refine ret2_gw (.inl rfl) hF rfl (res_cell (hF.ev rfl) (res_loadN ag26 rfl (S.cells 1 rfl 0 #[.slice B118 p116.2.1.length d119, .slice B120 p116.2.2.1.length d121, .slice B122 p116.2.2.2.length d123] rfl))) (res_tmp (hF.ev rfl)) ?_
      obtain rfl := Option.some.inj hM
      exact ⟨B118, p116.2.1.length, d119, B120, p116.2.2.1.length, d121, B122, p116.2.2.2.length, d123, rfl, rfl, rfl, rfl, S.sel [2, 3, 4] rfl rfl⟩

set_option maxHeartbeats 4000000 in
theorem c_laws_FnWorkRun {x0 : List Int} {A0 : Option Addr} {n0 c0 : Nat} {w : World} {r : Bool} (h0 : Rt w 1 eU A0 n0 c0 x0) (hM : m_laws_FnWorkRun x0 = some r) :
    Calls Tryd.prog 5 #[.slice A0 n0 c0] w (fun e w' => e = .returned (.bool r) ∧ St w w' []) := by
  obtain rfl := h0.len
  unfold m_laws_FnWorkRun at hM
  refine calls_gw Tryd.func5 Tryd.ntmps5 rfl [(0, .slice A0 x0.length c0)] ⟨rfl, trivial⟩ rfl ?_
  intro a hF
  have S := St.nil w
  refine wp_seq ?_
  refine wp_region_lit ?_
  refine op_val (v := .bool false) rfl rfl hF rfl (run_assign rfl rfl) ?_; clear hF; intro a hF
  refine wpList_nil ?_
  refine wp_seq ?_
  refine wp_seq ?_
  refine wp_region_lit ?_
  refine op_val (v := .slice A0 x0.length c0) rfl rfl hF rfl (run_move rfl (hF.ev rfl)) ?_; clear hF; intro a hF
  refine op_val (v := .int .i64 (x0.length : Int)) rfl rfl hF rfl (run_lenL rfl rfl Tryd.underlying22 (hF.ev rfl)) ?_; clear hF; intro a hF
  refine op_val (v := .bool (ltB 1048576 (x0.length : Int))) rfl rfl hF rfl (run_gtr (hF.ev rfl) rfl rfl) ?_; clear hF; intro a hF
  refine wpList_nil ?_
  cases hc101 : (ltB 1048576 (x0.length : Int))
  · replace hM := bif_f hc101 hM
    refine cond_f hF rfl hc101 ?_
    refine wp_skip ?_
    refine wp_seq ?_
    refine wp_region_lit ?_
    refine op_val (v := .slice A0 x0.length c0) rfl rfl hF rfl (run_move rfl (hF.ev rfl)) ?_; clear hF; intro a hF
    obtain ⟨p102, h102, hM⟩ := bind_ex hM
    refine op_call rfl rfl hF rfl (run_call (vs := [.slice A0 x0.length c0]) rfl rfl co18 ⟨(hF.ev rfl), trivial⟩) (c_spec_DrawWorkRun (x0 := x0) ⟨(S.rc0 h0.rc), rfl⟩ h102) ?_
    rintro e u ⟨B103, n104, d105, B106, n107, d108, B109, n110, d111, B112, n113, d114, rfl, rfl, rfl, rfl, rfl, T⟩
    refine ⟨_, rfl, ?_⟩
    clear hF; intro a hF
    replace S := S.call4 T; clear T
    refine op_val (v := .tuple #[.agg #[.slice B103 p102.1.length d105, .slice B106 p102.2.1.length d108, .slice B109 p102.2.2.1.length d111], .slice B112 p102.2.2.2.length d114]) rfl rfl hF rfl (run_move rfl (hF.ev rfl)) ?_; clear hF; intro a hF
    refine op_val (v := .agg #[.slice B103 p102.1.length d105, .slice B106 p102.2.1.length d108, .slice B109 p102.2.2.1.length d111]) rfl rfl hF rfl (run_extract rfl (hF.ev rfl) rfl) ?_; clear hF; intro a hF
    refine op_val (v := .slice B112 p102.2.2.2.length d114) rfl rfl hF rfl (run_extract rfl (hF.ev rfl) rfl) ?_; clear hF; intro a hF
    refine op_new (cs := #[.slice none 0 0, .slice none 0 0, .slice none 0 0]) rfl rfl hF rfl S (run_allocZ rfl zr26) ?_; clear hF S; intro a g115 u hF S
    refine op_do rfl rfl (run_store (cs' := #[.slice B103 p102.1.length d105, .slice B106 p102.2.1.length d108, .slice B109 p102.2.2.1.length d111]) rfl sz26 (hF.ev rfl) (hF.ev rfl) rfl rfl rfl (S.free 0 rfl) rfl rfl) ?_; replace S := S.put 0 rfl (#[.slice B103 p102.1.length d105, .slice B106 p102.2.1.length d108, .slice B109 p102.2.2.1.length d111])
    generalize World.setRow _ _ _ = u at S ⊢
    refine op_val (v := .slice B112 p102.2.2.2.length d114) rfl rfl hF rfl (run_assign rfl (hF.ev rfl)) ?_; clear hF; intro a hF
    refine wpList_nil ?_
    refine wp_seq ?_
    refine wp_region_lit ?_
    refine op_val (v := .agg #[.slice B103 p102.1.length d105, .slice B106 p102.2.1.length d108, .slice B109 p102.2.2.1.length d111]) rfl rfl hF rfl (run_loadN rfl ag26 (hF.ev rfl) rfl ((S.free 0 rfl).cells 0 #[.slice B103 p102.1.length d105, .slice B106 p102.2.1.length d108, .slice B109 p102.2.2.1.length d111] rfl)) ?_; clear hF; intro a hF
    refine op_val (v := .slice B112 p102.2.2.2.length d114) rfl rfl hF rfl (run_move rfl (hF.ev rfl)) ?_; clear hF; intro a hF
    obtain ⟨p116, h116, hM⟩ := bind_ex hM
    refine op_call rfl rfl hF rfl (run_call (vs := [.agg #[.slice B103 p102.1.length d105, .slice B106 p102.2.1.length d108, .slice B109 p102.2.2.1.length d111], .slice B112 p102.2.2.2.length d114]) rfl rfl co19 ⟨(hF.ev rfl), (hF.ev rfl), trivial⟩) (c_impl_WorkRun (x0 := p102.1) (x1 := p102.2.1) (x2 := p102.2.2.1) (x3 := p102.2.2.2) ⟨(S.rc 1 rfl), rfl⟩ ⟨(S.rc 2 rfl), rfl⟩ ⟨(S.rc 3 rfl), rfl⟩ ⟨(S.rc 4 rfl), rfl⟩ h116) ?_
    rintro e u ⟨B117, n118, d119, B120, n121, d122, B123, n124, d125, rfl, rfl, rfl, rfl, T⟩
    refine ⟨_, rfl, ?_⟩
    clear hF; intro a hF
    replace S := S.call3 T; clear T
    refine op_val (v := .tuple #[.agg #[.slice B117 p116.1.length d119, .slice B120 p116.2.1.length d122, .slice B123 p116.2.2.1.length d125], .int .i64 p116.2.2.2]) rfl rfl hF rfl (run_move rfl (hF.ev rfl)) ?_; clear hF; intro a hF
    refine op_val (v := .agg #[.slice B117 p116.1.length d119, .slice B120 p116.2.1.length d122, .slice B123 p116.2.2.1.length d125]) rfl rfl hF rfl (run_extract rfl (hF.ev rfl) rfl) ?_; clear hF; intro a hF
    refine op_val (v := .int .i64 p116.2.2.2) rfl rfl hF rfl (run_extract rfl (hF.ev rfl) rfl) ?_; clear hF; intro a hF
    refine op_new (cs := #[.slice none 0 0, .slice none 0 0, .slice none 0 0]) rfl rfl hF rfl S (run_allocZ rfl zr26) ?_; clear hF S; intro a g126 u hF S
    refine op_do rfl rfl (run_store (cs' := #[.slice B117 p116.1.length d119, .slice B120 p116.2.1.length d122, .slice B123 p116.2.2.1.length d125]) rfl sz26 (hF.ev rfl) (hF.ev rfl) rfl rfl rfl (S.free 0 rfl) rfl rfl) ?_; replace S := S.put 0 rfl (#[.slice B117 p116.1.length d119, .slice B120 p116.2.1.length d122, .slice B123 p116.2.2.1.length d125])
    generalize World.setRow _ _ _ = u at S ⊢
    refine op_val (v := .int .i64 p116.2.2.2) rfl rfl hF rfl (run_assign rfl (hF.ev rfl)) ?_; clear hF; intro a hF
    refine wpList_nil ?_
    refine wp_seq ?_
    refine wp_region_lit ?_
    refine op_val (v := .agg #[.slice B103 p102.1.length d105, .slice B106 p102.2.1.length d108, .slice B109 p102.2.2.1.length d111]) rfl rfl hF rfl (run_loadN rfl ag26 (hF.ev rfl) rfl ((S.free 4 rfl).cells 0 #[.slice B103 p102.1.length d105, .slice B106 p102.2.1.length d108, .slice B109 p102.2.2.1.length d111] rfl)) ?_; clear hF; intro a hF
    refine op_val (v := .slice B112 p102.2.2.2.length d114) rfl rfl hF rfl (run_move rfl (hF.ev rfl)) ?_; clear hF; intro a hF
    obtain ⟨p127, h127, hM⟩ := bind_ex hM
    refine op_call rfl rfl hF rfl (run_call (vs := [.agg #[.slice B103 p102.1.length d105, .slice B106 p102.2.1.length d108, .slice B109 p102.2.2.1.length d111], .slice B112 p102.2.2.2.length d114]) rfl rfl co20 ⟨(hF.ev rfl), (hF.ev rfl), trivial⟩) (c_spec_WorkRun (x0 := p102.1) (x1 := p102.2.1) (x2 := p102.2.2.1) (x3 := p102.2.2.2) ⟨(S.rc 5 rfl), rfl⟩ ⟨(S.rc 6 rfl), rfl⟩ ⟨(S.rc 7 rfl), rfl⟩ ⟨(S.rc 8 rfl), rfl⟩ h127) ?_
    rintro e u ⟨B128, n129, d130, B131, n132, d133, B134, n135, d136, rfl, rfl, rfl, rfl, T⟩
    refine ⟨_, rfl, ?_⟩
    clear hF; intro a hF
    replace S := S.call3 T; clear T
    refine op_val (v := .tuple #[.agg #[.slice B128 p127.1.length d130, .slice B131 p127.2.1.length d133, .slice B134 p127.2.2.1.length d136], .int .i64 p127.2.2.2]) rfl rfl hF rfl (run_move rfl (hF.ev rfl)) ?_; clear hF; intro a hF
    refine op_val (v := .agg #[.slice B128 p127.1.length d130, .slice B131 p127.2.1.length d133, .slice B134 p127.2.2.1.length d136]) rfl rfl hF rfl (run_extract rfl (hF.ev rfl) rfl) ?_; clear hF; intro a hF
    refine op_val (v := .int .i64 p127.2.2.2) rfl rfl hF rfl (run_extract rfl (hF.ev rfl) rfl) ?_; clear hF; intro a hF
    refine op_new (cs := #[.slice none 0 0, .slice none 0 0, .slice none 0 0]) rfl rfl hF rfl S (run_allocZ rfl zr26) ?_; clear hF S; intro a g137 u hF S
    refine op_do rfl rfl (run_store (cs' := #[.slice B128 p127.1.length d130, .slice B131 p127.2.1.length d133, .slice B134 p127.2.2.1.length d136]) rfl sz26 (hF.ev rfl) (hF.ev rfl) rfl rfl rfl (S.free 0 rfl) rfl rfl) ?_; replace S := S.put 0 rfl (#[.slice B128 p127.1.length d130, .slice B131 p127.2.1.length d133, .slice B134 p127.2.2.1.length d136])
    generalize World.setRow _ _ _ = u at S ⊢
    refine op_val (v := .int .i64 p127.2.2.2) rfl rfl hF rfl (run_assign rfl (hF.ev rfl)) ?_; clear hF; intro a hF
    refine wpList_nil ?_
    refine wp_seq ?_
    refine wp_seq ?_
    refine wp_region_lit ?_
    refine op_val (v := .agg #[.slice B117 p116.1.length d119, .slice B120 p116.2.1.length d122, .slice B123 p116.2.2.1.length d125]) rfl rfl hF rfl (run_loadN rfl ag26 (hF.ev rfl) rfl ((S.free 4 rfl).cells 0 #[.slice B117 p116.1.length d119, .slice B120 p116.2.1.length d122, .slice B123 p116.2.2.1.length d125] rfl)) ?_; clear hF; intro a hF
    refine op_val (v := .agg #[.slice B128 p127.1.length d130, .slice B131 p127.2.1.length d133, .slice B134 p127.2.2.1.length d136]) rfl rfl hF rfl (run_loadN rfl ag26 (hF.ev rfl) rfl ((S.free 0 rfl).cells 0 #[.slice B128 p127.1.length d130, .slice B131 p127.2.1.length d133, .slice B134 p127.2.2.1.length d136] rfl)) ?_; clear hF; intro a hF
    obtain ⟨p138, h138, hM⟩ := bind_ex hM
    refine op_call rfl rfl hF rfl (run_call (vs := [.agg #[.slice B117 p116.1.length d119, .slice B120 p116.2.1.length d122, .slice B123 p116.2.2.1.length d125], .agg #[.slice B128 p127.1.length d130, .slice B131 p127.2.1.length d133, .slice B134 p127.2.2.1.length d136]]) rfl rfl co16 ⟨(hF.ev rfl), (hF.ev rfl), trivial⟩) (c_laws_sameWork (x0 := p116.1) (x1 := p116.2.1) (x2 := p116.2.2.1) (x3 := p127.1) (x4 := p127.2.1) (x5 := p127.2.2.1) ⟨(S.rc 5 rfl), rfl⟩ ⟨(S.rc 6 rfl), rfl⟩ ⟨(S.rc 7 rfl), rfl⟩ ⟨(S.rc 1 rfl), rfl⟩ ⟨(S.rc 2 rfl), rfl⟩ ⟨(S.rc 3 rfl), rfl⟩ h138) ?_
    rintro e u ⟨rfl, T⟩
    refine ⟨_, rfl, ?_⟩
    clear hF; intro a hF
    replace S := S.call0 T; clear T
    refine op_val (v := .bool (!p138)) rfl rfl hF rfl (run_not rfl (hF.ev rfl)) ?_; clear hF; intro a hF
    refine op_val (v := .bool (!p138)) rfl rfl hF rfl (run_move rfl (hF.ev rfl)) ?_; clear hF; intro a hF
    refine op_gv (v := .int .i64 p116.2.2.2) rfl rfl hF rfl (yf (gw_yield hF rfl rfl rfl)) (fun hg => (run_move rfl (hF.ev rfl))) ?_; clear hF; intro a hF
    refine op_gv (v := .int .i64 p127.2.2.2) rfl rfl hF rfl (yf (gw_yield hF rfl rfl rfl)) (fun hg => (run_move rfl (hF.ev rfl))) ?_; clear hF; intro a hF
    refine op_gv (v := .bool (p116.2.2.2 != p127.2.2.2)) rfl rfl hF rfl (yf (gw_yield hF rfl rfl rfl)) (fun hg => (run_neq ((hF.ev rfl).trans (gv_t hg)) ((hF.ev rfl).trans (gv_t hg)) rfl)) ?_; clear hF; intro a hF
    refine op_val (v := .bool ((!p138) || (p116.2.2.2 != p127.2.2.2))) rfl rfl hF rfl (run_pick_or rfl (hF.ev rfl) rfl (fun hp => ((hF.ev rfl).trans (gv_t (not_t hp))))) ?_; clear hF; intro a hF
    refine wpList_nil ?_
    cases hc139 : ((!p138) || (p116.2.2.2 != p127.2.2.2))
    · replace hM := bif_f hc139 hM
      refine cond_f hF rfl hc139 ?_
      refine wp_skip ?_
      refine wp_seq ?_
      refine wp_seq ?_
      refine wp_region_lit ?_
      refine op_val (v := .agg #[.slice B103 p102.1.length d105, .slice B106 p102.2.1.length d108, .slice B109 p102.2.2.1.length d111]) rfl rfl hF rfl (run_loadN rfl ag26 (hF.ev rfl) rfl ((S.free 8 rfl).cells 0 #[.slice B103 p102.1.length d105, .slice B106 p102.2.1.length d108, .slice B109 p102.2.2.1.length d111] rfl)) ?_; clear hF; intro a hF
      obtain ⟨p140, h140, hM⟩ := bind_ex hM
      refine op_call rfl rfl hF rfl (run_call (vs := [.agg #[.slice B103 p102.1.length d105, .slice B106 p102.2.1.length d108, .slice B109 p102.2.2.1.length d111]]) rfl rfl co21 ⟨(hF.ev rfl), trivial⟩) (c_spec_WorkValid (x0 := p102.1) (x1 := p102.2.1) (x2 := p102.2.2.1) ⟨(S.rc 9 rfl), rfl⟩ ⟨(S.rc 10 rfl), rfl⟩ ⟨(S.rc 11 rfl), rfl⟩ h140) ?_
      rintro e u ⟨rfl, T⟩
      refine ⟨_, rfl, ?_⟩
      clear hF; intro a hF
      replace S := S.call0 T; clear T
      refine op_val (v := .bool (!p140)) rfl rfl hF rfl (run_not rfl (hF.ev rfl)) ?_; clear hF; intro a hF
      refine wpList_nil ?_
      cases hc141 : (p140)
      · replace hM := bif_f hc141 hM
        refine cond_t hF rfl (not_t hc141) ?_
        refine wp_seq ?_
        refine wp_region_lit ?_
        refine op_val (v := .int .i64 p116.2.2.2) rfl rfl hF rfl (run_move rfl (hF.ev rfl)) ?_; clear hF; intro a hF
        refine op_val (v := .bool (p116.2.2.2 == 0)) rfl rfl hF rfl (run_eql (hF.ev rfl) rfl rfl) ?_; clear hF; intro a hF
        refine op_val (v := .bool (p116.2.2.2 == 0)) rfl rfl hF rfl (run_move rfl (hF.ev rfl)) ?_; clear hF; intro a hF
        refine op_gv (v := .pointer (some ⟨g126, 0, none⟩)) rfl rfl hF rfl (yt (gw_yield hF rfl rfl rfl)) (fun hg => (run_fieldAddr rfl fl26_0 (hF.ev rfl) rfl)) ?_; clear hF; intro a hF
        refine op_gv (v := .slice B117 p116.1.length d119) rfl rfl hF rfl (yt (gw_yield hF rfl rfl rfl)) (fun hg => (run_load1 rfl one23 ((hF.ev rfl).trans (gv_t hg)) ((S.free 4 rfl).cell rfl))) ?_; clear hF; intro a hF
        refine op_gv (v := .int .i64 (p116.1.length : Int)) rfl rfl hF rfl (yt (gw_yield hF rfl rfl rfl)) (fun hg => (run_lenL rfl rfl Tryd.underlying23 ((hF.ev rfl).trans (gv_t hg)))) ?_; clear hF; intro a hF
        refine op_gv (v := .bool ((p116.1.length : Int) == 0)) rfl rfl hF rfl (yt (gw_yield hF rfl rfl rfl)) (fun hg => (run_eql ((hF.ev rfl).trans (gv_t hg)) rfl rfl)) ?_; clear hF; intro a hF
        refine op_val (v := .bool ((p116.2.2.2 == 0) && ((p116.1.length : Int) == 0))) rfl rfl hF rfl (run_pick_and rfl (hF.ev rfl) (fun hp => ((hF.ev rfl).trans (gv_t hp))) rfl) ?_; clear hF; intro a hF
        refine op_val (v := .bool ((p116.2.2.2 == 0) && ((p116.1.length : Int) == 0))) rfl rfl hF rfl (run_move rfl (hF.ev rfl)) ?_; clear hF; intro a hF
        obtain ⟨p142, h142, hM⟩ := bind_ex hM
        refine op_gcall (v := .bool p142) rfl rfl hF rfl S (yt (gw_yield hF rfl rfl rfl)) (fun hg => (run_call (vs := []) rfl rfl co13 trivial)) (fun hg => c_laws_alive   (gb_t h142 hg)) ?_; clear hF S; intro a u hF S
        refine op_val (v := .bool (((p116.2.2.2 == 0) && ((p116.1.length : Int) == 0)) && p142)) rfl rfl hF rfl (run_pick_and rfl (hF.ev rfl) (fun hp => ((hF.ev rfl).trans (gv_t hp))) rfl) ?_; clear hF; intro a hF
        refine op_val (v := .bool (((p116.2.2.2 == 0) && ((p116.1.length : Int) == 0)) && p142)) rfl rfl hF rfl (run_assign rfl (hF.ev rfl)) ?_; clear hF; intro a hF
        refine wpList_nil ?_
        refine wp_ret ?_
        repeat with_reducible (first | refine then_ret ?_ | refine in_ret ?_ | refine in_nrm ?_)
        refine ret1_gw (.inl rfl) hF rfl (res_tmp (hF.ev rfl)) ?_
        obtain rfl := Option.some.inj hM
        exact ⟨rfl, S.sel [] rfl rfl⟩
      · replace hM := bif_t hc141 hM
        refine cond_f hF rfl (not_f hc141) ?_
        refine wp_skip ?_
        refine wp_seq ?_
        refine wp_seq ?_
        refine wp_region_lit ?_
        refine op_val (v := .int .i64 0) rfl rfl hF rfl (run_assign rfl rfl) ?_; clear hF; intro a hF
        refine wpList_nil ?_
        obtain ⟨o144, hM145, hM⟩ := bind_ex hM
        refine wp_cut (fun a u => ∃ (p143 : Unit), (Sum.inl p143) = o144 ∧ Fr a 136 [(2, .bool false), (3, .pointer (some ⟨g115, 0, none⟩)), (4, .slice B112 p102.2.2.2.length d114), (5, .pointer (some ⟨g126, 0, none⟩)), (6, .int .i64 p116.2.2.2)] ∧ St w u [.box g126 26 #[.slice B117 p116.1.length d119, .slice B120 p116.2.1.length d122, .slice B123 p116.2.2.1.length d125], .box g115 26 #[.slice B103 p102.1.length d105, .slice B106 p102.2.1.length d108, .slice B109 p102.2.2.1.length d111], .row 35 3 (.slice B112 p102.2.2.2.length d114) p102.2.2.2.length (p102.2.2.2.flatMap eWorkDeed), .row 4 1 (.slice B117 p116.1.length d119) p116.1.length (p116.1.flatMap eB), .row 4 1 (.slice B120 p116.2.1.length d122) p116.2.1.length (p116.2.1.flatMap eB), .row 48 2 (.slice B123 p116.2.2.1.length d125) p116.2.2.1.length (p116.2.2.1.flatMap ePermit), .row 4 1 (.slice B103 p102.1.length d105) p102.1.length (p102.1.flatMap eB), .row 4 1 (.slice B106 p102.2.1.length d108) p102.2.1.length (p102.2.1.flatMap eB), .row 48 2 (.slice B109 p102.2.2.1.length d111) p102.2.2.1.length (p102.2.2.1.flatMap ePermit)]) ?_ ?_
        · have _ := trivial
          refine wp_block ?_
          refine loop_gw (fun m a u => ∃ (p146 : Int), m_laws_FnWorkRun_l1 p116 m p146 = some _ ∧ Fr a 136 [(2, .bool false), (3, .pointer (some ⟨g115, 0, none⟩)), (4, .slice B112 p102.2.2.2.length d114), (5, .pointer (some ⟨g126, 0, none⟩)), (6, .int .i64 p116.2.2.2), (9, .int .i64 p146)] ∧ St w u [.box g126 26 #[.slice B117 p116.1.length d119, .slice B120 p116.2.1.length d122, .slice B123 p116.2.2.1.length d125], .box g115 26 #[.slice B103 p102.1.length d105, .slice B106 p102.2.1.length d108, .slice B109 p102.2.2.1.length d111], .row 35 3 (.slice B112 p102.2.2.2.length d114) p102.2.2.2.length (p102.2.2.2.flatMap eWorkDeed), .row 4 1 (.slice B117 p116.1.length d119) p116.1.length (p116.1.flatMap eB), .row 4 1 (.slice B120 p116.2.1.length d122) p116.2.1.length (p116.2.1.flatMap eB), .row 48 2 (.slice B123 p116.2.2.1.length d125) p116.2.2.1.length (p116.2.2.1.flatMap ePermit), .row 4 1 (.slice B103 p102.1.length d105) p102.1.length (p102.1.flatMap eB), .row 4 1 (.slice B106 p102.2.1.length d108) p102.2.1.length (p102.2.1.flatMap eB), .row 48 2 (.slice B109 p102.2.2.1.length d111) p102.2.2.1.length (p102.2.2.1.flatMap ePermit)]) FUEL ⟨0, hM145, hF.keep _ ⟨rfl, rfl, rfl, rfl, rfl, rfl, trivial⟩, S.sel [4, 8, 12, 5, 6, 7, 9, 10, 11] rfl rfl⟩ ?_
          clear hF S hM145; rintro m a u ⟨p146, hM145, hF, S⟩
          rcases m with _ | f1
          · exact none_some hM145
          rw [m_laws_FnWorkRun_l1.eq_2] at hM145
          refine wp_seq ?_
          refine wp_seq ?_
          refine wp_region_lit ?_
          refine op_val (v := .int .i64 p146) rfl rfl hF rfl (run_move rfl (hF.ev rfl)) ?_; clear hF; intro a hF
          refine op_val (v := .pointer (some ⟨g126, 2, none⟩)) rfl rfl hF rfl (run_fieldAddr rfl fl26_2 (hF.ev rfl) rfl) ?_; clear hF; intro a hF
          refine op_val (v := .slice B123 p116.2.2.1.length d125) rfl rfl hF rfl (run_load1 rfl one24 (hF.ev rfl) ((S.free 0 rfl).cell rfl)) ?_; clear hF; intro a hF
          refine op_val (v := .int .i64 (p116.2.2.1.length : Int)) rfl rfl hF rfl (run_lenL rfl rfl Tryd.underlying24 (hF.ev rfl)) ?_; clear hF; intro a hF
          refine op_val (v := .bool (ltB p146 (p116.2.2.1.length : Int))) rfl rfl hF rfl (run_lss (hF.ev rfl) (hF.ev rfl) rfl) ?_; clear hF; intro a hF
          refine wpList_nil ?_
          cases hc147 : (ltB p146 (p116.2.2.1.length : Int))
          · replace hM145 := bif_f hc147 hM145
            refine cond_f hF rfl hc147 ?_
            refine wp_exit ?_
            repeat with_reducible (first | refine then_exit ?_ | refine in_hit ?_ | refine in_miss rfl ?_)
            obtain rfl := Option.some.inj hM145
            exact ⟨(), rfl, hF.keep _ ⟨rfl, rfl, rfl, rfl, rfl, trivial⟩, S.sel [0, 1, 2, 3, 4, 5, 6, 7, 8] rfl rfl⟩
          · replace hM145 := bif_t hc147 hM145
            refine cond_t hF rfl hc147 ?_
            refine wp_skip ?_
            refine wp_seq ?_
            refine wp_block ?_
            refine wp_seq ?_
            refine wp_region_lit ?_
            refine op_val (v := .pointer (some ⟨g126, 2, none⟩)) rfl rfl hF rfl (run_fieldAddr rfl fl26_2 (hF.ev rfl) rfl) ?_; clear hF; intro a hF
            refine op_val (v := .slice B123 p116.2.2.1.length d125) rfl rfl hF rfl (run_load1 rfl one24 (hF.ev rfl) ((S.free 0 rfl).cell rfl)) ?_; clear hF; intro a hF
            refine op_val (v := .int .i64 p146) rfl rfl hF rfl (run_move rfl (hF.ev rfl)) ?_; clear hF; intro a hF
            obtain ⟨hk148, hM145⟩ := chk_ex hM145
            replace hk148 := ixB_t hk148
            refine op_val (v := .pointer (some ⟨adB B123, adO B123 + p146.toNat * 2, none⟩)) rfl rfl hF rfl (run_indexAddr (b := adB B123) (off := adO B123) rfl Tryd.underlying24 sz48 ((hF.ev rfl).trans (congrArg (fun A => Value.slice A p116.2.2.1.length d125) ((S.rc 5 rfl).rd.ad (ix_pos hk148)))) (hF.ev rfl) hk148.1 hk148.2 (k' := adO B123 + p146.toNat * 2) rfl) ?_; clear hF; intro a hF
            refine op_val (v := .pointer (some ⟨adB B123, adO B123 + p146.toNat * 2 + 1, none⟩)) rfl rfl hF rfl (run_fieldAddr rfl fl48_1 (hF.ev rfl) rfl) ?_; clear hF; intro a hF
            refine op_val (v := .int .i64 ((p116.2.2.1.getD p146.toNat ((0, 0) : Int × Int)).2)) rfl rfl hF rfl (run_load1 rfl one3 (hF.ev rfl) (rd_el (l := p116.2.2.1) (S.rc 5 rfl).rd rfl ePermit_len ((0, 0) : Int × Int) (ix_ltn hk148 rfl) rfl)) ?_; clear hF; intro a hF
            refine op_val (v := .int .i64 ((p116.2.2.1.getD p146.toNat ((0, 0) : Int × Int)).2)) rfl rfl hF rfl (run_assign rfl (hF.ev rfl)) ?_; clear hF; intro a hF
            refine wpList_nil ?_
            refine wp_seq ?_
            refine wp_region_lit ?_
            refine op_val (v := .int .i64 ((p116.2.2.1.getD p146.toNat ((0, 0) : Int × Int)).2)) rfl rfl hF rfl (run_move rfl (hF.ev rfl)) ?_; clear hF; intro a hF
            refine op_val (v := .bool (ltB ((p116.2.2.1.getD p146.toNat ((0, 0) : Int × Int)).2) 0)) rfl rfl hF rfl (run_lss (hF.ev rfl) rfl rfl) ?_; clear hF; intro a hF
            refine op_val (v := .bool (ltB ((p116.2.2.1.getD p146.toNat ((0, 0) : Int × Int)).2) 0)) rfl rfl hF rfl (run_move rfl (hF.ev rfl)) ?_; clear hF; intro a hF
            refine op_gv (v := .int .i64 ((p116.2.2.1.getD p146.toNat ((0, 0) : Int × Int)).2)) rfl rfl hF rfl (yf (gw_yield hF rfl rfl rfl)) (fun hg => (run_move rfl (hF.ev rfl))) ?_; clear hF; intro a hF
            refine op_gv (v := .pointer (some ⟨g126, 0, none⟩)) rfl rfl hF rfl (yf (gw_yield hF rfl rfl rfl)) (fun hg => (run_fieldAddr rfl fl26_0 (hF.ev rfl) rfl)) ?_; clear hF; intro a hF
            refine op_gv (v := .slice B117 p116.1.length d119) rfl rfl hF rfl (yf (gw_yield hF rfl rfl rfl)) (fun hg => (run_load1 rfl one23 ((hF.ev rfl).trans (gv_t hg)) ((S.free 0 rfl).cell rfl))) ?_; clear hF; intro a hF
            refine op_gv (v := .int .i64 (p116.1.length : Int)) rfl rfl hF rfl (yf (gw_yield hF rfl rfl rfl)) (fun hg => (run_lenL rfl rfl Tryd.underlying23 ((hF.ev rfl).trans (gv_t hg)))) ?_; clear hF; intro a hF
            refine op_gv (v := .bool (leB (p116.1.length : Int) ((p116.2.2.1.getD p146.toNat ((0, 0) : Int × Int)).2))) rfl rfl hF rfl (yf (gw_yield hF rfl rfl rfl)) (fun hg => (run_geq ((hF.ev rfl).trans (gv_t hg)) ((hF.ev rfl).trans (gv_t hg)) rfl)) ?_; clear hF; intro a hF
            refine op_val (v := .bool ((ltB ((p116.2.2.1.getD p146.toNat ((0, 0) : Int × Int)).2) 0) || (leB (p116.1.length : Int) ((p116.2.2.1.getD p146.toNat ((0, 0) : Int × Int)).2)))) rfl rfl hF rfl (run_pick_or rfl (hF.ev rfl) rfl (fun hp => ((hF.ev rfl).trans (gv_t (not_t hp))))) ?_; clear hF; intro a hF
            refine op_val (v := .bool ((ltB ((p116.2.2.1.getD p146.toNat ((0, 0) : Int × Int)).2) 0) || (leB (p116.1.length : Int) ((p116.2.2.1.getD p146.toNat ((0, 0) : Int × Int)).2)))) rfl rfl hF rfl (run_move rfl (hF.ev rfl)) ?_; clear hF; intro a hF
            refine op_gv (v := .int .i64 ((p116.2.2.1.getD p146.toNat ((0, 0) : Int × Int)).2)) rfl rfl hF rfl (yf (gw_yield hF rfl rfl rfl)) (fun hg => (run_move rfl (hF.ev rfl))) ?_; clear hF; intro a hF
            refine op_gv (v := .pointer (some ⟨g126, 1, none⟩)) rfl rfl hF rfl (yf (gw_yield hF rfl rfl rfl)) (fun hg => (run_fieldAddr rfl fl26_1 (hF.ev rfl) rfl)) ?_; clear hF; intro a hF
            refine op_gv (v := .slice B120 p116.2.1.length d122) rfl rfl hF rfl (yf (gw_yield hF rfl rfl rfl)) (fun hg => (run_load1 rfl one23 ((hF.ev rfl).trans (gv_t hg)) ((S.free 0 rfl).cell rfl))) ?_; clear hF; intro a hF
            refine op_gv (v := .int .i64 (p116.2.1.length : Int)) rfl rfl hF rfl (yf (gw_yield hF rfl rfl rfl)) (fun hg => (run_lenL rfl rfl Tryd.underlying23 ((hF.ev rfl).trans (gv_t hg)))) ?_; clear hF; intro a hF
            refine op_gv (v := .bool (leB (p116.2.1.length : Int) ((p116.2.2.1.getD p146.toNat ((0, 0) : Int × Int)).2))) rfl rfl hF rfl (yf (gw_yield hF rfl rfl rfl)) (fun hg => (run_geq ((hF.ev rfl).trans (gv_t hg)) ((hF.ev rfl).trans (gv_t hg)) rfl)) ?_; clear hF; intro a hF
            refine op_val (v := .bool (((ltB ((p116.2.2.1.getD p146.toNat ((0, 0) : Int × Int)).2) 0) || (leB (p116.1.length : Int) ((p116.2.2.1.getD p146.toNat ((0, 0) : Int × Int)).2))) || (leB (p116.2.1.length : Int) ((p116.2.2.1.getD p146.toNat ((0, 0) : Int × Int)).2)))) rfl rfl hF rfl (run_pick_or rfl (hF.ev rfl) rfl (fun hp => ((hF.ev rfl).trans (gv_t (not_t hp))))) ?_; clear hF; intro a hF
            refine op_val (v := .bool (((ltB ((p116.2.2.1.getD p146.toNat ((0, 0) : Int × Int)).2) 0) || (leB (p116.1.length : Int) ((p116.2.2.1.getD p146.toNat ((0, 0) : Int × Int)).2))) || (leB (p116.2.1.length : Int) ((p116.2.2.1.getD p146.toNat ((0, 0) : Int × Int)).2)))) rfl rfl hF rfl (run_move rfl (hF.ev rfl)) ?_; clear hF; intro a hF
            refine op_gv (v := .pointer (some ⟨g126, 0, none⟩)) rfl rfl hF rfl (yf (gw_yield hF rfl rfl rfl)) (fun hg => (run_fieldAddr rfl fl26_0 (hF.ev rfl) rfl)) ?_; clear hF; intro a hF
            refine op_gv (v := .slice B117 p116.1.length d119) rfl rfl hF rfl (yf (gw_yield hF rfl rfl rfl)) (fun hg => (run_load1 rfl one23 ((hF.ev rfl).trans (gv_t hg)) ((S.free 0 rfl).cell rfl))) ?_; clear hF; intro a hF
            refine op_gv (v := .int .i64 ((p116.2.2.1.getD p146.toNat ((0, 0) : Int × Int)).2)) rfl rfl hF rfl (yf (gw_yield hF rfl rfl rfl)) (fun hg => (run_move rfl (hF.ev rfl))) ?_; clear hF; intro a hF
            obtain ⟨hk149, hM145⟩ := chk_ex hM145
            replace hk149 := fun hg => ixB_t (imp_t hk149 hg)
            refine op_gv (v := .pointer (some ⟨adB B117, adO B117 + (((p116.2.2.1.getD p146.toNat ((0, 0) : Int × Int)).2).toNat) * 1, none⟩)) rfl rfl hF rfl (yf (gw_yield hF rfl rfl rfl)) (fun hg => (run_indexAddr (b := adB B117) (off := adO B117) rfl Tryd.underlying23 sz4 (((hF.ev rfl).trans (gv_t hg)).trans (congrArg (fun A => Value.slice A p116.1.length d119) ((S.rc 3 rfl).rd.ad (ix_pos (hk149 hg))))) ((hF.ev rfl).trans (gv_t hg)) (hk149 hg).1 (hk149 hg).2 (k' := adO B117 + (((p116.2.2.1.getD p146.toNat ((0, 0) : Int × Int)).2).toNat) * 1) rfl)) ?_; clear hF; intro a hF
            refine op_gv (v := .bool (p116.1.getD (((p116.2.2.1.getD p146.toNat ((0, 0) : Int × Int)).2).toNat) false)) rfl rfl hF rfl (yf (gw_yield hF rfl rfl rfl)) (fun hg => (run_load1 rfl one4 ((hF.ev rfl).trans (gv_t hg)) (rd_el0 (l := p116.1) (S.rc 3 rfl).rd rfl eB_len false (ix_ltn (hk149 hg) rfl) rfl))) ?_; clear hF; intro a hF
            refine op_val (v := .bool ((((ltB ((p116.2.2.1.getD p146.toNat ((0, 0) : Int × Int)).2) 0) || (leB (p116.1.length : Int) ((p116.2.2.1.getD p146.toNat ((0, 0) : Int × Int)).2))) || (leB (p116.2.1.length : Int) ((p116.2.2.1.getD p146.toNat ((0, 0) : Int × Int)).2))) || (p116.1.getD (((p116.2.2.1.getD p146.toNat ((0, 0) : Int × Int)).2).toNat) false))) rfl rfl hF rfl (run_pick_or rfl (hF.ev rfl) rfl (fun hp => ((hF.ev rfl).trans (gv_t (not_t hp))))) ?_; clear hF; intro a hF
            refine op_val (v := .bool ((((ltB ((p116.2.2.1.getD p146.toNat ((0, 0) : Int × Int)).2) 0) || (leB (p116.1.length : Int) ((p116.2.2.1.getD p146.toNat ((0, 0) : Int × Int)).2))) || (leB (p116.2.1.length : Int) ((p116.2.2.1.getD p146.toNat ((0, 0) : Int × Int)).2))) || (p116.1.getD (((p116.2.2.1.getD p146.toNat ((0, 0) : Int × Int)).2).toNat) false))) rfl rfl hF rfl (run_move rfl (hF.ev rfl)) ?_; clear hF; intro a hF
            refine op_gv (v := .pointer (some ⟨g126, 1, none⟩)) rfl rfl hF rfl (yf (gw_yield hF rfl rfl rfl)) (fun hg => (run_fieldAddr rfl fl26_1 (hF.ev rfl) rfl)) ?_; clear hF; intro a hF
            refine op_gv (v := .slice B120 p116.2.1.length d122) rfl rfl hF rfl (yf (gw_yield hF rfl rfl rfl)) (fun hg => (run_load1 rfl one23 ((hF.ev rfl).trans (gv_t hg)) ((S.free 0 rfl).cell rfl))) ?_; clear hF; intro a hF
            refine op_gv (v := .int .i64 ((p116.2.2.1.getD p146.toNat ((0, 0) : Int × Int)).2)) rfl rfl hF rfl (yf (gw_yield hF rfl rfl rfl)) (fun hg => (run_move rfl (hF.ev rfl))) ?_; clear hF; intro a hF
            obtain ⟨hk150, hM145⟩ := chk_ex hM145
            replace hk150 := fun hg => ixB_t (imp_t hk150 hg)
            refine op_gv (v := .pointer (some ⟨adB B120, adO B120 + (((p116.2.2.1.getD p146.toNat ((0, 0) : Int × Int)).2).toNat) * 1, none⟩)) rfl rfl hF rfl (yf (gw_yield hF rfl rfl rfl)) (fun hg => (run_indexAddr (b := adB B120) (off := adO B120) rfl Tryd.underlying23 sz4 (((hF.ev rfl).trans (gv_t hg)).trans (congrArg (fun A => Value.slice A p116.2.1.length d122) ((S.rc 4 rfl).rd.ad (ix_pos (hk150 hg))))) ((hF.ev rfl).trans (gv_t hg)) (hk150 hg).1 (hk150 hg).2 (k' := adO B120 + (((p116.2.2.1.getD p146.toNat ((0, 0) : Int × Int)).2).toNat) * 1) rfl)) ?_; clear hF; intro a hF
            refine op_gv (v := .bool (p116.2.1.getD (((p116.2.2.1.getD p146.toNat ((0, 0) : Int × Int)).2).toNat) false)) rfl rfl hF rfl (yf (gw_yield hF rfl rfl rfl)) (fun hg => (run_load1 rfl one4 ((hF.ev rfl).trans (gv_t hg)) (rd_el0 (l := p116.2.1) (S.rc 4 rfl).rd rfl eB_len false (ix_ltn (hk150 hg) rfl) rfl))) ?_; clear hF; intro a hF
            refine op_gv (v := .bool (!(p116.2.1.getD (((p116.2.2.1.getD p146.toNat ((0, 0) : Int × Int)).2).toNat) false))) rfl rfl hF rfl (yf (gw_yield hF rfl rfl rfl)) (fun hg => (run_not rfl ((hF.ev rfl).trans (gv_t hg)))) ?_; clear hF; intro a hF
            refine op_val (v := .bool (((((ltB ((p116.2.2.1.getD p146.toNat ((0, 0) : Int × Int)).2) 0) || (leB (p116.1.length : Int) ((p116.2.2.1.getD p146.toNat ((0, 0) : Int × Int)).2))) || (leB (p116.2.1.length : Int) ((p116.2.2.1.getD p146.toNat ((0, 0) : Int × Int)).2))) || (p116.1.getD (((p116.2.2.1.getD p146.toNat ((0, 0) : Int × Int)).2).toNat) false)) || (!(p116.2.1.getD (((p116.2.2.1.getD p146.toNat ((0, 0) : Int × Int)).2).toNat) false)))) rfl rfl hF rfl (run_pick_or rfl (hF.ev rfl) rfl (fun hp => ((hF.ev rfl).trans (gv_t (not_t hp))))) ?_; clear hF; intro a hF
            refine wpList_nil ?_
            cases hc151 : (((((ltB ((p116.2.2.1.getD p146.toNat ((0, 0) : Int × Int)).2) 0) || (leB (p116.1.length : Int) ((p116.2.2.1.getD p146.toNat ((0, 0) : Int × Int)).2))) || (leB (p116.2.1.length : Int) ((p116.2.2.1.getD p146.toNat ((0, 0) : Int × Int)).2))) || (p116.1.getD (((p116.2.2.1.getD p146.toNat ((0, 0) : Int × Int)).2).toNat) false)) || (!(p116.2.1.getD (((p116.2.2.1.getD p146.toNat ((0, 0) : Int × Int)).2).toNat) false)))
            · replace hM145 := bif_f hc151 hM145
              refine cond_f hF rfl hc151 ?_
              refine wp_skip ?_
              refine wp_region_lit ?_
              refine op_val (v := .int .i64 p146) rfl rfl hF rfl (run_move rfl (hF.ev rfl)) ?_; clear hF; intro a hF
              refine op_val (v := .int .i64 (w64 (p146 + 1))) rfl rfl hF rfl (run_add (z := w64 (p146 + 1)) (hF.ev rfl) rfl rfl rfl) ?_; clear hF; intro a hF
              refine op_val (v := .int .i64 (w64 (p146 + 1))) rfl rfl hF rfl (run_assign rfl (hF.ev rfl)) ?_; clear hF; intro a hF
              refine wpList_nil ?_
              exact ⟨f1, Nat.lt_succ_self _, w64 (p146 + 1), hM145, hF.keep _ ⟨rfl, rfl, rfl, rfl, rfl, rfl, trivial⟩, S.sel [0, 1, 2, 3, 4, 5, 6, 7, 8] rfl rfl⟩
            · replace hM145 := bif_t hc151 hM145
              refine cond_t hF rfl hc151 ?_
              refine wp_seq ?_
              refine wp_region_lit ?_
              refine op_val (v := .bool false) rfl rfl hF rfl (run_assign rfl rfl) ?_; clear hF; intro a hF
              refine wpList_nil ?_
              refine wp_ret ?_
              repeat with_reducible (first | refine then_ret ?_ | refine in_ret ?_ | refine in_nrm ?_)
              refine ret1_gw (.inl rfl) hF rfl (res_tmp (hF.ev rfl)) ?_
              obtain rfl := Option.some.inj hM145
              obtain rfl := Option.some.inj hM
              exact ⟨rfl, S.sel [] rfl rfl⟩
        · rintro a u ⟨p143, rfl, hF, S⟩
          replace hM := elim_l hM
          refine wp_seq ?_
          refine wp_region_lit ?_
          refine op_val (v := .slice B112 p102.2.2.2.length d114) rfl rfl hF rfl (run_move rfl (hF.ev rfl)) ?_; clear hF; intro a hF
          refine op_val (v := .int .i64 (p102.2.2.2.length : Int)) rfl rfl hF rfl (run_lenL rfl rfl Tryd.underlying43 (hF.ev rfl)) ?_; clear hF; intro a hF
          refine op_val (v := .int .i64 (w64 (Int.tdiv (p102.2.2.2.length : Int) 2))) rfl rfl hF rfl (run_quo (z := w64 (Int.tdiv (p102.2.2.2.length : Int) 2)) (hF.ev rfl) rfl rfl (by decide) rfl) ?_; clear hF; intro a hF
          refine op_val (v := .int .i64 (w64 (Int.tdiv (p102.2.2.2.length : Int) 2))) rfl rfl hF rfl (run_assign rfl (hF.ev rfl)) ?_; clear hF; intro a hF
          refine wpList_nil ?_
          refine wp_seq ?_
          obtain ⟨hk152, hM⟩ := chk_ex hM
          replace hk152 := slB_t hk152
          obtain ⟨p153, h153, hM⟩ := bind_ex hM
          refine region_gw (D := [107, 108, 109, 110, 111, 106, 112, 113, 12, 13]) (Lr := [.box g126 26 #[.slice B117 p116.1.length d119, .slice B120 p116.2.1.length d122, .slice B123 p116.2.2.1.length d125], .box g115 26 #[.slice B103 p102.1.length d105, .slice B106 p102.2.1.length d108, .slice B109 p102.2.2.1.length d111], .row 35 3 (.slice B112 p102.2.2.2.length d114) p102.2.2.2.length (p102.2.2.2.flatMap eWorkDeed), .row 4 1 (.slice B117 p116.1.length d119) p116.1.length (p116.1.flatMap eB), .row 4 1 (.slice B120 p116.2.1.length d122) p116.2.1.length (p116.2.1.flatMap eB), .row 48 2 (.slice B123 p116.2.2.1.length d125) p116.2.2.1.length (p116.2.2.1.flatMap ePermit), .row 4 1 (.slice B103 p102.1.length d105) p102.1.length (p102.1.flatMap eB), .row 4 1 (.slice B106 p102.2.1.length d108) p102.2.1.length (p102.2.1.flatMap eB), .row 48 2 (.slice B109 p102.2.2.1.length d111) p102.2.2.1.length (p102.2.2.1.flatMap ePermit)]) (deps := (fun | 0 => [107] | 1 => [108] | 2 => [109] | 3 => [110] | 4 => [111] | 5 => [106, 111] | 6 => [112, 111] | 7 => [113] | 8 => [12] | 9 => [12, 111] | 10 => [13] | _ => [])) (rd := (fun _ => [])) (zr := (fun _ => []))
            (φ := fun i vs => match i, vs with | 0, [v107] => v107 = .agg #[.slice B103 p102.1.length d105, .slice B106 p102.2.1.length d108, .slice B109 p102.2.2.1.length d111] | 1, [v108] => v108 = .slice B112 p102.2.2.2.length d114 | 2, [v109] => v109 = .int .i64 (w64 (Int.tdiv (p102.2.2.2.length : Int) 2)) | 3, [v110] => v110 = .slice (subA d114 ((0 : Int).toNat) 3 B112) ((subL p102.2.2.2 0 (w64 (Int.tdiv (p102.2.2.2.length : Int) 2))).length) (d114 - (0 : Int).toNat) | 4, [v111] => v111 = .tuple #[.agg #[.slice (slA (vtup (vtup v111 0) 0)) p153.1.length (slC (vtup (vtup v111 0) 0)), .slice (slA (vtup (vtup v111 0) 1)) p153.2.1.length (slC (vtup (vtup v111 0) 1)), .slice (slA (vtup (vtup v111 0) 2)) p153.2.2.1.length (slC (vtup (vtup v111 0) 2))], .int .i64 p153.2.2.2] | 5, [v106, v111] => v106 = .tuple #[.agg #[.slice (slA (vtup (vtup v111 0) 0)) p153.1.length (slC (vtup (vtup v111 0) 0)), .slice (slA (vtup (vtup v111 0) 1)) p153.2.1.length (slC (vtup (vtup v111 0) 1)), .slice (slA (vtup (vtup v111 0) 2)) p153.2.2.1.length (slC (vtup (vtup v111 0) 2))], .int .i64 p153.2.2.2] | 6, [v112, v111] => v112 = .agg #[.slice (slA (vtup (vtup v111 0) 0)) p153.1.length (slC (vtup (vtup v111 0) 0)), .slice (slA (vtup (vtup v111 0) 1)) p153.2.1.length (slC (vtup (vtup v111 0) 1)), .slice (slA (vtup (vtup v111 0) 2)) p153.2.2.1.length (slC (vtup (vtup v111 0) 2))] | 7, [v113] => v113 = .int .i64 p153.2.2.2 | 8, [v12] => v12 = .pointer (some ⟨ptB v12, 0, none⟩) | 10, [v13] => v13 = .int .i64 p153.2.2.2 | _, _ => True)
            (C := fun i vs => match i, vs with | 4, [v111] => [.row 4 1 (.slice (slA (vtup (vtup v111 0) 0)) p153.1.length (slC (vtup (vtup v111 0) 0))) p153.1.length (p153.1.flatMap eB), .row 4 1 (.slice (slA (vtup (vtup v111 0) 1)) p153.2.1.length (slC (vtup (vtup v111 0) 1))) p153.2.1.length (p153.2.1.flatMap eB), .row 48 2 (.slice (slA (vtup (vtup v111 0) 2)) p153.2.2.1.length (slC (vtup (vtup v111 0) 2))) p153.2.2.1.length (p153.2.2.1.flatMap ePermit)] | 8, [v12] => [.box (ptB v12) 26 #[.slice none 0 0, .slice none 0 0, .slice none 0 0]] | 9, [v12, v111] => [.box (ptB v12) 26 #[.slice (slA (vtup (vtup v111 0) 0)) p153.1.length (slC (vtup (vtup v111 0) 0)), .slice (slA (vtup (vtup v111 0) 1)) p153.2.1.length (slC (vtup (vtup v111 0) 1)), .slice (slA (vtup (vtup v111 0) 2)) p153.2.2.1.length (slC (vtup (vtup v111 0) 2))]] | _, _ => [])
            (κ := (fun | 8 => some 9 | _ => none)) (Z := (fun _ => [])) mixed hF (by kernel_rfl) S ?_ ?_
          · refine ⟨?_, ?_, ?_, ?_, ?_, ?_, ?_, ?_, ?_, ?_, ?_, trivial⟩
            · intro a u X hB hu hp hr hz hl S
              replace S : St w u ([] ++ X) := S
              exact .inl ⟨rfl, .agg #[.slice B103 p102.1.length d105, .slice B106 p102.2.1.length d108, .slice B109 p102.2.2.1.length d111], u, (run_loadN rfl ag26 (hF.evB hB rfl rfl) rfl ((gr_box S hl 1 rfl).cells 0 #[.slice B103 p102.1.length d105, .slice B106 p102.2.1.length d108, .slice B109 p102.2.2.1.length d111] rfl)), rfl, S⟩
            · intro a u X hB hu hp hr hz hl S
              replace S : St w u ([] ++ X) := S
              exact .inl ⟨rfl, .slice B112 p102.2.2.2.length d114, u, (run_move rfl (hF.evB hB rfl rfl)), rfl, S⟩
            · intro a u X hB hu hp hr hz hl S
              replace S : St w u ([] ++ X) := S
              exact .inl ⟨rfl, .int .i64 (w64 (Int.tdiv (p102.2.2.2.length : Int) 2)), u, (run_move rfl (hF.evB hB rfl rfl)), rfl, S⟩
            · intro a u X hB hu hp hr hz hl S
              replace S : St w u ([] ++ X) := S
              have e108 : sl a 108 = .slice B112 p102.2.2.2.length d114 := hp 1 rfl
              have e109 : sl a 109 = .int .i64 (w64 (Int.tdiv (p102.2.2.2.length : Int) 2)) := hp 2 rfl
              exact .inl ⟨rfl, .slice (subA d114 ((0 : Int).toNat) 3 B112) ((subL p102.2.2.2 0 (w64 (Int.tdiv (p102.2.2.2.length : Int) 2))).length) (d114 - (0 : Int).toNat), u, (run_sliceH (l := p102.2.2.2) rfl Tryd.underlying43 sz35 (ev_sl e108) (ev_sl e109) hk152 rfl (gr_rc S hl 2 rfl).cap), rfl, S⟩
            · intro a u X hB hu hp hr hz hl S
              replace S : St w u ([] ++ X) := S
              have e107 : sl a 107 = .agg #[.slice B103 p102.1.length d105, .slice B106 p102.2.1.length d108, .slice B109 p102.2.2.1.length d111] := hp 0 rfl
              have e110 : sl a 110 = .slice (subA d114 ((0 : Int).toNat) 3 B112) ((subL p102.2.2.2 0 (w64 (Int.tdiv (p102.2.2.2.length : Int) 2))).length) (d114 - (0 : Int).toNat) := hp 3 rfl
              refine .inr (.inr (.inl ⟨rfl, _, _, (run_call (vs := [.agg #[.slice B103 p102.1.length d105, .slice B106 p102.2.1.length d108, .slice B109 p102.2.2.1.length d111], .slice (subA d114 ((0 : Int).toNat) 3 B112) ((subL p102.2.2.2 0 (w64 (Int.tdiv (p102.2.2.2.length : Int) 2))).length) (d114 - (0 : Int).toNat)]) rfl rfl co19 ⟨(ev_sl e107), (ev_sl e110), trivial⟩), ?_⟩))
              refine Calls.mono (c_impl_WorkRun (x0 := p102.1) (x1 := p102.2.1) (x2 := p102.2.2.1) (x3 := subL p102.2.2.2 0 (w64 (Int.tdiv (p102.2.2.2.length : Int) 2))) ⟨(gr_rc S hl 6 rfl), rfl⟩ ⟨(gr_rc S hl 7 rfl), rfl⟩ ⟨(gr_rc S hl 8 rfl), rfl⟩ ⟨(rc_sub eWorkDeed_len hk152 rfl (gr_rc S hl 2 rfl)), rfl⟩ h153) ?_
              rintro e w1 ⟨B154, n155, d156, B157, n158, d159, B160, n161, d162, rfl, rfl, rfl, rfl, T⟩
              exact ⟨_, rfl, rfl, S.call3 T⟩
            · intro a u X hB hu hp hr hz hl S
              replace S : St w u ([] ++ X) := S
              have e111 : sl a 111 = .tuple #[.agg #[.slice (slA (vtup (vtup (sl a 111) 0) 0)) p153.1.length (slC (vtup (vtup (sl a 111) 0) 0)), .slice (slA (vtup (vtup (sl a 111) 0) 1)) p153.2.1.length (slC (vtup (vtup (sl a 111) 0) 1)), .slice (slA (vtup (vtup (sl a 111) 0) 2)) p153.2.2.1.length (slC (vtup (vtup (sl a 111) 0) 2))], .int .i64 p153.2.2.2] := hp 4 rfl
              exact .inl ⟨rfl, .tuple #[.agg #[.slice (slA (vtup (vtup (sl a 111) 0) 0)) p153.1.length (slC (vtup (vtup (sl a 111) 0) 0)), .slice (slA (vtup (vtup (sl a 111) 0) 1)) p153.2.1.length (slC (vtup (vtup (sl a 111) 0) 1)), .slice (slA (vtup (vtup (sl a 111) 0) 2)) p153.2.2.1.length (slC (vtup (vtup (sl a 111) 0) 2))], .int .i64 p153.2.2.2], u, (run_move rfl (ev_sl e111)), rfl, S⟩
            · intro a u X hB hu hp hr hz hl S
              replace S : St w u ([] ++ X) := S
              have e106 : sl a 106 = .tuple #[.agg #[.slice (slA (vtup (vtup (sl a 111) 0) 0)) p153.1.length (slC (vtup (vtup (sl a 111) 0) 0)), .slice (slA (vtup (vtup (sl a 111) 0) 1)) p153.2.1.length (slC (vtup (vtup (sl a 111) 0) 1)), .slice (slA (vtup (vtup (sl a 111) 0) 2)) p153.2.2.1.length (slC (vtup (vtup (sl a 111) 0) 2))], .int .i64 p153.2.2.2] := hp 5 rfl
              exact .inl ⟨rfl, .agg #[.slice (slA (vtup (vtup (sl a 111) 0) 0)) p153.1.length (slC (vtup (vtup (sl a 111) 0) 0)), .slice (slA (vtup (vtup (sl a 111) 0) 1)) p153.2.1.length (slC (vtup (vtup (sl a 111) 0) 1)), .slice (slA (vtup (vtup (sl a 111) 0) 2)) p153.2.2.1.length (slC (vtup (vtup (sl a 111) 0) 2))], u, (run_extract rfl (ev_sl e106) rfl), rfl, S⟩
            · intro a u X hB hu hp hr hz hl S
              replace S : St w u ([] ++ X) := S
              have e106 : sl a 106 = .tuple #[.agg #[.slice (slA (vtup (vtup (sl a 111) 0) 0)) p153.1.length (slC (vtup (vtup (sl a 111) 0) 0)), .slice (slA (vtup (vtup (sl a 111) 0) 1)) p153.2.1.length (slC (vtup (vtup (sl a 111) 0) 1)), .slice (slA (vtup (vtup (sl a 111) 0) 2)) p153.2.2.1.length (slC (vtup (vtup (sl a 111) 0) 2))], .int .i64 p153.2.2.2] := hp 5 rfl
              exact .inl ⟨rfl, .int .i64 p153.2.2.2, u, (run_extract rfl (ev_sl e106) rfl), rfl, S⟩
            · intro a u X hB hu hp hr hz hl S
              replace S : St w u ([] ++ X) := S
              exact .inl ⟨rfl, _, _, (run_allocZ rfl zr26), rfl, S.alloc _ _⟩
            · intro a u X hB hu hp hr hz hl S
              replace S : St w u ([.box (ptB (sl a 12)) 26 #[.slice none 0 0, .slice none 0 0, .slice none 0 0]] ++ X) := S
              have e12 : sl a 12 = .pointer (some ⟨ptB (sl a 12), 0, none⟩) := hp 8 rfl
              have e112 : sl a 112 = .agg #[.slice (slA (vtup (vtup (sl a 111) 0) 0)) p153.1.length (slC (vtup (vtup (sl a 111) 0) 0)), .slice (slA (vtup (vtup (sl a 111) 0) 1)) p153.2.1.length (slC (vtup (vtup (sl a 111) 0) 1)), .slice (slA (vtup (vtup (sl a 111) 0) 2)) p153.2.2.1.length (slC (vtup (vtup (sl a 111) 0) 2))] := hp 6 rfl
              exact .inr (.inl ⟨rfl, _, run_store (cs' := #[.slice (slA (vtup (vtup (sl a 111) 0) 0)) p153.1.length (slC (vtup (vtup (sl a 111) 0) 0)), .slice (slA (vtup (vtup (sl a 111) 0) 1)) p153.2.1.length (slC (vtup (vtup (sl a 111) 0) 1)), .slice (slA (vtup (vtup (sl a 111) 0) 2)) p153.2.2.1.length (slC (vtup (vtup (sl a 111) 0) 2))]) rfl sz26 (ev_sl e12) (ev_sl e112) rfl rfl rfl (S.free 0 rfl) rfl rfl, trivial, S.put 0 rfl (#[.slice (slA (vtup (vtup (sl a 111) 0) 0)) p153.1.length (slC (vtup (vtup (sl a 111) 0) 0)), .slice (slA (vtup (vtup (sl a 111) 0) 1)) p153.2.1.length (slC (vtup (vtup (sl a 111) 0) 1)), .slice (slA (vtup (vtup (sl a 111) 0) 2)) p153.2.2.1.length (slC (vtup (vtup (sl a 111) 0) 2))])⟩)
            · intro a u X hB hu hp hr hz hl S
              replace S : St w u ([] ++ X) := S
              have e113 : sl a 113 = .int .i64 p153.2.2.2 := hp 7 rfl
              exact .inl ⟨rfl, .int .i64 p153.2.2.2, u, (run_assign rfl (ev_sl e113)), rfl, S⟩
          · intro a u hB hp S
            obtain ⟨q0, q1, q2, q3, q4, q5, q6, q7, q8, q9, q10, _⟩ := hp
            have e107 : sl a 107 = .agg #[.slice B103 p102.1.length d105, .slice B106 p102.2.1.length d108, .slice B109 p102.2.2.1.length d111] := q0
            have e108 : sl a 108 = .slice B112 p102.2.2.2.length d114 := q1
            have e109 : sl a 109 = .int .i64 (w64 (Int.tdiv (p102.2.2.2.length : Int) 2)) := q2
            have e110 : sl a 110 = .slice (subA d114 ((0 : Int).toNat) 3 B112) ((subL p102.2.2.2 0 (w64 (Int.tdiv (p102.2.2.2.length : Int) 2))).length) (d114 - (0 : Int).toNat) := q3
            have e111 : sl a 111 = .tuple #[.agg #[.slice (slA (vtup (vtup (sl a 111) 0) 0)) p153.1.length (slC (vtup (vtup (sl a 111) 0) 0)), .slice (slA (vtup (vtup (sl a 111) 0) 1)) p153.2.1.length (slC (vtup (vtup (sl a 111) 0) 1)), .slice (slA (vtup (vtup (sl a 111) 0) 2)) p153.2.2.1.length (slC (vtup (vtup (sl a 111) 0) 2))], .int .i64 p153.2.2.2] := q4
            have e106 : sl a 106 = .tuple #[.agg #[.slice (slA (vtup (vtup (sl a 111) 0) 0)) p153.1.length (slC (vtup (vtup (sl a 111) 0) 0)), .slice (slA (vtup (vtup (sl a 111) 0) 1)) p153.2.1.length (slC (vtup (vtup (sl a 111) 0) 1)), .slice (slA (vtup (vtup (sl a 111) 0) 2)) p153.2.2.1.length (slC (vtup (vtup (sl a 111) 0) 2))], .int .i64 p153.2.2.2] := q5
            have e112 : sl a 112 = .agg #[.slice (slA (vtup (vtup (sl a 111) 0) 0)) p153.1.length (slC (vtup (vtup (sl a 111) 0) 0)), .slice (slA (vtup (vtup (sl a 111) 0) 1)) p153.2.1.length (slC (vtup (vtup (sl a 111) 0) 1)), .slice (slA (vtup (vtup (sl a 111) 0) 2)) p153.2.2.1.length (slC (vtup (vtup (sl a 111) 0) 2))] := q6
            have e113 : sl a 113 = .int .i64 p153.2.2.2 := q7
            have e12 : sl a 12 = .pointer (some ⟨ptB (sl a 12), 0, none⟩) := q8
            have e13 : sl a 13 = .int .i64 p153.2.2.2 := q10
            replace S : St w u [.row 4 1 (.slice (slA (vtup (vtup (sl a 111) 0) 0)) p153.1.length (slC (vtup (vtup (sl a 111) 0) 0))) p153.1.length (p153.1.flatMap eB), .row 4 1 (.slice (slA (vtup (vtup (sl a 111) 0) 1)) p153.2.1.length (slC (vtup (vtup (sl a 111) 0) 1))) p153.2.1.length (p153.2.1.flatMap eB), .row 48 2 (.slice (slA (vtup (vtup (sl a 111) 0) 2)) p153.2.2.1.length (slC (vtup (vtup (sl a 111) 0) 2))) p153.2.2.1.length (p153.2.2.1.flatMap ePermit), .box (ptB (sl a 12)) 26 #[.slice (slA (vtup (vtup (sl a 111) 0) 0)) p153.1.length (slC (vtup (vtup (sl a 111) 0) 0)), .slice (slA (vtup (vtup (sl a 111) 0) 1)) p153.2.1.length (slC (vtup (vtup (sl a 111) 0) 1)), .slice (slA (vtup (vtup (sl a 111) 0) 2)) p153.2.2.1.length (slC (vtup (vtup (sl a 111) 0) 2))], .box g126 26 #[.slice B117 p116.1.length d119, .slice B120 p116.2.1.length d122, .slice B123 p116.2.2.1.length d125], .box g115 26 #[.slice B103 p102.1.length d105, .slice B106 p102.2.1.length d108, .slice B109 p102.2.2.1.length d111], .row 35 3 (.slice B112 p102.2.2.2.length d114) p102.2.2.2.length (p102.2.2.2.flatMap eWorkDeed), .row 4 1 (.slice B117 p116.1.length d119) p116.1.length (p116.1.flatMap eB), .row 4 1 (.slice B120 p116.2.1.length d122) p116.2.1.length (p116.2.1.flatMap eB), .row 48 2 (.slice B123 p116.2.2.1.length d125) p116.2.2.1.length (p116.2.2.1.flatMap ePermit), .row 4 1 (.slice B103 p102.1.length d105) p102.1.length (p102.1.flatMap eB), .row 4 1 (.slice B106 p102.2.1.length d108) p102.2.1.length (p102.2.1.flatMap eB), .row 48 2 (.slice B109 p102.2.2.1.length d111) p102.2.2.1.length (p102.2.2.1.flatMap ePermit)] := S
            clear q0 q1 q2 q3 q4 q5 q6 q7 q8 q9 q10
            generalize slA (vtup (vtup (sl a 111) 0) 0) = B163 at *
            generalize slC (vtup (vtup (sl a 111) 0) 0) = d164 at *
            generalize slA (vtup (vtup (sl a 111) 0) 1) = B165 at *
            generalize slC (vtup (vtup (sl a 111) 0) 1) = d166 at *
            generalize slA (vtup (vtup (sl a 111) 0) 2) = B167 at *
            generalize slC (vtup (vtup (sl a 111) 0) 2) = d168 at *
            generalize ptB (sl a 12) = g169 at *
            have hF := hF.region hB [(107, .agg #[.slice B103 p102.1.length d105, .slice B106 p102.2.1.length d108, .slice B109 p102.2.2.1.length d111]), (108, .slice B112 p102.2.2.2.length d114), (109, .int .i64 (w64 (Int.tdiv (p102.2.2.2.length : Int) 2))), (110, .slice (subA d114 ((0 : Int).toNat) 3 B112) ((subL p102.2.2.2 0 (w64 (Int.tdiv (p102.2.2.2.length : Int) 2))).length) (d114 - (0 : Int).toNat)), (111, .tuple #[.agg #[.slice B163 p153.1.length d164, .slice B165 p153.2.1.length d166, .slice B167 p153.2.2.1.length d168], .int .i64 p153.2.2.2]), (106, .tuple #[.agg #[.slice B163 p153.1.length d164, .slice B165 p153.2.1.length d166, .slice B167 p153.2.2.1.length d168], .int .i64 p153.2.2.2]), (112, .agg #[.slice B163 p153.1.length d164, .slice B165 p153.2.1.length d166, .slice B167 p153.2.2.1.length d168]), (113, .int .i64 p153.2.2.2), (12, .pointer (some ⟨g169, 0, none⟩)), (13, .int .i64 p153.2.2.2)] (allSl_mem ⟨e107, e108, e109, e110, e111, e106, e112, e113, e12, e13, trivial⟩) rfl
            clear hB e107 e108 e109 e110 e111 e106 e112 e113 e12 e13
            refine wp_seq ?_
            obtain ⟨hk170, hM⟩ := chk_ex hM
            replace hk170 := slB_t hk170
            obtain ⟨p171, h171, hM⟩ := bind_ex hM
            refine region_gw (D := [115, 116, 117, 118, 119, 114, 120, 121, 14, 15]) (Lr := [.row 4 1 (.slice B163 p153.1.length d164) p153.1.length (p153.1.flatMap eB), .row 4 1 (.slice B165 p153.2.1.length d166) p153.2.1.length (p153.2.1.flatMap eB), .row 48 2 (.slice B167 p153.2.2.1.length d168) p153.2.2.1.length (p153.2.2.1.flatMap ePermit), .box g169 26 #[.slice B163 p153.1.length d164, .slice B165 p153.2.1.length d166, .slice B167 p153.2.2.1.length d168], .box g126 26 #[.slice B117 p116.1.length d119, .slice B120 p116.2.1.length d122, .slice B123 p116.2.2.1.length d125], .box g115 26 #[.slice B103 p102.1.length d105, .slice B106 p102.2.1.length d108, .slice B109 p102.2.2.1.length d111], .row 35 3 (.slice B112 p102.2.2.2.length d114) p102.2.2.2.length (p102.2.2.2.flatMap eWorkDeed), .row 4 1 (.slice B117 p116.1.length d119) p116.1.length (p116.1.flatMap eB), .row 4 1 (.slice B120 p116.2.1.length d122) p116.2.1.length (p116.2.1.flatMap eB), .row 48 2 (.slice B123 p116.2.2.1.length d125) p116.2.2.1.length (p116.2.2.1.flatMap ePermit), .row 4 1 (.slice B103 p102.1.length d105) p102.1.length (p102.1.flatMap eB), .row 4 1 (.slice B106 p102.2.1.length d108) p102.2.1.length (p102.2.1.flatMap eB), .row 48 2 (.slice B109 p102.2.2.1.length d111) p102.2.2.1.length (p102.2.2.1.flatMap ePermit)]) (deps := (fun | 0 => [115] | 1 => [116] | 2 => [117] | 3 => [118] | 4 => [119] | 5 => [114, 119] | 6 => [120, 119] | 7 => [121] | 8 => [14] | 9 => [14, 119] | 10 => [15] | _ => [])) (rd := (fun _ => [])) (zr := (fun _ => []))
              (φ := fun i vs => match i, vs with | 0, [v115] => v115 = .agg #[.slice B163 p153.1.length d164, .slice B165 p153.2.1.length d166, .slice B167 p153.2.2.1.length d168] | 1, [v116] => v116 = .slice B112 p102.2.2.2.length d114 | 2, [v117] => v117 = .int .i64 (w64 (Int.tdiv (p102.2.2.2.length : Int) 2)) | 3, [v118] => v118 = .slice (subA d114 ((w64 (Int.tdiv (p102.2.2.2.length : Int) 2)).toNat) 3 B112) ((subL p102.2.2.2 (w64 (Int.tdiv (p102.2.2.2.length : Int) 2)) (p102.2.2.2.length : Int)).length) (d114 - (w64 (Int.tdiv (p102.2.2.2.length : Int) 2)).toNat) | 4, [v119] => v119 = .tuple #[.agg #[.slice (slA (vtup (vtup v119 0) 0)) p171.1.length (slC (vtup (vtup v119 0) 0)), .slice (slA (vtup (vtup v119 0) 1)) p171.2.1.length (slC (vtup (vtup v119 0) 1)), .slice (slA (vtup (vtup v119 0) 2)) p171.2.2.1.length (slC (vtup (vtup v119 0) 2))], .int .i64 p171.2.2.2] | 5, [v114, v119] => v114 = .tuple #[.agg #[.slice (slA (vtup (vtup v119 0) 0)) p171.1.length (slC (vtup (vtup v119 0) 0)), .slice (slA (vtup (vtup v119 0) 1)) p171.2.1.length (slC (vtup (vtup v119 0) 1)), .slice (slA (vtup (vtup v119 0) 2)) p171.2.2.1.length (slC (vtup (vtup v119 0) 2))], .int .i64 p171.2.2.2] | 6, [v120, v119] => v120 = .agg #[.slice (slA (vtup (vtup v119 0) 0)) p171.1.length (slC (vtup (vtup v119 0) 0)), .slice (slA (vtup (vtup v119 0) 1)) p171.2.1.length (slC (vtup (vtup v119 0) 1)), .slice (slA (vtup (vtup v119 0) 2)) p171.2.2.1.length (slC (vtup (vtup v119 0) 2))] | 7, [v121] => v121 = .int .i64 p171.2.2.2 | 8, [v14] => v14 = .pointer (some ⟨ptB v14, 0, none⟩) | 10, [v15] => v15 = .int .i64 p171.2.2.2 | _, _ => True)
              (C := fun i vs => match i, vs with | 4, [v119] => [.row 4 1 (.slice (slA (vtup (vtup v119 0) 0)) p171.1.length (slC (vtup (vtup v119 0) 0))) p171.1.length (p171.1.flatMap eB), .row 4 1 (.slice (slA (vtup (vtup v119 0) 1)) p171.2.1.length (slC (vtup (vtup v119 0) 1))) p171.2.1.length (p171.2.1.flatMap eB), .row 48 2 (.slice (slA (vtup (vtup v119 0) 2)) p171.2.2.1.length (slC (vtup (vtup v119 0) 2))) p171.2.2.1.length (p171.2.2.1.flatMap ePermit)] | 8, [v14] => [.box (ptB v14) 26 #[.slice none 0 0, .slice none 0 0, .slice none 0 0]] | 9, [v14, v119] => [.box (ptB v14) 26 #[.slice (slA (vtup (vtup v119 0) 0)) p171.1.length (slC (vtup (vtup v119 0) 0)), .slice (slA (vtup (vtup v119 0) 1)) p171.2.1.length (slC (vtup (vtup v119 0) 1)), .slice (slA (vtup (vtup v119 0) 2)) p171.2.2.1.length (slC (vtup (vtup v119 0) 2))]] | _, _ => [])
              (κ := (fun | 8 => some 9 | _ => none)) (Z := (fun _ => [])) mixed hF (by kernel_rfl) S ?_ ?_
            · refine ⟨?_, ?_, ?_, ?_, ?_, ?_, ?_, ?_, ?_, ?_, ?_, trivial⟩
              · intro a u X hB hu hp hr hz hl S
                replace S : St w u ([] ++ X) := S
                exact .inl ⟨rfl, .agg #[.slice B163 p153.1.length d164, .slice B165 p153.2.1.length d166, .slice B167 p153.2.2.1.length d168], u, (run_loadN rfl ag26 (hF.evB hB rfl rfl) rfl ((gr_box S hl 3 rfl).cells 0 #[.slice B163 p153.1.length d164, .slice B165 p153.2.1.length d166, .slice B167 p153.2.2.1.length d168] rfl)), rfl, S⟩
              · intro a u X hB hu hp hr hz hl S
                replace S : St w u ([] ++ X) := S
                exact .inl ⟨rfl, .slice B112 p102.2.2.2.length d114, u, (run_move rfl (hF.evB hB rfl rfl)), rfl, S⟩
              · intro a u X hB hu hp hr hz hl S
                replace S : St w u ([] ++ X) := S
                exact .inl ⟨rfl, .int .i64 (w64 (Int.tdiv (p102.2.2.2.length : Int) 2)), u, (run_move rfl (hF.evB hB rfl rfl)), rfl, S⟩
              · intro a u X hB hu hp hr hz hl S
                replace S : St w u ([] ++ X) := S
                have e116 : sl a 116 = .slice B112 p102.2.2.2.length d114 := hp 1 rfl
                have e117 : sl a 117 = .int .i64 (w64 (Int.tdiv (p102.2.2.2.length : Int) 2)) := hp 2 rfl
                exact .inl ⟨rfl, .slice (subA d114 ((w64 (Int.tdiv (p102.2.2.2.length : Int) 2)).toNat) 3 B112) ((subL p102.2.2.2 (w64 (Int.tdiv (p102.2.2.2.length : Int) 2)) (p102.2.2.2.length : Int)).length) (d114 - (w64 (Int.tdiv (p102.2.2.2.length : Int) 2)).toNat), u, (run_slicefrom (l := p102.2.2.2) rfl Tryd.underlying43 sz35 (ev_sl e116) (ev_sl e117) hk170 rfl (gr_rc S hl 6 rfl).cap), rfl, S⟩
              · intro a u X hB hu hp hr hz hl S
                replace S : St w u ([] ++ X) := S
                have e115 : sl a 115 = .agg #[.slice B163 p153.1.length d164, .slice B165 p153.2.1.length d166, .slice B167 p153.2.2.1.length d168] := hp 0 rfl
                have e118 : sl a 118 = .slice (subA d114 ((w64 (Int.tdiv (p102.2.2.2.length : Int) 2)).toNat) 3 B112) ((subL p102.2.2.2 (w64 (Int.tdiv (p102.2.2.2.length : Int) 2)) (p102.2.2.2.length : Int)).length) (d114 - (w64 (Int.tdiv (p102.2.2.2.length : Int) 2)).toNat) := hp 3 rfl
                refine .inr (.inr (.inl ⟨rfl, _, _, (run_call (vs := [.agg #[.slice B163 p153.1.length d164, .slice B165 p153.2.1.length d166, .slice B167 p153.2.2.1.length d168], .slice (subA d114 ((w64 (Int.tdiv (p102.2.2.2.length : Int) 2)).toNat) 3 B112) ((subL p102.2.2.2 (w64 (Int.tdiv (p102.2.2.2.length : Int) 2)) (p102.2.2.2.length : Int)).length) (d114 - (w64 (Int.tdiv (p102.2.2.2.length : Int) 2)).toNat)]) rfl rfl co19 ⟨(ev_sl e115), (ev_sl e118), trivial⟩), ?_⟩))
                refine Calls.mono (c_impl_WorkRun (x0 := p153.1) (x1 := p153.2.1) (x2 := p153.2.2.1) (x3 := subL p102.2.2.2 (w64 (Int.tdiv (p102.2.2.2.length : Int) 2)) (p102.2.2.2.length : Int)) ⟨(gr_rc S hl 0 rfl), rfl⟩ ⟨(gr_rc S hl 1 rfl), rfl⟩ ⟨(gr_rc S hl 2 rfl), rfl⟩ ⟨(rc_sub eWorkDeed_len hk170 rfl (gr_rc S hl 6 rfl)), rfl⟩ h171) ?_
                rintro e w1 ⟨B172, n173, d174, B175, n176, d177, B178, n179, d180, rfl, rfl, rfl, rfl, T⟩
                exact ⟨_, rfl, rfl, S.call3 T⟩
              · intro a u X hB hu hp hr hz hl S
                replace S : St w u ([] ++ X) := S
                have e119 : sl a 119 = .tuple #[.agg #[.slice (slA (vtup (vtup (sl a 119) 0) 0)) p171.1.length (slC (vtup (vtup (sl a 119) 0) 0)), .slice (slA (vtup (vtup (sl a 119) 0) 1)) p171.2.1.length (slC (vtup (vtup (sl a 119) 0) 1)), .slice (slA (vtup (vtup (sl a 119) 0) 2)) p171.2.2.1.length (slC (vtup (vtup (sl a 119) 0) 2))], .int .i64 p171.2.2.2] := hp 4 rfl
                exact .inl ⟨rfl, .tuple #[.agg #[.slice (slA (vtup (vtup (sl a 119) 0) 0)) p171.1.length (slC (vtup (vtup (sl a 119) 0) 0)), .slice (slA (vtup (vtup (sl a 119) 0) 1)) p171.2.1.length (slC (vtup (vtup (sl a 119) 0) 1)), .slice (slA (vtup (vtup (sl a 119) 0) 2)) p171.2.2.1.length (slC (vtup (vtup (sl a 119) 0) 2))], .int .i64 p171.2.2.2], u, (run_move rfl (ev_sl e119)), rfl, S⟩
              · intro a u X hB hu hp hr hz hl S
                replace S : St w u ([] ++ X) := S
                have e114 : sl a 114 = .tuple #[.agg #[.slice (slA (vtup (vtup (sl a 119) 0) 0)) p171.1.length (slC (vtup (vtup (sl a 119) 0) 0)), .slice (slA (vtup (vtup (sl a 119) 0) 1)) p171.2.1.length (slC (vtup (vtup (sl a 119) 0) 1)), .slice (slA (vtup (vtup (sl a 119) 0) 2)) p171.2.2.1.length (slC (vtup (vtup (sl a 119) 0) 2))], .int .i64 p171.2.2.2] := hp 5 rfl
                exact .inl ⟨rfl, .agg #[.slice (slA (vtup (vtup (sl a 119) 0) 0)) p171.1.length (slC (vtup (vtup (sl a 119) 0) 0)), .slice (slA (vtup (vtup (sl a 119) 0) 1)) p171.2.1.length (slC (vtup (vtup (sl a 119) 0) 1)), .slice (slA (vtup (vtup (sl a 119) 0) 2)) p171.2.2.1.length (slC (vtup (vtup (sl a 119) 0) 2))], u, (run_extract rfl (ev_sl e114) rfl), rfl, S⟩
              · intro a u X hB hu hp hr hz hl S
                replace S : St w u ([] ++ X) := S
                have e114 : sl a 114 = .tuple #[.agg #[.slice (slA (vtup (vtup (sl a 119) 0) 0)) p171.1.length (slC (vtup (vtup (sl a 119) 0) 0)), .slice (slA (vtup (vtup (sl a 119) 0) 1)) p171.2.1.length (slC (vtup (vtup (sl a 119) 0) 1)), .slice (slA (vtup (vtup (sl a 119) 0) 2)) p171.2.2.1.length (slC (vtup (vtup (sl a 119) 0) 2))], .int .i64 p171.2.2.2] := hp 5 rfl
                exact .inl ⟨rfl, .int .i64 p171.2.2.2, u, (run_extract rfl (ev_sl e114) rfl), rfl, S⟩
              · intro a u X hB hu hp hr hz hl S
                replace S : St w u ([] ++ X) := S
                exact .inl ⟨rfl, _, _, (run_allocZ rfl zr26), rfl, S.alloc _ _⟩
              · intro a u X hB hu hp hr hz hl S
                replace S : St w u ([.box (ptB (sl a 14)) 26 #[.slice none 0 0, .slice none 0 0, .slice none 0 0]] ++ X) := S
                have e14 : sl a 14 = .pointer (some ⟨ptB (sl a 14), 0, none⟩) := hp 8 rfl
                have e120 : sl a 120 = .agg #[.slice (slA (vtup (vtup (sl a 119) 0) 0)) p171.1.length (slC (vtup (vtup (sl a 119) 0) 0)), .slice (slA (vtup (vtup (sl a 119) 0) 1)) p171.2.1.length (slC (vtup (vtup (sl a 119) 0) 1)), .slice (slA (vtup (vtup (sl a 119) 0) 2)) p171.2.2.1.length (slC (vtup (vtup (sl a 119) 0) 2))] := hp 6 rfl
                exact .inr (.inl ⟨rfl, _, run_store (cs' := #[.slice (slA (vtup (vtup (sl a 119) 0) 0)) p171.1.length (slC (vtup (vtup (sl a 119) 0) 0)), .slice (slA (vtup (vtup (sl a 119) 0) 1)) p171.2.1.length (slC (vtup (vtup (sl a 119) 0) 1)), .slice (slA (vtup (vtup (sl a 119) 0) 2)) p171.2.2.1.length (slC (vtup (vtup (sl a 119) 0) 2))]) rfl sz26 (ev_sl e14) (ev_sl e120) rfl rfl rfl (S.free 0 rfl) rfl rfl, trivial, S.put 0 rfl (#[.slice (slA (vtup (vtup (sl a 119) 0) 0)) p171.1.length (slC (vtup (vtup (sl a 119) 0) 0)), .slice (slA (vtup (vtup (sl a 119) 0) 1)) p171.2.1.length (slC (vtup (vtup (sl a 119) 0) 1)), .slice (slA (vtup (vtup (sl a 119) 0) 2)) p171.2.2.1.length (slC (vtup (vtup (sl a 119) 0) 2))])⟩)
              · intro a u X hB hu hp hr hz hl S
                replace S : St w u ([] ++ X) := S
                have e121 : sl a 121 = .int .i64 p171.2.2.2 := hp 7 rfl
                exact .inl ⟨rfl, .int .i64 p171.2.2.2, u, (run_assign rfl (ev_sl e121)), rfl, S⟩
            · intro a u hB hp S
              obtain ⟨q0, q1, q2, q3, q4, q5, q6, q7, q8, q9, q10, _⟩ := hp
              have e115 : sl a 115 = .agg #[.slice B163 p153.1.length d164, .slice B165 p153.2.1.length d166, .slice B167 p153.2.2.1.length d168] := q0
              have e116 : sl a 116 = .slice B112 p102.2.2.2.length d114 := q1
              have e117 : sl a 117 = .int .i64 (w64 (Int.tdiv (p102.2.2.2.length : Int) 2)) := q2
              have e118 : sl a 118 = .slice (subA d114 ((w64 (Int.tdiv (p102.2.2.2.length : Int) 2)).toNat) 3 B112) ((subL p102.2.2.2 (w64 (Int.tdiv (p102.2.2.2.length : Int) 2)) (p102.2.2.2.length : Int)).length) (d114 - (w64 (Int.tdiv (p102.2.2.2.length : Int) 2)).toNat) := q3
              have e119 : sl a 119 = .tuple #[.agg #[.slice (slA (vtup (vtup (sl a 119) 0) 0)) p171.1.length (slC (vtup (vtup (sl a 119) 0) 0)), .slice (slA (vtup (vtup (sl a 119) 0) 1)) p171.2.1.length (slC (vtup (vtup (sl a 119) 0) 1)), .slice (slA (vtup (vtup (sl a 119) 0) 2)) p171.2.2.1.length (slC (vtup (vtup (sl a 119) 0) 2))], .int .i64 p171.2.2.2] := q4
              have e114 : sl a 114 = .tuple #[.agg #[.slice (slA (vtup (vtup (sl a 119) 0) 0)) p171.1.length (slC (vtup (vtup (sl a 119) 0) 0)), .slice (slA (vtup (vtup (sl a 119) 0) 1)) p171.2.1.length (slC (vtup (vtup (sl a 119) 0) 1)), .slice (slA (vtup (vtup (sl a 119) 0) 2)) p171.2.2.1.length (slC (vtup (vtup (sl a 119) 0) 2))], .int .i64 p171.2.2.2] := q5
              have e120 : sl a 120 = .agg #[.slice (slA (vtup (vtup (sl a 119) 0) 0)) p171.1.length (slC (vtup (vtup (sl a 119) 0) 0)), .slice (slA (vtup (vtup (sl a 119) 0) 1)) p171.2.1.length (slC (vtup (vtup (sl a 119) 0) 1)), .slice (slA (vtup (vtup (sl a 119) 0) 2)) p171.2.2.1.length (slC (vtup (vtup (sl a 119) 0) 2))] := q6
              have e121 : sl a 121 = .int .i64 p171.2.2.2 := q7
              have e14 : sl a 14 = .pointer (some ⟨ptB (sl a 14), 0, none⟩) := q8
              have e15 : sl a 15 = .int .i64 p171.2.2.2 := q10
              replace S : St w u [.row 4 1 (.slice (slA (vtup (vtup (sl a 119) 0) 0)) p171.1.length (slC (vtup (vtup (sl a 119) 0) 0))) p171.1.length (p171.1.flatMap eB), .row 4 1 (.slice (slA (vtup (vtup (sl a 119) 0) 1)) p171.2.1.length (slC (vtup (vtup (sl a 119) 0) 1))) p171.2.1.length (p171.2.1.flatMap eB), .row 48 2 (.slice (slA (vtup (vtup (sl a 119) 0) 2)) p171.2.2.1.length (slC (vtup (vtup (sl a 119) 0) 2))) p171.2.2.1.length (p171.2.2.1.flatMap ePermit), .box (ptB (sl a 14)) 26 #[.slice (slA (vtup (vtup (sl a 119) 0) 0)) p171.1.length (slC (vtup (vtup (sl a 119) 0) 0)), .slice (slA (vtup (vtup (sl a 119) 0) 1)) p171.2.1.length (slC (vtup (vtup (sl a 119) 0) 1)), .slice (slA (vtup (vtup (sl a 119) 0) 2)) p171.2.2.1.length (slC (vtup (vtup (sl a 119) 0) 2))], .row 4 1 (.slice B163 p153.1.length d164) p153.1.length (p153.1.flatMap eB), .row 4 1 (.slice B165 p153.2.1.length d166) p153.2.1.length (p153.2.1.flatMap eB), .row 48 2 (.slice B167 p153.2.2.1.length d168) p153.2.2.1.length (p153.2.2.1.flatMap ePermit), .box g169 26 #[.slice B163 p153.1.length d164, .slice B165 p153.2.1.length d166, .slice B167 p153.2.2.1.length d168], .box g126 26 #[.slice B117 p116.1.length d119, .slice B120 p116.2.1.length d122, .slice B123 p116.2.2.1.length d125], .box g115 26 #[.slice B103 p102.1.length d105, .slice B106 p102.2.1.length d108, .slice B109 p102.2.2.1.length d111], .row 35 3 (.slice B112 p102.2.2.2.length d114) p102.2.2.2.length (p102.2.2.2.flatMap eWorkDeed), .row 4 1 (.slice B117 p116.1.length d119) p116.1.length (p116.1.flatMap eB), .row 4 1 (.slice B120 p116.2.1.length d122) p116.2.1.length (p116.2.1.flatMap eB), .row 48 2 (.slice B123 p116.2.2.1.length d125) p116.2.2.1.length (p116.2.2.1.flatMap ePermit), .row 4 1 (.slice B103 p102.1.length d105) p102.1.length (p102.1.flatMap eB), .row 4 1 (.slice B106 p102.2.1.length d108) p102.2.1.length (p102.2.1.flatMap eB), .row 48 2 (.slice B109 p102.2.2.1.length d111) p102.2.2.1.length (p102.2.2.1.flatMap ePermit)] := S
              clear q0 q1 q2 q3 q4 q5 q6 q7 q8 q9 q10
              generalize slA (vtup (vtup (sl a 119) 0) 0) = B181 at *
              generalize slC (vtup (vtup (sl a 119) 0) 0) = d182 at *
              generalize slA (vtup (vtup (sl a 119) 0) 1) = B183 at *
              generalize slC (vtup (vtup (sl a 119) 0) 1) = d184 at *
              generalize slA (vtup (vtup (sl a 119) 0) 2) = B185 at *
              generalize slC (vtup (vtup (sl a 119) 0) 2) = d186 at *
              generalize ptB (sl a 14) = g187 at *
              have hF := hF.region hB [(115, .agg #[.slice B163 p153.1.length d164, .slice B165 p153.2.1.length d166, .slice B167 p153.2.2.1.length d168]), (116, .slice B112 p102.2.2.2.length d114), (117, .int .i64 (w64 (Int.tdiv (p102.2.2.2.length : Int) 2))), (118, .slice (subA d114 ((w64 (Int.tdiv (p102.2.2.2.length : Int) 2)).toNat) 3 B112) ((subL p102.2.2.2 (w64 (Int.tdiv (p102.2.2.2.length : Int) 2)) (p102.2.2.2.length : Int)).length) (d114 - (w64 (Int.tdiv (p102.2.2.2.length : Int) 2)).toNat)), (119, .tuple #[.agg #[.slice B181 p171.1.length d182, .slice B183 p171.2.1.length d184, .slice B185 p171.2.2.1.length d186], .int .i64 p171.2.2.2]), (114, .tuple #[.agg #[.slice B181 p171.1.length d182, .slice B183 p171.2.1.length d184, .slice B185 p171.2.2.1.length d186], .int .i64 p171.2.2.2]), (120, .agg #[.slice B181 p171.1.length d182, .slice B183 p171.2.1.length d184, .slice B185 p171.2.2.1.length d186]), (121, .int .i64 p171.2.2.2), (14, .pointer (some ⟨g187, 0, none⟩)), (15, .int .i64 p171.2.2.2)] (allSl_mem ⟨e115, e116, e117, e118, e119, e114, e120, e121, e14, e15, trivial⟩) rfl
              clear hB e115 e116 e117 e118 e119 e114 e120 e121 e14 e15
              refine wp_seq ?_
              refine wp_region_lit ?_
              refine op_val (v := .agg #[.slice B117 p116.1.length d119, .slice B120 p116.2.1.length d122, .slice B123 p116.2.2.1.length d125]) rfl rfl hF rfl (run_loadN rfl ag26 (hF.ev rfl) rfl ((S.free 8 rfl).cells 0 #[.slice B117 p116.1.length d119, .slice B120 p116.2.1.length d122, .slice B123 p116.2.2.1.length d125] rfl)) ?_; clear hF; intro a hF
              obtain ⟨p188, h188, hM⟩ := bind_ex hM
              refine op_call rfl rfl hF rfl (run_call (vs := [.agg #[.slice B117 p116.1.length d119, .slice B120 p116.2.1.length d122, .slice B123 p116.2.2.1.length d125]]) rfl rfl co17 ⟨(hF.ev rfl), trivial⟩) (c_impl_WorkValid (x0 := p116.1) (x1 := p116.2.1) (x2 := p116.2.2.1) ⟨(S.rc 11 rfl), rfl⟩ ⟨(S.rc 12 rfl), rfl⟩ ⟨(S.rc 13 rfl), rfl⟩ h188) ?_
              rintro e u ⟨rfl, T⟩
              refine ⟨_, rfl, ?_⟩
              clear hF; intro a hF
              replace S := S.call0 T; clear T
              refine op_val (v := .bool p188) rfl rfl hF rfl (run_move rfl (hF.ev rfl)) ?_; clear hF; intro a hF
              refine op_gv (v := .agg #[.slice B181 p171.1.length d182, .slice B183 p171.2.1.length d184, .slice B185 p171.2.2.1.length d186]) rfl rfl hF rfl (yt (gw_yield hF rfl rfl rfl)) (fun hg => (run_loadN rfl ag26 (hF.ev rfl) rfl ((S.free 3 rfl).cells 0 #[.slice B181 p171.1.length d182, .slice B183 p171.2.1.length d184, .slice B185 p171.2.2.1.length d186] rfl))) ?_; clear hF; intro a hF
              refine op_gv (v := .agg #[.slice B117 p116.1.length d119, .slice B120 p116.2.1.length d122, .slice B123 p116.2.2.1.length d125]) rfl rfl hF rfl (yt (gw_yield hF rfl rfl rfl)) (fun hg => (run_loadN rfl ag26 (hF.ev rfl) rfl ((S.free 8 rfl).cells 0 #[.slice B117 p116.1.length d119, .slice B120 p116.2.1.length d122, .slice B123 p116.2.2.1.length d125] rfl))) ?_; clear hF; intro a hF
              obtain ⟨p189, h189, hM⟩ := bind_ex hM
              refine op_gcall (v := .bool p189) rfl rfl hF rfl S (yt (gw_yield hF rfl rfl rfl)) (fun hg => (run_call (vs := [.agg #[.slice B181 p171.1.length d182, .slice B183 p171.2.1.length d184, .slice B185 p171.2.2.1.length d186], .agg #[.slice B117 p116.1.length d119, .slice B120 p116.2.1.length d122, .slice B123 p116.2.2.1.length d125]]) rfl rfl co16 ⟨((hF.ev rfl).trans (gv_t hg)), ((hF.ev rfl).trans (gv_t hg)), trivial⟩)) (fun hg => c_laws_sameWork (x0 := p171.1) (x1 := p171.2.1) (x2 := p171.2.2.1) (x3 := p116.1) (x4 := p116.2.1) (x5 := p116.2.2.1) ⟨(S.rc 0 rfl), rfl⟩ ⟨(S.rc 1 rfl), rfl⟩ ⟨(S.rc 2 rfl), rfl⟩ ⟨(S.rc 11 rfl), rfl⟩ ⟨(S.rc 12 rfl), rfl⟩ ⟨(S.rc 13 rfl), rfl⟩ (gb_t h189 hg)) ?_; clear hF S; intro a u hF S
              refine op_val (v := .bool (p188 && p189)) rfl rfl hF rfl (run_pick_and rfl (hF.ev rfl) (fun hp => ((hF.ev rfl).trans (gv_t hp))) rfl) ?_; clear hF; intro a hF
              refine op_val (v := .bool (p188 && p189)) rfl rfl hF rfl (run_move rfl (hF.ev rfl)) ?_; clear hF; intro a hF
              refine op_gv (v := .int .i64 p153.2.2.2) rfl rfl hF rfl (yt (gw_yield hF rfl rfl rfl)) (fun hg => (run_move rfl (hF.ev rfl))) ?_; clear hF; intro a hF
              refine op_gv (v := .int .i64 p171.2.2.2) rfl rfl hF rfl (yt (gw_yield hF rfl rfl rfl)) (fun hg => (run_move rfl (hF.ev rfl))) ?_; clear hF; intro a hF
              refine op_gv (v := .int .i64 (w64 (p153.2.2.2 + p171.2.2.2))) rfl rfl hF rfl (yt (gw_yield hF rfl rfl rfl)) (fun hg => (run_add (z := w64 (p153.2.2.2 + p171.2.2.2)) ((hF.ev rfl).trans (gv_t hg)) ((hF.ev rfl).trans (gv_t hg)) rfl rfl)) ?_; clear hF; intro a hF
              refine op_gv (v := .int .i64 p116.2.2.2) rfl rfl hF rfl (yt (gw_yield hF rfl rfl rfl)) (fun hg => (run_move rfl (hF.ev rfl))) ?_; clear hF; intro a hF
              refine op_gv (v := .bool ((w64 (p153.2.2.2 + p171.2.2.2)) == p116.2.2.2)) rfl rfl hF rfl (yt (gw_yield hF rfl rfl rfl)) (fun hg => (run_eql ((hF.ev rfl).trans (gv_t hg)) ((hF.ev rfl).trans (gv_t hg)) rfl)) ?_; clear hF; intro a hF
              refine op_val (v := .bool ((p188 && p189) && ((w64 (p153.2.2.2 + p171.2.2.2)) == p116.2.2.2))) rfl rfl hF rfl (run_pick_and rfl (hF.ev rfl) (fun hp => ((hF.ev rfl).trans (gv_t hp))) rfl) ?_; clear hF; intro a hF
              refine op_val (v := .bool ((p188 && p189) && ((w64 (p153.2.2.2 + p171.2.2.2)) == p116.2.2.2))) rfl rfl hF rfl (run_assign rfl (hF.ev rfl)) ?_; clear hF; intro a hF
              refine wpList_nil ?_
              refine wp_ret ?_
              repeat with_reducible (first | refine then_ret ?_ | refine in_ret ?_ | refine in_nrm ?_)
              refine ret1_gw (.inl rfl) hF rfl (res_tmp (hF.ev rfl)) ?_
              obtain rfl := Option.some.inj hM
              exact ⟨rfl, S.sel [] rfl rfl⟩
    · replace hM := bif_t hc139 hM
      refine cond_t hF rfl hc139 ?_
      refine wp_seq ?_
      refine wp_region_lit ?_
      refine op_val (v := .bool false) rfl rfl hF rfl (run_assign rfl rfl) ?_; clear hF; intro a hF
      refine wpList_nil ?_
      refine wp_ret ?_
      repeat with_reducible (first | refine then_ret ?_ | refine in_ret ?_ | refine in_nrm ?_)
      refine ret1_gw (.inl rfl) hF rfl (res_tmp (hF.ev rfl)) ?_
      obtain rfl := Option.some.inj hM
      exact ⟨rfl, S.sel [] rfl rfl⟩
  · replace hM := bif_t hc101 hM
    refine cond_t hF rfl hc101 ?_
    refine wp_seq ?_
    refine wp_region_lit ?_
    refine op_val (v := .bool true) rfl rfl hF rfl (run_assign rfl rfl) ?_; clear hF; intro a hF
    refine wpList_nil ?_
    refine wp_ret ?_
    repeat with_reducible (first | refine then_ret ?_ | refine in_ret ?_ | refine in_nrm ?_)
    refine ret1_gw (.inl rfl) hF rfl (res_tmp (hF.ev rfl)) ?_
    obtain rfl := Option.some.inj hM
    exact ⟨rfl, S.sel [] rfl rfl⟩

end Go.Proofs.YtnoeliaefhldmaaDoor
