/- Calls return what the models say. -/
import Derived.Test.YtcmnjaccapbhfaaQSq
import Derived.Test.YtcmnjaccapbhfaaQDa4
namespace Go.Proofs.Ytcmnjaccapbhfaa
open Go.ChangeShapes Go.WideShapes Go.ChangeAt Go.RowKit
set_option linter.unusedVariables false
set_option maxHeartbeats 4000000
set_option linter.unusedSimpArgs false
theorem c_laws_eqBoolS {x0 : List Bool} {x1 : List Bool} {A0 : Option Addr} {n0 c0 : Nat} {A1 : Option Addr} {n1 c1 : Nat} {w : World} {r : Bool} (h0 : Rt w 1 eB A0 n0 c0 x0) (h1 : Rt w 1 eB A1 n1 c1 x1) (hM : m_laws_eqBoolS x0 x1 = some r) :
    Calls Try.prog 60 #[.slice A0 n0 c0, .slice A1 n1 c1] w (fun e w' => e = .returned (.bool r) ∧ St w w' []) := by
  obtain rfl := h0.len
  obtain rfl := h1.len
  unfold m_laws_eqBoolS at hM
  refine calls_gw Try.func60 Try.ntmps60 rfl [(0, .slice A0 x0.length c0), (1, .slice A1 x1.length c1)] ⟨rfl, rfl, trivial⟩ rfl ?_
  intro a hF
  have S := St.nil w
  revert a;refine sr (ov (v := .bool false) rfl rfl rfl (fun a hF=>run_assign rfl rfl) fun a hF=>wn ?_)
  refine ws ?_
  revert a;refine sr (mv rfl rfl (ov rfl rfl rfl (fun a hF=>run_lenL rfl rfl Try.underlying26 (hF.ev rfl)) (mv rfl rfl (ov rfl rfl rfl (fun a hF=>run_lenL rfl rfl Try.underlying26 (hF.ev rfl)) (ov (v := .bool ((x0.length : Int) != (x1.length : Int))) rfl rfl rfl (fun a hF=>run_neq (hF.ev rfl) (hF.ev rfl) rfl) fun a hF=>wn ?_)))))
  cases hc101 : ((x0.length : Int) != (x1.length : Int))
  · replace hM := bif_f hc101 hM
    refine cond_f hF rfl hc101 ?_
    refine wp_skip ?_
    refine ws ?_
    revert a;refine sr (ov (v := .int .i64 0) rfl rfl rfl (fun a hF=>run_assign rfl rfl) fun a hF=>wn ?_)
    obtain ⟨o103, hM104, hM⟩ := bind_ex hM
    refine wp_cut (fun a u => ∃ (p102 : Unit), (Sum.inl p102) = o103 ∧ Fr a 26 [(4, .bool false)] ∧ St w u []) ?_ ?_
    · have _ := trivial
      refine wp_block ?_
      refine loop_gw (fun m a u => ∃ (p105 : Int), m_laws_eqBoolS_l1 x0 x1 m p105 = some _ ∧ Fr a 26 [(0, .slice A0 x0.length c0), (1, .slice A1 x1.length c1), (4, .bool false), (5, .int .i64 p105)] ∧ St w u []) FUEL ⟨0, hM104, hF.keep _ ⟨rfl, rfl, rfl, rfl, trivial⟩, S.sel [] rfl rfl⟩ ?_
      clear hF S hM104; rintro m a u ⟨p105, hM104, hF, S⟩
      rcases m with _ | f1
      · exact none_some hM104
      rw [m_laws_eqBoolS_l1.eq_2] at hM104
      refine ws ?_
      revert a;refine sr (mv rfl rfl (mv rfl rfl (ov rfl rfl rfl (fun a hF=>run_lenL rfl rfl Try.underlying26 (hF.ev rfl)) (ov (v := .bool (ltB p105 (x0.length : Int))) rfl rfl rfl (fun a hF=>run_lss (hF.ev rfl) (hF.ev rfl) rfl) fun a hF=>wn ?_))))
      cases hc106 : (ltB p105 (x0.length : Int))
      · replace hM104 := bif_f hc106 hM104
        refine cond_f hF rfl hc106 ?_
        refine wp_exit ?_
        repeat with_reducible (first | refine then_exit ?_ | refine in_hit ?_ | refine in_miss rfl ?_)
        obtain rfl := Option.some.inj hM104
        exact ⟨(), rfl, hF.keep _ ⟨rfl, trivial⟩, S.sel [] rfl rfl⟩
      replace hM104 := bif_t hc106 hM104
      refine cond_t hF rfl hc106 ?_
      refine wp_skip ?_
      refine ws ?_
      refine wp_block ?_
      refine ws ?_
      obtain ⟨hk107, hM104⟩ := chk_ex hM104
      replace hk107 := ixB_t hk107
      obtain ⟨hk108, hM104⟩ := chk_ex hM104
      replace hk108 := ixB_t hk108
      refine region_gw (D := [17, 18, 19, 20, 21, 22, 23, 24, 25]) (Lr := []) (deps := (fun | 0 => [17] | 1 => [18] | 2 => [19] | 3 => [20] | 4 => [21] | 5 => [22] | 6 => [23] | 7 => [24] | 8 => [25] | _ => [])) (rd := (fun _ => [])) (zr := (fun _ => []))
        (φ := fun i vs => match i, vs with | 0, [v17] => v17 = .slice A0 x0.length c0 | 1, [v18] => v18 = .int .i64 p105 | 2, [v19] => v19 = .pointer (some ⟨adB A0, adO A0 + p105.toNat * 1, none⟩) | 3, [v20] => v20 = .bool (x0.getD p105.toNat false) | 4, [v21] => v21 = .slice A1 x1.length c1 | 5, [v22] => v22 = .int .i64 p105 | 6, [v23] => v23 = .pointer (some ⟨adB A1, adO A1 + p105.toNat * 1, none⟩) | 7, [v24] => v24 = .bool (x1.getD p105.toNat false) | 8, [v25] => v25 = .bool ((x0.getD p105.toNat false) != (x1.getD p105.toNat false)) | _, _ => True)
        (C := fun _ _ => [])
        (κ := (fun _ => none)) (Z := (fun _ => [])) mixed hF (by kernel_rfl) S ?_ ?_
      · refine ⟨?_, ?_, ?_, ?_, ?_, ?_, ?_, ?_, ?_, trivial⟩
        · intro a u X hB hu hp hr hz hl S
          replace S : St w u ([] ++ X) := S
          exact .inl ⟨rfl, .slice A0 x0.length c0, u, (run_move rfl (hF.evB hB rfl rfl)), rfl, S⟩
        · intro a u X hB hu hp hr hz hl S
          replace S : St w u ([] ++ X) := S
          exact .inl ⟨rfl, .int .i64 p105, u, (run_move rfl (hF.evB hB rfl rfl)), rfl, S⟩
        · intro a u X hB hu hp hr hz hl S
          replace S : St w u ([] ++ X) := S
          have e17 : sl a 17 = .slice A0 x0.length c0 := hp 0 rfl
          have e18 : sl a 18 = .int .i64 p105 := hp 1 rfl
          exact .inl ⟨rfl, .pointer (some ⟨adB A0, adO A0 + p105.toNat * 1, none⟩), u, (run_indexAddr (b := adB A0) (off := adO A0) rfl Try.underlying26 sz4 ((ev_sl e17).trans (congrArg (fun A => Value.slice A x0.length c0) ((S.rc0 h0.rc).rd.ad (ix_pos hk107)))) (ev_sl e18) hk107.1 hk107.2 (k' := adO A0 + p105.toNat * 1) rfl), rfl, S⟩
        · intro a u X hB hu hp hr hz hl S
          replace S : St w u ([] ++ X) := S
          have e19 : sl a 19 = .pointer (some ⟨adB A0, adO A0 + p105.toNat * 1, none⟩) := hp 2 rfl
          exact .inl ⟨rfl, .bool (x0.getD p105.toNat false), u, (run_load1 rfl one4 (ev_sl e19) (rd_el0 (l := x0) (S.rc0 h0.rc).rd rfl eB_len false (ix_ltn hk107 rfl) rfl)), rfl, S⟩
        · intro a u X hB hu hp hr hz hl S
          replace S : St w u ([] ++ X) := S
          exact .inl ⟨rfl, .slice A1 x1.length c1, u, (run_move rfl (hF.evB hB rfl rfl)), rfl, S⟩
        · intro a u X hB hu hp hr hz hl S
          replace S : St w u ([] ++ X) := S
          exact .inl ⟨rfl, .int .i64 p105, u, (run_move rfl (hF.evB hB rfl rfl)), rfl, S⟩
        · intro a u X hB hu hp hr hz hl S
          replace S : St w u ([] ++ X) := S
          have e21 : sl a 21 = .slice A1 x1.length c1 := hp 4 rfl
          have e22 : sl a 22 = .int .i64 p105 := hp 5 rfl
          exact .inl ⟨rfl, .pointer (some ⟨adB A1, adO A1 + p105.toNat * 1, none⟩), u, (run_indexAddr (b := adB A1) (off := adO A1) rfl Try.underlying26 sz4 ((ev_sl e21).trans (congrArg (fun A => Value.slice A x1.length c1) ((S.rc0 h1.rc).rd.ad (ix_pos hk108)))) (ev_sl e22) hk108.1 hk108.2 (k' := adO A1 + p105.toNat * 1) rfl), rfl, S⟩
        · intro a u X hB hu hp hr hz hl S
          replace S : St w u ([] ++ X) := S
          have e23 : sl a 23 = .pointer (some ⟨adB A1, adO A1 + p105.toNat * 1, none⟩) := hp 6 rfl
          exact .inl ⟨rfl, .bool (x1.getD p105.toNat false), u, (run_load1 rfl one4 (ev_sl e23) (rd_el0 (l := x1) (S.rc0 h1.rc).rd rfl eB_len false (ix_ltn hk108 rfl) rfl)), rfl, S⟩
        intro a u X hB hu hp hr hz hl S
        replace S : St w u ([] ++ X) := S
        have e20 : sl a 20 = .bool (x0.getD p105.toNat false) := hp 3 rfl
        have e24 : sl a 24 = .bool (x1.getD p105.toNat false) := hp 7 rfl
        exact .inl ⟨rfl, .bool ((x0.getD p105.toNat false) != (x1.getD p105.toNat false)), u, (run_neqB (ev_sl e20) (ev_sl e24) Try.underlying4 rfl), rfl, S⟩
      intro a u hB hp S
      obtain ⟨q0, q1, q2, q3, q4, q5, q6, q7, q8, -⟩ := hp
      have e17 : sl a 17 = .slice A0 x0.length c0 := q0
      have e18 : sl a 18 = .int .i64 p105 := q1
      have e19 : sl a 19 = .pointer (some ⟨adB A0, adO A0 + p105.toNat * 1, none⟩) := q2
      have e20 : sl a 20 = .bool (x0.getD p105.toNat false) := q3
      have e21 : sl a 21 = .slice A1 x1.length c1 := q4
      have e22 : sl a 22 = .int .i64 p105 := q5
      have e23 : sl a 23 = .pointer (some ⟨adB A1, adO A1 + p105.toNat * 1, none⟩) := q6
      have e24 : sl a 24 = .bool (x1.getD p105.toNat false) := q7
      have e25 : sl a 25 = .bool ((x0.getD p105.toNat false) != (x1.getD p105.toNat false)) := q8
      replace S : St w u [] := S
      clear q0 q1 q2 q3 q4 q5 q6 q7 q8
      have hF := hF.region hB [(17, .slice A0 x0.length c0), (18, .int .i64 p105), (19, .pointer (some ⟨adB A0, adO A0 + p105.toNat * 1, none⟩)), (20, .bool (x0.getD p105.toNat false)), (21, .slice A1 x1.length c1), (22, .int .i64 p105), (23, .pointer (some ⟨adB A1, adO A1 + p105.toNat * 1, none⟩)), (24, .bool (x1.getD p105.toNat false)), (25, .bool ((x0.getD p105.toNat false) != (x1.getD p105.toNat false)))] (allSl_mem ⟨e17, e18, e19, e20, e21, e22, e23, e24, e25, trivial⟩) rfl
      clear hB e17 e18 e19 e20 e21 e22 e23 e24 e25
      cases hc109 : ((x0.getD p105.toNat false) != (x1.getD p105.toNat false))
      · replace hM104 := bif_f hc109 hM104
        refine cond_f hF rfl hc109 ?_
        refine wp_skip ?_
        revert a;refine rl (mv rfl rfl (ov (v := .int .i64 (w64 (p105 + 1))) rfl rfl rfl (fun a hF=>run_add (z := w64 (p105 + 1)) (hF.ev rfl) rfl rfl rfl) (ag rfl rfl fun a hF=>wn ?_)))
        exact ⟨f1, Nat.lt_succ_self _, w64 (p105 + 1), hM104, hF.keep _ ⟨rfl, rfl, rfl, rfl, trivial⟩, S.sel [] rfl rfl⟩
      replace hM104 := bif_t hc109 hM104
      refine cond_t hF rfl hc109 ?_
      revert a;refine sr (ov (v := .bool false) rfl rfl rfl (fun a hF=>run_assign rfl rfl) fun a hF=>wn ?_)
      refine wp_ret ?_
      repeat with_reducible first|refine tr ?_|refine ir ?_|refine nr ?_
      refine ret1_gw (.inl rfl) hF rfl (res_tmp (hF.ev rfl)) ?_
      obtain rfl := Option.some.inj hM104
      obtain rfl := Option.some.inj hM
      exact ⟨rfl, S.sel [] rfl rfl⟩
    rintro a u ⟨p102, rfl, hF, S⟩
    replace hM := elim_l hM
    revert a;refine sr (ov (v := .bool true) rfl rfl rfl (fun a hF=>run_assign rfl rfl) fun a hF=>wn ?_)
    refine wp_ret ?_
    repeat with_reducible first|refine tr ?_|refine ir ?_|refine nr ?_
    refine ret1_gw (.inl rfl) hF rfl (res_tmp (hF.ev rfl)) ?_
    obtain rfl := Option.some.inj hM
    exact ⟨rfl, S.sel [] rfl rfl⟩
  replace hM := bif_t hc101 hM
  refine cond_t hF rfl hc101 ?_
  revert a;refine sr (ov (v := .bool false) rfl rfl rfl (fun a hF=>run_assign rfl rfl) fun a hF=>wn ?_)
  refine wp_ret ?_
  repeat with_reducible first|refine tr ?_|refine ir ?_|refine nr ?_
  refine ret1_gw (.inl rfl) hF rfl (res_tmp (hF.ev rfl)) ?_
  obtain rfl := Option.some.inj hM
  exact ⟨rfl, S.sel [] rfl rfl⟩
theorem c_laws_eqPermit {x0 : Int} {x1 : Int} {x2 : Int} {x3 : Int} {w : World} {r : Bool}  (hM : m_laws_eqPermit x0 x1 x2 x3 = some r) :
    Calls Try.prog 81 #[.agg #[.int .i64 x0, .int .i64 x1], .agg #[.int .i64 x2, .int .i64 x3]] w (fun e w' => e = .returned (.bool r) ∧ St w w' []) := by
  unfold m_laws_eqPermit at hM
  refine calls_gw Try.func81 Try.ntmps81 rfl [(0, .agg #[.int .i64 x0, .int .i64 x1]), (1, .agg #[.int .i64 x2, .int .i64 x3])] ⟨rfl, rfl, trivial⟩ rfl ?_
  intro a hF
  have S := St.nil w
  refine wsg ?_
  refine op_new (cs := #[.int .i64 x0, .int .i64 x1]) rfl rfl hF rfl S (run_box rfl (hF.ev rfl) rfl) ?_; clear hF S; intro a g101 u hF S
  refine op_new (cs := #[.int .i64 x2, .int .i64 x3]) rfl rfl hF rfl S (run_box rfl (hF.ev rfl) rfl) ?_; clear hF S; intro a g102 u hF S
  refine op_val (v := .bool false) rfl rfl hF rfl (run_assign rfl rfl) ?_;clear hF;intro a hF
  refine wn ?_
  refine ws ?_
  revert a;refine sr (ov (v := .pointer (some ⟨g101, 0, none⟩)) rfl rfl rfl (fun a hF=>run_fieldAddr rfl fl78_0 (hF.ev rfl) rfl) (ov (v := .int .i64 x0) rfl rfl rfl (fun a hF=>run_load1 rfl one3 (hF.ev rfl) ((S.free 1 rfl).cell rfl)) (ov (v := .pointer (some ⟨g102, 0, none⟩)) rfl rfl rfl (fun a hF=>run_fieldAddr rfl fl78_0 (hF.ev rfl) rfl) (ov (v := .int .i64 x2) rfl rfl rfl (fun a hF=>run_load1 rfl one3 (hF.ev rfl) ((S.free 0 rfl).cell rfl)) (ov (v := .bool (x0 != x2)) rfl rfl rfl (fun a hF=>run_neq (hF.ev rfl) (hF.ev rfl) rfl) fun a hF=>wn ?_)))))
  cases hc103 : (x0 != x2)
  · replace hM := bif_f hc103 hM
    refine cond_f hF rfl hc103 ?_
    refine wp_skip ?_
    refine ws ?_
    revert a;refine sr (ov (v := .pointer (some ⟨g101, 1, none⟩)) rfl rfl rfl (fun a hF=>run_fieldAddr rfl fl78_1 (hF.ev rfl) rfl) (ov (v := .int .i64 x1) rfl rfl rfl (fun a hF=>run_load1 rfl one3 (hF.ev rfl) ((S.free 1 rfl).cell rfl)) (ov (v := .pointer (some ⟨g102, 1, none⟩)) rfl rfl rfl (fun a hF=>run_fieldAddr rfl fl78_1 (hF.ev rfl) rfl) (ov (v := .int .i64 x3) rfl rfl rfl (fun a hF=>run_load1 rfl one3 (hF.ev rfl) ((S.free 0 rfl).cell rfl)) (ov (v := .bool (x1 != x3)) rfl rfl rfl (fun a hF=>run_neq (hF.ev rfl) (hF.ev rfl) rfl) fun a hF=>wn ?_)))))
    cases hc104 : (x1 != x3)
    · replace hM := bif_f hc104 hM
      refine cond_f hF rfl hc104 ?_
      refine wp_skip ?_
      revert a;refine sr (ov (v := .bool true) rfl rfl rfl (fun a hF=>run_assign rfl rfl) fun a hF=>wn ?_)
      refine wp_ret ?_
      repeat with_reducible first|refine tr ?_|refine ir ?_|refine nr ?_
      refine ret1_gw (.inl rfl) hF rfl (res_tmp (hF.ev rfl)) ?_
      obtain rfl := Option.some.inj hM
      exact ⟨rfl, S.sel [] rfl rfl⟩
    replace hM := bif_t hc104 hM
    refine cond_t hF rfl hc104 ?_
    revert a;refine sr (ov (v := .bool false) rfl rfl rfl (fun a hF=>run_assign rfl rfl) fun a hF=>wn ?_)
    refine wp_ret ?_
    repeat with_reducible first|refine tr ?_|refine ir ?_|refine nr ?_
    refine ret1_gw (.inl rfl) hF rfl (res_tmp (hF.ev rfl)) ?_
    obtain rfl := Option.some.inj hM
    exact ⟨rfl, S.sel [] rfl rfl⟩
  replace hM := bif_t hc103 hM
  refine cond_t hF rfl hc103 ?_
  revert a;refine sr (ov (v := .bool false) rfl rfl rfl (fun a hF=>run_assign rfl rfl) fun a hF=>wn ?_)
  refine wp_ret ?_
  repeat with_reducible first|refine tr ?_|refine ir ?_|refine nr ?_
  refine ret1_gw (.inl rfl) hF rfl (res_tmp (hF.ev rfl)) ?_
  obtain rfl := Option.some.inj hM
  exact ⟨rfl, S.sel [] rfl rfl⟩
theorem c_laws_eqPermitS {x0 : List (Int × Int)} {x1 : List (Int × Int)} {A0 : Option Addr} {n0 c0 : Nat} {A1 : Option Addr} {n1 c1 : Nat} {w : World} {r : Bool} (h0 : Rt w 2 ePermit A0 n0 c0 x0) (h1 : Rt w 2 ePermit A1 n1 c1 x1) (hM : m_laws_eqPermitS x0 x1 = some r) :
    Calls Try.prog 61 #[.slice A0 n0 c0, .slice A1 n1 c1] w (fun e w' => e = .returned (.bool r) ∧ St w w' []) := by
  obtain rfl := h0.len
  obtain rfl := h1.len
  unfold m_laws_eqPermitS at hM
  refine calls_gw Try.func61 Try.ntmps61 rfl [(0, .slice A0 x0.length c0), (1, .slice A1 x1.length c1)] ⟨rfl, rfl, trivial⟩ rfl ?_
  intro a hF
  have S := St.nil w
  revert a;refine sr (ov (v := .bool false) rfl rfl rfl (fun a hF=>run_assign rfl rfl) fun a hF=>wn ?_)
  refine ws ?_
  revert a;refine sr (mv rfl rfl (ov rfl rfl rfl (fun a hF=>run_lenL rfl rfl Try.underlying39 (hF.ev rfl)) (mv rfl rfl (ov rfl rfl rfl (fun a hF=>run_lenL rfl rfl Try.underlying39 (hF.ev rfl)) (ov (v := .bool ((x0.length : Int) != (x1.length : Int))) rfl rfl rfl (fun a hF=>run_neq (hF.ev rfl) (hF.ev rfl) rfl) fun a hF=>wn ?_)))))
  cases hc101 : ((x0.length : Int) != (x1.length : Int))
  · replace hM := bif_f hc101 hM
    refine cond_f hF rfl hc101 ?_
    refine wp_skip ?_
    refine ws ?_
    revert a;refine sr (ov (v := .int .i64 0) rfl rfl rfl (fun a hF=>run_assign rfl rfl) fun a hF=>wn ?_)
    obtain ⟨o103, hM104, hM⟩ := bind_ex hM
    refine wp_cut (fun a u => ∃ (p102 : Unit), (Sum.inl p102) = o103 ∧ Fr a 27 [(4, .bool false)] ∧ St w u []) ?_ ?_
    · have _ := trivial
      refine wp_block ?_
      refine loop_gw (fun m a u => ∃ (p105 : Int), m_laws_eqPermitS_l1 x0 x1 m p105 = some _ ∧ Fr a 27 [(0, .slice A0 x0.length c0), (1, .slice A1 x1.length c1), (4, .bool false), (5, .int .i64 p105)] ∧ St w u []) FUEL ⟨0, hM104, hF.keep _ ⟨rfl, rfl, rfl, rfl, trivial⟩, S.sel [] rfl rfl⟩ ?_
      clear hF S hM104; rintro m a u ⟨p105, hM104, hF, S⟩
      rcases m with _ | f1
      · exact none_some hM104
      rw [m_laws_eqPermitS_l1.eq_2] at hM104
      refine ws ?_
      revert a;refine sr (mv rfl rfl (mv rfl rfl (ov rfl rfl rfl (fun a hF=>run_lenL rfl rfl Try.underlying39 (hF.ev rfl)) (ov (v := .bool (ltB p105 (x0.length : Int))) rfl rfl rfl (fun a hF=>run_lss (hF.ev rfl) (hF.ev rfl) rfl) fun a hF=>wn ?_))))
      cases hc106 : (ltB p105 (x0.length : Int))
      · replace hM104 := bif_f hc106 hM104
        refine cond_f hF rfl hc106 ?_
        refine wp_exit ?_
        repeat with_reducible (first | refine then_exit ?_ | refine in_hit ?_ | refine in_miss rfl ?_)
        obtain rfl := Option.some.inj hM104
        exact ⟨(), rfl, hF.keep _ ⟨rfl, trivial⟩, S.sel [] rfl rfl⟩
      replace hM104 := bif_t hc106 hM104
      refine cond_t hF rfl hc106 ?_
      refine wp_skip ?_
      refine ws ?_
      refine wp_block ?_
      refine ws ?_
      obtain ⟨hk107, hM104⟩ := chk_ex hM104
      replace hk107 := ixB_t hk107
      obtain ⟨hk108, hM104⟩ := chk_ex hM104
      replace hk108 := ixB_t hk108
      obtain ⟨p109, h109, hM104⟩ := bind_ex hM104
      refine region_gw (D := [17, 18, 19, 20, 21, 22, 23, 24, 25, 26]) (Lr := []) (deps := (fun | 0 => [17] | 1 => [18] | 2 => [19] | 3 => [20] | 4 => [21] | 5 => [22] | 6 => [23] | 7 => [24] | 8 => [25] | 9 => [26] | _ => [])) (rd := (fun _ => [])) (zr := (fun _ => []))
        (φ := fun i vs => match i, vs with | 0, [v17] => v17 = .slice A0 x0.length c0 | 1, [v18] => v18 = .int .i64 p105 | 2, [v19] => v19 = .pointer (some ⟨adB A0, adO A0 + p105.toNat * 2, none⟩) | 3, [v20] => v20 = .agg #[.int .i64 ((x0.getD p105.toNat ((0, 0) : Int × Int)).1), .int .i64 ((x0.getD p105.toNat ((0, 0) : Int × Int)).2)] | 4, [v21] => v21 = .slice A1 x1.length c1 | 5, [v22] => v22 = .int .i64 p105 | 6, [v23] => v23 = .pointer (some ⟨adB A1, adO A1 + p105.toNat * 2, none⟩) | 7, [v24] => v24 = .agg #[.int .i64 ((x1.getD p105.toNat ((0, 0) : Int × Int)).1), .int .i64 ((x1.getD p105.toNat ((0, 0) : Int × Int)).2)] | 8, [v25] => v25 = .bool p109 | 9, [v26] => v26 = .bool (!p109) | _, _ => True)
        (C := fun _ _ => [])
        (κ := (fun _ => none)) (Z := (fun _ => [])) mixed hF (by kernel_rfl) S ?_ ?_
      · refine ⟨?_, ?_, ?_, ?_, ?_, ?_, ?_, ?_, ?_, ?_, trivial⟩
        · intro a u X hB hu hp hr hz hl S
          replace S : St w u ([] ++ X) := S
          exact .inl ⟨rfl, .slice A0 x0.length c0, u, (run_move rfl (hF.evB hB rfl rfl)), rfl, S⟩
        · intro a u X hB hu hp hr hz hl S
          replace S : St w u ([] ++ X) := S
          exact .inl ⟨rfl, .int .i64 p105, u, (run_move rfl (hF.evB hB rfl rfl)), rfl, S⟩
        · intro a u X hB hu hp hr hz hl S
          replace S : St w u ([] ++ X) := S
          have e17 : sl a 17 = .slice A0 x0.length c0 := hp 0 rfl
          have e18 : sl a 18 = .int .i64 p105 := hp 1 rfl
          exact .inl ⟨rfl, .pointer (some ⟨adB A0, adO A0 + p105.toNat * 2, none⟩), u, (run_indexAddr (b := adB A0) (off := adO A0) rfl Try.underlying39 sz78 ((ev_sl e17).trans (congrArg (fun A => Value.slice A x0.length c0) ((S.rc0 h0.rc).rd.ad (ix_pos hk107)))) (ev_sl e18) hk107.1 hk107.2 (k' := adO A0 + p105.toNat * 2) rfl), rfl, S⟩
        · intro a u X hB hu hp hr hz hl S
          replace S : St w u ([] ++ X) := S
          have e19 : sl a 19 = .pointer (some ⟨adB A0, adO A0 + p105.toNat * 2, none⟩) := hp 2 rfl
          exact .inl ⟨rfl, .agg #[.int .i64 ((x0.getD p105.toNat ((0, 0) : Int × Int)).1), .int .i64 ((x0.getD p105.toNat ((0, 0) : Int × Int)).2)], u, (run_loadN (cs := #[.int .i64 ((x0.getD p105.toNat ((0, 0) : Int × Int)).1), .int .i64 ((x0.getD p105.toNat ((0, 0) : Int × Int)).2)]) rfl ag78 (ev_sl e19) rfl (rd_elN (l := x0) (S.rc0 h0.rc).rd rfl ePermit_len ((0, 0) : Int × Int) (ix_ltn hk107 rfl) rfl)), rfl, S⟩
        · intro a u X hB hu hp hr hz hl S
          replace S : St w u ([] ++ X) := S
          exact .inl ⟨rfl, .slice A1 x1.length c1, u, (run_move rfl (hF.evB hB rfl rfl)), rfl, S⟩
        · intro a u X hB hu hp hr hz hl S
          replace S : St w u ([] ++ X) := S
          exact .inl ⟨rfl, .int .i64 p105, u, (run_move rfl (hF.evB hB rfl rfl)), rfl, S⟩
        · intro a u X hB hu hp hr hz hl S
          replace S : St w u ([] ++ X) := S
          have e21 : sl a 21 = .slice A1 x1.length c1 := hp 4 rfl
          have e22 : sl a 22 = .int .i64 p105 := hp 5 rfl
          exact .inl ⟨rfl, .pointer (some ⟨adB A1, adO A1 + p105.toNat * 2, none⟩), u, (run_indexAddr (b := adB A1) (off := adO A1) rfl Try.underlying39 sz78 ((ev_sl e21).trans (congrArg (fun A => Value.slice A x1.length c1) ((S.rc0 h1.rc).rd.ad (ix_pos hk108)))) (ev_sl e22) hk108.1 hk108.2 (k' := adO A1 + p105.toNat * 2) rfl), rfl, S⟩
        · intro a u X hB hu hp hr hz hl S
          replace S : St w u ([] ++ X) := S
          have e23 : sl a 23 = .pointer (some ⟨adB A1, adO A1 + p105.toNat * 2, none⟩) := hp 6 rfl
          exact .inl ⟨rfl, .agg #[.int .i64 ((x1.getD p105.toNat ((0, 0) : Int × Int)).1), .int .i64 ((x1.getD p105.toNat ((0, 0) : Int × Int)).2)], u, (run_loadN (cs := #[.int .i64 ((x1.getD p105.toNat ((0, 0) : Int × Int)).1), .int .i64 ((x1.getD p105.toNat ((0, 0) : Int × Int)).2)]) rfl ag78 (ev_sl e23) rfl (rd_elN (l := x1) (S.rc0 h1.rc).rd rfl ePermit_len ((0, 0) : Int × Int) (ix_ltn hk108 rfl) rfl)), rfl, S⟩
        · intro a u X hB hu hp hr hz hl S
          replace S : St w u ([] ++ X) := S
          have e20 : sl a 20 = .agg #[.int .i64 ((x0.getD p105.toNat ((0, 0) : Int × Int)).1), .int .i64 ((x0.getD p105.toNat ((0, 0) : Int × Int)).2)] := hp 3 rfl
          have e24 : sl a 24 = .agg #[.int .i64 ((x1.getD p105.toNat ((0, 0) : Int × Int)).1), .int .i64 ((x1.getD p105.toNat ((0, 0) : Int × Int)).2)] := hp 7 rfl
          refine .inr (.inr (.inl ⟨rfl, _, _, (run_call (vs := [.agg #[.int .i64 ((x0.getD p105.toNat ((0, 0) : Int × Int)).1), .int .i64 ((x0.getD p105.toNat ((0, 0) : Int × Int)).2)], .agg #[.int .i64 ((x1.getD p105.toNat ((0, 0) : Int × Int)).1), .int .i64 ((x1.getD p105.toNat ((0, 0) : Int × Int)).2)]]) rfl rfl co81 ⟨(ev_sl e20), (ev_sl e24), trivial⟩), ?_⟩))
          refine Calls.mono (c_laws_eqPermit (x0 := (x0.getD p105.toNat ((0, 0) : Int × Int)).1) (x1 := (x0.getD p105.toNat ((0, 0) : Int × Int)).2) (x2 := (x1.getD p105.toNat ((0, 0) : Int × Int)).1) (x3 := (x1.getD p105.toNat ((0, 0) : Int × Int)).2)  h109) ?_
          rintro e w1 ⟨rfl, T⟩
          exact ⟨_, rfl, rfl, S.call0 T⟩
        intro a u X hB hu hp hr hz hl S
        replace S : St w u ([] ++ X) := S
        have e25 : sl a 25 = .bool p109 := hp 8 rfl
        exact .inl ⟨rfl, .bool (!p109), u, (run_not rfl (ev_sl e25)), rfl, S⟩
      intro a u hB hp S
      obtain ⟨q0, q1, q2, q3, q4, q5, q6, q7, q8, q9, -⟩ := hp
      have e17 : sl a 17 = .slice A0 x0.length c0 := q0
      have e18 : sl a 18 = .int .i64 p105 := q1
      have e19 : sl a 19 = .pointer (some ⟨adB A0, adO A0 + p105.toNat * 2, none⟩) := q2
      have e20 : sl a 20 = .agg #[.int .i64 ((x0.getD p105.toNat ((0, 0) : Int × Int)).1), .int .i64 ((x0.getD p105.toNat ((0, 0) : Int × Int)).2)] := q3
      have e21 : sl a 21 = .slice A1 x1.length c1 := q4
      have e22 : sl a 22 = .int .i64 p105 := q5
      have e23 : sl a 23 = .pointer (some ⟨adB A1, adO A1 + p105.toNat * 2, none⟩) := q6
      have e24 : sl a 24 = .agg #[.int .i64 ((x1.getD p105.toNat ((0, 0) : Int × Int)).1), .int .i64 ((x1.getD p105.toNat ((0, 0) : Int × Int)).2)] := q7
      have e25 : sl a 25 = .bool p109 := q8
      have e26 : sl a 26 = .bool (!p109) := q9
      replace S : St w u [] := S
      clear q0 q1 q2 q3 q4 q5 q6 q7 q8 q9
      have hF := hF.region hB [(17, .slice A0 x0.length c0), (18, .int .i64 p105), (19, .pointer (some ⟨adB A0, adO A0 + p105.toNat * 2, none⟩)), (20, .agg #[.int .i64 ((x0.getD p105.toNat ((0, 0) : Int × Int)).1), .int .i64 ((x0.getD p105.toNat ((0, 0) : Int × Int)).2)]), (21, .slice A1 x1.length c1), (22, .int .i64 p105), (23, .pointer (some ⟨adB A1, adO A1 + p105.toNat * 2, none⟩)), (24, .agg #[.int .i64 ((x1.getD p105.toNat ((0, 0) : Int × Int)).1), .int .i64 ((x1.getD p105.toNat ((0, 0) : Int × Int)).2)]), (25, .bool p109), (26, .bool (!p109))] (allSl_mem ⟨e17, e18, e19, e20, e21, e22, e23, e24, e25, e26, trivial⟩) rfl
      clear hB e17 e18 e19 e20 e21 e22 e23 e24 e25 e26
      cases hc110 : (p109)
      · replace hM104 := bif_f hc110 hM104
        refine cond_t hF rfl (not_t hc110) ?_
        revert a;refine sr (ov (v := .bool false) rfl rfl rfl (fun a hF=>run_assign rfl rfl) fun a hF=>wn ?_)
        refine wp_ret ?_
        repeat with_reducible first|refine tr ?_|refine ir ?_|refine nr ?_
        refine ret1_gw (.inl rfl) hF rfl (res_tmp (hF.ev rfl)) ?_
        obtain rfl := Option.some.inj hM104
        obtain rfl := Option.some.inj hM
        exact ⟨rfl, S.sel [] rfl rfl⟩
      replace hM104 := bif_t hc110 hM104
      refine cond_f hF rfl (not_f hc110) ?_
      refine wp_skip ?_
      revert a;refine rl (mv rfl rfl (ov (v := .int .i64 (w64 (p105 + 1))) rfl rfl rfl (fun a hF=>run_add (z := w64 (p105 + 1)) (hF.ev rfl) rfl rfl rfl) (ag rfl rfl fun a hF=>wn ?_)))
      exact ⟨f1, Nat.lt_succ_self _, w64 (p105 + 1), hM104, hF.keep _ ⟨rfl, rfl, rfl, rfl, trivial⟩, S.sel [] rfl rfl⟩
    rintro a u ⟨p102, rfl, hF, S⟩
    replace hM := elim_l hM
    revert a;refine sr (ov (v := .bool true) rfl rfl rfl (fun a hF=>run_assign rfl rfl) fun a hF=>wn ?_)
    refine wp_ret ?_
    repeat with_reducible first|refine tr ?_|refine ir ?_|refine nr ?_
    refine ret1_gw (.inl rfl) hF rfl (res_tmp (hF.ev rfl)) ?_
    obtain rfl := Option.some.inj hM
    exact ⟨rfl, S.sel [] rfl rfl⟩
  replace hM := bif_t hc101 hM
  refine cond_t hF rfl hc101 ?_
  revert a;refine sr (ov (v := .bool false) rfl rfl rfl (fun a hF=>run_assign rfl rfl) fun a hF=>wn ?_)
  refine wp_ret ?_
  repeat with_reducible first|refine tr ?_|refine ir ?_|refine nr ?_
  refine ret1_gw (.inl rfl) hF rfl (res_tmp (hF.ev rfl)) ?_
  obtain rfl := Option.some.inj hM
  exact ⟨rfl, S.sel [] rfl rfl⟩
theorem c_laws_eqWork {x0 : List Bool} {x1 : List Bool} {x2 : List (Int × Int)} {x3 : List Bool} {x4 : List Bool} {x5 : List (Int × Int)} {A0 : Option Addr} {n0 c0 : Nat} {A1 : Option Addr} {n1 c1 : Nat} {A2 : Option Addr} {n2 c2 : Nat} {A3 : Option Addr} {n3 c3 : Nat} {A4 : Option Addr} {n4 c4 : Nat} {A5 : Option Addr} {n5 c5 : Nat} {w : World} {r : Bool} (h0 : Rt w 1 eB A0 n0 c0 x0) (h1 : Rt w 1 eB A1 n1 c1 x1) (h2 : Rt w 2 ePermit A2 n2 c2 x2) (h3 : Rt w 1 eB A3 n3 c3 x3) (h4 : Rt w 1 eB A4 n4 c4 x4) (h5 : Rt w 2 ePermit A5 n5 c5 x5) (hM : m_laws_eqWork x0 x1 x2 x3 x4 x5 = some r) :
    Calls Try.prog 34 #[.agg #[.slice A0 n0 c0, .slice A1 n1 c1, .slice A2 n2 c2], .agg #[.slice A3 n3 c3, .slice A4 n4 c4, .slice A5 n5 c5]] w (fun e w' => e = .returned (.bool r) ∧ St w w' []) := by
  obtain rfl := h0.len
  obtain rfl := h1.len
  obtain rfl := h2.len
  obtain rfl := h3.len
  obtain rfl := h4.len
  obtain rfl := h5.len
  unfold m_laws_eqWork at hM
  refine calls_gw Try.func34 Try.ntmps34 rfl [(0, .agg #[.slice A0 x0.length c0, .slice A1 x1.length c1, .slice A2 x2.length c2]), (1, .agg #[.slice A3 x3.length c3, .slice A4 x4.length c4, .slice A5 x5.length c5])] ⟨rfl, rfl, trivial⟩ rfl ?_
  intro a hF
  have S := St.nil w
  refine wsg ?_
  refine op_new (cs := #[.slice A0 x0.length c0, .slice A1 x1.length c1, .slice A2 x2.length c2]) rfl rfl hF rfl S (run_box rfl (hF.ev rfl) rfl) ?_; clear hF S; intro a g101 u hF S
  refine op_new (cs := #[.slice A3 x3.length c3, .slice A4 x4.length c4, .slice A5 x5.length c5]) rfl rfl hF rfl S (run_box rfl (hF.ev rfl) rfl) ?_; clear hF S; intro a g102 u hF S
  refine op_val (v := .bool false) rfl rfl hF rfl (run_assign rfl rfl) ?_;clear hF;intro a hF
  refine wn ?_
  refine ws ?_
  revert a;refine sr (ov (v := .pointer (some ⟨g101, 0, none⟩)) rfl rfl rfl (fun a hF=>run_fieldAddr rfl fl41_0 (hF.ev rfl) rfl) (ov (v := .slice A0 x0.length c0) rfl rfl rfl (fun a hF=>run_load1 rfl one26 (hF.ev rfl) ((S.free 1 rfl).cell rfl)) (ov (v := .pointer (some ⟨g102, 0, none⟩)) rfl rfl rfl (fun a hF=>run_fieldAddr rfl fl41_0 (hF.ev rfl) rfl) (ov (v := .slice A3 x3.length c3) rfl rfl rfl (fun a hF=>run_load1 rfl one26 (hF.ev rfl) ((S.free 0 rfl).cell rfl)) fun a hF=>?_))))
  obtain ⟨p103, h103, hM⟩ := bind_ex hM
  refine op_call rfl rfl hF rfl (run_call (vs := [.slice A0 x0.length c0, .slice A3 x3.length c3]) rfl rfl co60 ⟨(hF.ev rfl), (hF.ev rfl), trivial⟩) (c_laws_eqBoolS (x0 := x0) (x1 := x3) ⟨(S.rc0 h0.rc), rfl⟩ ⟨(S.rc0 h3.rc), rfl⟩ h103) ?_
  rintro e u ⟨rfl, T⟩
  refine ⟨_, rfl, ?_⟩
  clear hF; intro a hF
  replace S := S.call0 T; clear T
  refine op_val (v := .bool (!p103)) rfl rfl hF rfl (run_not rfl (hF.ev rfl)) ?_;clear hF;intro a hF
  refine wn ?_
  cases hc104 : (p103)
  · replace hM := bif_f hc104 hM
    refine cond_t hF rfl (not_t hc104) ?_
    revert a;refine sr (ov (v := .bool false) rfl rfl rfl (fun a hF=>run_assign rfl rfl) fun a hF=>wn ?_)
    refine wp_ret ?_
    repeat with_reducible first|refine tr ?_|refine ir ?_|refine nr ?_
    refine ret1_gw (.inl rfl) hF rfl (res_tmp (hF.ev rfl)) ?_
    obtain rfl := Option.some.inj hM
    exact ⟨rfl, S.sel [] rfl rfl⟩
  replace hM := bif_t hc104 hM
  refine cond_f hF rfl (not_f hc104) ?_
  refine wp_skip ?_
  refine ws ?_
  revert a;refine sr (ov (v := .pointer (some ⟨g101, 1, none⟩)) rfl rfl rfl (fun a hF=>run_fieldAddr rfl fl41_1 (hF.ev rfl) rfl) (ov (v := .slice A1 x1.length c1) rfl rfl rfl (fun a hF=>run_load1 rfl one26 (hF.ev rfl) ((S.free 1 rfl).cell rfl)) (ov (v := .pointer (some ⟨g102, 1, none⟩)) rfl rfl rfl (fun a hF=>run_fieldAddr rfl fl41_1 (hF.ev rfl) rfl) (ov (v := .slice A4 x4.length c4) rfl rfl rfl (fun a hF=>run_load1 rfl one26 (hF.ev rfl) ((S.free 0 rfl).cell rfl)) fun a hF=>?_))))
  obtain ⟨p105, h105, hM⟩ := bind_ex hM
  refine op_call rfl rfl hF rfl (run_call (vs := [.slice A1 x1.length c1, .slice A4 x4.length c4]) rfl rfl co60 ⟨(hF.ev rfl), (hF.ev rfl), trivial⟩) (c_laws_eqBoolS (x0 := x1) (x1 := x4) ⟨(S.rc0 h1.rc), rfl⟩ ⟨(S.rc0 h4.rc), rfl⟩ h105) ?_
  rintro e u ⟨rfl, T⟩
  refine ⟨_, rfl, ?_⟩
  clear hF; intro a hF
  replace S := S.call0 T; clear T
  refine op_val (v := .bool (!p105)) rfl rfl hF rfl (run_not rfl (hF.ev rfl)) ?_;clear hF;intro a hF
  refine wn ?_
  cases hc106 : (p105)
  · replace hM := bif_f hc106 hM
    refine cond_t hF rfl (not_t hc106) ?_
    revert a;refine sr (ov (v := .bool false) rfl rfl rfl (fun a hF=>run_assign rfl rfl) fun a hF=>wn ?_)
    refine wp_ret ?_
    repeat with_reducible first|refine tr ?_|refine ir ?_|refine nr ?_
    refine ret1_gw (.inl rfl) hF rfl (res_tmp (hF.ev rfl)) ?_
    obtain rfl := Option.some.inj hM
    exact ⟨rfl, S.sel [] rfl rfl⟩
  replace hM := bif_t hc106 hM
  refine cond_f hF rfl (not_f hc106) ?_
  refine wp_skip ?_
  refine ws ?_
  revert a;refine sr (ov (v := .pointer (some ⟨g101, 2, none⟩)) rfl rfl rfl (fun a hF=>run_fieldAddr rfl fl41_2 (hF.ev rfl) rfl) (ov (v := .slice A2 x2.length c2) rfl rfl rfl (fun a hF=>run_load1 rfl one39 (hF.ev rfl) ((S.free 1 rfl).cell rfl)) (ov (v := .pointer (some ⟨g102, 2, none⟩)) rfl rfl rfl (fun a hF=>run_fieldAddr rfl fl41_2 (hF.ev rfl) rfl) (ov (v := .slice A5 x5.length c5) rfl rfl rfl (fun a hF=>run_load1 rfl one39 (hF.ev rfl) ((S.free 0 rfl).cell rfl)) fun a hF=>?_))))
  obtain ⟨p107, h107, hM⟩ := bind_ex hM
  refine op_call rfl rfl hF rfl (run_call (vs := [.slice A2 x2.length c2, .slice A5 x5.length c5]) rfl rfl co61 ⟨(hF.ev rfl), (hF.ev rfl), trivial⟩) (c_laws_eqPermitS (x0 := x2) (x1 := x5) ⟨(S.rc0 h2.rc), rfl⟩ ⟨(S.rc0 h5.rc), rfl⟩ h107) ?_
  rintro e u ⟨rfl, T⟩
  refine ⟨_, rfl, ?_⟩
  clear hF; intro a hF
  replace S := S.call0 T; clear T
  refine op_val (v := .bool (!p107)) rfl rfl hF rfl (run_not rfl (hF.ev rfl)) ?_;clear hF;intro a hF
  refine wn ?_
  cases hc108 : (p107)
  · replace hM := bif_f hc108 hM
    refine cond_t hF rfl (not_t hc108) ?_
    revert a;refine sr (ov (v := .bool false) rfl rfl rfl (fun a hF=>run_assign rfl rfl) fun a hF=>wn ?_)
    refine wp_ret ?_
    repeat with_reducible first|refine tr ?_|refine ir ?_|refine nr ?_
    refine ret1_gw (.inl rfl) hF rfl (res_tmp (hF.ev rfl)) ?_
    obtain rfl := Option.some.inj hM
    exact ⟨rfl, S.sel [] rfl rfl⟩
  replace hM := bif_t hc108 hM
  refine cond_f hF rfl (not_f hc108) ?_
  refine wp_skip ?_
  revert a;refine sr (ov (v := .bool true) rfl rfl rfl (fun a hF=>run_assign rfl rfl) fun a hF=>wn ?_)
  refine wp_ret ?_
  repeat with_reducible first|refine tr ?_|refine ir ?_|refine nr ?_
  refine ret1_gw (.inl rfl) hF rfl (res_tmp (hF.ev rfl)) ?_
  obtain rfl := Option.some.inj hM
  exact ⟨rfl, S.sel [] rfl rfl⟩
theorem c_laws_eqWorld {x0 : Int} {x1 : List (Int × Int × Int)} {x2 : List (Int × Int)} {x3 : List Bool} {x4 : List Bool} {x5 : List (Int × Int)} {x6 : List Int} {x7 : Int} {x8 : List (Int × Int × Int)} {x9 : List (Int × Int)} {x10 : List Bool} {x11 : List Bool} {x12 : List (Int × Int)} {x13 : List Int} {A1 : Option Addr} {n1 c1 : Nat} {A2 : Option Addr} {n2 c2 : Nat} {A3 : Option Addr} {n3 c3 : Nat} {A4 : Option Addr} {n4 c4 : Nat} {A5 : Option Addr} {n5 c5 : Nat} {A6 : Option Addr} {n6 c6 : Nat} {A8 : Option Addr} {n8 c8 : Nat} {A9 : Option Addr} {n9 c9 : Nat} {A10 : Option Addr} {n10 c10 : Nat} {A11 : Option Addr} {n11 c11 : Nat} {A12 : Option Addr} {n12 c12 : Nat} {A13 : Option Addr} {n13 c13 : Nat} {w : World} {r : Bool} (h1 : Rt w 3 eLine A1 n1 c1 x1) (h2 : Rt w 2 eBus A2 n2 c2 x2) (h3 : Rt w 1 eB A3 n3 c3 x3) (h4 : Rt w 1 eB A4 n4 c4 x4) (h5 : Rt w 2 ePermit A5 n5 c5 x5) (h6 : Rt w 1 eI A6 n6 c6 x6) (h8 : Rt w 3 eLine A8 n8 c8 x8) (h9 : Rt w 2 eBus A9 n9 c9 x9) (h10 : Rt w 1 eB A10 n10 c10 x10) (h11 : Rt w 1 eB A11 n11 c11 x11) (h12 : Rt w 2 ePermit A12 n12 c12 x12) (h13 : Rt w 1 eI A13 n13 c13 x13) (hM : m_laws_eqWorld x0 x1 x2 x3 x4 x5 x6 x7 x8 x9 x10 x11 x12 x13 = some r) :
    Calls Try.prog 9 #[.agg #[.int .i64 x0, .slice A1 n1 c1, .slice A2 n2 c2, .slice A3 n3 c3, .slice A4 n4 c4, .slice A5 n5 c5, .slice A6 n6 c6], .agg #[.int .i64 x7, .slice A8 n8 c8, .slice A9 n9 c9, .slice A10 n10 c10, .slice A11 n11 c11, .slice A12 n12 c12, .slice A13 n13 c13]] w (fun e w' => e = .returned (.bool r) ∧ St w w' []) := by
  obtain rfl := h1.len
  obtain rfl := h2.len
  obtain rfl := h3.len
  obtain rfl := h4.len
  obtain rfl := h5.len
  obtain rfl := h6.len
  obtain rfl := h8.len
  obtain rfl := h9.len
  obtain rfl := h10.len
  obtain rfl := h11.len
  obtain rfl := h12.len
  obtain rfl := h13.len
  unfold m_laws_eqWorld at hM
  refine calls_gw Try.func9 Try.ntmps9 rfl [(0, .agg #[.int .i64 x0, .slice A1 x1.length c1, .slice A2 x2.length c2, .slice A3 x3.length c3, .slice A4 x4.length c4, .slice A5 x5.length c5, .slice A6 x6.length c6]), (1, .agg #[.int .i64 x7, .slice A8 x8.length c8, .slice A9 x9.length c9, .slice A10 x10.length c10, .slice A11 x11.length c11, .slice A12 x12.length c12, .slice A13 x13.length c13])] ⟨rfl, rfl, trivial⟩ rfl ?_
  intro a hF
  have S := St.nil w
  refine wsg ?_
  refine op_new (cs := #[.int .i64 x0, .slice A1 x1.length c1, .slice A2 x2.length c2, .slice A3 x3.length c3, .slice A4 x4.length c4, .slice A5 x5.length c5, .slice A6 x6.length c6]) rfl rfl hF rfl S (run_box rfl (hF.ev rfl) rfl) ?_; clear hF S; intro a g101 u hF S
  refine op_new (cs := #[.int .i64 x7, .slice A8 x8.length c8, .slice A9 x9.length c9, .slice A10 x10.length c10, .slice A11 x11.length c11, .slice A12 x12.length c12, .slice A13 x13.length c13]) rfl rfl hF rfl S (run_box rfl (hF.ev rfl) rfl) ?_; clear hF S; intro a g102 u hF S
  refine op_val (v := .bool false) rfl rfl hF rfl (run_assign rfl rfl) ?_;clear hF;intro a hF
  refine wn ?_
  refine ws ?_
  revert a;refine sr (ov (v := .pointer (some ⟨g101, 0, none⟩)) rfl rfl rfl (fun a hF=>run_fieldAddr rfl fl43_0 (hF.ev rfl) rfl) (ov rfl rfl rfl (fun a hF=>run_loadN rfl ag37 (hF.ev rfl) rfl ((S.free 1 rfl).cells 0 #[.int .i64 x0, .slice A1 x1.length c1] rfl)) (ov (v := .pointer (some ⟨g102, 0, none⟩)) rfl rfl rfl (fun a hF=>run_fieldAddr rfl fl43_0 (hF.ev rfl) rfl) (ov rfl rfl rfl (fun a hF=>run_loadN rfl ag37 (hF.ev rfl) rfl ((S.free 0 rfl).cells 0 #[.int .i64 x7, .slice A8 x8.length c8] rfl)) fun a hF=>?_))))
  obtain ⟨p103, h103, hM⟩ := bind_ex hM
  refine op_call rfl rfl hF rfl (run_call (vs := [.agg #[.int .i64 x0, .slice A1 x1.length c1], .agg #[.int .i64 x7, .slice A8 x8.length c8]]) rfl rfl co32 ⟨(hF.ev rfl), (hF.ev rfl), trivial⟩) (c_laws_eqNet (x0 := x0) (x1 := x1) (x2 := x7) (x3 := x8) ⟨(S.rc0 h1.rc), rfl⟩ ⟨(S.rc0 h8.rc), rfl⟩ h103) ?_
  rintro e u ⟨rfl, T⟩
  refine ⟨_, rfl, ?_⟩
  clear hF; intro a hF
  replace S := S.call0 T; clear T
  refine op_val (v := .bool (!p103)) rfl rfl hF rfl (run_not rfl (hF.ev rfl)) ?_;clear hF;intro a hF
  refine wn ?_
  cases hc104 : (p103)
  · replace hM := bif_f hc104 hM
    refine cond_t hF rfl (not_t hc104) ?_
    revert a;refine sr (ov (v := .bool false) rfl rfl rfl (fun a hF=>run_assign rfl rfl) fun a hF=>wn ?_)
    refine wp_ret ?_
    repeat with_reducible first|refine tr ?_|refine ir ?_|refine nr ?_
    refine ret1_gw (.inl rfl) hF rfl (res_tmp (hF.ev rfl)) ?_
    obtain rfl := Option.some.inj hM
    exact ⟨rfl, S.sel [] rfl rfl⟩
  replace hM := bif_t hc104 hM
  refine cond_f hF rfl (not_f hc104) ?_
  refine wp_skip ?_
  refine ws ?_
  revert a;refine sr (ov (v := .pointer (some ⟨g101, 2, none⟩)) rfl rfl rfl (fun a hF=>run_fieldAddr rfl fl43_1 (hF.ev rfl) rfl) (ov (v := .slice A2 x2.length c2) rfl rfl rfl (fun a hF=>run_load1 rfl one38 (hF.ev rfl) ((S.free 1 rfl).cell rfl)) (ov (v := .pointer (some ⟨g102, 2, none⟩)) rfl rfl rfl (fun a hF=>run_fieldAddr rfl fl43_1 (hF.ev rfl) rfl) (ov (v := .slice A9 x9.length c9) rfl rfl rfl (fun a hF=>run_load1 rfl one38 (hF.ev rfl) ((S.free 0 rfl).cell rfl)) fun a hF=>?_))))
  obtain ⟨p105, h105, hM⟩ := bind_ex hM
  refine op_call rfl rfl hF rfl (run_call (vs := [.slice A2 x2.length c2, .slice A9 x9.length c9]) rfl rfl co33 ⟨(hF.ev rfl), (hF.ev rfl), trivial⟩) (c_laws_eqBusS (x0 := x2) (x1 := x9) ⟨(S.rc0 h2.rc), rfl⟩ ⟨(S.rc0 h9.rc), rfl⟩ h105) ?_
  rintro e u ⟨rfl, T⟩
  refine ⟨_, rfl, ?_⟩
  clear hF; intro a hF
  replace S := S.call0 T; clear T
  refine op_val (v := .bool (!p105)) rfl rfl hF rfl (run_not rfl (hF.ev rfl)) ?_;clear hF;intro a hF
  refine wn ?_
  cases hc106 : (p105)
  · replace hM := bif_f hc106 hM
    refine cond_t hF rfl (not_t hc106) ?_
    revert a;refine sr (ov (v := .bool false) rfl rfl rfl (fun a hF=>run_assign rfl rfl) fun a hF=>wn ?_)
    refine wp_ret ?_
    repeat with_reducible first|refine tr ?_|refine ir ?_|refine nr ?_
    refine ret1_gw (.inl rfl) hF rfl (res_tmp (hF.ev rfl)) ?_
    obtain rfl := Option.some.inj hM
    exact ⟨rfl, S.sel [] rfl rfl⟩
  replace hM := bif_t hc106 hM
  refine cond_f hF rfl (not_f hc106) ?_
  refine wp_skip ?_
  refine ws ?_
  revert a;refine sr (ov (v := .pointer (some ⟨g101, 3, none⟩)) rfl rfl rfl (fun a hF=>run_fieldAddr rfl fl43_2 (hF.ev rfl) rfl) (ov rfl rfl rfl (fun a hF=>run_loadN rfl ag41 (hF.ev rfl) rfl ((S.free 1 rfl).cells 3 #[.slice A3 x3.length c3, .slice A4 x4.length c4, .slice A5 x5.length c5] rfl)) (ov (v := .pointer (some ⟨g102, 3, none⟩)) rfl rfl rfl (fun a hF=>run_fieldAddr rfl fl43_2 (hF.ev rfl) rfl) (ov rfl rfl rfl (fun a hF=>run_loadN rfl ag41 (hF.ev rfl) rfl ((S.free 0 rfl).cells 3 #[.slice A10 x10.length c10, .slice A11 x11.length c11, .slice A12 x12.length c12] rfl)) fun a hF=>?_))))
  obtain ⟨p107, h107, hM⟩ := bind_ex hM
  refine op_call rfl rfl hF rfl (run_call (vs := [.agg #[.slice A3 x3.length c3, .slice A4 x4.length c4, .slice A5 x5.length c5], .agg #[.slice A10 x10.length c10, .slice A11 x11.length c11, .slice A12 x12.length c12]]) rfl rfl co34 ⟨(hF.ev rfl), (hF.ev rfl), trivial⟩) (c_laws_eqWork (x0 := x3) (x1 := x4) (x2 := x5) (x3 := x10) (x4 := x11) (x5 := x12) ⟨(S.rc0 h3.rc), rfl⟩ ⟨(S.rc0 h4.rc), rfl⟩ ⟨(S.rc0 h5.rc), rfl⟩ ⟨(S.rc0 h10.rc), rfl⟩ ⟨(S.rc0 h11.rc), rfl⟩ ⟨(S.rc0 h12.rc), rfl⟩ h107) ?_
  rintro e u ⟨rfl, T⟩
  refine ⟨_, rfl, ?_⟩
  clear hF; intro a hF
  replace S := S.call0 T; clear T
  refine op_val (v := .bool (!p107)) rfl rfl hF rfl (run_not rfl (hF.ev rfl)) ?_;clear hF;intro a hF
  refine wn ?_
  cases hc108 : (p107)
  · replace hM := bif_f hc108 hM
    refine cond_t hF rfl (not_t hc108) ?_
    revert a;refine sr (ov (v := .bool false) rfl rfl rfl (fun a hF=>run_assign rfl rfl) fun a hF=>wn ?_)
    refine wp_ret ?_
    repeat with_reducible first|refine tr ?_|refine ir ?_|refine nr ?_
    refine ret1_gw (.inl rfl) hF rfl (res_tmp (hF.ev rfl)) ?_
    obtain rfl := Option.some.inj hM
    exact ⟨rfl, S.sel [] rfl rfl⟩
  replace hM := bif_t hc108 hM
  refine cond_f hF rfl (not_f hc108) ?_
  refine wp_skip ?_
  refine ws ?_
  revert a;refine sr (ov (v := .pointer (some ⟨g101, 6, none⟩)) rfl rfl rfl (fun a hF=>run_fieldAddr rfl fl43_3 (hF.ev rfl) rfl) (ov (v := .slice A6 x6.length c6) rfl rfl rfl (fun a hF=>run_load1 rfl one30 (hF.ev rfl) ((S.free 1 rfl).cell rfl)) (ov (v := .pointer (some ⟨g102, 6, none⟩)) rfl rfl rfl (fun a hF=>run_fieldAddr rfl fl43_3 (hF.ev rfl) rfl) (ov (v := .slice A13 x13.length c13) rfl rfl rfl (fun a hF=>run_load1 rfl one30 (hF.ev rfl) ((S.free 0 rfl).cell rfl)) fun a hF=>?_))))
  obtain ⟨p109, h109, hM⟩ := bind_ex hM
  refine op_call rfl rfl hF rfl (run_call (vs := [.slice A6 x6.length c6, .slice A13 x13.length c13]) rfl rfl co12 ⟨(hF.ev rfl), (hF.ev rfl), trivial⟩) (c_laws_eqIntS (x0 := x6) (x1 := x13) ⟨(S.rc0 h6.rc), rfl⟩ ⟨(S.rc0 h13.rc), rfl⟩ h109) ?_
  rintro e u ⟨rfl, T⟩
  refine ⟨_, rfl, ?_⟩
  clear hF; intro a hF
  replace S := S.call0 T; clear T
  refine op_val (v := .bool (!p109)) rfl rfl hF rfl (run_not rfl (hF.ev rfl)) ?_;clear hF;intro a hF
  refine wn ?_
  cases hc110 : (p109)
  · replace hM := bif_f hc110 hM
    refine cond_t hF rfl (not_t hc110) ?_
    revert a;refine sr (ov (v := .bool false) rfl rfl rfl (fun a hF=>run_assign rfl rfl) fun a hF=>wn ?_)
    refine wp_ret ?_
    repeat with_reducible first|refine tr ?_|refine ir ?_|refine nr ?_
    refine ret1_gw (.inl rfl) hF rfl (res_tmp (hF.ev rfl)) ?_
    obtain rfl := Option.some.inj hM
    exact ⟨rfl, S.sel [] rfl rfl⟩
  replace hM := bif_t hc110 hM
  refine cond_f hF rfl (not_f hc110) ?_
  refine wp_skip ?_
  revert a;refine sr (ov (v := .bool true) rfl rfl rfl (fun a hF=>run_assign rfl rfl) fun a hF=>wn ?_)
  refine wp_ret ?_
  repeat with_reducible first|refine tr ?_|refine ir ?_|refine nr ?_
  refine ret1_gw (.inl rfl) hF rfl (res_tmp (hF.ev rfl)) ?_
  obtain rfl := Option.some.inj hM
  exact ⟨rfl, S.sel [] rfl rfl⟩
theorem c_laws_markLineS {x0 : List (Int × Int × Int)} {x1 : Int} {A0 : Option Addr} {n0 c0 : Nat} {w : World} {r : Int × List (Int × Int × Int)} {w0 : World} {X : List Asn} (h0 : n0 = x0.length) (S : St w0 w (Asn.row 107 3 (.slice A0 n0 c0) n0 (x0.flatMap eLine) :: X)) (hM : m_laws_markLineS x0 x1 = some r) :
    Calls Try.prog 68 #[.slice A0 n0 c0, .int .i64 x1] w (fun e w' => e = .returned (.int .i64 r.1) ∧ n0 = r.2.length ∧ St w0 w' (Asn.row 107 3 (.slice A0 n0 c0) n0 (r.2.flatMap eLine) :: X)) := by
  obtain rfl := h0
  unfold m_laws_markLineS at hM
  refine calls_gw Try.func68 Try.ntmps68 rfl [(0, .slice A0 x0.length c0), (1, .int .i64 x1)] ⟨rfl, rfl, trivial⟩ rfl ?_
  intro a hF
  revert a;refine sr (ov (v := .int .i64 0) rfl rfl rfl (fun a hF=>run_assign rfl rfl) fun a hF=>wn ?_)
  refine ws ?_
  revert a;refine sr (ov (v := .int .i64 0) rfl rfl rfl (fun a hF=>run_assign rfl rfl) fun a hF=>wn ?_)
  obtain ⟨o102, hM104, hM⟩ := bind_ex hM
  refine wp_cut (fun a u => ∃ (p101 : Int × List (Int × Int × Int)), p101 = o102 ∧ x0.length = p101.2.length ∧ Fr a 34 [(1, .int .i64 p101.1), (4, .int .i64 0)] ∧ St w0 u (Asn.row 107 3 (.slice A0 x0.length c0) x0.length (p101.2.flatMap eLine) :: X)) ?_ ?_
  · have _ := trivial
    refine wp_block ?_
    refine loop_gw (fun m a u => ∃ (p105 : List (Int × Int × Int) × Int × Int), m_laws_markLineS_l1 x0 m p105 = some _ ∧ x0.length = p105.1.length ∧ Fr a 34 [(0, .slice A0 x0.length c0), (1, .int .i64 p105.2.1), (4, .int .i64 0), (5, .int .i64 p105.2.2)] ∧ St w0 u (Asn.row 107 3 (.slice A0 x0.length c0) x0.length (p105.1.flatMap eLine) :: X)) FUEL ⟨(x0, x1, 0), hM104, rfl, hF.keep _ ⟨rfl, rfl, rfl, rfl, trivial⟩, S.selT (M := [.row 107 3 (.slice A0 x0.length c0) x0.length (x0.flatMap eLine)]) 1 [0] rfl rfl rfl⟩ ?_
    clear hF S hM104; rintro m a u ⟨p105, hM104, hn106, hF, S⟩
    rcases m with _ | f1
    · exact none_some hM104
    rw [m_laws_markLineS_l1.eq_2] at hM104
    refine ws ?_
    revert a;refine sr (mv rfl rfl (mv rfl rfl (ov rfl rfl rfl (fun a hF=>run_lenL rfl rfl Try.underlying35 (hF.ev rfl)) (ov (v := .bool (ltB p105.2.2 (x0.length : Int))) rfl rfl rfl (fun a hF=>run_lss (hF.ev rfl) (hF.ev rfl) rfl) fun a hF=>wn ?_))))
    cases hc107 : (ltB p105.2.2 (x0.length : Int))
    · replace hM104 := bif_f hc107 hM104
      refine cond_f hF rfl hc107 ?_
      refine wp_exit ?_
      repeat with_reducible (first | refine then_exit ?_ | refine in_hit ?_ | refine in_miss rfl ?_)
      obtain rfl := Option.some.inj hM104
      exact ⟨(p105.2.1, p105.1), rfl, hn106, hF.keep _ ⟨rfl, rfl, trivial⟩, S.selT (M := [.row 107 3 (.slice A0 x0.length c0) x0.length (p105.1.flatMap eLine)]) 1 [0] rfl rfl rfl⟩
    replace hM104 := bif_t hc107 hM104
    refine cond_t hF rfl hc107 ?_
    refine wp_skip ?_
    refine ws ?_
    refine wp_block ?_
    revert a;refine sr (mv rfl rfl (mv rfl rfl (mv rfl rfl fun a hF=>?_)))
    obtain ⟨hk108, hM104⟩ := chk_ex hM104
    replace hk108 := ixB_t hk108
    revert a;refine ov rfl rfl rfl (fun a hF=>run_indexAddr (b := adB A0) (off := adO A0) rfl Try.underlying35 sz107 ((hF.ev rfl).trans (congrArg (fun A => Value.slice A x0.length c0) ((S.rc 0 rfl).rd.ad (ix_pos hk108)))) (hF.ev rfl) hk108.1 hk108.2 (k' := adO A0 + p105.2.2.toNat * 3) rfl) (ov (v := .pointer (some ⟨adB A0, adO A0 + p105.2.2.toNat * 3, none⟩)) rfl rfl rfl (fun a hF=>run_fieldAddr rfl fl107_0 (hF.ev rfl) rfl) fun a hF=>?_)
    obtain ⟨w', hrun, S'⟩ := run_storeElN (P := Try.prog) (ρ := a.eval) (y0 := (p105.2.1, (p105.1.getD p105.2.2.toNat ((0, 0, 0) : Int × Int × Int)).2.1, (p105.1.getD p105.2.2.toNat ((0, 0, 0) : Int × Int × Int)).2.2)) (off := 0) S 3 (.tmp 16) (.tmp 14) (i := 0) sz3 (hF.ev rfl) (hF.ev rfl) rfl rfl rfl rfl hn106 eLine_len ((0, 0, 0) : Int × Int × Int) (ix_ltn hk108 hn106) rfl rfl
    refine op_do rfl rfl (hrun _ rfl) ?_; clear hrun S; have S := S'; clear S'; generalize w' = u at S ⊢
    refine wn ?_
    revert a;refine sr (mv rfl rfl (ov (v := .int .i64 (w64 (p105.2.1 + 1))) rfl rfl rfl (fun a hF=>run_add (z := w64 (p105.2.1 + 1)) (hF.ev rfl) rfl rfl rfl) (ag rfl rfl fun a hF=>wn ?_)))
    revert a;refine sr (mv rfl rfl (mv rfl rfl (mv rfl rfl fun a hF=>?_)))
    obtain ⟨hk109, hM104⟩ := chk_ex hM104
    replace hk109 := ixB_t hk109
    revert a;refine ov rfl rfl rfl (fun a hF=>run_indexAddr (b := adB A0) (off := adO A0) rfl Try.underlying35 sz107 ((hF.ev rfl).trans (congrArg (fun A => Value.slice A x0.length c0) ((S.rc 0 rfl).rd.ad (ix_pos hk109)))) (hF.ev rfl) hk109.1 hk109.2 (k' := adO A0 + p105.2.2.toNat * 3) rfl) (ov (v := .pointer (some ⟨adB A0, adO A0 + p105.2.2.toNat * 3 + 1, none⟩)) rfl rfl rfl (fun a hF=>run_fieldAddr rfl fl107_1 (hF.ev rfl) rfl) fun a hF=>?_)
    obtain ⟨w', hrun, S'⟩ := run_storeEl2 (P := Try.prog) (ρ := a.eval) (l := p105.1) (y0 := (p105.2.1, (p105.1.getD p105.2.2.toNat ((0, 0, 0) : Int × Int × Int)).2.1, (p105.1.getD p105.2.2.toNat ((0, 0, 0) : Int × Int × Int)).2.2)) (y1 := (p105.2.1, w64 (p105.2.1 + 1), (p105.1.getD p105.2.2.toNat ((0, 0, 0) : Int × Int × Int)).2.2)) (off := 1) S 3 (.tmp 23) (.tmp 21) (i := 0) sz3 (hF.ev rfl) (hF.ev rfl) rfl rfl rfl rfl hn106 eLine_len (ix_ltn hk109 hn106) rfl rfl
    refine op_do rfl rfl (hrun _ rfl) ?_; clear hrun S; have S := S'; clear S'; generalize w' = u at S ⊢
    refine wn ?_
    revert a;refine sr (mv rfl rfl (ov (v := .int .i64 (w64 ((w64 (p105.2.1 + 1)) + 1))) rfl rfl rfl (fun a hF=>run_add (z := w64 ((w64 (p105.2.1 + 1)) + 1)) (hF.ev rfl) rfl rfl rfl) (ag rfl rfl fun a hF=>wn ?_)))
    revert a;refine sr (mv rfl rfl (mv rfl rfl (mv rfl rfl fun a hF=>?_)))
    obtain ⟨hk110, hM104⟩ := chk_ex hM104
    replace hk110 := ixB_t hk110
    revert a;refine ov rfl rfl rfl (fun a hF=>run_indexAddr (b := adB A0) (off := adO A0) rfl Try.underlying35 sz107 ((hF.ev rfl).trans (congrArg (fun A => Value.slice A x0.length c0) ((S.rc 0 rfl).rd.ad (ix_pos hk110)))) (hF.ev rfl) hk110.1 hk110.2 (k' := adO A0 + p105.2.2.toNat * 3) rfl) (ov (v := .pointer (some ⟨adB A0, adO A0 + p105.2.2.toNat * 3 + 2, none⟩)) rfl rfl rfl (fun a hF=>run_fieldAddr rfl fl107_2 (hF.ev rfl) rfl) fun a hF=>?_)
    obtain ⟨w', hrun, S'⟩ := run_storeEl2 (P := Try.prog) (ρ := a.eval) (l := p105.1) (y0 := (p105.2.1, w64 (p105.2.1 + 1), (p105.1.getD p105.2.2.toNat ((0, 0, 0) : Int × Int × Int)).2.2)) (y1 := (p105.2.1, w64 (p105.2.1 + 1), w64 ((w64 (p105.2.1 + 1)) + 1))) (off := 2) S 3 (.tmp 30) (.tmp 28) (i := 0) sz3 (hF.ev rfl) (hF.ev rfl) rfl rfl rfl rfl hn106 eLine_len (ix_ltn hk110 hn106) rfl rfl
    refine op_do rfl rfl (hrun _ rfl) ?_; clear hrun S; have S := S'; clear S'; generalize w' = u at S ⊢
    refine wn ?_
    revert a;refine rl (mv rfl rfl (ov (v := .int .i64 (w64 ((w64 ((w64 (p105.2.1 + 1)) + 1)) + 1))) rfl rfl rfl (fun a hF=>run_add (z := w64 ((w64 ((w64 (p105.2.1 + 1)) + 1)) + 1)) (hF.ev rfl) rfl rfl rfl) (ag rfl rfl fun a hF=>wn ?_)))
    revert a;refine rl (mv rfl rfl (ov (v := .int .i64 (w64 (p105.2.2 + 1))) rfl rfl rfl (fun a hF=>run_add (z := w64 (p105.2.2 + 1)) (hF.ev rfl) rfl rfl rfl) (ag rfl rfl fun a hF=>wn ?_)))
    exact ⟨f1, Nat.lt_succ_self _, (p105.1.set p105.2.2.toNat (p105.2.1, w64 (p105.2.1 + 1), w64 ((w64 (p105.2.1 + 1)) + 1)), w64 ((w64 ((w64 (p105.2.1 + 1)) + 1)) + 1), w64 (p105.2.2 + 1)), hM104, (len_set hn106), hF.keep _ ⟨rfl, rfl, rfl, rfl, trivial⟩, S.selT (M := [.row 107 3 (.slice A0 x0.length c0) x0.length ((p105.1.set p105.2.2.toNat (p105.2.1, w64 (p105.2.1 + 1), w64 ((w64 (p105.2.1 + 1)) + 1))).flatMap eLine)]) 1 [0] rfl rfl rfl⟩
  rintro a u ⟨p101, rfl, hn103, hF, S⟩
  revert a;refine sr (mv rfl rfl (ag rfl rfl fun a hF=>wn ?_))
  refine wp_ret ?_
  repeat with_reducible first|refine tr ?_|refine ir ?_|refine nr ?_
  refine ret1_gw (.inl rfl) hF rfl (res_tmp (hF.ev rfl)) ?_
  obtain rfl := Option.some.inj hM
  exact ⟨rfl, hn103, S.selT (M := [.row 107 3 (.slice A0 x0.length c0) x0.length (p101.2.flatMap eLine)]) 1 [0] rfl rfl rfl⟩
theorem c_laws_markNet {x0 : Int} {x1 : List (Int × Int × Int)} {x2 : Int} {A1 : Option Addr} {n1 c1 : Nat} {w : World} {r : Int × List (Int × Int × Int)} {w0 : World} {X : List Asn} (h1 : n1 = x1.length) (S : St w0 w (Asn.row 107 3 (.slice A1 n1 c1) n1 (x1.flatMap eLine) :: X)) (hM : m_laws_markNet x0 x1 x2 = some r) :
    Calls Try.prog 39 #[.agg #[.int .i64 x0, .slice A1 n1 c1], .int .i64 x2] w (fun e w' => e = .returned (.int .i64 r.1) ∧ n1 = r.2.length ∧ St w0 w' (Asn.row 107 3 (.slice A1 n1 c1) n1 (r.2.flatMap eLine) :: X)) := by
  obtain rfl := h1
  unfold m_laws_markNet at hM
  refine calls_gw Try.func39 Try.ntmps39 rfl [(0, .agg #[.int .i64 x0, .slice A1 x1.length c1]), (1, .int .i64 x2)] ⟨rfl, rfl, trivial⟩ rfl ?_
  intro a hF
  refine wsg ?_
  refine op_new (cs := #[.int .i64 x0, .slice A1 x1.length c1]) rfl rfl hF rfl S (run_box rfl (hF.ev rfl) rfl) ?_; clear hF S; intro a g101 u hF S
  refine op_val (v := .int .i64 0) rfl rfl hF rfl (run_assign rfl rfl) ?_;clear hF;intro a hF
  refine wn ?_
  revert a;refine sr (ov (v := .pointer (some ⟨g101, 1, none⟩)) rfl rfl rfl (fun a hF=>run_fieldAddr rfl fl37_1 (hF.ev rfl) rfl) (ov (v := .slice A1 x1.length c1) rfl rfl rfl (fun a hF=>run_load1 rfl one35 (hF.ev rfl) ((S.free 0 rfl).cell rfl)) (mv rfl rfl fun a hF=>?_)))
  obtain ⟨p102, h102, hM⟩ := bind_ex hM
  refine op_call rfl rfl hF rfl (run_call (vs := [.slice A1 x1.length c1, .int .i64 x2]) rfl rfl co68 ⟨(hF.ev rfl), (hF.ev rfl), trivial⟩) (c_laws_markLineS (x0 := x1) (x1 := x2) rfl (show St w0 _ (Asn.row 107 3 (.slice A1 x1.length c1) x1.length (x1.flatMap eLine) :: Asn.box g101 37 #[.int .i64 x0, .slice A1 x1.length c1] :: X) from S.selT (M := [.row 107 3 (.slice A1 x1.length c1) x1.length (x1.flatMap eLine), .box g101 37 #[.int .i64 x0, .slice A1 x1.length c1]]) 2 [1, 0] rfl rfl rfl) h102) ?_
  rintro e u ⟨rfl, hn103, T⟩
  refine ⟨_, rfl, ?_⟩
  clear hF; intro a hF
  clear S; have S := T; clear T
  refine op_val (v := .int .i64 p102.1) rfl rfl hF rfl (run_assign rfl (hF.ev rfl)) ?_;clear hF;intro a hF
  refine wn ?_
  revert a;refine sr (mv rfl rfl (ag rfl rfl fun a hF=>wn ?_))
  refine wp_ret ?_
  repeat with_reducible first|refine tr ?_|refine ir ?_|refine nr ?_
  refine ret1_gw (.inl rfl) hF rfl (res_tmp (hF.ev rfl)) ?_
  obtain rfl := Option.some.inj hM
  exact ⟨rfl, hn103, S.selT (M := [.row 107 3 (.slice A1 x1.length c1) x1.length (p102.2.flatMap eLine)]) 2 [0] rfl rfl rfl⟩
theorem c_laws_markBusS {x0 : List (Int × Int)} {x1 : Int} {A0 : Option Addr} {n0 c0 : Nat} {w : World} {r : Int × List (Int × Int)} {w0 : World} {X : List Asn} (h0 : n0 = x0.length) (S : St w0 w (Asn.row 69 2 (.slice A0 n0 c0) n0 (x0.flatMap eBus) :: X)) (hM : m_laws_markBusS x0 x1 = some r) :
    Calls Try.prog 40 #[.slice A0 n0 c0, .int .i64 x1] w (fun e w' => e = .returned (.int .i64 r.1) ∧ n0 = r.2.length ∧ St w0 w' (Asn.row 69 2 (.slice A0 n0 c0) n0 (r.2.flatMap eBus) :: X)) := by
  obtain rfl := h0
  unfold m_laws_markBusS at hM
  refine calls_gw Try.func40 Try.ntmps40 rfl [(0, .slice A0 x0.length c0), (1, .int .i64 x1)] ⟨rfl, rfl, trivial⟩ rfl ?_
  intro a hF
  revert a;refine sr (ov (v := .int .i64 0) rfl rfl rfl (fun a hF=>run_assign rfl rfl) fun a hF=>wn ?_)
  refine ws ?_
  revert a;refine sr (ov (v := .int .i64 0) rfl rfl rfl (fun a hF=>run_assign rfl rfl) fun a hF=>wn ?_)
  obtain ⟨o102, hM104, hM⟩ := bind_ex hM
  refine wp_cut (fun a u => ∃ (p101 : Int × List (Int × Int)), p101 = o102 ∧ x0.length = p101.2.length ∧ Fr a 27 [(1, .int .i64 p101.1), (4, .int .i64 0)] ∧ St w0 u (Asn.row 69 2 (.slice A0 x0.length c0) x0.length (p101.2.flatMap eBus) :: X)) ?_ ?_
  · have _ := trivial
    refine wp_block ?_
    refine loop_gw (fun m a u => ∃ (p105 : List (Int × Int) × Int × Int), m_laws_markBusS_l1 x0 m p105 = some _ ∧ x0.length = p105.1.length ∧ Fr a 27 [(0, .slice A0 x0.length c0), (1, .int .i64 p105.2.1), (4, .int .i64 0), (5, .int .i64 p105.2.2)] ∧ St w0 u (Asn.row 69 2 (.slice A0 x0.length c0) x0.length (p105.1.flatMap eBus) :: X)) FUEL ⟨(x0, x1, 0), hM104, rfl, hF.keep _ ⟨rfl, rfl, rfl, rfl, trivial⟩, S.selT (M := [.row 69 2 (.slice A0 x0.length c0) x0.length (x0.flatMap eBus)]) 1 [0] rfl rfl rfl⟩ ?_
    clear hF S hM104; rintro m a u ⟨p105, hM104, hn106, hF, S⟩
    rcases m with _ | f1
    · exact none_some hM104
    rw [m_laws_markBusS_l1.eq_2] at hM104
    refine ws ?_
    revert a;refine sr (mv rfl rfl (mv rfl rfl (ov rfl rfl rfl (fun a hF=>run_lenL rfl rfl Try.underlying38 (hF.ev rfl)) (ov (v := .bool (ltB p105.2.2 (x0.length : Int))) rfl rfl rfl (fun a hF=>run_lss (hF.ev rfl) (hF.ev rfl) rfl) fun a hF=>wn ?_))))
    cases hc107 : (ltB p105.2.2 (x0.length : Int))
    · replace hM104 := bif_f hc107 hM104
      refine cond_f hF rfl hc107 ?_
      refine wp_exit ?_
      repeat with_reducible (first | refine then_exit ?_ | refine in_hit ?_ | refine in_miss rfl ?_)
      obtain rfl := Option.some.inj hM104
      exact ⟨(p105.2.1, p105.1), rfl, hn106, hF.keep _ ⟨rfl, rfl, trivial⟩, S.selT (M := [.row 69 2 (.slice A0 x0.length c0) x0.length (p105.1.flatMap eBus)]) 1 [0] rfl rfl rfl⟩
    replace hM104 := bif_t hc107 hM104
    refine cond_t hF rfl hc107 ?_
    refine wp_skip ?_
    refine ws ?_
    refine wp_block ?_
    revert a;refine sr (mv rfl rfl (mv rfl rfl (mv rfl rfl fun a hF=>?_)))
    obtain ⟨hk108, hM104⟩ := chk_ex hM104
    replace hk108 := ixB_t hk108
    revert a;refine ov rfl rfl rfl (fun a hF=>run_indexAddr (b := adB A0) (off := adO A0) rfl Try.underlying38 sz69 ((hF.ev rfl).trans (congrArg (fun A => Value.slice A x0.length c0) ((S.rc 0 rfl).rd.ad (ix_pos hk108)))) (hF.ev rfl) hk108.1 hk108.2 (k' := adO A0 + p105.2.2.toNat * 2) rfl) (ov (v := .pointer (some ⟨adB A0, adO A0 + p105.2.2.toNat * 2, none⟩)) rfl rfl rfl (fun a hF=>run_fieldAddr rfl fl69_0 (hF.ev rfl) rfl) fun a hF=>?_)
    obtain ⟨w', hrun, S'⟩ := run_storeElN (P := Try.prog) (ρ := a.eval) (y0 := (p105.2.1, (p105.1.getD p105.2.2.toNat ((0, 0) : Int × Int)).2)) (off := 0) S 3 (.tmp 16) (.tmp 14) (i := 0) sz3 (hF.ev rfl) (hF.ev rfl) rfl rfl rfl rfl hn106 eBus_len ((0, 0) : Int × Int) (ix_ltn hk108 hn106) rfl rfl
    refine op_do rfl rfl (hrun _ rfl) ?_; clear hrun S; have S := S'; clear S'; generalize w' = u at S ⊢
    refine wn ?_
    revert a;refine sr (mv rfl rfl (ov (v := .int .i64 (w64 (p105.2.1 + 1))) rfl rfl rfl (fun a hF=>run_add (z := w64 (p105.2.1 + 1)) (hF.ev rfl) rfl rfl rfl) (ag rfl rfl fun a hF=>wn ?_)))
    revert a;refine sr (mv rfl rfl (mv rfl rfl (mv rfl rfl fun a hF=>?_)))
    obtain ⟨hk109, hM104⟩ := chk_ex hM104
    replace hk109 := ixB_t hk109
    revert a;refine ov rfl rfl rfl (fun a hF=>run_indexAddr (b := adB A0) (off := adO A0) rfl Try.underlying38 sz69 ((hF.ev rfl).trans (congrArg (fun A => Value.slice A x0.length c0) ((S.rc 0 rfl).rd.ad (ix_pos hk109)))) (hF.ev rfl) hk109.1 hk109.2 (k' := adO A0 + p105.2.2.toNat * 2) rfl) (ov (v := .pointer (some ⟨adB A0, adO A0 + p105.2.2.toNat * 2 + 1, none⟩)) rfl rfl rfl (fun a hF=>run_fieldAddr rfl fl69_1 (hF.ev rfl) rfl) fun a hF=>?_)
    obtain ⟨w', hrun, S'⟩ := run_storeEl2 (P := Try.prog) (ρ := a.eval) (l := p105.1) (y0 := (p105.2.1, (p105.1.getD p105.2.2.toNat ((0, 0) : Int × Int)).2)) (y1 := (p105.2.1, w64 (p105.2.1 + 1))) (off := 1) S 3 (.tmp 23) (.tmp 21) (i := 0) sz3 (hF.ev rfl) (hF.ev rfl) rfl rfl rfl rfl hn106 eBus_len (ix_ltn hk109 hn106) rfl rfl
    refine op_do rfl rfl (hrun _ rfl) ?_; clear hrun S; have S := S'; clear S'; generalize w' = u at S ⊢
    refine wn ?_
    revert a;refine rl (mv rfl rfl (ov (v := .int .i64 (w64 ((w64 (p105.2.1 + 1)) + 1))) rfl rfl rfl (fun a hF=>run_add (z := w64 ((w64 (p105.2.1 + 1)) + 1)) (hF.ev rfl) rfl rfl rfl) (ag rfl rfl fun a hF=>wn ?_)))
    revert a;refine rl (mv rfl rfl (ov (v := .int .i64 (w64 (p105.2.2 + 1))) rfl rfl rfl (fun a hF=>run_add (z := w64 (p105.2.2 + 1)) (hF.ev rfl) rfl rfl rfl) (ag rfl rfl fun a hF=>wn ?_)))
    exact ⟨f1, Nat.lt_succ_self _, (p105.1.set p105.2.2.toNat (p105.2.1, w64 (p105.2.1 + 1)), w64 ((w64 (p105.2.1 + 1)) + 1), w64 (p105.2.2 + 1)), hM104, (len_set hn106), hF.keep _ ⟨rfl, rfl, rfl, rfl, trivial⟩, S.selT (M := [.row 69 2 (.slice A0 x0.length c0) x0.length ((p105.1.set p105.2.2.toNat (p105.2.1, w64 (p105.2.1 + 1))).flatMap eBus)]) 1 [0] rfl rfl rfl⟩
  rintro a u ⟨p101, rfl, hn103, hF, S⟩
  revert a;refine sr (mv rfl rfl (ag rfl rfl fun a hF=>wn ?_))
  refine wp_ret ?_
  repeat with_reducible first|refine tr ?_|refine ir ?_|refine nr ?_
  refine ret1_gw (.inl rfl) hF rfl (res_tmp (hF.ev rfl)) ?_
  obtain rfl := Option.some.inj hM
  exact ⟨rfl, hn103, S.selT (M := [.row 69 2 (.slice A0 x0.length c0) x0.length (p101.2.flatMap eBus)]) 1 [0] rfl rfl rfl⟩
theorem c_laws_markBoolS {x0 : List Bool} {x1 : Int} {A0 : Option Addr} {n0 c0 : Nat} {w : World} {r : Int × List Bool} {w0 : World} {X : List Asn} (h0 : n0 = x0.length) (S : St w0 w (Asn.row 4 1 (.slice A0 n0 c0) n0 (x0.flatMap eB) :: X)) (hM : m_laws_markBoolS x0 x1 = some r) :
    Calls Try.prog 69 #[.slice A0 n0 c0, .int .i64 x1] w (fun e w' => e = .returned (.int .i64 r.1) ∧ n0 = r.2.length ∧ St w0 w' (Asn.row 4 1 (.slice A0 n0 c0) n0 (r.2.flatMap eB) :: X)) := by
  obtain rfl := h0
  unfold m_laws_markBoolS at hM
  refine calls_gw Try.func69 Try.ntmps69 rfl [(0, .slice A0 x0.length c0), (1, .int .i64 x1)] ⟨rfl, rfl, trivial⟩ rfl ?_
  intro a hF
  revert a;refine sr (ov (v := .int .i64 0) rfl rfl rfl (fun a hF=>run_assign rfl rfl) fun a hF=>wn ?_)
  refine ws ?_
  revert a;refine sr (ov (v := .int .i64 0) rfl rfl rfl (fun a hF=>run_assign rfl rfl) fun a hF=>wn ?_)
  obtain ⟨o102, hM104, hM⟩ := bind_ex hM
  refine wp_cut (fun a u => ∃ (p101 : Int × List Bool), p101 = o102 ∧ x0.length = p101.2.length ∧ Fr a 21 [(1, .int .i64 p101.1), (4, .int .i64 0)] ∧ St w0 u (Asn.row 4 1 (.slice A0 x0.length c0) x0.length (p101.2.flatMap eB) :: X)) ?_ ?_
  · have _ := trivial
    refine wp_block ?_
    refine loop_gw (fun m a u => ∃ (p105 : List Bool × Int × Int), m_laws_markBoolS_l1 x0 m p105 = some _ ∧ x0.length = p105.1.length ∧ Fr a 21 [(0, .slice A0 x0.length c0), (1, .int .i64 p105.2.1), (4, .int .i64 0), (5, .int .i64 p105.2.2)] ∧ St w0 u (Asn.row 4 1 (.slice A0 x0.length c0) x0.length (p105.1.flatMap eB) :: X)) FUEL ⟨(x0, x1, 0), hM104, rfl, hF.keep _ ⟨rfl, rfl, rfl, rfl, trivial⟩, S.selT (M := [.row 4 1 (.slice A0 x0.length c0) x0.length (x0.flatMap eB)]) 1 [0] rfl rfl rfl⟩ ?_
    clear hF S hM104; rintro m a u ⟨p105, hM104, hn106, hF, S⟩
    rcases m with _ | f1
    · exact none_some hM104
    rw [m_laws_markBoolS_l1.eq_2] at hM104
    refine ws ?_
    revert a;refine sr (mv rfl rfl (mv rfl rfl (ov rfl rfl rfl (fun a hF=>run_lenL rfl rfl Try.underlying26 (hF.ev rfl)) (ov (v := .bool (ltB p105.2.2 (x0.length : Int))) rfl rfl rfl (fun a hF=>run_lss (hF.ev rfl) (hF.ev rfl) rfl) fun a hF=>wn ?_))))
    cases hc107 : (ltB p105.2.2 (x0.length : Int))
    · replace hM104 := bif_f hc107 hM104
      refine cond_f hF rfl hc107 ?_
      refine wp_exit ?_
      repeat with_reducible (first | refine then_exit ?_ | refine in_hit ?_ | refine in_miss rfl ?_)
      obtain rfl := Option.some.inj hM104
      exact ⟨(p105.2.1, p105.1), rfl, hn106, hF.keep _ ⟨rfl, rfl, trivial⟩, S.selT (M := [.row 4 1 (.slice A0 x0.length c0) x0.length (p105.1.flatMap eB)]) 1 [0] rfl rfl rfl⟩
    replace hM104 := bif_t hc107 hM104
    refine cond_t hF rfl hc107 ?_
    refine wp_skip ?_
    refine ws ?_
    refine wp_block ?_
    revert a;refine sr (mv rfl rfl (mv rfl rfl (mv rfl rfl (ov (v := .int .i64 (Int.tmod p105.2.1 3)) rfl rfl rfl (fun a hF=>run_rem (z := Int.tmod p105.2.1 3) (hF.ev rfl) rfl rfl (by decide) rfl) (ov (v := .bool ((Int.tmod p105.2.1 3) == 0)) rfl rfl rfl (fun a hF=>run_eql (hF.ev rfl) rfl rfl) fun a hF=>?_)))))
    obtain ⟨hk108, hM104⟩ := chk_ex hM104
    replace hk108 := ixB_t hk108
    refine op_val (v := .pointer (some ⟨adB A0, adO A0 + p105.2.2.toNat * 1, none⟩)) rfl rfl hF rfl (run_indexAddr (b := adB A0) (off := adO A0) rfl Try.underlying26 sz4 ((hF.ev rfl).trans (congrArg (fun A => Value.slice A x0.length c0) ((S.rc 0 rfl).rd.ad (ix_pos hk108)))) (hF.ev rfl) hk108.1 hk108.2 (k' := adO A0 + p105.2.2.toNat * 1) rfl) ?_;clear hF;intro a hF
    obtain ⟨w', hrun, S'⟩ := run_storeElN (P := Try.prog) (ρ := a.eval) (y0 := (Int.tmod p105.2.1 3) == 0) (off := 0) S 4 (.tmp 17) (.tmp 16) (i := 0) sz4 (hF.ev rfl) (hF.ev rfl) rfl rfl rfl rfl hn106 eB_len false (ix_ltn hk108 hn106) rfl rfl
    refine op_do rfl rfl (hrun _ rfl) ?_; clear hrun S; have S := S'; clear S'; generalize w' = u at S ⊢
    refine wn ?_
    revert a;refine rl (mv rfl rfl (ov (v := .int .i64 (w64 (p105.2.1 + 1))) rfl rfl rfl (fun a hF=>run_add (z := w64 (p105.2.1 + 1)) (hF.ev rfl) rfl rfl rfl) (ag rfl rfl fun a hF=>wn ?_)))
    revert a;refine rl (mv rfl rfl (ov (v := .int .i64 (w64 (p105.2.2 + 1))) rfl rfl rfl (fun a hF=>run_add (z := w64 (p105.2.2 + 1)) (hF.ev rfl) rfl rfl rfl) (ag rfl rfl fun a hF=>wn ?_)))
    exact ⟨f1, Nat.lt_succ_self _, (p105.1.set p105.2.2.toNat ((Int.tmod p105.2.1 3) == 0), w64 (p105.2.1 + 1), w64 (p105.2.2 + 1)), hM104, (len_set hn106), hF.keep _ ⟨rfl, rfl, rfl, rfl, trivial⟩, S.selT (M := [.row 4 1 (.slice A0 x0.length c0) x0.length ((p105.1.set p105.2.2.toNat ((Int.tmod p105.2.1 3) == 0)).flatMap eB)]) 1 [0] rfl rfl rfl⟩
  rintro a u ⟨p101, rfl, hn103, hF, S⟩
  revert a;refine sr (mv rfl rfl (ag rfl rfl fun a hF=>wn ?_))
  refine wp_ret ?_
  repeat with_reducible first|refine tr ?_|refine ir ?_|refine nr ?_
  refine ret1_gw (.inl rfl) hF rfl (res_tmp (hF.ev rfl)) ?_
  obtain rfl := Option.some.inj hM
  exact ⟨rfl, hn103, S.selT (M := [.row 4 1 (.slice A0 x0.length c0) x0.length (p101.2.flatMap eB)]) 1 [0] rfl rfl rfl⟩
theorem c_laws_markPermitS {x0 : List (Int × Int)} {x1 : Int} {A0 : Option Addr} {n0 c0 : Nat} {w : World} {r : Int × List (Int × Int)} {w0 : World} {X : List Asn} (h0 : n0 = x0.length) (S : St w0 w (Asn.row 78 2 (.slice A0 n0 c0) n0 (x0.flatMap ePermit) :: X)) (hM : m_laws_markPermitS x0 x1 = some r) :
    Calls Try.prog 70 #[.slice A0 n0 c0, .int .i64 x1] w (fun e w' => e = .returned (.int .i64 r.1) ∧ n0 = r.2.length ∧ St w0 w' (Asn.row 78 2 (.slice A0 n0 c0) n0 (r.2.flatMap ePermit) :: X)) := by
  obtain rfl := h0
  unfold m_laws_markPermitS at hM
  refine calls_gw Try.func70 Try.ntmps70 rfl [(0, .slice A0 x0.length c0), (1, .int .i64 x1)] ⟨rfl, rfl, trivial⟩ rfl ?_
  intro a hF
  revert a;refine sr (ov (v := .int .i64 0) rfl rfl rfl (fun a hF=>run_assign rfl rfl) fun a hF=>wn ?_)
  refine ws ?_
  revert a;refine sr (ov (v := .int .i64 0) rfl rfl rfl (fun a hF=>run_assign rfl rfl) fun a hF=>wn ?_)
  obtain ⟨o102, hM104, hM⟩ := bind_ex hM
  refine wp_cut (fun a u => ∃ (p101 : Int × List (Int × Int)), p101 = o102 ∧ x0.length = p101.2.length ∧ Fr a 27 [(1, .int .i64 p101.1), (4, .int .i64 0)] ∧ St w0 u (Asn.row 78 2 (.slice A0 x0.length c0) x0.length (p101.2.flatMap ePermit) :: X)) ?_ ?_
  · have _ := trivial
    refine wp_block ?_
    refine loop_gw (fun m a u => ∃ (p105 : List (Int × Int) × Int × Int), m_laws_markPermitS_l1 x0 m p105 = some _ ∧ x0.length = p105.1.length ∧ Fr a 27 [(0, .slice A0 x0.length c0), (1, .int .i64 p105.2.1), (4, .int .i64 0), (5, .int .i64 p105.2.2)] ∧ St w0 u (Asn.row 78 2 (.slice A0 x0.length c0) x0.length (p105.1.flatMap ePermit) :: X)) FUEL ⟨(x0, x1, 0), hM104, rfl, hF.keep _ ⟨rfl, rfl, rfl, rfl, trivial⟩, S.selT (M := [.row 78 2 (.slice A0 x0.length c0) x0.length (x0.flatMap ePermit)]) 1 [0] rfl rfl rfl⟩ ?_
    clear hF S hM104; rintro m a u ⟨p105, hM104, hn106, hF, S⟩
    rcases m with _ | f1
    · exact none_some hM104
    rw [m_laws_markPermitS_l1.eq_2] at hM104
    refine ws ?_
    revert a;refine sr (mv rfl rfl (mv rfl rfl (ov rfl rfl rfl (fun a hF=>run_lenL rfl rfl Try.underlying39 (hF.ev rfl)) (ov (v := .bool (ltB p105.2.2 (x0.length : Int))) rfl rfl rfl (fun a hF=>run_lss (hF.ev rfl) (hF.ev rfl) rfl) fun a hF=>wn ?_))))
    cases hc107 : (ltB p105.2.2 (x0.length : Int))
    · replace hM104 := bif_f hc107 hM104
      refine cond_f hF rfl hc107 ?_
      refine wp_exit ?_
      repeat with_reducible (first | refine then_exit ?_ | refine in_hit ?_ | refine in_miss rfl ?_)
      obtain rfl := Option.some.inj hM104
      exact ⟨(p105.2.1, p105.1), rfl, hn106, hF.keep _ ⟨rfl, rfl, trivial⟩, S.selT (M := [.row 78 2 (.slice A0 x0.length c0) x0.length (p105.1.flatMap ePermit)]) 1 [0] rfl rfl rfl⟩
    replace hM104 := bif_t hc107 hM104
    refine cond_t hF rfl hc107 ?_
    refine wp_skip ?_
    refine ws ?_
    refine wp_block ?_
    revert a;refine sr (mv rfl rfl (mv rfl rfl (mv rfl rfl fun a hF=>?_)))
    obtain ⟨hk108, hM104⟩ := chk_ex hM104
    replace hk108 := ixB_t hk108
    revert a;refine ov rfl rfl rfl (fun a hF=>run_indexAddr (b := adB A0) (off := adO A0) rfl Try.underlying39 sz78 ((hF.ev rfl).trans (congrArg (fun A => Value.slice A x0.length c0) ((S.rc 0 rfl).rd.ad (ix_pos hk108)))) (hF.ev rfl) hk108.1 hk108.2 (k' := adO A0 + p105.2.2.toNat * 2) rfl) (ov (v := .pointer (some ⟨adB A0, adO A0 + p105.2.2.toNat * 2, none⟩)) rfl rfl rfl (fun a hF=>run_fieldAddr rfl fl78_0 (hF.ev rfl) rfl) fun a hF=>?_)
    obtain ⟨w', hrun, S'⟩ := run_storeElN (P := Try.prog) (ρ := a.eval) (y0 := (p105.2.1, (p105.1.getD p105.2.2.toNat ((0, 0) : Int × Int)).2)) (off := 0) S 3 (.tmp 16) (.tmp 14) (i := 0) sz3 (hF.ev rfl) (hF.ev rfl) rfl rfl rfl rfl hn106 ePermit_len ((0, 0) : Int × Int) (ix_ltn hk108 hn106) rfl rfl
    refine op_do rfl rfl (hrun _ rfl) ?_; clear hrun S; have S := S'; clear S'; generalize w' = u at S ⊢
    refine wn ?_
    revert a;refine sr (mv rfl rfl (ov (v := .int .i64 (w64 (p105.2.1 + 1))) rfl rfl rfl (fun a hF=>run_add (z := w64 (p105.2.1 + 1)) (hF.ev rfl) rfl rfl rfl) (ag rfl rfl fun a hF=>wn ?_)))
    revert a;refine sr (mv rfl rfl (mv rfl rfl (mv rfl rfl fun a hF=>?_)))
    obtain ⟨hk109, hM104⟩ := chk_ex hM104
    replace hk109 := ixB_t hk109
    revert a;refine ov rfl rfl rfl (fun a hF=>run_indexAddr (b := adB A0) (off := adO A0) rfl Try.underlying39 sz78 ((hF.ev rfl).trans (congrArg (fun A => Value.slice A x0.length c0) ((S.rc 0 rfl).rd.ad (ix_pos hk109)))) (hF.ev rfl) hk109.1 hk109.2 (k' := adO A0 + p105.2.2.toNat * 2) rfl) (ov (v := .pointer (some ⟨adB A0, adO A0 + p105.2.2.toNat * 2 + 1, none⟩)) rfl rfl rfl (fun a hF=>run_fieldAddr rfl fl78_1 (hF.ev rfl) rfl) fun a hF=>?_)
    obtain ⟨w', hrun, S'⟩ := run_storeEl2 (P := Try.prog) (ρ := a.eval) (l := p105.1) (y0 := (p105.2.1, (p105.1.getD p105.2.2.toNat ((0, 0) : Int × Int)).2)) (y1 := (p105.2.1, w64 (p105.2.1 + 1))) (off := 1) S 3 (.tmp 23) (.tmp 21) (i := 0) sz3 (hF.ev rfl) (hF.ev rfl) rfl rfl rfl rfl hn106 ePermit_len (ix_ltn hk109 hn106) rfl rfl
    refine op_do rfl rfl (hrun _ rfl) ?_; clear hrun S; have S := S'; clear S'; generalize w' = u at S ⊢
    refine wn ?_
    revert a;refine rl (mv rfl rfl (ov (v := .int .i64 (w64 ((w64 (p105.2.1 + 1)) + 1))) rfl rfl rfl (fun a hF=>run_add (z := w64 ((w64 (p105.2.1 + 1)) + 1)) (hF.ev rfl) rfl rfl rfl) (ag rfl rfl fun a hF=>wn ?_)))
    revert a;refine rl (mv rfl rfl (ov (v := .int .i64 (w64 (p105.2.2 + 1))) rfl rfl rfl (fun a hF=>run_add (z := w64 (p105.2.2 + 1)) (hF.ev rfl) rfl rfl rfl) (ag rfl rfl fun a hF=>wn ?_)))
    exact ⟨f1, Nat.lt_succ_self _, (p105.1.set p105.2.2.toNat (p105.2.1, w64 (p105.2.1 + 1)), w64 ((w64 (p105.2.1 + 1)) + 1), w64 (p105.2.2 + 1)), hM104, (len_set hn106), hF.keep _ ⟨rfl, rfl, rfl, rfl, trivial⟩, S.selT (M := [.row 78 2 (.slice A0 x0.length c0) x0.length ((p105.1.set p105.2.2.toNat (p105.2.1, w64 (p105.2.1 + 1))).flatMap ePermit)]) 1 [0] rfl rfl rfl⟩
  rintro a u ⟨p101, rfl, hn103, hF, S⟩
  revert a;refine sr (mv rfl rfl (ag rfl rfl fun a hF=>wn ?_))
  refine wp_ret ?_
  repeat with_reducible first|refine tr ?_|refine ir ?_|refine nr ?_
  refine ret1_gw (.inl rfl) hF rfl (res_tmp (hF.ev rfl)) ?_
  obtain rfl := Option.some.inj hM
  exact ⟨rfl, hn103, S.selT (M := [.row 78 2 (.slice A0 x0.length c0) x0.length (p101.2.flatMap ePermit)]) 1 [0] rfl rfl rfl⟩
theorem c_laws_markWork {x0 : List Bool} {x1 : List Bool} {x2 : List (Int × Int)} {x3 : Int} {A0 : Option Addr} {n0 c0 : Nat} {A1 : Option Addr} {n1 c1 : Nat} {A2 : Option Addr} {n2 c2 : Nat} {w : World} {r : Int × List Bool × List Bool × List (Int × Int)} {w0 : World} {X : List Asn} (h0 : n0 = x0.length) (h1 : n1 = x1.length) (h2 : n2 = x2.length) (S : St w0 w (Asn.row 4 1 (.slice A0 n0 c0) n0 (x0.flatMap eB) :: Asn.row 4 1 (.slice A1 n1 c1) n1 (x1.flatMap eB) :: Asn.row 78 2 (.slice A2 n2 c2) n2 (x2.flatMap ePermit) :: X)) (hM : m_laws_markWork x0 x1 x2 x3 = some r) :
    Calls Try.prog 41 #[.agg #[.slice A0 n0 c0, .slice A1 n1 c1, .slice A2 n2 c2], .int .i64 x3] w (fun e w' => e = .returned (.int .i64 r.1) ∧ n0 = r.2.1.length ∧ n1 = r.2.2.1.length ∧ n2 = r.2.2.2.length ∧ St w0 w' (Asn.row 4 1 (.slice A0 n0 c0) n0 (r.2.1.flatMap eB) :: Asn.row 4 1 (.slice A1 n1 c1) n1 (r.2.2.1.flatMap eB) :: Asn.row 78 2 (.slice A2 n2 c2) n2 (r.2.2.2.flatMap ePermit) :: X)) := by
  obtain rfl := h0
  obtain rfl := h1
  obtain rfl := h2
  unfold m_laws_markWork at hM
  refine calls_gw Try.func41 Try.ntmps41 rfl [(0, .agg #[.slice A0 x0.length c0, .slice A1 x1.length c1, .slice A2 x2.length c2]), (1, .int .i64 x3)] ⟨rfl, rfl, trivial⟩ rfl ?_
  intro a hF
  refine wsg ?_
  refine op_new (cs := #[.slice A0 x0.length c0, .slice A1 x1.length c1, .slice A2 x2.length c2]) rfl rfl hF rfl S (run_box rfl (hF.ev rfl) rfl) ?_; clear hF S; intro a g101 u hF S
  refine op_val (v := .int .i64 0) rfl rfl hF rfl (run_assign rfl rfl) ?_;clear hF;intro a hF
  refine wn ?_
  revert a;refine sr (ov (v := .pointer (some ⟨g101, 0, none⟩)) rfl rfl rfl (fun a hF=>run_fieldAddr rfl fl41_0 (hF.ev rfl) rfl) (ov (v := .slice A0 x0.length c0) rfl rfl rfl (fun a hF=>run_load1 rfl one26 (hF.ev rfl) ((S.free 0 rfl).cell rfl)) (mv rfl rfl fun a hF=>?_)))
  obtain ⟨p102, h102, hM⟩ := bind_ex hM
  refine op_call rfl rfl hF rfl (run_call (vs := [.slice A0 x0.length c0, .int .i64 x3]) rfl rfl co69 ⟨(hF.ev rfl), (hF.ev rfl), trivial⟩) (c_laws_markBoolS (x0 := x0) (x1 := x3) rfl (show St w0 _ (Asn.row 4 1 (.slice A0 x0.length c0) x0.length (x0.flatMap eB) :: Asn.box g101 41 #[.slice A0 x0.length c0, .slice A1 x1.length c1, .slice A2 x2.length c2] :: Asn.row 4 1 (.slice A1 x1.length c1) x1.length (x1.flatMap eB) :: Asn.row 78 2 (.slice A2 x2.length c2) x2.length (x2.flatMap ePermit) :: X) from S.selT (M := [.row 4 1 (.slice A0 x0.length c0) x0.length (x0.flatMap eB), .box g101 41 #[.slice A0 x0.length c0, .slice A1 x1.length c1, .slice A2 x2.length c2], .row 4 1 (.slice A1 x1.length c1) x1.length (x1.flatMap eB), .row 78 2 (.slice A2 x2.length c2) x2.length (x2.flatMap ePermit)]) 4 [1, 0, 2, 3] rfl rfl rfl) h102) ?_
  rintro e u ⟨rfl, hn103, T⟩
  refine ⟨_, rfl, ?_⟩
  clear hF; intro a hF
  clear S; have S := T; clear T
  refine op_val (v := .int .i64 p102.1) rfl rfl hF rfl (run_assign rfl (hF.ev rfl)) ?_;clear hF;intro a hF
  refine wn ?_
  revert a;refine sr (ov (v := .pointer (some ⟨g101, 1, none⟩)) rfl rfl rfl (fun a hF=>run_fieldAddr rfl fl41_1 (hF.ev rfl) rfl) (ov (v := .slice A1 x1.length c1) rfl rfl rfl (fun a hF=>run_load1 rfl one26 (hF.ev rfl) ((S.free 1 rfl).cell rfl)) (mv rfl rfl fun a hF=>?_)))
  obtain ⟨p104, h104, hM⟩ := bind_ex hM
  refine op_call rfl rfl hF rfl (run_call (vs := [.slice A1 x1.length c1, .int .i64 p102.1]) rfl rfl co69 ⟨(hF.ev rfl), (hF.ev rfl), trivial⟩) (c_laws_markBoolS (x0 := x1) (x1 := p102.1) rfl (show St w0 _ (Asn.row 4 1 (.slice A1 x1.length c1) x1.length (x1.flatMap eB) :: Asn.row 4 1 (.slice A0 x0.length c0) x0.length (p102.2.flatMap eB) :: Asn.box g101 41 #[.slice A0 x0.length c0, .slice A1 x1.length c1, .slice A2 x2.length c2] :: Asn.row 78 2 (.slice A2 x2.length c2) x2.length (x2.flatMap ePermit) :: X) from S.selT (M := [.row 4 1 (.slice A1 x1.length c1) x1.length (x1.flatMap eB), .row 4 1 (.slice A0 x0.length c0) x0.length (p102.2.flatMap eB), .box g101 41 #[.slice A0 x0.length c0, .slice A1 x1.length c1, .slice A2 x2.length c2], .row 78 2 (.slice A2 x2.length c2) x2.length (x2.flatMap ePermit)]) 4 [2, 0, 1, 3] rfl rfl rfl) h104) ?_
  rintro e u ⟨rfl, hn105, T⟩
  refine ⟨_, rfl, ?_⟩
  clear hF; intro a hF
  clear S; have S := T; clear T
  refine op_val (v := .int .i64 p104.1) rfl rfl hF rfl (run_assign rfl (hF.ev rfl)) ?_;clear hF;intro a hF
  refine wn ?_
  revert a;refine sr (ov (v := .pointer (some ⟨g101, 2, none⟩)) rfl rfl rfl (fun a hF=>run_fieldAddr rfl fl41_2 (hF.ev rfl) rfl) (ov (v := .slice A2 x2.length c2) rfl rfl rfl (fun a hF=>run_load1 rfl one39 (hF.ev rfl) ((S.free 2 rfl).cell rfl)) (mv rfl rfl fun a hF=>?_)))
  obtain ⟨p106, h106, hM⟩ := bind_ex hM
  refine op_call rfl rfl hF rfl (run_call (vs := [.slice A2 x2.length c2, .int .i64 p104.1]) rfl rfl co70 ⟨(hF.ev rfl), (hF.ev rfl), trivial⟩) (c_laws_markPermitS (x0 := x2) (x1 := p104.1) rfl (show St w0 _ (Asn.row 78 2 (.slice A2 x2.length c2) x2.length (x2.flatMap ePermit) :: Asn.row 4 1 (.slice A1 x1.length c1) x1.length (p104.2.flatMap eB) :: Asn.row 4 1 (.slice A0 x0.length c0) x0.length (p102.2.flatMap eB) :: Asn.box g101 41 #[.slice A0 x0.length c0, .slice A1 x1.length c1, .slice A2 x2.length c2] :: X) from S.selT (M := [.row 78 2 (.slice A2 x2.length c2) x2.length (x2.flatMap ePermit), .row 4 1 (.slice A1 x1.length c1) x1.length (p104.2.flatMap eB), .row 4 1 (.slice A0 x0.length c0) x0.length (p102.2.flatMap eB), .box g101 41 #[.slice A0 x0.length c0, .slice A1 x1.length c1, .slice A2 x2.length c2]]) 4 [3, 0, 1, 2] rfl rfl rfl) h106) ?_
  rintro e u ⟨rfl, hn107, T⟩
  refine ⟨_, rfl, ?_⟩
  clear hF; intro a hF
  clear S; have S := T; clear T
  refine op_val (v := .int .i64 p106.1) rfl rfl hF rfl (run_assign rfl (hF.ev rfl)) ?_;clear hF;intro a hF
  refine wn ?_
  revert a;refine sr (mv rfl rfl (ag rfl rfl fun a hF=>wn ?_))
  refine wp_ret ?_
  repeat with_reducible first|refine tr ?_|refine ir ?_|refine nr ?_
  refine ret1_gw (.inl rfl) hF rfl (res_tmp (hF.ev rfl)) ?_
  obtain rfl := Option.some.inj hM
  exact ⟨rfl, hn103, hn105, hn107, S.selT (M := [.row 4 1 (.slice A0 x0.length c0) x0.length (p102.2.flatMap eB), .row 4 1 (.slice A1 x1.length c1) x1.length (p104.2.flatMap eB), .row 78 2 (.slice A2 x2.length c2) x2.length (p106.2.flatMap ePermit)]) 4 [2, 1, 0] rfl rfl rfl⟩
theorem c_laws_markIntS {x0 : List Int} {x1 : Int} {A0 : Option Addr} {n0 c0 : Nat} {w : World} {r : Int × List Int} {w0 : World} {X : List Asn} (h0 : n0 = x0.length) (S : St w0 w (Asn.row 3 1 (.slice A0 n0 c0) n0 (x0.flatMap eI) :: X)) (hM : m_laws_markIntS x0 x1 = some r) :
    Calls Try.prog 14 #[.slice A0 n0 c0, .int .i64 x1] w (fun e w' => e = .returned (.int .i64 r.1) ∧ n0 = r.2.length ∧ St w0 w' (Asn.row 3 1 (.slice A0 n0 c0) n0 (r.2.flatMap eI) :: X)) := by
  obtain rfl := h0
  unfold m_laws_markIntS at hM
  refine calls_gw Try.func14 Try.ntmps14 rfl [(0, .slice A0 x0.length c0), (1, .int .i64 x1)] ⟨rfl, rfl, trivial⟩ rfl ?_
  intro a hF
  revert a;refine sr (ov (v := .int .i64 0) rfl rfl rfl (fun a hF=>run_assign rfl rfl) fun a hF=>wn ?_)
  refine ws ?_
  revert a;refine sr (ov (v := .int .i64 0) rfl rfl rfl (fun a hF=>run_assign rfl rfl) fun a hF=>wn ?_)
  obtain ⟨o102, hM104, hM⟩ := bind_ex hM
  refine wp_cut (fun a u => ∃ (p101 : Int × List Int), p101 = o102 ∧ x0.length = p101.2.length ∧ Fr a 19 [(1, .int .i64 p101.1), (4, .int .i64 0)] ∧ St w0 u (Asn.row 3 1 (.slice A0 x0.length c0) x0.length (p101.2.flatMap eI) :: X)) ?_ ?_
  · have _ := trivial
    refine wp_block ?_
    refine loop_gw (fun m a u => ∃ (p105 : List Int × Int × Int), m_laws_markIntS_l1 x0 m p105 = some _ ∧ x0.length = p105.1.length ∧ Fr a 19 [(0, .slice A0 x0.length c0), (1, .int .i64 p105.2.1), (4, .int .i64 0), (5, .int .i64 p105.2.2)] ∧ St w0 u (Asn.row 3 1 (.slice A0 x0.length c0) x0.length (p105.1.flatMap eI) :: X)) FUEL ⟨(x0, x1, 0), hM104, rfl, hF.keep _ ⟨rfl, rfl, rfl, rfl, trivial⟩, S.selT (M := [.row 3 1 (.slice A0 x0.length c0) x0.length (x0.flatMap eI)]) 1 [0] rfl rfl rfl⟩ ?_
    clear hF S hM104; rintro m a u ⟨p105, hM104, hn106, hF, S⟩
    rcases m with _ | f1
    · exact none_some hM104
    rw [m_laws_markIntS_l1.eq_2] at hM104
    refine ws ?_
    revert a;refine sr (mv rfl rfl (mv rfl rfl (ov rfl rfl rfl (fun a hF=>run_lenL rfl rfl Try.underlying30 (hF.ev rfl)) (ov (v := .bool (ltB p105.2.2 (x0.length : Int))) rfl rfl rfl (fun a hF=>run_lss (hF.ev rfl) (hF.ev rfl) rfl) fun a hF=>wn ?_))))
    cases hc107 : (ltB p105.2.2 (x0.length : Int))
    · replace hM104 := bif_f hc107 hM104
      refine cond_f hF rfl hc107 ?_
      refine wp_exit ?_
      repeat with_reducible (first | refine then_exit ?_ | refine in_hit ?_ | refine in_miss rfl ?_)
      obtain rfl := Option.some.inj hM104
      exact ⟨(p105.2.1, p105.1), rfl, hn106, hF.keep _ ⟨rfl, rfl, trivial⟩, S.selT (M := [.row 3 1 (.slice A0 x0.length c0) x0.length (p105.1.flatMap eI)]) 1 [0] rfl rfl rfl⟩
    replace hM104 := bif_t hc107 hM104
    refine cond_t hF rfl hc107 ?_
    refine wp_skip ?_
    refine ws ?_
    refine wp_block ?_
    revert a;refine sr (mv rfl rfl (mv rfl rfl (mv rfl rfl fun a hF=>?_)))
    obtain ⟨hk108, hM104⟩ := chk_ex hM104
    replace hk108 := ixB_t hk108
    refine op_val (v := .pointer (some ⟨adB A0, adO A0 + p105.2.2.toNat * 1, none⟩)) rfl rfl hF rfl (run_indexAddr (b := adB A0) (off := adO A0) rfl Try.underlying30 sz3 ((hF.ev rfl).trans (congrArg (fun A => Value.slice A x0.length c0) ((S.rc 0 rfl).rd.ad (ix_pos hk108)))) (hF.ev rfl) hk108.1 hk108.2 (k' := adO A0 + p105.2.2.toNat * 1) rfl) ?_;clear hF;intro a hF
    obtain ⟨w', hrun, S'⟩ := run_storeElN (P := Try.prog) (ρ := a.eval) (y0 := p105.2.1) (off := 0) S 3 (.tmp 15) (.tmp 14) (i := 0) sz3 (hF.ev rfl) (hF.ev rfl) rfl rfl rfl rfl hn106 eI_len (0 : Int) (ix_ltn hk108 hn106) rfl rfl
    refine op_do rfl rfl (hrun _ rfl) ?_; clear hrun S; have S := S'; clear S'; generalize w' = u at S ⊢
    refine wn ?_
    revert a;refine rl (mv rfl rfl (ov (v := .int .i64 (w64 (p105.2.1 + 1))) rfl rfl rfl (fun a hF=>run_add (z := w64 (p105.2.1 + 1)) (hF.ev rfl) rfl rfl rfl) (ag rfl rfl fun a hF=>wn ?_)))
    revert a;refine rl (mv rfl rfl (ov (v := .int .i64 (w64 (p105.2.2 + 1))) rfl rfl rfl (fun a hF=>run_add (z := w64 (p105.2.2 + 1)) (hF.ev rfl) rfl rfl rfl) (ag rfl rfl fun a hF=>wn ?_)))
    exact ⟨f1, Nat.lt_succ_self _, (p105.1.set p105.2.2.toNat p105.2.1, w64 (p105.2.1 + 1), w64 (p105.2.2 + 1)), hM104, (len_set hn106), hF.keep _ ⟨rfl, rfl, rfl, rfl, trivial⟩, S.selT (M := [.row 3 1 (.slice A0 x0.length c0) x0.length ((p105.1.set p105.2.2.toNat p105.2.1).flatMap eI)]) 1 [0] rfl rfl rfl⟩
  rintro a u ⟨p101, rfl, hn103, hF, S⟩
  revert a;refine sr (mv rfl rfl (ag rfl rfl fun a hF=>wn ?_))
  refine wp_ret ?_
  repeat with_reducible first|refine tr ?_|refine ir ?_|refine nr ?_
  refine ret1_gw (.inl rfl) hF rfl (res_tmp (hF.ev rfl)) ?_
  obtain rfl := Option.some.inj hM
  exact ⟨rfl, hn103, S.selT (M := [.row 3 1 (.slice A0 x0.length c0) x0.length (p101.2.flatMap eI)]) 1 [0] rfl rfl rfl⟩
theorem c_laws_markWorld {x0 : Int} {x1 : List (Int × Int × Int)} {x2 : List (Int × Int)} {x3 : List Bool} {x4 : List Bool} {x5 : List (Int × Int)} {x6 : List Int} {x7 : Int} {A1 : Option Addr} {n1 c1 : Nat} {A2 : Option Addr} {n2 c2 : Nat} {A3 : Option Addr} {n3 c3 : Nat} {A4 : Option Addr} {n4 c4 : Nat} {A5 : Option Addr} {n5 c5 : Nat} {A6 : Option Addr} {n6 c6 : Nat} {w : World} {r : Int × List (Int × Int × Int) × List (Int × Int) × List Bool × List Bool × List (Int × Int) × List Int} {w0 : World} {X : List Asn} (h1 : n1 = x1.length) (h2 : n2 = x2.length) (h3 : n3 = x3.length) (h4 : n4 = x4.length) (h5 : n5 = x5.length) (h6 : n6 = x6.length) (S : St w0 w (Asn.row 107 3 (.slice A1 n1 c1) n1 (x1.flatMap eLine) :: Asn.row 69 2 (.slice A2 n2 c2) n2 (x2.flatMap eBus) :: Asn.row 4 1 (.slice A3 n3 c3) n3 (x3.flatMap eB) :: Asn.row 4 1 (.slice A4 n4 c4) n4 (x4.flatMap eB) :: Asn.row 78 2 (.slice A5 n5 c5) n5 (x5.flatMap ePermit) :: Asn.row 3 1 (.slice A6 n6 c6) n6 (x6.flatMap eI) :: X)) (hM : m_laws_markWorld x0 x1 x2 x3 x4 x5 x6 x7 = some r) :
    Calls Try.prog 13 #[.agg #[.int .i64 x0, .slice A1 n1 c1, .slice A2 n2 c2, .slice A3 n3 c3, .slice A4 n4 c4, .slice A5 n5 c5, .slice A6 n6 c6], .int .i64 x7] w (fun e w' => e = .returned (.int .i64 r.1) ∧ n1 = r.2.1.length ∧ n2 = r.2.2.1.length ∧ n3 = r.2.2.2.1.length ∧ n4 = r.2.2.2.2.1.length ∧ n5 = r.2.2.2.2.2.1.length ∧ n6 = r.2.2.2.2.2.2.length ∧ St w0 w' (Asn.row 107 3 (.slice A1 n1 c1) n1 (r.2.1.flatMap eLine) :: Asn.row 69 2 (.slice A2 n2 c2) n2 (r.2.2.1.flatMap eBus) :: Asn.row 4 1 (.slice A3 n3 c3) n3 (r.2.2.2.1.flatMap eB) :: Asn.row 4 1 (.slice A4 n4 c4) n4 (r.2.2.2.2.1.flatMap eB) :: Asn.row 78 2 (.slice A5 n5 c5) n5 (r.2.2.2.2.2.1.flatMap ePermit) :: Asn.row 3 1 (.slice A6 n6 c6) n6 (r.2.2.2.2.2.2.flatMap eI) :: X)) := by
  obtain rfl := h1
  obtain rfl := h2
  obtain rfl := h3
  obtain rfl := h4
  obtain rfl := h5
  obtain rfl := h6
  unfold m_laws_markWorld at hM
  refine calls_gw Try.func13 Try.ntmps13 rfl [(0, .agg #[.int .i64 x0, .slice A1 x1.length c1, .slice A2 x2.length c2, .slice A3 x3.length c3, .slice A4 x4.length c4, .slice A5 x5.length c5, .slice A6 x6.length c6]), (1, .int .i64 x7)] ⟨rfl, rfl, trivial⟩ rfl ?_
  intro a hF
  refine wsg ?_
  refine op_new (cs := #[.int .i64 x0, .slice A1 x1.length c1, .slice A2 x2.length c2, .slice A3 x3.length c3, .slice A4 x4.length c4, .slice A5 x5.length c5, .slice A6 x6.length c6]) rfl rfl hF rfl S (run_box rfl (hF.ev rfl) rfl) ?_; clear hF S; intro a g101 u hF S
  refine op_val (v := .int .i64 0) rfl rfl hF rfl (run_assign rfl rfl) ?_;clear hF;intro a hF
  refine wn ?_
  revert a;refine sr (ov (v := .pointer (some ⟨g101, 0, none⟩)) rfl rfl rfl (fun a hF=>run_fieldAddr rfl fl43_0 (hF.ev rfl) rfl) (ov rfl rfl rfl (fun a hF=>run_loadN rfl ag37 (hF.ev rfl) rfl ((S.free 0 rfl).cells 0 #[.int .i64 x0, .slice A1 x1.length c1] rfl)) (mv rfl rfl fun a hF=>?_)))
  obtain ⟨p102, h102, hM⟩ := bind_ex hM
  refine op_call rfl rfl hF rfl (run_call (vs := [.agg #[.int .i64 x0, .slice A1 x1.length c1], .int .i64 x7]) rfl rfl co39 ⟨(hF.ev rfl), (hF.ev rfl), trivial⟩) (c_laws_markNet (x0 := x0) (x1 := x1) (x2 := x7) rfl (show St w0 _ (Asn.row 107 3 (.slice A1 x1.length c1) x1.length (x1.flatMap eLine) :: Asn.box g101 43 #[.int .i64 x0, .slice A1 x1.length c1, .slice A2 x2.length c2, .slice A3 x3.length c3, .slice A4 x4.length c4, .slice A5 x5.length c5, .slice A6 x6.length c6] :: Asn.row 69 2 (.slice A2 x2.length c2) x2.length (x2.flatMap eBus) :: Asn.row 4 1 (.slice A3 x3.length c3) x3.length (x3.flatMap eB) :: Asn.row 4 1 (.slice A4 x4.length c4) x4.length (x4.flatMap eB) :: Asn.row 78 2 (.slice A5 x5.length c5) x5.length (x5.flatMap ePermit) :: Asn.row 3 1 (.slice A6 x6.length c6) x6.length (x6.flatMap eI) :: X) from S.selT (M := [.row 107 3 (.slice A1 x1.length c1) x1.length (x1.flatMap eLine), .box g101 43 #[.int .i64 x0, .slice A1 x1.length c1, .slice A2 x2.length c2, .slice A3 x3.length c3, .slice A4 x4.length c4, .slice A5 x5.length c5, .slice A6 x6.length c6], .row 69 2 (.slice A2 x2.length c2) x2.length (x2.flatMap eBus), .row 4 1 (.slice A3 x3.length c3) x3.length (x3.flatMap eB), .row 4 1 (.slice A4 x4.length c4) x4.length (x4.flatMap eB), .row 78 2 (.slice A5 x5.length c5) x5.length (x5.flatMap ePermit), .row 3 1 (.slice A6 x6.length c6) x6.length (x6.flatMap eI)]) 7 [1, 0, 2, 3, 4, 5, 6] rfl rfl rfl) h102) ?_
  rintro e u ⟨rfl, hn103, T⟩
  refine ⟨_, rfl, ?_⟩
  clear hF; intro a hF
  clear S; have S := T; clear T
  refine op_val (v := .int .i64 p102.1) rfl rfl hF rfl (run_assign rfl (hF.ev rfl)) ?_;clear hF;intro a hF
  refine wn ?_
  revert a;refine sr (ov (v := .pointer (some ⟨g101, 2, none⟩)) rfl rfl rfl (fun a hF=>run_fieldAddr rfl fl43_1 (hF.ev rfl) rfl) (ov (v := .slice A2 x2.length c2) rfl rfl rfl (fun a hF=>run_load1 rfl one38 (hF.ev rfl) ((S.free 1 rfl).cell rfl)) (mv rfl rfl fun a hF=>?_)))
  obtain ⟨p104, h104, hM⟩ := bind_ex hM
  refine op_call rfl rfl hF rfl (run_call (vs := [.slice A2 x2.length c2, .int .i64 p102.1]) rfl rfl co40 ⟨(hF.ev rfl), (hF.ev rfl), trivial⟩) (c_laws_markBusS (x0 := x2) (x1 := p102.1) rfl (show St w0 _ (Asn.row 69 2 (.slice A2 x2.length c2) x2.length (x2.flatMap eBus) :: Asn.row 107 3 (.slice A1 x1.length c1) x1.length (p102.2.flatMap eLine) :: Asn.box g101 43 #[.int .i64 x0, .slice A1 x1.length c1, .slice A2 x2.length c2, .slice A3 x3.length c3, .slice A4 x4.length c4, .slice A5 x5.length c5, .slice A6 x6.length c6] :: Asn.row 4 1 (.slice A3 x3.length c3) x3.length (x3.flatMap eB) :: Asn.row 4 1 (.slice A4 x4.length c4) x4.length (x4.flatMap eB) :: Asn.row 78 2 (.slice A5 x5.length c5) x5.length (x5.flatMap ePermit) :: Asn.row 3 1 (.slice A6 x6.length c6) x6.length (x6.flatMap eI) :: X) from S.selT (M := [.row 69 2 (.slice A2 x2.length c2) x2.length (x2.flatMap eBus), .row 107 3 (.slice A1 x1.length c1) x1.length (p102.2.flatMap eLine), .box g101 43 #[.int .i64 x0, .slice A1 x1.length c1, .slice A2 x2.length c2, .slice A3 x3.length c3, .slice A4 x4.length c4, .slice A5 x5.length c5, .slice A6 x6.length c6], .row 4 1 (.slice A3 x3.length c3) x3.length (x3.flatMap eB), .row 4 1 (.slice A4 x4.length c4) x4.length (x4.flatMap eB), .row 78 2 (.slice A5 x5.length c5) x5.length (x5.flatMap ePermit), .row 3 1 (.slice A6 x6.length c6) x6.length (x6.flatMap eI)]) 7 [2, 0, 1, 3, 4, 5, 6] rfl rfl rfl) h104) ?_
  rintro e u ⟨rfl, hn105, T⟩
  refine ⟨_, rfl, ?_⟩
  clear hF; intro a hF
  clear S; have S := T; clear T
  refine op_val (v := .int .i64 p104.1) rfl rfl hF rfl (run_assign rfl (hF.ev rfl)) ?_;clear hF;intro a hF
  refine wn ?_
  revert a;refine sr (ov (v := .pointer (some ⟨g101, 3, none⟩)) rfl rfl rfl (fun a hF=>run_fieldAddr rfl fl43_2 (hF.ev rfl) rfl) (ov rfl rfl rfl (fun a hF=>run_loadN rfl ag41 (hF.ev rfl) rfl ((S.free 2 rfl).cells 3 #[.slice A3 x3.length c3, .slice A4 x4.length c4, .slice A5 x5.length c5] rfl)) (mv rfl rfl fun a hF=>?_)))
  obtain ⟨p106, h106, hM⟩ := bind_ex hM
  refine op_call rfl rfl hF rfl (run_call (vs := [.agg #[.slice A3 x3.length c3, .slice A4 x4.length c4, .slice A5 x5.length c5], .int .i64 p104.1]) rfl rfl co41 ⟨(hF.ev rfl), (hF.ev rfl), trivial⟩) (c_laws_markWork (x0 := x3) (x1 := x4) (x2 := x5) (x3 := p104.1) rfl rfl rfl (show St w0 _ (Asn.row 4 1 (.slice A3 x3.length c3) x3.length (x3.flatMap eB) :: Asn.row 4 1 (.slice A4 x4.length c4) x4.length (x4.flatMap eB) :: Asn.row 78 2 (.slice A5 x5.length c5) x5.length (x5.flatMap ePermit) :: Asn.row 69 2 (.slice A2 x2.length c2) x2.length (p104.2.flatMap eBus) :: Asn.row 107 3 (.slice A1 x1.length c1) x1.length (p102.2.flatMap eLine) :: Asn.box g101 43 #[.int .i64 x0, .slice A1 x1.length c1, .slice A2 x2.length c2, .slice A3 x3.length c3, .slice A4 x4.length c4, .slice A5 x5.length c5, .slice A6 x6.length c6] :: Asn.row 3 1 (.slice A6 x6.length c6) x6.length (x6.flatMap eI) :: X) from S.selT (M := [.row 4 1 (.slice A3 x3.length c3) x3.length (x3.flatMap eB), .row 4 1 (.slice A4 x4.length c4) x4.length (x4.flatMap eB), .row 78 2 (.slice A5 x5.length c5) x5.length (x5.flatMap ePermit), .row 69 2 (.slice A2 x2.length c2) x2.length (p104.2.flatMap eBus), .row 107 3 (.slice A1 x1.length c1) x1.length (p102.2.flatMap eLine), .box g101 43 #[.int .i64 x0, .slice A1 x1.length c1, .slice A2 x2.length c2, .slice A3 x3.length c3, .slice A4 x4.length c4, .slice A5 x5.length c5, .slice A6 x6.length c6], .row 3 1 (.slice A6 x6.length c6) x6.length (x6.flatMap eI)]) 7 [3, 4, 5, 0, 1, 2, 6] rfl rfl rfl) h106) ?_
  rintro e u ⟨rfl, hn107, hn108, hn109, T⟩
  refine ⟨_, rfl, ?_⟩
  clear hF; intro a hF
  clear S; have S := T; clear T
  refine op_val (v := .int .i64 p106.1) rfl rfl hF rfl (run_assign rfl (hF.ev rfl)) ?_;clear hF;intro a hF
  refine wn ?_
  revert a;refine sr (ov (v := .pointer (some ⟨g101, 6, none⟩)) rfl rfl rfl (fun a hF=>run_fieldAddr rfl fl43_3 (hF.ev rfl) rfl) (ov (v := .slice A6 x6.length c6) rfl rfl rfl (fun a hF=>run_load1 rfl one30 (hF.ev rfl) ((S.free 5 rfl).cell rfl)) (mv rfl rfl fun a hF=>?_)))
  obtain ⟨p110, h110, hM⟩ := bind_ex hM
  refine op_call rfl rfl hF rfl (run_call (vs := [.slice A6 x6.length c6, .int .i64 p106.1]) rfl rfl co14 ⟨(hF.ev rfl), (hF.ev rfl), trivial⟩) (c_laws_markIntS (x0 := x6) (x1 := p106.1) rfl (show St w0 _ (Asn.row 3 1 (.slice A6 x6.length c6) x6.length (x6.flatMap eI) :: Asn.row 4 1 (.slice A3 x3.length c3) x3.length (p106.2.1.flatMap eB) :: Asn.row 4 1 (.slice A4 x4.length c4) x4.length (p106.2.2.1.flatMap eB) :: Asn.row 78 2 (.slice A5 x5.length c5) x5.length (p106.2.2.2.flatMap ePermit) :: Asn.row 69 2 (.slice A2 x2.length c2) x2.length (p104.2.flatMap eBus) :: Asn.row 107 3 (.slice A1 x1.length c1) x1.length (p102.2.flatMap eLine) :: Asn.box g101 43 #[.int .i64 x0, .slice A1 x1.length c1, .slice A2 x2.length c2, .slice A3 x3.length c3, .slice A4 x4.length c4, .slice A5 x5.length c5, .slice A6 x6.length c6] :: X) from S.selT (M := [.row 3 1 (.slice A6 x6.length c6) x6.length (x6.flatMap eI), .row 4 1 (.slice A3 x3.length c3) x3.length (p106.2.1.flatMap eB), .row 4 1 (.slice A4 x4.length c4) x4.length (p106.2.2.1.flatMap eB), .row 78 2 (.slice A5 x5.length c5) x5.length (p106.2.2.2.flatMap ePermit), .row 69 2 (.slice A2 x2.length c2) x2.length (p104.2.flatMap eBus), .row 107 3 (.slice A1 x1.length c1) x1.length (p102.2.flatMap eLine), .box g101 43 #[.int .i64 x0, .slice A1 x1.length c1, .slice A2 x2.length c2, .slice A3 x3.length c3, .slice A4 x4.length c4, .slice A5 x5.length c5, .slice A6 x6.length c6]]) 7 [6, 0, 1, 2, 3, 4, 5] rfl rfl rfl) h110) ?_
  rintro e u ⟨rfl, hn111, T⟩
  refine ⟨_, rfl, ?_⟩
  clear hF; intro a hF
  clear S; have S := T; clear T
  refine op_val (v := .int .i64 p110.1) rfl rfl hF rfl (run_assign rfl (hF.ev rfl)) ?_;clear hF;intro a hF
  refine wn ?_
  revert a;refine sr (mv rfl rfl (ag rfl rfl fun a hF=>wn ?_))
  refine wp_ret ?_
  repeat with_reducible first|refine tr ?_|refine ir ?_|refine nr ?_
  refine ret1_gw (.inl rfl) hF rfl (res_tmp (hF.ev rfl)) ?_
  obtain rfl := Option.some.inj hM
  exact ⟨rfl, hn103, hn105, hn107, hn108, hn109, hn111, S.selT (M := [.row 107 3 (.slice A1 x1.length c1) x1.length (p102.2.flatMap eLine), .row 69 2 (.slice A2 x2.length c2) x2.length (p104.2.flatMap eBus), .row 4 1 (.slice A3 x3.length c3) x3.length (p106.2.1.flatMap eB), .row 4 1 (.slice A4 x4.length c4) x4.length (p106.2.2.1.flatMap eB), .row 78 2 (.slice A5 x5.length c5) x5.length (p106.2.2.2.flatMap ePermit), .row 3 1 (.slice A6 x6.length c6) x6.length (p110.2.flatMap eI)]) 7 [5, 4, 1, 2, 3, 0] rfl rfl rfl⟩
theorem c_laws_heldIntS {x0 : List Int} {x1 : Int} {A0 : Option Addr} {n0 c0 : Nat} {w : World} {r : Int} (h0 : Rt w 1 eI A0 n0 c0 x0) (hM : m_laws_heldIntS x0 x1 = some r) :
    Calls Try.prog 15 #[.slice A0 n0 c0, .int .i64 x1] w (fun e w' => e = .returned (.int .i64 r) ∧ St w w' []) := by
  obtain rfl := h0.len
  unfold m_laws_heldIntS at hM
  refine calls_gw Try.func15 Try.ntmps15 rfl [(0, .slice A0 x0.length c0), (1, .int .i64 x1)] ⟨rfl, rfl, trivial⟩ rfl ?_
  intro a hF
  have S := St.nil w
  revert a;refine sr (ov (v := .int .i64 0) rfl rfl rfl (fun a hF=>run_assign rfl rfl) fun a hF=>wn ?_)
  refine ws ?_
  revert a;refine sr (ov (v := .int .i64 0) rfl rfl rfl (fun a hF=>run_assign rfl rfl) fun a hF=>wn ?_)
  obtain ⟨o102, hM103, hM⟩ := bind_ex hM
  refine wp_cut (fun a u => ∃ (p101 : Int), (Sum.inl p101) = o102 ∧ Fr a 21 [(1, .int .i64 p101), (4, .int .i64 0)] ∧ St w u []) ?_ ?_
  · have _ := trivial
    refine wp_block ?_
    refine loop_gw (fun m a u => ∃ (p104 : Int × Int), m_laws_heldIntS_l1 x0 m p104 = some _ ∧ Fr a 21 [(0, .slice A0 x0.length c0), (1, .int .i64 p104.1), (4, .int .i64 0), (5, .int .i64 p104.2)] ∧ St w u []) FUEL ⟨(x1, 0), hM103, hF.keep _ ⟨rfl, rfl, rfl, rfl, trivial⟩, S.sel [] rfl rfl⟩ ?_
    clear hF S hM103; rintro m a u ⟨p104, hM103, hF, S⟩
    rcases m with _ | f1
    · exact none_some hM103
    rw [m_laws_heldIntS_l1.eq_2] at hM103
    refine ws ?_
    revert a;refine sr (mv rfl rfl (mv rfl rfl (ov rfl rfl rfl (fun a hF=>run_lenL rfl rfl Try.underlying30 (hF.ev rfl)) (ov (v := .bool (ltB p104.2 (x0.length : Int))) rfl rfl rfl (fun a hF=>run_lss (hF.ev rfl) (hF.ev rfl) rfl) fun a hF=>wn ?_))))
    cases hc105 : (ltB p104.2 (x0.length : Int))
    · replace hM103 := bif_f hc105 hM103
      refine cond_f hF rfl hc105 ?_
      refine wp_exit ?_
      repeat with_reducible (first | refine then_exit ?_ | refine in_hit ?_ | refine in_miss rfl ?_)
      obtain rfl := Option.some.inj hM103
      exact ⟨p104.1, rfl, hF.keep _ ⟨rfl, rfl, trivial⟩, S.sel [] rfl rfl⟩
    replace hM103 := bif_t hc105 hM103
    refine cond_t hF rfl hc105 ?_
    refine wp_skip ?_
    refine ws ?_
    refine wp_block ?_
    refine ws ?_
    revert a;refine sr (mv rfl rfl (mv rfl rfl fun a hF=>?_))
    obtain ⟨hk106, hM103⟩ := chk_ex hM103
    replace hk106 := ixB_t hk106
    revert a;refine ov rfl rfl rfl (fun a hF=>run_indexAddr (b := adB A0) (off := adO A0) rfl Try.underlying30 sz3 ((hF.ev rfl).trans (congrArg (fun A => Value.slice A x0.length c0) ((S.rc0 h0.rc).rd.ad (ix_pos hk106)))) (hF.ev rfl) hk106.1 hk106.2 (k' := adO A0 + p104.2.toNat * 1) rfl) (ov (v := .int .i64 (x0.getD p104.2.toNat (0 : Int))) rfl rfl rfl (fun a hF=>run_load1 rfl one3 (hF.ev rfl) (rd_el0 (l := x0) (S.rc0 h0.rc).rd rfl eI_len (0 : Int) (ix_ltn hk106 rfl) rfl)) (mv rfl rfl (ov (v := .bool ((x0.getD p104.2.toNat (0 : Int)) != p104.1)) rfl rfl rfl (fun a hF=>run_neq (hF.ev rfl) (hF.ev rfl) rfl) fun a hF=>wn ?_)))
    cases hc107 : ((x0.getD p104.2.toNat (0 : Int)) != p104.1)
    · replace hM103 := bif_f hc107 hM103
      refine cond_f hF rfl hc107 ?_
      refine wp_skip ?_
      revert a;refine rl (mv rfl rfl (ov (v := .int .i64 (w64 (p104.1 + 1))) rfl rfl rfl (fun a hF=>run_add (z := w64 (p104.1 + 1)) (hF.ev rfl) rfl rfl rfl) (ag rfl rfl fun a hF=>wn ?_)))
      revert a;refine rl (mv rfl rfl (ov (v := .int .i64 (w64 (p104.2 + 1))) rfl rfl rfl (fun a hF=>run_add (z := w64 (p104.2 + 1)) (hF.ev rfl) rfl rfl rfl) (ag rfl rfl fun a hF=>wn ?_)))
      exact ⟨f1, Nat.lt_succ_self _, (w64 (p104.1 + 1), w64 (p104.2 + 1)), hM103, hF.keep _ ⟨rfl, rfl, rfl, rfl, trivial⟩, S.sel [] rfl rfl⟩
    replace hM103 := bif_t hc107 hM103
    refine cond_t hF rfl hc107 ?_
    revert a;refine sr (ov (v := .int .i64 (-1)) rfl rfl rfl (fun a hF=>run_assign rfl rfl) fun a hF=>wn ?_)
    refine wp_ret ?_
    repeat with_reducible first|refine tr ?_|refine ir ?_|refine nr ?_
    refine ret1_gw (.inl rfl) hF rfl (res_tmp (hF.ev rfl)) ?_
    obtain rfl := Option.some.inj hM103
    obtain rfl := Option.some.inj hM
    exact ⟨rfl, S.sel [] rfl rfl⟩
  rintro a u ⟨p101, rfl, hF, S⟩
  replace hM := elim_l hM
  revert a;refine sr (mv rfl rfl (ag rfl rfl fun a hF=>wn ?_))
  refine wp_ret ?_
  repeat with_reducible first|refine tr ?_|refine ir ?_|refine nr ?_
  refine ret1_gw (.inl rfl) hF rfl (res_tmp (hF.ev rfl)) ?_
  obtain rfl := Option.some.inj hM
  exact ⟨rfl, S.sel [] rfl rfl⟩
theorem c_laws_FnExactWorldDark {x0 : Int} {x1 : List (Int × Int × Int)} {x2 : List (Int × Int)} {x3 : List Bool} {x4 : List Bool} {x5 : List (Int × Int)} {x6 : List Int} {A1 : Option Addr} {n1 c1 : Nat} {A2 : Option Addr} {n2 c2 : Nat} {A3 : Option Addr} {n3 c3 : Nat} {A4 : Option Addr} {n4 c4 : Nat} {A5 : Option Addr} {n5 c5 : Nat} {A6 : Option Addr} {n6 c6 : Nat} {w : World} {r : Bool} (h1 : Rt w 3 eLLine A1 n1 c1 x1) (h2 : Rt w 2 eLBus A2 n2 c2 x2) (h3 : Rt w 1 eB A3 n3 c3 x3) (h4 : Rt w 1 eB A4 n4 c4 x4) (h5 : Rt w 2 eLPermit A5 n5 c5 x5) (h6 : Rt w 1 eI A6 n6 c6 x6) (hM : m_laws_FnExactWorldDark x0 x1 x2 x3 x4 x5 x6 = some r) :
    Calls Try.prog 4 #[.agg #[.int .i64 x0, .slice A1 n1 c1, .slice A2 n2 c2, .slice A3 n3 c3, .slice A4 n4 c4, .slice A5 n5 c5, .slice A6 n6 c6]] w (fun e w' => e = .returned (.bool r) ∧ St w w' []) := by
  obtain rfl := h1.len
  obtain rfl := h2.len
  obtain rfl := h3.len
  obtain rfl := h4.len
  obtain rfl := h5.len
  obtain rfl := h6.len
  unfold m_laws_FnExactWorldDark at hM
  refine calls_gw Try.func4 Try.ntmps4 rfl [(0, .agg #[.int .i64 x0, .slice A1 x1.length c1, .slice A2 x2.length c2, .slice A3 x3.length c3, .slice A4 x4.length c4, .slice A5 x5.length c5, .slice A6 x6.length c6])] ⟨rfl, trivial⟩ rfl ?_
  intro a hF
  have S := St.nil w
  refine wsg ?_
  refine op_new (cs := #[.int .i64 x0, .slice A1 x1.length c1, .slice A2 x2.length c2, .slice A3 x3.length c3, .slice A4 x4.length c4, .slice A5 x5.length c5, .slice A6 x6.length c6]) rfl rfl hF rfl S (run_box rfl (hF.ev rfl) rfl) ?_; clear hF S; intro a g101 u hF S
  refine op_val (v := .bool false) rfl rfl hF rfl (run_assign rfl rfl) ?_;clear hF;intro a hF
  refine wn ?_
  revert a;refine sr (ov (v := .int .i64 1048576) rfl rfl rfl (fun a hF=>run_assign rfl rfl) fun a hF=>wn ?_)
  revert a;refine sr (ov rfl rfl rfl (fun a hF=>run_loadN rfl ag32 (hF.ev rfl) rfl ((S.free 0 rfl).cells 0 #[.int .i64 x0, .slice A1 x1.length c1, .slice A2 x2.length c2, .slice A3 x3.length c3, .slice A4 x4.length c4, .slice A5 x5.length c5, .slice A6 x6.length c6] rfl)) (mv rfl rfl fun a hF=>?_))
  obtain ⟨p102, h102, hM⟩ := bind_ex hM
  refine op_call rfl rfl hF rfl (run_call (vs := [.agg #[.int .i64 x0, .slice A1 x1.length c1, .slice A2 x2.length c2, .slice A3 x3.length c3, .slice A4 x4.length c4, .slice A5 x5.length c5, .slice A6 x6.length c6], .int .i64 1048576]) rfl rfl co5 ⟨(hF.ev rfl), (hF.ev rfl), trivial⟩) (c_laws_szWorld (x0 := x0) (x1 := x1) (x2 := x2) (x3 := x3) (x4 := x4) (x5 := x5) (x6 := x6) (x7 := 1048576) ⟨(S.rc0 h1.rc), rfl⟩ ⟨(S.rc0 h2.rc), rfl⟩ ⟨(S.rc0 h3.rc), rfl⟩ ⟨(S.rc0 h4.rc), rfl⟩ ⟨(S.rc0 h5.rc), rfl⟩ ⟨(S.rc0 h6.rc), rfl⟩ h102) ?_
  rintro e u ⟨rfl, T⟩
  refine ⟨_, rfl, ?_⟩
  clear hF; intro a hF
  replace S := S.call0 T; clear T
  refine op_val (v := .int .i64 p102) rfl rfl hF rfl (run_assign rfl (hF.ev rfl)) ?_;clear hF;intro a hF
  refine wn ?_
  refine ws ?_
  revert a;refine sr (mv rfl rfl (ov (v := .bool (ltB p102 0)) rfl rfl rfl (fun a hF=>run_lss (hF.ev rfl) rfl rfl) fun a hF=>wn ?_))
  cases hc103 : (ltB p102 0)
  · replace hM := bif_f hc103 hM
    refine cond_f hF rfl hc103 ?_
    refine wp_skip ?_
    revert a;refine sr (ov rfl rfl rfl (fun a hF=>run_loadN rfl ag32 (hF.ev rfl) rfl ((S.free 0 rfl).cells 0 #[.int .i64 x0, .slice A1 x1.length c1, .slice A2 x2.length c2, .slice A3 x3.length c3, .slice A4 x4.length c4, .slice A5 x5.length c5, .slice A6 x6.length c6] rfl)) fun a hF=>?_)
    obtain ⟨p104, h104, hM⟩ := bind_ex hM
    refine op_call rfl rfl hF rfl (run_call (vs := [.agg #[.int .i64 x0, .slice A1 x1.length c1, .slice A2 x2.length c2, .slice A3 x3.length c3, .slice A4 x4.length c4, .slice A5 x5.length c5, .slice A6 x6.length c6]]) rfl rfl co7 ⟨(hF.ev rfl), trivial⟩) (c_laws_toWorld (x0 := x0) (x1 := x1) (x2 := x2) (x3 := x3) (x4 := x4) (x5 := x5) (x6 := x6) ⟨(S.rc0 h1.rc), rfl⟩ ⟨(S.rc0 h2.rc), rfl⟩ ⟨(S.rc0 h3.rc), rfl⟩ ⟨(S.rc0 h4.rc), rfl⟩ ⟨(S.rc0 h5.rc), rfl⟩ ⟨(S.rc0 h6.rc), rfl⟩ h104) ?_
    rintro e u ⟨B105, n106, d107, B108, n109, d110, B111, n112, d113, B114, n115, d116, B117, n118, d119, B120, n121, d122, rfl, rfl, rfl, rfl, rfl, rfl, rfl, T⟩
    refine ⟨_, rfl, ?_⟩
    clear hF; intro a hF
    replace S := S.call6 T; clear T
    obtain ⟨p123, h123, hM⟩ := bind_ex hM
    refine op_call rfl rfl hF rfl (run_call (vs := [.agg #[.int .i64 p104.1, .slice B105 p104.2.1.length d107, .slice B108 p104.2.2.1.length d110, .slice B111 p104.2.2.2.1.length d113, .slice B114 p104.2.2.2.2.1.length d116, .slice B117 p104.2.2.2.2.2.1.length d119, .slice B120 p104.2.2.2.2.2.2.length d122]]) rfl rfl co10 ⟨(hF.ev rfl), trivial⟩) (c_spec_WorldDark (x0 := p104.1) (x1 := p104.2.1) (x2 := p104.2.2.1) (x3 := p104.2.2.2.1) (x4 := p104.2.2.2.2.1) (x5 := p104.2.2.2.2.2.1) (x6 := p104.2.2.2.2.2.2) ⟨(S.rc 0 rfl), rfl⟩ ⟨(S.rc 1 rfl), rfl⟩ ⟨(S.rc 2 rfl), rfl⟩ ⟨(S.rc 3 rfl), rfl⟩ ⟨(S.rc 4 rfl), rfl⟩ ⟨(S.rc 5 rfl), rfl⟩ h123) ?_
    rintro e u ⟨B124, n125, d126, rfl, rfl, T⟩
    refine ⟨_, rfl, ?_⟩
    clear hF; intro a hF
    replace S := S.call1 T; clear T
    refine op_val (v := .slice B124 p123.length d126) rfl rfl hF rfl (run_assign rfl (hF.ev rfl)) ?_;clear hF;intro a hF
    refine wn ?_
    revert a;refine sr (ov rfl rfl rfl (fun a hF=>run_loadN rfl ag32 (hF.ev rfl) rfl ((S.free 7 rfl).cells 0 #[.int .i64 x0, .slice A1 x1.length c1, .slice A2 x2.length c2, .slice A3 x3.length c3, .slice A4 x4.length c4, .slice A5 x5.length c5, .slice A6 x6.length c6] rfl)) fun a hF=>?_)
    obtain ⟨p127, h127, hM⟩ := bind_ex hM
    refine op_call rfl rfl hF rfl (run_call (vs := [.agg #[.int .i64 x0, .slice A1 x1.length c1, .slice A2 x2.length c2, .slice A3 x3.length c3, .slice A4 x4.length c4, .slice A5 x5.length c5, .slice A6 x6.length c6]]) rfl rfl co7 ⟨(hF.ev rfl), trivial⟩) (c_laws_toWorld (x0 := x0) (x1 := x1) (x2 := x2) (x3 := x3) (x4 := x4) (x5 := x5) (x6 := x6) ⟨(S.rc0 h1.rc), rfl⟩ ⟨(S.rc0 h2.rc), rfl⟩ ⟨(S.rc0 h3.rc), rfl⟩ ⟨(S.rc0 h4.rc), rfl⟩ ⟨(S.rc0 h5.rc), rfl⟩ ⟨(S.rc0 h6.rc), rfl⟩ h127) ?_
    rintro e u ⟨B128, n129, d130, B131, n132, d133, B134, n135, d136, B137, n138, d139, B140, n141, d142, B143, n144, d145, rfl, rfl, rfl, rfl, rfl, rfl, rfl, T⟩
    refine ⟨_, rfl, ?_⟩
    clear hF; intro a hF
    replace S := S.call6 T; clear T
    refine op_new (cs := #[.int .i64 0, .slice none 0 0, .slice none 0 0, .slice none 0 0, .slice none 0 0, .slice none 0 0, .slice none 0 0]) rfl rfl hF rfl S (run_allocZ rfl zr43) ?_; clear hF S; intro a g146 u hF S
    refine op_do rfl rfl (run_store (cs' := #[.int .i64 p127.1, .slice B128 p127.2.1.length d130, .slice B131 p127.2.2.1.length d133, .slice B134 p127.2.2.2.1.length d136, .slice B137 p127.2.2.2.2.1.length d139, .slice B140 p127.2.2.2.2.2.1.length d142, .slice B143 p127.2.2.2.2.2.2.length d145]) rfl sz43 (hF.ev rfl) (hF.ev rfl) rfl rfl rfl (S.free 0 rfl) rfl rfl) ?_; replace S := S.put 0 rfl (#[.int .i64 p127.1, .slice B128 p127.2.1.length d130, .slice B131 p127.2.2.1.length d133, .slice B134 p127.2.2.2.1.length d136, .slice B137 p127.2.2.2.2.1.length d139, .slice B140 p127.2.2.2.2.2.1.length d142, .slice B143 p127.2.2.2.2.2.2.length d145])
    generalize World.setRow _ _ _ = u at S ⊢
    refine wn ?_
    revert a;refine sr (ov rfl rfl rfl (fun a hF=>run_loadN rfl ag43 (hF.ev rfl) rfl ((S.free 0 rfl).cells 0 #[.int .i64 p127.1, .slice B128 p127.2.1.length d130, .slice B131 p127.2.2.1.length d133, .slice B134 p127.2.2.2.1.length d136, .slice B137 p127.2.2.2.2.1.length d139, .slice B140 p127.2.2.2.2.2.1.length d142, .slice B143 p127.2.2.2.2.2.2.length d145] rfl)) fun a hF=>?_)
    obtain ⟨p147, h147, hM⟩ := bind_ex hM
    refine op_call rfl rfl hF rfl (run_call (vs := [.agg #[.int .i64 p127.1, .slice B128 p127.2.1.length d130, .slice B131 p127.2.2.1.length d133, .slice B134 p127.2.2.2.1.length d136, .slice B137 p127.2.2.2.2.1.length d139, .slice B140 p127.2.2.2.2.2.1.length d142, .slice B143 p127.2.2.2.2.2.2.length d145]]) rfl rfl co11 ⟨(hF.ev rfl), trivial⟩) (c_impl_WorldDark (x0 := p127.1) (x1 := p127.2.1) (x2 := p127.2.2.1) (x3 := p127.2.2.2.1) (x4 := p127.2.2.2.2.1) (x5 := p127.2.2.2.2.2.1) (x6 := p127.2.2.2.2.2.2) ⟨(S.rc 1 rfl), rfl⟩ ⟨(S.rc 2 rfl), rfl⟩ ⟨(S.rc 3 rfl), rfl⟩ ⟨(S.rc 4 rfl), rfl⟩ ⟨(S.rc 5 rfl), rfl⟩ ⟨(S.rc 6 rfl), rfl⟩ h147) ?_
    rintro e u ⟨B148, n149, d150, rfl, rfl, T⟩
    refine ⟨_, rfl, ?_⟩
    clear hF; intro a hF
    replace S := S.call1 T; clear T
    refine op_val (v := .slice B148 p147.length d150) rfl rfl hF rfl (run_assign rfl (hF.ev rfl)) ?_;clear hF;intro a hF
    refine wn ?_
    refine ws ?_
    revert a;refine sr (mv rfl rfl (mv rfl rfl fun a hF=>?_))
    obtain ⟨p151, h151, hM⟩ := bind_ex hM
    refine op_call rfl rfl hF rfl (run_call (vs := [.slice B148 p147.length d150, .slice B124 p123.length d126]) rfl rfl co12 ⟨(hF.ev rfl), (hF.ev rfl), trivial⟩) (c_laws_eqIntS (x0 := p147) (x1 := p123) ⟨(S.rc 0 rfl), rfl⟩ ⟨(S.rc 8 rfl), rfl⟩ h151) ?_
    rintro e u ⟨rfl, T⟩
    refine ⟨_, rfl, ?_⟩
    clear hF; intro a hF
    replace S := S.call0 T; clear T
    refine op_val (v := .bool (!p151)) rfl rfl hF rfl (run_not rfl (hF.ev rfl)) ?_;clear hF;intro a hF
    refine wn ?_
    cases hc152 : (p151)
    · replace hM := bif_f hc152 hM
      refine cond_t hF rfl (not_t hc152) ?_
      revert a;refine sr (ov (v := .bool false) rfl rfl rfl (fun a hF=>run_assign rfl rfl) fun a hF=>wn ?_)
      refine wp_ret ?_
      repeat with_reducible first|refine tr ?_|refine ir ?_|refine nr ?_
      refine ret1_gw (.inl rfl) hF rfl (res_tmp (hF.ev rfl)) ?_
      obtain rfl := Option.some.inj hM
      exact ⟨rfl, S.sel [] rfl rfl⟩
    replace hM := bif_t hc152 hM
    refine cond_f hF rfl (not_f hc152) ?_
    refine wp_skip ?_
    refine ws ?_
    refine ws ?_
    obtain ⟨p153, h153, hM⟩ := bind_ex hM
    obtain ⟨p172, h172, hM⟩ := bind_ex hM
    refine region_gw (D := [27, 28, 29, 30, 31]) (Lr := [.row 3 1 (.slice B148 p147.length d150) p147.length (p147.flatMap eI), .box g146 43 #[.int .i64 p127.1, .slice B128 p127.2.1.length d130, .slice B131 p127.2.2.1.length d133, .slice B134 p127.2.2.2.1.length d136, .slice B137 p127.2.2.2.2.1.length d139, .slice B140 p127.2.2.2.2.2.1.length d142, .slice B143 p127.2.2.2.2.2.2.length d145], .row 107 3 (.slice B128 p127.2.1.length d130) p127.2.1.length (p127.2.1.flatMap eLine), .row 69 2 (.slice B131 p127.2.2.1.length d133) p127.2.2.1.length (p127.2.2.1.flatMap eBus), .row 4 1 (.slice B134 p127.2.2.2.1.length d136) p127.2.2.2.1.length (p127.2.2.2.1.flatMap eB), .row 4 1 (.slice B137 p127.2.2.2.2.1.length d139) p127.2.2.2.2.1.length (p127.2.2.2.2.1.flatMap eB), .row 78 2 (.slice B140 p127.2.2.2.2.2.1.length d142) p127.2.2.2.2.2.1.length (p127.2.2.2.2.2.1.flatMap ePermit), .row 3 1 (.slice B143 p127.2.2.2.2.2.2.length d145) p127.2.2.2.2.2.2.length (p127.2.2.2.2.2.2.flatMap eI), .row 3 1 (.slice B124 p123.length d126) p123.length (p123.flatMap eI), .row 107 3 (.slice B105 p104.2.1.length d107) p104.2.1.length (p104.2.1.flatMap eLine), .row 69 2 (.slice B108 p104.2.2.1.length d110) p104.2.2.1.length (p104.2.2.1.flatMap eBus), .row 4 1 (.slice B111 p104.2.2.2.1.length d113) p104.2.2.2.1.length (p104.2.2.2.1.flatMap eB), .row 4 1 (.slice B114 p104.2.2.2.2.1.length d116) p104.2.2.2.2.1.length (p104.2.2.2.2.1.flatMap eB), .row 78 2 (.slice B117 p104.2.2.2.2.2.1.length d119) p104.2.2.2.2.2.1.length (p104.2.2.2.2.2.1.flatMap ePermit), .row 3 1 (.slice B120 p104.2.2.2.2.2.2.length d122) p104.2.2.2.2.2.2.length (p104.2.2.2.2.2.2.flatMap eI), .box g101 32 #[.int .i64 x0, .slice A1 x1.length c1, .slice A2 x2.length c2, .slice A3 x3.length c3, .slice A4 x4.length c4, .slice A5 x5.length c5, .slice A6 x6.length c6]]) (deps := (fun | 0 => [27] | 1 => [28] | 2 => [29] | 3 => [30] | 4 => [31] | _ => [])) (rd := (fun | 3 => [2] | _ => [])) (zr := (fun _ => []))
      (φ := fun i vs => match i, vs with | 0, [v27] => v27 = .agg #[.int .i64 p127.1, .slice B128 p127.2.1.length d130, .slice B131 p127.2.2.1.length d133, .slice B134 p127.2.2.2.1.length d136, .slice B137 p127.2.2.2.2.1.length d139, .slice B140 p127.2.2.2.2.2.1.length d142, .slice B143 p127.2.2.2.2.2.2.length d145] | 1, [v28] => v28 = .agg #[.int .i64 x0, .slice A1 x1.length c1, .slice A2 x2.length c2, .slice A3 x3.length c3, .slice A4 x4.length c4, .slice A5 x5.length c5, .slice A6 x6.length c6] | 2, [v29] => v29 = .agg #[.int .i64 p153.1, .slice (slA (vtup v29 1)) p153.2.1.length (slC (vtup v29 1)), .slice (slA (vtup v29 2)) p153.2.2.1.length (slC (vtup v29 2)), .slice (slA (vtup v29 3)) p153.2.2.2.1.length (slC (vtup v29 3)), .slice (slA (vtup v29 4)) p153.2.2.2.2.1.length (slC (vtup v29 4)), .slice (slA (vtup v29 5)) p153.2.2.2.2.2.1.length (slC (vtup v29 5)), .slice (slA (vtup v29 6)) p153.2.2.2.2.2.2.length (slC (vtup v29 6))] | 3, [v30] => v30 = .bool p172 | 4, [v31] => v31 = .bool (!p172) | _, _ => True)
      (C := fun i vs => match i, vs with | 2, [v29] => [.row 107 3 (.slice (slA (vtup v29 1)) p153.2.1.length (slC (vtup v29 1))) p153.2.1.length (p153.2.1.flatMap eLine), .row 69 2 (.slice (slA (vtup v29 2)) p153.2.2.1.length (slC (vtup v29 2))) p153.2.2.1.length (p153.2.2.1.flatMap eBus), .row 4 1 (.slice (slA (vtup v29 3)) p153.2.2.2.1.length (slC (vtup v29 3))) p153.2.2.2.1.length (p153.2.2.2.1.flatMap eB), .row 4 1 (.slice (slA (vtup v29 4)) p153.2.2.2.2.1.length (slC (vtup v29 4))) p153.2.2.2.2.1.length (p153.2.2.2.2.1.flatMap eB), .row 78 2 (.slice (slA (vtup v29 5)) p153.2.2.2.2.2.1.length (slC (vtup v29 5))) p153.2.2.2.2.2.1.length (p153.2.2.2.2.2.1.flatMap ePermit), .row 3 1 (.slice (slA (vtup v29 6)) p153.2.2.2.2.2.2.length (slC (vtup v29 6))) p153.2.2.2.2.2.2.length (p153.2.2.2.2.2.2.flatMap eI)] | _, _ => [])
      (κ := (fun _ => none)) (Z := (fun _ => [])) mixed hF (by kernel_rfl) S ?_ ?_
    · refine ⟨?_, ?_, ?_, ?_, ?_, trivial⟩
      · intro a u X hB hu hp hr hz hl S
        replace S : St w u ([] ++ X) := S
        exact .inl ⟨rfl, .agg #[.int .i64 p127.1, .slice B128 p127.2.1.length d130, .slice B131 p127.2.2.1.length d133, .slice B134 p127.2.2.2.1.length d136, .slice B137 p127.2.2.2.2.1.length d139, .slice B140 p127.2.2.2.2.2.1.length d142, .slice B143 p127.2.2.2.2.2.2.length d145], u, (run_loadN rfl ag43 (hF.evB hB rfl rfl) rfl ((gr_box S hl 1 rfl).cells 0 #[.int .i64 p127.1, .slice B128 p127.2.1.length d130, .slice B131 p127.2.2.1.length d133, .slice B134 p127.2.2.2.1.length d136, .slice B137 p127.2.2.2.2.1.length d139, .slice B140 p127.2.2.2.2.2.1.length d142, .slice B143 p127.2.2.2.2.2.2.length d145] rfl)), rfl, S⟩
      · intro a u X hB hu hp hr hz hl S
        replace S : St w u ([] ++ X) := S
        exact .inl ⟨rfl, .agg #[.int .i64 x0, .slice A1 x1.length c1, .slice A2 x2.length c2, .slice A3 x3.length c3, .slice A4 x4.length c4, .slice A5 x5.length c5, .slice A6 x6.length c6], u, (run_loadN rfl ag32 (hF.evB hB rfl rfl) rfl ((gr_box S hl 15 rfl).cells 0 #[.int .i64 x0, .slice A1 x1.length c1, .slice A2 x2.length c2, .slice A3 x3.length c3, .slice A4 x4.length c4, .slice A5 x5.length c5, .slice A6 x6.length c6] rfl)), rfl, S⟩
      · intro a u X hB hu hp hr hz hl S
        replace S : St w u ([] ++ X) := S
        have e28 : sl a 28 = .agg #[.int .i64 x0, .slice A1 x1.length c1, .slice A2 x2.length c2, .slice A3 x3.length c3, .slice A4 x4.length c4, .slice A5 x5.length c5, .slice A6 x6.length c6] := hp 1 rfl
        refine .inr (.inr (.inl ⟨rfl, _, _, (run_call (vs := [.agg #[.int .i64 x0, .slice A1 x1.length c1, .slice A2 x2.length c2, .slice A3 x3.length c3, .slice A4 x4.length c4, .slice A5 x5.length c5, .slice A6 x6.length c6]]) rfl rfl co7 ⟨(ev_sl e28), trivial⟩), ?_⟩))
        refine Calls.mono (c_laws_toWorld (x0 := x0) (x1 := x1) (x2 := x2) (x3 := x3) (x4 := x4) (x5 := x5) (x6 := x6) ⟨(S.rc0 h1.rc), rfl⟩ ⟨(S.rc0 h2.rc), rfl⟩ ⟨(S.rc0 h3.rc), rfl⟩ ⟨(S.rc0 h4.rc), rfl⟩ ⟨(S.rc0 h5.rc), rfl⟩ ⟨(S.rc0 h6.rc), rfl⟩ h153) ?_
        rintro e w1 ⟨B154, n155, d156, B157, n158, d159, B160, n161, d162, B163, n164, d165, B166, n167, d168, B169, n170, d171, rfl, rfl, rfl, rfl, rfl, rfl, rfl, T⟩
        exact ⟨_, rfl, rfl, S.call6 T⟩
      · intro a u X hB hu hp hr hz hl S
        replace S : St w u ([] ++ X) := S
        have e27 : sl a 27 = .agg #[.int .i64 p127.1, .slice B128 p127.2.1.length d130, .slice B131 p127.2.2.1.length d133, .slice B134 p127.2.2.2.1.length d136, .slice B137 p127.2.2.2.2.1.length d139, .slice B140 p127.2.2.2.2.2.1.length d142, .slice B143 p127.2.2.2.2.2.2.length d145] := hp 0 rfl
        have e29 : sl a 29 = .agg #[.int .i64 p153.1, .slice (slA (vtup (sl a 29) 1)) p153.2.1.length (slC (vtup (sl a 29) 1)), .slice (slA (vtup (sl a 29) 2)) p153.2.2.1.length (slC (vtup (sl a 29) 2)), .slice (slA (vtup (sl a 29) 3)) p153.2.2.2.1.length (slC (vtup (sl a 29) 3)), .slice (slA (vtup (sl a 29) 4)) p153.2.2.2.2.1.length (slC (vtup (sl a 29) 4)), .slice (slA (vtup (sl a 29) 5)) p153.2.2.2.2.2.1.length (slC (vtup (sl a 29) 5)), .slice (slA (vtup (sl a 29) 6)) p153.2.2.2.2.2.2.length (slC (vtup (sl a 29) 6))] := hp 2 rfl
        refine .inr (.inr (.inl ⟨rfl, _, _, (run_call (vs := [.agg #[.int .i64 p127.1, .slice B128 p127.2.1.length d130, .slice B131 p127.2.2.1.length d133, .slice B134 p127.2.2.2.1.length d136, .slice B137 p127.2.2.2.2.1.length d139, .slice B140 p127.2.2.2.2.2.1.length d142, .slice B143 p127.2.2.2.2.2.2.length d145], .agg #[.int .i64 p153.1, .slice (slA (vtup (sl a 29) 1)) p153.2.1.length (slC (vtup (sl a 29) 1)), .slice (slA (vtup (sl a 29) 2)) p153.2.2.1.length (slC (vtup (sl a 29) 2)), .slice (slA (vtup (sl a 29) 3)) p153.2.2.2.1.length (slC (vtup (sl a 29) 3)), .slice (slA (vtup (sl a 29) 4)) p153.2.2.2.2.1.length (slC (vtup (sl a 29) 4)), .slice (slA (vtup (sl a 29) 5)) p153.2.2.2.2.2.1.length (slC (vtup (sl a 29) 5)), .slice (slA (vtup (sl a 29) 6)) p153.2.2.2.2.2.2.length (slC (vtup (sl a 29) 6))]]) rfl rfl co9 ⟨(ev_sl e27), (ev_sl e29), trivial⟩), ?_⟩))
        refine Calls.mono (c_laws_eqWorld (x0 := p127.1) (x1 := p127.2.1) (x2 := p127.2.2.1) (x3 := p127.2.2.2.1) (x4 := p127.2.2.2.2.1) (x5 := p127.2.2.2.2.2.1) (x6 := p127.2.2.2.2.2.2) (x7 := p153.1) (x8 := p153.2.1) (x9 := p153.2.2.1) (x10 := p153.2.2.2.1) (x11 := p153.2.2.2.2.1) (x12 := p153.2.2.2.2.2.1) (x13 := p153.2.2.2.2.2.2) ⟨(gr_rc S hl 2 rfl), rfl⟩ ⟨(gr_rc S hl 3 rfl), rfl⟩ ⟨(gr_rc S hl 4 rfl), rfl⟩ ⟨(gr_rc S hl 5 rfl), rfl⟩ ⟨(gr_rc S hl 6 rfl), rfl⟩ ⟨(gr_rc S hl 7 rfl), rfl⟩ ⟨(own_rc (show Ow _ _ _ _ _ _ from S.mem (List.mem_append_right _ (hr 2 (List.mem_of_getElem? (i := 0) rfl) _ (List.mem_of_getElem? (i := 0) rfl))))), rfl⟩ ⟨(own_rc (show Ow _ _ _ _ _ _ from S.mem (List.mem_append_right _ (hr 2 (List.mem_of_getElem? (i := 0) rfl) _ (List.mem_of_getElem? (i := 1) rfl))))), rfl⟩ ⟨(own_rc (show Ow _ _ _ _ _ _ from S.mem (List.mem_append_right _ (hr 2 (List.mem_of_getElem? (i := 0) rfl) _ (List.mem_of_getElem? (i := 2) rfl))))), rfl⟩ ⟨(own_rc (show Ow _ _ _ _ _ _ from S.mem (List.mem_append_right _ (hr 2 (List.mem_of_getElem? (i := 0) rfl) _ (List.mem_of_getElem? (i := 3) rfl))))), rfl⟩ ⟨(own_rc (show Ow _ _ _ _ _ _ from S.mem (List.mem_append_right _ (hr 2 (List.mem_of_getElem? (i := 0) rfl) _ (List.mem_of_getElem? (i := 4) rfl))))), rfl⟩ ⟨(own_rc (show Ow _ _ _ _ _ _ from S.mem (List.mem_append_right _ (hr 2 (List.mem_of_getElem? (i := 0) rfl) _ (List.mem_of_getElem? (i := 5) rfl))))), rfl⟩ h172) ?_
        rintro e w1 ⟨rfl, T⟩
        exact ⟨_, rfl, rfl, S.call0 T⟩
      intro a u X hB hu hp hr hz hl S
      replace S : St w u ([] ++ X) := S
      have e30 : sl a 30 = .bool p172 := hp 3 rfl
      exact .inl ⟨rfl, .bool (!p172), u, (run_not rfl (ev_sl e30)), rfl, S⟩
    intro a u hB hp S
    obtain ⟨q0, q1, q2, q3, q4, -⟩ := hp
    have e27 : sl a 27 = .agg #[.int .i64 p127.1, .slice B128 p127.2.1.length d130, .slice B131 p127.2.2.1.length d133, .slice B134 p127.2.2.2.1.length d136, .slice B137 p127.2.2.2.2.1.length d139, .slice B140 p127.2.2.2.2.2.1.length d142, .slice B143 p127.2.2.2.2.2.2.length d145] := q0
    have e28 : sl a 28 = .agg #[.int .i64 x0, .slice A1 x1.length c1, .slice A2 x2.length c2, .slice A3 x3.length c3, .slice A4 x4.length c4, .slice A5 x5.length c5, .slice A6 x6.length c6] := q1
    have e29 : sl a 29 = .agg #[.int .i64 p153.1, .slice (slA (vtup (sl a 29) 1)) p153.2.1.length (slC (vtup (sl a 29) 1)), .slice (slA (vtup (sl a 29) 2)) p153.2.2.1.length (slC (vtup (sl a 29) 2)), .slice (slA (vtup (sl a 29) 3)) p153.2.2.2.1.length (slC (vtup (sl a 29) 3)), .slice (slA (vtup (sl a 29) 4)) p153.2.2.2.2.1.length (slC (vtup (sl a 29) 4)), .slice (slA (vtup (sl a 29) 5)) p153.2.2.2.2.2.1.length (slC (vtup (sl a 29) 5)), .slice (slA (vtup (sl a 29) 6)) p153.2.2.2.2.2.2.length (slC (vtup (sl a 29) 6))] := q2
    have e30 : sl a 30 = .bool p172 := q3
    have e31 : sl a 31 = .bool (!p172) := q4
    replace S : St w u [.row 107 3 (.slice (slA (vtup (sl a 29) 1)) p153.2.1.length (slC (vtup (sl a 29) 1))) p153.2.1.length (p153.2.1.flatMap eLine), .row 69 2 (.slice (slA (vtup (sl a 29) 2)) p153.2.2.1.length (slC (vtup (sl a 29) 2))) p153.2.2.1.length (p153.2.2.1.flatMap eBus), .row 4 1 (.slice (slA (vtup (sl a 29) 3)) p153.2.2.2.1.length (slC (vtup (sl a 29) 3))) p153.2.2.2.1.length (p153.2.2.2.1.flatMap eB), .row 4 1 (.slice (slA (vtup (sl a 29) 4)) p153.2.2.2.2.1.length (slC (vtup (sl a 29) 4))) p153.2.2.2.2.1.length (p153.2.2.2.2.1.flatMap eB), .row 78 2 (.slice (slA (vtup (sl a 29) 5)) p153.2.2.2.2.2.1.length (slC (vtup (sl a 29) 5))) p153.2.2.2.2.2.1.length (p153.2.2.2.2.2.1.flatMap ePermit), .row 3 1 (.slice (slA (vtup (sl a 29) 6)) p153.2.2.2.2.2.2.length (slC (vtup (sl a 29) 6))) p153.2.2.2.2.2.2.length (p153.2.2.2.2.2.2.flatMap eI), .row 3 1 (.slice B148 p147.length d150) p147.length (p147.flatMap eI), .box g146 43 #[.int .i64 p127.1, .slice B128 p127.2.1.length d130, .slice B131 p127.2.2.1.length d133, .slice B134 p127.2.2.2.1.length d136, .slice B137 p127.2.2.2.2.1.length d139, .slice B140 p127.2.2.2.2.2.1.length d142, .slice B143 p127.2.2.2.2.2.2.length d145], .row 107 3 (.slice B128 p127.2.1.length d130) p127.2.1.length (p127.2.1.flatMap eLine), .row 69 2 (.slice B131 p127.2.2.1.length d133) p127.2.2.1.length (p127.2.2.1.flatMap eBus), .row 4 1 (.slice B134 p127.2.2.2.1.length d136) p127.2.2.2.1.length (p127.2.2.2.1.flatMap eB), .row 4 1 (.slice B137 p127.2.2.2.2.1.length d139) p127.2.2.2.2.1.length (p127.2.2.2.2.1.flatMap eB), .row 78 2 (.slice B140 p127.2.2.2.2.2.1.length d142) p127.2.2.2.2.2.1.length (p127.2.2.2.2.2.1.flatMap ePermit), .row 3 1 (.slice B143 p127.2.2.2.2.2.2.length d145) p127.2.2.2.2.2.2.length (p127.2.2.2.2.2.2.flatMap eI), .row 3 1 (.slice B124 p123.length d126) p123.length (p123.flatMap eI), .row 107 3 (.slice B105 p104.2.1.length d107) p104.2.1.length (p104.2.1.flatMap eLine), .row 69 2 (.slice B108 p104.2.2.1.length d110) p104.2.2.1.length (p104.2.2.1.flatMap eBus), .row 4 1 (.slice B111 p104.2.2.2.1.length d113) p104.2.2.2.1.length (p104.2.2.2.1.flatMap eB), .row 4 1 (.slice B114 p104.2.2.2.2.1.length d116) p104.2.2.2.2.1.length (p104.2.2.2.2.1.flatMap eB), .row 78 2 (.slice B117 p104.2.2.2.2.2.1.length d119) p104.2.2.2.2.2.1.length (p104.2.2.2.2.2.1.flatMap ePermit), .row 3 1 (.slice B120 p104.2.2.2.2.2.2.length d122) p104.2.2.2.2.2.2.length (p104.2.2.2.2.2.2.flatMap eI), .box g101 32 #[.int .i64 x0, .slice A1 x1.length c1, .slice A2 x2.length c2, .slice A3 x3.length c3, .slice A4 x4.length c4, .slice A5 x5.length c5, .slice A6 x6.length c6]] := S
    clear q0 q1 q2 q3 q4
    generalize slA (vtup (sl a 29) 1) = B173 at *
    generalize slC (vtup (sl a 29) 1) = d174 at *
    generalize slA (vtup (sl a 29) 2) = B175 at *
    generalize slC (vtup (sl a 29) 2) = d176 at *
    generalize slA (vtup (sl a 29) 3) = B177 at *
    generalize slC (vtup (sl a 29) 3) = d178 at *
    generalize slA (vtup (sl a 29) 4) = B179 at *
    generalize slC (vtup (sl a 29) 4) = d180 at *
    generalize slA (vtup (sl a 29) 5) = B181 at *
    generalize slC (vtup (sl a 29) 5) = d182 at *
    generalize slA (vtup (sl a 29) 6) = B183 at *
    generalize slC (vtup (sl a 29) 6) = d184 at *
    have hF := hF.region hB [(27, .agg #[.int .i64 p127.1, .slice B128 p127.2.1.length d130, .slice B131 p127.2.2.1.length d133, .slice B134 p127.2.2.2.1.length d136, .slice B137 p127.2.2.2.2.1.length d139, .slice B140 p127.2.2.2.2.2.1.length d142, .slice B143 p127.2.2.2.2.2.2.length d145]), (28, .agg #[.int .i64 x0, .slice A1 x1.length c1, .slice A2 x2.length c2, .slice A3 x3.length c3, .slice A4 x4.length c4, .slice A5 x5.length c5, .slice A6 x6.length c6]), (29, .agg #[.int .i64 p153.1, .slice B173 p153.2.1.length d174, .slice B175 p153.2.2.1.length d176, .slice B177 p153.2.2.2.1.length d178, .slice B179 p153.2.2.2.2.1.length d180, .slice B181 p153.2.2.2.2.2.1.length d182, .slice B183 p153.2.2.2.2.2.2.length d184]), (30, .bool p172), (31, .bool (!p172))] (allSl_mem ⟨e27, e28, e29, e30, e31, trivial⟩) rfl
    clear hB e27 e28 e29 e30 e31
    cases hc185 : (p172)
    · replace hM := bif_f hc185 hM
      refine cond_t hF rfl (not_t hc185) ?_
      revert a;refine sr (ov (v := .bool false) rfl rfl rfl (fun a hF=>run_assign rfl rfl) fun a hF=>wn ?_)
      refine wp_ret ?_
      repeat with_reducible first|refine tr ?_|refine ir ?_|refine nr ?_
      refine ret1_gw (.inl rfl) hF rfl (res_tmp (hF.ev rfl)) ?_
      obtain rfl := Option.some.inj hM
      exact ⟨rfl, S.sel [] rfl rfl⟩
    replace hM := bif_t hc185 hM
    refine cond_f hF rfl (not_f hc185) ?_
    refine wp_skip ?_
    revert a;refine sr (ov (v := .int .i64 1) rfl rfl rfl (fun a hF=>run_assign rfl rfl) fun a hF=>wn ?_)
    revert a;refine sr (ov rfl rfl rfl (fun a hF=>run_loadN rfl ag43 (hF.ev rfl) rfl ((S.free 7 rfl).cells 0 #[.int .i64 p127.1, .slice B128 p127.2.1.length d130, .slice B131 p127.2.2.1.length d133, .slice B134 p127.2.2.2.1.length d136, .slice B137 p127.2.2.2.2.1.length d139, .slice B140 p127.2.2.2.2.2.1.length d142, .slice B143 p127.2.2.2.2.2.2.length d145] rfl)) (mv rfl rfl fun a hF=>?_))
    obtain ⟨p186, h186, hM⟩ := bind_ex hM
    refine op_call rfl rfl hF rfl (run_call (vs := [.agg #[.int .i64 p127.1, .slice B128 p127.2.1.length d130, .slice B131 p127.2.2.1.length d133, .slice B134 p127.2.2.2.1.length d136, .slice B137 p127.2.2.2.2.1.length d139, .slice B140 p127.2.2.2.2.2.1.length d142, .slice B143 p127.2.2.2.2.2.2.length d145], .int .i64 1]) rfl rfl co13 ⟨(hF.ev rfl), (hF.ev rfl), trivial⟩) (c_laws_markWorld (x0 := p127.1) (x1 := p127.2.1) (x2 := p127.2.2.1) (x3 := p127.2.2.2.1) (x4 := p127.2.2.2.2.1) (x5 := p127.2.2.2.2.2.1) (x6 := p127.2.2.2.2.2.2) (x7 := 1) rfl rfl rfl rfl rfl rfl (show St w _ [.row 107 3 (.slice B128 p127.2.1.length d130) p127.2.1.length (p127.2.1.flatMap eLine), .row 69 2 (.slice B131 p127.2.2.1.length d133) p127.2.2.1.length (p127.2.2.1.flatMap eBus), .row 4 1 (.slice B134 p127.2.2.2.1.length d136) p127.2.2.2.1.length (p127.2.2.2.1.flatMap eB), .row 4 1 (.slice B137 p127.2.2.2.2.1.length d139) p127.2.2.2.2.1.length (p127.2.2.2.2.1.flatMap eB), .row 78 2 (.slice B140 p127.2.2.2.2.2.1.length d142) p127.2.2.2.2.2.1.length (p127.2.2.2.2.2.1.flatMap ePermit), .row 3 1 (.slice B143 p127.2.2.2.2.2.2.length d145) p127.2.2.2.2.2.2.length (p127.2.2.2.2.2.2.flatMap eI), .row 107 3 (.slice B173 p153.2.1.length d174) p153.2.1.length (p153.2.1.flatMap eLine), .row 69 2 (.slice B175 p153.2.2.1.length d176) p153.2.2.1.length (p153.2.2.1.flatMap eBus), .row 4 1 (.slice B177 p153.2.2.2.1.length d178) p153.2.2.2.1.length (p153.2.2.2.1.flatMap eB), .row 4 1 (.slice B179 p153.2.2.2.2.1.length d180) p153.2.2.2.2.1.length (p153.2.2.2.2.1.flatMap eB), .row 78 2 (.slice B181 p153.2.2.2.2.2.1.length d182) p153.2.2.2.2.2.1.length (p153.2.2.2.2.2.1.flatMap ePermit), .row 3 1 (.slice B183 p153.2.2.2.2.2.2.length d184) p153.2.2.2.2.2.2.length (p153.2.2.2.2.2.2.flatMap eI), .row 3 1 (.slice B148 p147.length d150) p147.length (p147.flatMap eI), .box g146 43 #[.int .i64 p127.1, .slice B128 p127.2.1.length d130, .slice B131 p127.2.2.1.length d133, .slice B134 p127.2.2.2.1.length d136, .slice B137 p127.2.2.2.2.1.length d139, .slice B140 p127.2.2.2.2.2.1.length d142, .slice B143 p127.2.2.2.2.2.2.length d145], .row 3 1 (.slice B124 p123.length d126) p123.length (p123.flatMap eI), .row 107 3 (.slice B105 p104.2.1.length d107) p104.2.1.length (p104.2.1.flatMap eLine), .row 69 2 (.slice B108 p104.2.2.1.length d110) p104.2.2.1.length (p104.2.2.1.flatMap eBus), .row 4 1 (.slice B111 p104.2.2.2.1.length d113) p104.2.2.2.1.length (p104.2.2.2.1.flatMap eB), .row 4 1 (.slice B114 p104.2.2.2.2.1.length d116) p104.2.2.2.2.1.length (p104.2.2.2.2.1.flatMap eB), .row 78 2 (.slice B117 p104.2.2.2.2.2.1.length d119) p104.2.2.2.2.2.1.length (p104.2.2.2.2.2.1.flatMap ePermit), .row 3 1 (.slice B120 p104.2.2.2.2.2.2.length d122) p104.2.2.2.2.2.2.length (p104.2.2.2.2.2.2.flatMap eI), .box g101 32 #[.int .i64 x0, .slice A1 x1.length c1, .slice A2 x2.length c2, .slice A3 x3.length c3, .slice A4 x4.length c4, .slice A5 x5.length c5, .slice A6 x6.length c6]] from S.sel [8, 9, 10, 11, 12, 13, 0, 1, 2, 3, 4, 5, 6, 7, 14, 15, 16, 17, 18, 19, 20, 21] rfl rfl) h186) ?_
    rintro e u ⟨rfl, hn187, hn188, hn189, hn190, hn191, hn192, T⟩
    refine ⟨_, rfl, ?_⟩
    clear hF; intro a hF
    clear S; have S := T; clear T
    refine op_val (v := .int .i64 p186.1) rfl rfl hF rfl (run_assign rfl (hF.ev rfl)) ?_;clear hF;intro a hF
    refine wn ?_
    refine ws ?_
    revert a;refine sr (mv rfl rfl (ov (v := .bool (ltB p186.1 0)) rfl rfl rfl (fun a hF=>run_lss (hF.ev rfl) rfl rfl) (mv rfl rfl fun a hF=>?_)))
    refine op_gv (v := .slice B148 p147.length d150) rfl rfl hF rfl (yf (gw_yield hF rfl rfl rfl)) (fun hg => (run_move rfl (hF.ev rfl))) ?_;clear hF;intro a hF
    refine op_gv (v := .slice B124 p123.length d126) rfl rfl hF rfl (yf (gw_yield hF rfl rfl rfl)) (fun hg => (run_move rfl (hF.ev rfl))) ?_;clear hF;intro a hF
    obtain ⟨p193, h193, hM⟩ := bind_ex hM
    refine op_gcall (v := .bool p193) rfl rfl hF rfl S (yf (gw_yield hF rfl rfl rfl)) (fun hg => (run_call (vs := [.slice B148 p147.length d150, .slice B124 p123.length d126]) rfl rfl co12 ⟨((hF.ev rfl).trans (gv_t hg)), ((hF.ev rfl).trans (gv_t hg)), trivial⟩)) (fun hg => c_laws_eqIntS (x0 := p147) (x1 := p123) ⟨(S.rc 12 rfl), rfl⟩ ⟨(S.rc 14 rfl), rfl⟩ (gb_t h193 hg)) ?_; clear hF S; intro a u hF S
    refine op_gv (v := .bool (!p193)) rfl rfl hF rfl (yf (gw_yield hF rfl rfl rfl)) (fun hg => (run_not rfl ((hF.ev rfl).trans (gv_t hg)))) ?_;clear hF;intro a hF
    refine op_val (v := .bool ((ltB p186.1 0) || (!p193))) rfl rfl hF rfl (run_pick_or rfl (hF.ev rfl) rfl (fun hp => ((hF.ev rfl).trans (gv_t (not_t hp))))) ?_;clear hF;intro a hF
    refine wn ?_
    cases hc194 : ((ltB p186.1 0) || (!p193))
    · replace hM := bif_f hc194 hM
      refine cond_f hF rfl hc194 ?_
      refine wp_skip ?_
      revert a;refine sr (ov (v := .int .i64 1) rfl rfl rfl (fun a hF=>run_assign rfl rfl) fun a hF=>wn ?_)
      revert a;refine sr (mv rfl rfl (mv rfl rfl fun a hF=>?_))
      obtain ⟨p195, h195, hM⟩ := bind_ex hM
      refine op_call rfl rfl hF rfl (run_call (vs := [.slice B148 p147.length d150, .int .i64 1]) rfl rfl co14 ⟨(hF.ev rfl), (hF.ev rfl), trivial⟩) (c_laws_markIntS (x0 := p147) (x1 := 1) rfl (show St w _ [.row 3 1 (.slice B148 p147.length d150) p147.length (p147.flatMap eI), .row 107 3 (.slice B128 p127.2.1.length d130) p127.2.1.length (p186.2.1.flatMap eLine), .row 69 2 (.slice B131 p127.2.2.1.length d133) p127.2.2.1.length (p186.2.2.1.flatMap eBus), .row 4 1 (.slice B134 p127.2.2.2.1.length d136) p127.2.2.2.1.length (p186.2.2.2.1.flatMap eB), .row 4 1 (.slice B137 p127.2.2.2.2.1.length d139) p127.2.2.2.2.1.length (p186.2.2.2.2.1.flatMap eB), .row 78 2 (.slice B140 p127.2.2.2.2.2.1.length d142) p127.2.2.2.2.2.1.length (p186.2.2.2.2.2.1.flatMap ePermit), .row 3 1 (.slice B143 p127.2.2.2.2.2.2.length d145) p127.2.2.2.2.2.2.length (p186.2.2.2.2.2.2.flatMap eI), .row 107 3 (.slice B173 p153.2.1.length d174) p153.2.1.length (p153.2.1.flatMap eLine), .row 69 2 (.slice B175 p153.2.2.1.length d176) p153.2.2.1.length (p153.2.2.1.flatMap eBus), .row 4 1 (.slice B177 p153.2.2.2.1.length d178) p153.2.2.2.1.length (p153.2.2.2.1.flatMap eB), .row 4 1 (.slice B179 p153.2.2.2.2.1.length d180) p153.2.2.2.2.1.length (p153.2.2.2.2.1.flatMap eB), .row 78 2 (.slice B181 p153.2.2.2.2.2.1.length d182) p153.2.2.2.2.2.1.length (p153.2.2.2.2.2.1.flatMap ePermit), .row 3 1 (.slice B183 p153.2.2.2.2.2.2.length d184) p153.2.2.2.2.2.2.length (p153.2.2.2.2.2.2.flatMap eI), .box g146 43 #[.int .i64 p127.1, .slice B128 p127.2.1.length d130, .slice B131 p127.2.2.1.length d133, .slice B134 p127.2.2.2.1.length d136, .slice B137 p127.2.2.2.2.1.length d139, .slice B140 p127.2.2.2.2.2.1.length d142, .slice B143 p127.2.2.2.2.2.2.length d145], .row 3 1 (.slice B124 p123.length d126) p123.length (p123.flatMap eI), .row 107 3 (.slice B105 p104.2.1.length d107) p104.2.1.length (p104.2.1.flatMap eLine), .row 69 2 (.slice B108 p104.2.2.1.length d110) p104.2.2.1.length (p104.2.2.1.flatMap eBus), .row 4 1 (.slice B111 p104.2.2.2.1.length d113) p104.2.2.2.1.length (p104.2.2.2.1.flatMap eB), .row 4 1 (.slice B114 p104.2.2.2.2.1.length d116) p104.2.2.2.2.1.length (p104.2.2.2.2.1.flatMap eB), .row 78 2 (.slice B117 p104.2.2.2.2.2.1.length d119) p104.2.2.2.2.2.1.length (p104.2.2.2.2.2.1.flatMap ePermit), .row 3 1 (.slice B120 p104.2.2.2.2.2.2.length d122) p104.2.2.2.2.2.2.length (p104.2.2.2.2.2.2.flatMap eI), .box g101 32 #[.int .i64 x0, .slice A1 x1.length c1, .slice A2 x2.length c2, .slice A3 x3.length c3, .slice A4 x4.length c4, .slice A5 x5.length c5, .slice A6 x6.length c6]] from S.sel [12, 0, 1, 2, 3, 4, 5, 6, 7, 8, 9, 10, 11, 13, 14, 15, 16, 17, 18, 19, 20, 21] rfl rfl) h195) ?_
      rintro e u ⟨rfl, hn196, T⟩
      refine ⟨_, rfl, ?_⟩
      clear hF; intro a hF
      clear S; have S := T; clear T
      refine op_val (v := .int .i64 p195.1) rfl rfl hF rfl (run_assign rfl (hF.ev rfl)) ?_;clear hF;intro a hF
      refine wn ?_
      revert a;refine sr (ov (v := .int .i64 1) rfl rfl rfl (fun a hF=>run_assign rfl rfl) fun a hF=>wn ?_)
      revert a;refine sr (mv rfl rfl (mv rfl rfl fun a hF=>?_))
      obtain ⟨p197, h197, hM⟩ := bind_ex hM
      refine op_call rfl rfl hF rfl (run_call (vs := [.slice B148 p147.length d150, .int .i64 1]) rfl rfl co15 ⟨(hF.ev rfl), (hF.ev rfl), trivial⟩) (c_laws_heldIntS (x0 := p195.2) (x1 := 1) ⟨(S.rc 0 rfl), hn196⟩ h197) ?_
      rintro e u ⟨rfl, T⟩
      refine ⟨_, rfl, ?_⟩
      clear hF; intro a hF
      replace S := S.call0 T; clear T
      refine op_val (v := .int .i64 p197) rfl rfl hF rfl (run_assign rfl (hF.ev rfl)) ?_;clear hF;intro a hF
      refine wn ?_
      refine ws ?_
      revert a;refine sr (mv rfl rfl (ov (v := .bool (ltB p197 0)) rfl rfl rfl (fun a hF=>run_lss (hF.ev rfl) rfl rfl) fun a hF=>wn ?_))
      cases hc198 : (ltB p197 0)
      · replace hM := bif_f hc198 hM
        refine cond_f hF rfl hc198 ?_
        refine wp_skip ?_
        refine ws ?_
        revert a;refine sr (mv rfl rfl (mv rfl rfl (ov (v := .bool (p197 != p195.1)) rfl rfl rfl (fun a hF=>run_neq (hF.ev rfl) (hF.ev rfl) rfl) fun a hF=>wn ?_)))
        cases hc199 : (p197 != p195.1)
        · replace hM := bif_f hc199 hM
          refine cond_f hF rfl hc199 ?_
          refine wp_skip ?_
          revert a;refine sr (ov rfl rfl rfl (fun a hF=>run_loadN rfl ag32 (hF.ev rfl) rfl ((S.free 21 rfl).cells 0 #[.int .i64 x0, .slice A1 x1.length c1, .slice A2 x2.length c2, .slice A3 x3.length c3, .slice A4 x4.length c4, .slice A5 x5.length c5, .slice A6 x6.length c6] rfl)) fun a hF=>?_)
          obtain ⟨p200, h200, hM⟩ := bind_ex hM
          refine op_call rfl rfl hF rfl (run_call (vs := [.agg #[.int .i64 x0, .slice A1 x1.length c1, .slice A2 x2.length c2, .slice A3 x3.length c3, .slice A4 x4.length c4, .slice A5 x5.length c5, .slice A6 x6.length c6]]) rfl rfl co7 ⟨(hF.ev rfl), trivial⟩) (c_laws_toWorld (x0 := x0) (x1 := x1) (x2 := x2) (x3 := x3) (x4 := x4) (x5 := x5) (x6 := x6) ⟨(S.rc0 h1.rc), rfl⟩ ⟨(S.rc0 h2.rc), rfl⟩ ⟨(S.rc0 h3.rc), rfl⟩ ⟨(S.rc0 h4.rc), rfl⟩ ⟨(S.rc0 h5.rc), rfl⟩ ⟨(S.rc0 h6.rc), rfl⟩ h200) ?_
          rintro e u ⟨B201, n202, d203, B204, n205, d206, B207, n208, d209, B210, n211, d212, B213, n214, d215, B216, n217, d218, rfl, rfl, rfl, rfl, rfl, rfl, rfl, T⟩
          refine ⟨_, rfl, ?_⟩
          clear hF; intro a hF
          replace S := S.call6 T; clear T
          obtain ⟨p219, h219, hM⟩ := bind_ex hM
          refine op_call rfl rfl hF rfl (run_call (vs := [.agg #[.int .i64 p200.1, .slice B201 p200.2.1.length d203, .slice B204 p200.2.2.1.length d206, .slice B207 p200.2.2.2.1.length d209, .slice B210 p200.2.2.2.2.1.length d212, .slice B213 p200.2.2.2.2.2.1.length d215, .slice B216 p200.2.2.2.2.2.2.length d218]]) rfl rfl co11 ⟨(hF.ev rfl), trivial⟩) (c_impl_WorldDark (x0 := p200.1) (x1 := p200.2.1) (x2 := p200.2.2.1) (x3 := p200.2.2.2.1) (x4 := p200.2.2.2.2.1) (x5 := p200.2.2.2.2.2.1) (x6 := p200.2.2.2.2.2.2) ⟨(S.rc 0 rfl), rfl⟩ ⟨(S.rc 1 rfl), rfl⟩ ⟨(S.rc 2 rfl), rfl⟩ ⟨(S.rc 3 rfl), rfl⟩ ⟨(S.rc 4 rfl), rfl⟩ ⟨(S.rc 5 rfl), rfl⟩ h219) ?_
          rintro e u ⟨B220, n221, d222, rfl, rfl, T⟩
          refine ⟨_, rfl, ?_⟩
          clear hF; intro a hF
          replace S := S.call1 T; clear T
          refine op_val (v := .slice B220 p219.length d222) rfl rfl hF rfl (run_assign rfl (hF.ev rfl)) ?_;clear hF;intro a hF
          refine wn ?_
          refine ws ?_
          revert a;refine sr (mv rfl rfl (mv rfl rfl fun a hF=>?_))
          obtain ⟨p223, h223, hM⟩ := bind_ex hM
          refine op_call rfl rfl hF rfl (run_call (vs := [.slice B220 p219.length d222, .slice B124 p123.length d126]) rfl rfl co12 ⟨(hF.ev rfl), (hF.ev rfl), trivial⟩) (c_laws_eqIntS (x0 := p219) (x1 := p123) ⟨(S.rc 0 rfl), rfl⟩ ⟨(S.rc 21 rfl), rfl⟩ h223) ?_
          rintro e u ⟨rfl, T⟩
          refine ⟨_, rfl, ?_⟩
          clear hF; intro a hF
          replace S := S.call0 T; clear T
          refine op_val (v := .bool (!p223)) rfl rfl hF rfl (run_not rfl (hF.ev rfl)) ?_;clear hF;intro a hF
          refine wn ?_
          cases hc224 : (p223)
          · replace hM := bif_f hc224 hM
            refine cond_t hF rfl (not_t hc224) ?_
            revert a;refine sr (ov (v := .bool false) rfl rfl rfl (fun a hF=>run_assign rfl rfl) fun a hF=>wn ?_)
            refine wp_ret ?_
            repeat with_reducible first|refine tr ?_|refine ir ?_|refine nr ?_
            refine ret1_gw (.inl rfl) hF rfl (res_tmp (hF.ev rfl)) ?_
            obtain rfl := Option.some.inj hM
            exact ⟨rfl, S.sel [] rfl rfl⟩
          replace hM := bif_t hc224 hM
          refine cond_f hF rfl (not_f hc224) ?_
          refine wp_skip ?_
          revert a;refine sr (ov (v := .int .i64 1) rfl rfl rfl (fun a hF=>run_assign rfl rfl) fun a hF=>wn ?_)
          revert a;refine sr (mv rfl rfl (mv rfl rfl fun a hF=>?_))
          obtain ⟨p225, h225, hM⟩ := bind_ex hM
          refine op_call rfl rfl hF rfl (run_call (vs := [.slice B148 p147.length d150, .int .i64 1]) rfl rfl co15 ⟨(hF.ev rfl), (hF.ev rfl), trivial⟩) (c_laws_heldIntS (x0 := p195.2) (x1 := 1) ⟨(S.rc 7 rfl), hn196⟩ h225) ?_
          rintro e u ⟨rfl, T⟩
          refine ⟨_, rfl, ?_⟩
          clear hF; intro a hF
          replace S := S.call0 T; clear T
          refine op_val (v := .int .i64 p225) rfl rfl hF rfl (run_assign rfl (hF.ev rfl)) ?_;clear hF;intro a hF
          refine wn ?_
          refine ws ?_
          revert a;refine sr (mv rfl rfl (ov (v := .bool (ltB p225 0)) rfl rfl rfl (fun a hF=>run_lss (hF.ev rfl) rfl rfl) fun a hF=>wn ?_))
          cases hc226 : (ltB p225 0)
          · replace hM := bif_f hc226 hM
            refine cond_f hF rfl hc226 ?_
            refine wp_skip ?_
            refine ws ?_
            revert a;refine sr (mv rfl rfl (mv rfl rfl (ov (v := .bool (p225 != p195.1)) rfl rfl rfl (fun a hF=>run_neq (hF.ev rfl) (hF.ev rfl) rfl) fun a hF=>wn ?_)))
            cases hc227 : (p225 != p195.1)
            · replace hM := bif_f hc227 hM
              refine cond_f hF rfl hc227 ?_
              refine wp_skip ?_
              revert a;refine sr (ov (v := .bool true) rfl rfl rfl (fun a hF=>run_assign rfl rfl) fun a hF=>wn ?_)
              refine wp_ret ?_
              repeat with_reducible first|refine tr ?_|refine ir ?_|refine nr ?_
              refine ret1_gw (.inl rfl) hF rfl (res_tmp (hF.ev rfl)) ?_
              obtain rfl := Option.some.inj hM
              exact ⟨rfl, S.sel [] rfl rfl⟩
            replace hM := bif_t hc227 hM
            refine cond_t hF rfl hc227 ?_
            revert a;refine sr (ov (v := .bool false) rfl rfl rfl (fun a hF=>run_assign rfl rfl) fun a hF=>wn ?_)
            refine wp_ret ?_
            repeat with_reducible first|refine tr ?_|refine ir ?_|refine nr ?_
            refine ret1_gw (.inl rfl) hF rfl (res_tmp (hF.ev rfl)) ?_
            obtain rfl := Option.some.inj hM
            exact ⟨rfl, S.sel [] rfl rfl⟩
          replace hM := bif_t hc226 hM
          refine cond_t hF rfl hc226 ?_
          revert a;refine sr (ov (v := .bool false) rfl rfl rfl (fun a hF=>run_assign rfl rfl) fun a hF=>wn ?_)
          refine wp_ret ?_
          repeat with_reducible first|refine tr ?_|refine ir ?_|refine nr ?_
          refine ret1_gw (.inl rfl) hF rfl (res_tmp (hF.ev rfl)) ?_
          obtain rfl := Option.some.inj hM
          exact ⟨rfl, S.sel [] rfl rfl⟩
        replace hM := bif_t hc199 hM
        refine cond_t hF rfl hc199 ?_
        revert a;refine sr (ov (v := .bool false) rfl rfl rfl (fun a hF=>run_assign rfl rfl) fun a hF=>wn ?_)
        refine wp_ret ?_
        repeat with_reducible first|refine tr ?_|refine ir ?_|refine nr ?_
        refine ret1_gw (.inl rfl) hF rfl (res_tmp (hF.ev rfl)) ?_
        obtain rfl := Option.some.inj hM
        exact ⟨rfl, S.sel [] rfl rfl⟩
      replace hM := bif_t hc198 hM
      refine cond_t hF rfl hc198 ?_
      revert a;refine sr (ov (v := .bool false) rfl rfl rfl (fun a hF=>run_assign rfl rfl) fun a hF=>wn ?_)
      refine wp_ret ?_
      repeat with_reducible first|refine tr ?_|refine ir ?_|refine nr ?_
      refine ret1_gw (.inl rfl) hF rfl (res_tmp (hF.ev rfl)) ?_
      obtain rfl := Option.some.inj hM
      exact ⟨rfl, S.sel [] rfl rfl⟩
    replace hM := bif_t hc194 hM
    refine cond_t hF rfl hc194 ?_
    revert a;refine sr (ov (v := .bool false) rfl rfl rfl (fun a hF=>run_assign rfl rfl) fun a hF=>wn ?_)
    refine wp_ret ?_
    repeat with_reducible first|refine tr ?_|refine ir ?_|refine nr ?_
    refine ret1_gw (.inl rfl) hF rfl (res_tmp (hF.ev rfl)) ?_
    obtain rfl := Option.some.inj hM
    exact ⟨rfl, S.sel [] rfl rfl⟩
  replace hM := bif_t hc103 hM
  refine cond_t hF rfl hc103 ?_
  revert a;refine sr (ov (v := .bool true) rfl rfl rfl (fun a hF=>run_assign rfl rfl) fun a hF=>wn ?_)
  refine wp_ret ?_
  repeat with_reducible first|refine tr ?_|refine ir ?_|refine nr ?_
  refine ret1_gw (.inl rfl) hF rfl (res_tmp (hF.ev rfl)) ?_
  obtain rfl := Option.some.inj hM
  exact ⟨rfl, S.sel [] rfl rfl⟩
end Go.Proofs.Ytcmnjaccapbhfaa
