/- Calls return what the models say. -/
import Derived.Test.YtcmnjaccapbhfaaQSq
import Derived.Test.YtcmnjaccapbhfaaQDaT
namespace Go.Proofs.Ytcmnjaccapbhfaa
open Go.ChangeShapes Go.WideShapes Go.ChangeAt Go.RowKit
set_option linter.unusedVariables false
set_option maxHeartbeats 4000000
set_option linter.unusedSimpArgs false
theorem c_laws_szLineS {x0 : List (Int × Int × Int)} {x1 : Int} {A0 : Option Addr} {n0 c0 : Nat} {w : World} {r : Int} (h0 : Rt w 3 eLLine A0 n0 c0 x0) (hM : m_laws_szLineS x0 x1 = some r) :
    Calls Try.prog 42 #[.slice A0 n0 c0, .int .i64 x1] w (fun e w' => e = .returned (.int .i64 r) ∧ St w w' []) := by
  obtain rfl := h0.len
  unfold m_laws_szLineS at hM
  refine calls_gw Try.func42 Try.ntmps42 rfl [(0, .slice A0 x0.length c0), (1, .int .i64 x1)] ⟨rfl, rfl, trivial⟩ rfl ?_
  intro a hF
  have S := St.nil w
  revert a;refine sr (ov (v := .int .i64 0) rfl rfl rfl (fun a hF=>run_assign rfl rfl) fun a hF=>wn ?_)
  revert a;refine sr (mv rfl rfl (mv rfl rfl (ov rfl rfl rfl (fun a hF=>run_lenL rfl rfl Try.underlying22 (hF.ev rfl)) (ov (v := .int .i64 (w64 (x1 - (x0.length : Int)))) rfl rfl rfl (fun a hF=>run_sub (z := w64 (x1 - (x0.length : Int))) (hF.ev rfl) (hF.ev rfl) rfl rfl) (ag rfl rfl fun a hF=>wn ?_)))))
  refine ws ?_
  revert a;refine sr (mv rfl rfl (ov (v := .bool (ltB (w64 (x1 - (x0.length : Int))) 0)) rfl rfl rfl (fun a hF=>run_lss (hF.ev rfl) rfl rfl) fun a hF=>wn ?_))
  cases hc101 : (ltB (w64 (x1 - (x0.length : Int))) 0)
  · replace hM := bif_f hc101 hM
    refine cond_f hF rfl hc101 ?_
    refine wp_skip ?_
    revert a;refine sr (mv rfl rfl (ag rfl rfl fun a hF=>wn ?_))
    refine wp_ret ?_
    repeat with_reducible first|refine tr ?_|refine ir ?_|refine nr ?_
    refine ret1_gw (.inl rfl) hF rfl (res_tmp (hF.ev rfl)) ?_
    obtain rfl := Option.some.inj hM
    exact ⟨rfl, S.sel [] rfl rfl⟩
  replace hM := bif_t hc101 hM
  refine cond_t hF rfl hc101 ?_
  revert a;refine sr (ov (v := .int .i64 (-1)) rfl rfl rfl (fun a hF=>run_assign rfl rfl) fun a hF=>wn ?_)
  refine wp_ret ?_
  repeat with_reducible first|refine tr ?_|refine ir ?_|refine nr ?_
  refine ret1_gw (.inl rfl) hF rfl (res_tmp (hF.ev rfl)) ?_
  obtain rfl := Option.some.inj hM
  exact ⟨rfl, S.sel [] rfl rfl⟩
theorem c_laws_szNet {x0 : Int} {x1 : List (Int × Int × Int)} {x2 : Int} {A1 : Option Addr} {n1 c1 : Nat} {w : World} {r : Int} (h1 : Rt w 3 eLLine A1 n1 c1 x1) (hM : m_laws_szNet x0 x1 x2 = some r) :
    Calls Try.prog 16 #[.agg #[.int .i64 x0, .slice A1 n1 c1], .int .i64 x2] w (fun e w' => e = .returned (.int .i64 r) ∧ St w w' []) := by
  obtain rfl := h1.len
  unfold m_laws_szNet at hM
  refine calls_gw Try.func16 Try.ntmps16 rfl [(0, .agg #[.int .i64 x0, .slice A1 x1.length c1]), (1, .int .i64 x2)] ⟨rfl, rfl, trivial⟩ rfl ?_
  intro a hF
  have S := St.nil w
  refine wsg ?_
  refine op_new (cs := #[.int .i64 x0, .slice A1 x1.length c1]) rfl rfl hF rfl S (run_box rfl (hF.ev rfl) rfl) ?_; clear hF S; intro a g101 u hF S
  refine op_val (v := .int .i64 0) rfl rfl hF rfl (run_assign rfl rfl) ?_;clear hF;intro a hF
  refine wn ?_
  revert a;refine sr (ov (v := .pointer (some ⟨g101, 1, none⟩)) rfl rfl rfl (fun a hF=>run_fieldAddr rfl fl24_1 (hF.ev rfl) rfl) (ov (v := .slice A1 x1.length c1) rfl rfl rfl (fun a hF=>run_load1 rfl one22 (hF.ev rfl) ((S.free 0 rfl).cell rfl)) (mv rfl rfl fun a hF=>?_)))
  obtain ⟨p102, h102, hM⟩ := bind_ex hM
  refine op_call rfl rfl hF rfl (run_call (vs := [.slice A1 x1.length c1, .int .i64 x2]) rfl rfl co42 ⟨(hF.ev rfl), (hF.ev rfl), trivial⟩) (c_laws_szLineS (x0 := x1) (x1 := x2) ⟨(S.rc0 h1.rc), rfl⟩ h102) ?_
  rintro e u ⟨rfl, T⟩
  refine ⟨_, rfl, ?_⟩
  clear hF; intro a hF
  replace S := S.call0 T; clear T
  refine op_val (v := .int .i64 p102) rfl rfl hF rfl (run_assign rfl (hF.ev rfl)) ?_;clear hF;intro a hF
  refine wn ?_
  refine ws ?_
  revert a;refine sr (mv rfl rfl (ov (v := .bool (ltB p102 0)) rfl rfl rfl (fun a hF=>run_lss (hF.ev rfl) rfl rfl) fun a hF=>wn ?_))
  cases hc103 : (ltB p102 0)
  · replace hM := bif_f hc103 hM
    refine cond_f hF rfl hc103 ?_
    refine wp_skip ?_
    revert a;refine sr (mv rfl rfl (ag rfl rfl fun a hF=>wn ?_))
    refine wp_ret ?_
    repeat with_reducible first|refine tr ?_|refine ir ?_|refine nr ?_
    refine ret1_gw (.inl rfl) hF rfl (res_tmp (hF.ev rfl)) ?_
    obtain rfl := Option.some.inj hM
    exact ⟨rfl, S.sel [] rfl rfl⟩
  replace hM := bif_t hc103 hM
  refine cond_t hF rfl hc103 ?_
  revert a;refine sr (ov (v := .int .i64 (-1)) rfl rfl rfl (fun a hF=>run_assign rfl rfl) fun a hF=>wn ?_)
  refine wp_ret ?_
  repeat with_reducible first|refine tr ?_|refine ir ?_|refine nr ?_
  refine ret1_gw (.inl rfl) hF rfl (res_tmp (hF.ev rfl)) ?_
  obtain rfl := Option.some.inj hM
  exact ⟨rfl, S.sel [] rfl rfl⟩
theorem c_laws_szBusS {x0 : List (Int × Int)} {x1 : Int} {A0 : Option Addr} {n0 c0 : Nat} {w : World} {r : Int} (h0 : Rt w 2 eLBus A0 n0 c0 x0) (hM : m_laws_szBusS x0 x1 = some r) :
    Calls Try.prog 17 #[.slice A0 n0 c0, .int .i64 x1] w (fun e w' => e = .returned (.int .i64 r) ∧ St w w' []) := by
  obtain rfl := h0.len
  unfold m_laws_szBusS at hM
  refine calls_gw Try.func17 Try.ntmps17 rfl [(0, .slice A0 x0.length c0), (1, .int .i64 x1)] ⟨rfl, rfl, trivial⟩ rfl ?_
  intro a hF
  have S := St.nil w
  revert a;refine sr (ov (v := .int .i64 0) rfl rfl rfl (fun a hF=>run_assign rfl rfl) fun a hF=>wn ?_)
  revert a;refine sr (mv rfl rfl (mv rfl rfl (ov rfl rfl rfl (fun a hF=>run_lenL rfl rfl Try.underlying25 (hF.ev rfl)) (ov (v := .int .i64 (w64 (x1 - (x0.length : Int)))) rfl rfl rfl (fun a hF=>run_sub (z := w64 (x1 - (x0.length : Int))) (hF.ev rfl) (hF.ev rfl) rfl rfl) (ag rfl rfl fun a hF=>wn ?_)))))
  refine ws ?_
  revert a;refine sr (mv rfl rfl (ov (v := .bool (ltB (w64 (x1 - (x0.length : Int))) 0)) rfl rfl rfl (fun a hF=>run_lss (hF.ev rfl) rfl rfl) fun a hF=>wn ?_))
  cases hc101 : (ltB (w64 (x1 - (x0.length : Int))) 0)
  · replace hM := bif_f hc101 hM
    refine cond_f hF rfl hc101 ?_
    refine wp_skip ?_
    revert a;refine sr (mv rfl rfl (ag rfl rfl fun a hF=>wn ?_))
    refine wp_ret ?_
    repeat with_reducible first|refine tr ?_|refine ir ?_|refine nr ?_
    refine ret1_gw (.inl rfl) hF rfl (res_tmp (hF.ev rfl)) ?_
    obtain rfl := Option.some.inj hM
    exact ⟨rfl, S.sel [] rfl rfl⟩
  replace hM := bif_t hc101 hM
  refine cond_t hF rfl hc101 ?_
  revert a;refine sr (ov (v := .int .i64 (-1)) rfl rfl rfl (fun a hF=>run_assign rfl rfl) fun a hF=>wn ?_)
  refine wp_ret ?_
  repeat with_reducible first|refine tr ?_|refine ir ?_|refine nr ?_
  refine ret1_gw (.inl rfl) hF rfl (res_tmp (hF.ev rfl)) ?_
  obtain rfl := Option.some.inj hM
  exact ⟨rfl, S.sel [] rfl rfl⟩
theorem c_laws_szBoolS {x0 : List Bool} {x1 : Int} {A0 : Option Addr} {n0 c0 : Nat} {w : World} {r : Int} (h0 : Rt w 1 eB A0 n0 c0 x0) (hM : m_laws_szBoolS x0 x1 = some r) :
    Calls Try.prog 43 #[.slice A0 n0 c0, .int .i64 x1] w (fun e w' => e = .returned (.int .i64 r) ∧ St w w' []) := by
  obtain rfl := h0.len
  unfold m_laws_szBoolS at hM
  refine calls_gw Try.func43 Try.ntmps43 rfl [(0, .slice A0 x0.length c0), (1, .int .i64 x1)] ⟨rfl, rfl, trivial⟩ rfl ?_
  intro a hF
  have S := St.nil w
  revert a;refine sr (ov (v := .int .i64 0) rfl rfl rfl (fun a hF=>run_assign rfl rfl) fun a hF=>wn ?_)
  revert a;refine sr (mv rfl rfl (mv rfl rfl (ov rfl rfl rfl (fun a hF=>run_lenL rfl rfl Try.underlying26 (hF.ev rfl)) (ov (v := .int .i64 (w64 (x1 - (x0.length : Int)))) rfl rfl rfl (fun a hF=>run_sub (z := w64 (x1 - (x0.length : Int))) (hF.ev rfl) (hF.ev rfl) rfl rfl) (ag rfl rfl fun a hF=>wn ?_)))))
  refine ws ?_
  revert a;refine sr (mv rfl rfl (ov (v := .bool (ltB (w64 (x1 - (x0.length : Int))) 0)) rfl rfl rfl (fun a hF=>run_lss (hF.ev rfl) rfl rfl) fun a hF=>wn ?_))
  cases hc101 : (ltB (w64 (x1 - (x0.length : Int))) 0)
  · replace hM := bif_f hc101 hM
    refine cond_f hF rfl hc101 ?_
    refine wp_skip ?_
    revert a;refine sr (mv rfl rfl (ag rfl rfl fun a hF=>wn ?_))
    refine wp_ret ?_
    repeat with_reducible first|refine tr ?_|refine ir ?_|refine nr ?_
    refine ret1_gw (.inl rfl) hF rfl (res_tmp (hF.ev rfl)) ?_
    obtain rfl := Option.some.inj hM
    exact ⟨rfl, S.sel [] rfl rfl⟩
  replace hM := bif_t hc101 hM
  refine cond_t hF rfl hc101 ?_
  revert a;refine sr (ov (v := .int .i64 (-1)) rfl rfl rfl (fun a hF=>run_assign rfl rfl) fun a hF=>wn ?_)
  refine wp_ret ?_
  repeat with_reducible first|refine tr ?_|refine ir ?_|refine nr ?_
  refine ret1_gw (.inl rfl) hF rfl (res_tmp (hF.ev rfl)) ?_
  obtain rfl := Option.some.inj hM
  exact ⟨rfl, S.sel [] rfl rfl⟩
theorem c_laws_szPermitS {x0 : List (Int × Int)} {x1 : Int} {A0 : Option Addr} {n0 c0 : Nat} {w : World} {r : Int} (h0 : Rt w 2 eLPermit A0 n0 c0 x0) (hM : m_laws_szPermitS x0 x1 = some r) :
    Calls Try.prog 44 #[.slice A0 n0 c0, .int .i64 x1] w (fun e w' => e = .returned (.int .i64 r) ∧ St w w' []) := by
  obtain rfl := h0.len
  unfold m_laws_szPermitS at hM
  refine calls_gw Try.func44 Try.ntmps44 rfl [(0, .slice A0 x0.length c0), (1, .int .i64 x1)] ⟨rfl, rfl, trivial⟩ rfl ?_
  intro a hF
  have S := St.nil w
  revert a;refine sr (ov (v := .int .i64 0) rfl rfl rfl (fun a hF=>run_assign rfl rfl) fun a hF=>wn ?_)
  revert a;refine sr (mv rfl rfl (mv rfl rfl (ov rfl rfl rfl (fun a hF=>run_lenL rfl rfl Try.underlying27 (hF.ev rfl)) (ov (v := .int .i64 (w64 (x1 - (x0.length : Int)))) rfl rfl rfl (fun a hF=>run_sub (z := w64 (x1 - (x0.length : Int))) (hF.ev rfl) (hF.ev rfl) rfl rfl) (ag rfl rfl fun a hF=>wn ?_)))))
  refine ws ?_
  revert a;refine sr (mv rfl rfl (ov (v := .bool (ltB (w64 (x1 - (x0.length : Int))) 0)) rfl rfl rfl (fun a hF=>run_lss (hF.ev rfl) rfl rfl) fun a hF=>wn ?_))
  cases hc101 : (ltB (w64 (x1 - (x0.length : Int))) 0)
  · replace hM := bif_f hc101 hM
    refine cond_f hF rfl hc101 ?_
    refine wp_skip ?_
    revert a;refine sr (mv rfl rfl (ag rfl rfl fun a hF=>wn ?_))
    refine wp_ret ?_
    repeat with_reducible first|refine tr ?_|refine ir ?_|refine nr ?_
    refine ret1_gw (.inl rfl) hF rfl (res_tmp (hF.ev rfl)) ?_
    obtain rfl := Option.some.inj hM
    exact ⟨rfl, S.sel [] rfl rfl⟩
  replace hM := bif_t hc101 hM
  refine cond_t hF rfl hc101 ?_
  revert a;refine sr (ov (v := .int .i64 (-1)) rfl rfl rfl (fun a hF=>run_assign rfl rfl) fun a hF=>wn ?_)
  refine wp_ret ?_
  repeat with_reducible first|refine tr ?_|refine ir ?_|refine nr ?_
  refine ret1_gw (.inl rfl) hF rfl (res_tmp (hF.ev rfl)) ?_
  obtain rfl := Option.some.inj hM
  exact ⟨rfl, S.sel [] rfl rfl⟩
theorem c_laws_szWork {x0 : List Bool} {x1 : List Bool} {x2 : List (Int × Int)} {x3 : Int} {A0 : Option Addr} {n0 c0 : Nat} {A1 : Option Addr} {n1 c1 : Nat} {A2 : Option Addr} {n2 c2 : Nat} {w : World} {r : Int} (h0 : Rt w 1 eB A0 n0 c0 x0) (h1 : Rt w 1 eB A1 n1 c1 x1) (h2 : Rt w 2 eLPermit A2 n2 c2 x2) (hM : m_laws_szWork x0 x1 x2 x3 = some r) :
    Calls Try.prog 18 #[.agg #[.slice A0 n0 c0, .slice A1 n1 c1, .slice A2 n2 c2], .int .i64 x3] w (fun e w' => e = .returned (.int .i64 r) ∧ St w w' []) := by
  obtain rfl := h0.len
  obtain rfl := h1.len
  obtain rfl := h2.len
  unfold m_laws_szWork at hM
  refine calls_gw Try.func18 Try.ntmps18 rfl [(0, .agg #[.slice A0 x0.length c0, .slice A1 x1.length c1, .slice A2 x2.length c2]), (1, .int .i64 x3)] ⟨rfl, rfl, trivial⟩ rfl ?_
  intro a hF
  have S := St.nil w
  refine wsg ?_
  refine op_new (cs := #[.slice A0 x0.length c0, .slice A1 x1.length c1, .slice A2 x2.length c2]) rfl rfl hF rfl S (run_box rfl (hF.ev rfl) rfl) ?_; clear hF S; intro a g101 u hF S
  refine op_val (v := .int .i64 0) rfl rfl hF rfl (run_assign rfl rfl) ?_;clear hF;intro a hF
  refine wn ?_
  revert a;refine sr (ov (v := .pointer (some ⟨g101, 0, none⟩)) rfl rfl rfl (fun a hF=>run_fieldAddr rfl fl29_0 (hF.ev rfl) rfl) (ov (v := .slice A0 x0.length c0) rfl rfl rfl (fun a hF=>run_load1 rfl one26 (hF.ev rfl) ((S.free 0 rfl).cell rfl)) (mv rfl rfl fun a hF=>?_)))
  obtain ⟨p102, h102, hM⟩ := bind_ex hM
  refine op_call rfl rfl hF rfl (run_call (vs := [.slice A0 x0.length c0, .int .i64 x3]) rfl rfl co43 ⟨(hF.ev rfl), (hF.ev rfl), trivial⟩) (c_laws_szBoolS (x0 := x0) (x1 := x3) ⟨(S.rc0 h0.rc), rfl⟩ h102) ?_
  rintro e u ⟨rfl, T⟩
  refine ⟨_, rfl, ?_⟩
  clear hF; intro a hF
  replace S := S.call0 T; clear T
  refine op_val (v := .int .i64 p102) rfl rfl hF rfl (run_assign rfl (hF.ev rfl)) ?_;clear hF;intro a hF
  refine wn ?_
  refine ws ?_
  revert a;refine sr (mv rfl rfl (ov (v := .bool (ltB p102 0)) rfl rfl rfl (fun a hF=>run_lss (hF.ev rfl) rfl rfl) fun a hF=>wn ?_))
  cases hc103 : (ltB p102 0)
  · replace hM := bif_f hc103 hM
    refine cond_f hF rfl hc103 ?_
    refine wp_skip ?_
    revert a;refine sr (ov (v := .pointer (some ⟨g101, 1, none⟩)) rfl rfl rfl (fun a hF=>run_fieldAddr rfl fl29_1 (hF.ev rfl) rfl) (ov (v := .slice A1 x1.length c1) rfl rfl rfl (fun a hF=>run_load1 rfl one26 (hF.ev rfl) ((S.free 0 rfl).cell rfl)) (mv rfl rfl fun a hF=>?_)))
    obtain ⟨p104, h104, hM⟩ := bind_ex hM
    refine op_call rfl rfl hF rfl (run_call (vs := [.slice A1 x1.length c1, .int .i64 p102]) rfl rfl co43 ⟨(hF.ev rfl), (hF.ev rfl), trivial⟩) (c_laws_szBoolS (x0 := x1) (x1 := p102) ⟨(S.rc0 h1.rc), rfl⟩ h104) ?_
    rintro e u ⟨rfl, T⟩
    refine ⟨_, rfl, ?_⟩
    clear hF; intro a hF
    replace S := S.call0 T; clear T
    refine op_val (v := .int .i64 p104) rfl rfl hF rfl (run_assign rfl (hF.ev rfl)) ?_;clear hF;intro a hF
    refine wn ?_
    refine ws ?_
    revert a;refine sr (mv rfl rfl (ov (v := .bool (ltB p104 0)) rfl rfl rfl (fun a hF=>run_lss (hF.ev rfl) rfl rfl) fun a hF=>wn ?_))
    cases hc105 : (ltB p104 0)
    · replace hM := bif_f hc105 hM
      refine cond_f hF rfl hc105 ?_
      refine wp_skip ?_
      revert a;refine sr (ov (v := .pointer (some ⟨g101, 2, none⟩)) rfl rfl rfl (fun a hF=>run_fieldAddr rfl fl29_2 (hF.ev rfl) rfl) (ov (v := .slice A2 x2.length c2) rfl rfl rfl (fun a hF=>run_load1 rfl one27 (hF.ev rfl) ((S.free 0 rfl).cell rfl)) (mv rfl rfl fun a hF=>?_)))
      obtain ⟨p106, h106, hM⟩ := bind_ex hM
      refine op_call rfl rfl hF rfl (run_call (vs := [.slice A2 x2.length c2, .int .i64 p104]) rfl rfl co44 ⟨(hF.ev rfl), (hF.ev rfl), trivial⟩) (c_laws_szPermitS (x0 := x2) (x1 := p104) ⟨(S.rc0 h2.rc), rfl⟩ h106) ?_
      rintro e u ⟨rfl, T⟩
      refine ⟨_, rfl, ?_⟩
      clear hF; intro a hF
      replace S := S.call0 T; clear T
      refine op_val (v := .int .i64 p106) rfl rfl hF rfl (run_assign rfl (hF.ev rfl)) ?_;clear hF;intro a hF
      refine wn ?_
      refine ws ?_
      revert a;refine sr (mv rfl rfl (ov (v := .bool (ltB p106 0)) rfl rfl rfl (fun a hF=>run_lss (hF.ev rfl) rfl rfl) fun a hF=>wn ?_))
      cases hc107 : (ltB p106 0)
      · replace hM := bif_f hc107 hM
        refine cond_f hF rfl hc107 ?_
        refine wp_skip ?_
        revert a;refine sr (mv rfl rfl (ag rfl rfl fun a hF=>wn ?_))
        refine wp_ret ?_
        repeat with_reducible first|refine tr ?_|refine ir ?_|refine nr ?_
        refine ret1_gw (.inl rfl) hF rfl (res_tmp (hF.ev rfl)) ?_
        obtain rfl := Option.some.inj hM
        exact ⟨rfl, S.sel [] rfl rfl⟩
      replace hM := bif_t hc107 hM
      refine cond_t hF rfl hc107 ?_
      revert a;refine sr (ov (v := .int .i64 (-1)) rfl rfl rfl (fun a hF=>run_assign rfl rfl) fun a hF=>wn ?_)
      refine wp_ret ?_
      repeat with_reducible first|refine tr ?_|refine ir ?_|refine nr ?_
      refine ret1_gw (.inl rfl) hF rfl (res_tmp (hF.ev rfl)) ?_
      obtain rfl := Option.some.inj hM
      exact ⟨rfl, S.sel [] rfl rfl⟩
    replace hM := bif_t hc105 hM
    refine cond_t hF rfl hc105 ?_
    revert a;refine sr (ov (v := .int .i64 (-1)) rfl rfl rfl (fun a hF=>run_assign rfl rfl) fun a hF=>wn ?_)
    refine wp_ret ?_
    repeat with_reducible first|refine tr ?_|refine ir ?_|refine nr ?_
    refine ret1_gw (.inl rfl) hF rfl (res_tmp (hF.ev rfl)) ?_
    obtain rfl := Option.some.inj hM
    exact ⟨rfl, S.sel [] rfl rfl⟩
  replace hM := bif_t hc103 hM
  refine cond_t hF rfl hc103 ?_
  revert a;refine sr (ov (v := .int .i64 (-1)) rfl rfl rfl (fun a hF=>run_assign rfl rfl) fun a hF=>wn ?_)
  refine wp_ret ?_
  repeat with_reducible first|refine tr ?_|refine ir ?_|refine nr ?_
  refine ret1_gw (.inl rfl) hF rfl (res_tmp (hF.ev rfl)) ?_
  obtain rfl := Option.some.inj hM
  exact ⟨rfl, S.sel [] rfl rfl⟩
theorem c_laws_szIntS {x0 : List Int} {x1 : Int} {A0 : Option Addr} {n0 c0 : Nat} {w : World} {r : Int} (h0 : Rt w 1 eI A0 n0 c0 x0) (hM : m_laws_szIntS x0 x1 = some r) :
    Calls Try.prog 19 #[.slice A0 n0 c0, .int .i64 x1] w (fun e w' => e = .returned (.int .i64 r) ∧ St w w' []) := by
  obtain rfl := h0.len
  unfold m_laws_szIntS at hM
  refine calls_gw Try.func19 Try.ntmps19 rfl [(0, .slice A0 x0.length c0), (1, .int .i64 x1)] ⟨rfl, rfl, trivial⟩ rfl ?_
  intro a hF
  have S := St.nil w
  revert a;refine sr (ov (v := .int .i64 0) rfl rfl rfl (fun a hF=>run_assign rfl rfl) fun a hF=>wn ?_)
  revert a;refine sr (mv rfl rfl (mv rfl rfl (ov rfl rfl rfl (fun a hF=>run_lenL rfl rfl Try.underlying30 (hF.ev rfl)) (ov (v := .int .i64 (w64 (x1 - (x0.length : Int)))) rfl rfl rfl (fun a hF=>run_sub (z := w64 (x1 - (x0.length : Int))) (hF.ev rfl) (hF.ev rfl) rfl rfl) (ag rfl rfl fun a hF=>wn ?_)))))
  refine ws ?_
  revert a;refine sr (mv rfl rfl (ov (v := .bool (ltB (w64 (x1 - (x0.length : Int))) 0)) rfl rfl rfl (fun a hF=>run_lss (hF.ev rfl) rfl rfl) fun a hF=>wn ?_))
  cases hc101 : (ltB (w64 (x1 - (x0.length : Int))) 0)
  · replace hM := bif_f hc101 hM
    refine cond_f hF rfl hc101 ?_
    refine wp_skip ?_
    revert a;refine sr (mv rfl rfl (ag rfl rfl fun a hF=>wn ?_))
    refine wp_ret ?_
    repeat with_reducible first|refine tr ?_|refine ir ?_|refine nr ?_
    refine ret1_gw (.inl rfl) hF rfl (res_tmp (hF.ev rfl)) ?_
    obtain rfl := Option.some.inj hM
    exact ⟨rfl, S.sel [] rfl rfl⟩
  replace hM := bif_t hc101 hM
  refine cond_t hF rfl hc101 ?_
  revert a;refine sr (ov (v := .int .i64 (-1)) rfl rfl rfl (fun a hF=>run_assign rfl rfl) fun a hF=>wn ?_)
  refine wp_ret ?_
  repeat with_reducible first|refine tr ?_|refine ir ?_|refine nr ?_
  refine ret1_gw (.inl rfl) hF rfl (res_tmp (hF.ev rfl)) ?_
  obtain rfl := Option.some.inj hM
  exact ⟨rfl, S.sel [] rfl rfl⟩
theorem c_laws_szWorld {x0 : Int} {x1 : List (Int × Int × Int)} {x2 : List (Int × Int)} {x3 : List Bool} {x4 : List Bool} {x5 : List (Int × Int)} {x6 : List Int} {x7 : Int} {A1 : Option Addr} {n1 c1 : Nat} {A2 : Option Addr} {n2 c2 : Nat} {A3 : Option Addr} {n3 c3 : Nat} {A4 : Option Addr} {n4 c4 : Nat} {A5 : Option Addr} {n5 c5 : Nat} {A6 : Option Addr} {n6 c6 : Nat} {w : World} {r : Int} (h1 : Rt w 3 eLLine A1 n1 c1 x1) (h2 : Rt w 2 eLBus A2 n2 c2 x2) (h3 : Rt w 1 eB A3 n3 c3 x3) (h4 : Rt w 1 eB A4 n4 c4 x4) (h5 : Rt w 2 eLPermit A5 n5 c5 x5) (h6 : Rt w 1 eI A6 n6 c6 x6) (hM : m_laws_szWorld x0 x1 x2 x3 x4 x5 x6 x7 = some r) :
    Calls Try.prog 5 #[.agg #[.int .i64 x0, .slice A1 n1 c1, .slice A2 n2 c2, .slice A3 n3 c3, .slice A4 n4 c4, .slice A5 n5 c5, .slice A6 n6 c6], .int .i64 x7] w (fun e w' => e = .returned (.int .i64 r) ∧ St w w' []) := by
  obtain rfl := h1.len
  obtain rfl := h2.len
  obtain rfl := h3.len
  obtain rfl := h4.len
  obtain rfl := h5.len
  obtain rfl := h6.len
  unfold m_laws_szWorld at hM
  refine calls_gw Try.func5 Try.ntmps5 rfl [(0, .agg #[.int .i64 x0, .slice A1 x1.length c1, .slice A2 x2.length c2, .slice A3 x3.length c3, .slice A4 x4.length c4, .slice A5 x5.length c5, .slice A6 x6.length c6]), (1, .int .i64 x7)] ⟨rfl, rfl, trivial⟩ rfl ?_
  intro a hF
  have S := St.nil w
  refine wsg ?_
  refine op_new (cs := #[.int .i64 x0, .slice A1 x1.length c1, .slice A2 x2.length c2, .slice A3 x3.length c3, .slice A4 x4.length c4, .slice A5 x5.length c5, .slice A6 x6.length c6]) rfl rfl hF rfl S (run_box rfl (hF.ev rfl) rfl) ?_; clear hF S; intro a g101 u hF S
  refine op_val (v := .int .i64 0) rfl rfl hF rfl (run_assign rfl rfl) ?_;clear hF;intro a hF
  refine wn ?_
  revert a;refine sr (ov (v := .pointer (some ⟨g101, 0, none⟩)) rfl rfl rfl (fun a hF=>run_fieldAddr rfl fl32_0 (hF.ev rfl) rfl) (ov rfl rfl rfl (fun a hF=>run_loadN rfl ag24 (hF.ev rfl) rfl ((S.free 0 rfl).cells 0 #[.int .i64 x0, .slice A1 x1.length c1] rfl)) (mv rfl rfl fun a hF=>?_)))
  obtain ⟨p102, h102, hM⟩ := bind_ex hM
  refine op_call rfl rfl hF rfl (run_call (vs := [.agg #[.int .i64 x0, .slice A1 x1.length c1], .int .i64 x7]) rfl rfl co16 ⟨(hF.ev rfl), (hF.ev rfl), trivial⟩) (c_laws_szNet (x0 := x0) (x1 := x1) (x2 := x7) ⟨(S.rc0 h1.rc), rfl⟩ h102) ?_
  rintro e u ⟨rfl, T⟩
  refine ⟨_, rfl, ?_⟩
  clear hF; intro a hF
  replace S := S.call0 T; clear T
  refine op_val (v := .int .i64 p102) rfl rfl hF rfl (run_assign rfl (hF.ev rfl)) ?_;clear hF;intro a hF
  refine wn ?_
  refine ws ?_
  revert a;refine sr (mv rfl rfl (ov (v := .bool (ltB p102 0)) rfl rfl rfl (fun a hF=>run_lss (hF.ev rfl) rfl rfl) fun a hF=>wn ?_))
  cases hc103 : (ltB p102 0)
  · replace hM := bif_f hc103 hM
    refine cond_f hF rfl hc103 ?_
    refine wp_skip ?_
    revert a;refine sr (ov (v := .pointer (some ⟨g101, 2, none⟩)) rfl rfl rfl (fun a hF=>run_fieldAddr rfl fl32_1 (hF.ev rfl) rfl) (ov (v := .slice A2 x2.length c2) rfl rfl rfl (fun a hF=>run_load1 rfl one25 (hF.ev rfl) ((S.free 0 rfl).cell rfl)) (mv rfl rfl fun a hF=>?_)))
    obtain ⟨p104, h104, hM⟩ := bind_ex hM
    refine op_call rfl rfl hF rfl (run_call (vs := [.slice A2 x2.length c2, .int .i64 p102]) rfl rfl co17 ⟨(hF.ev rfl), (hF.ev rfl), trivial⟩) (c_laws_szBusS (x0 := x2) (x1 := p102) ⟨(S.rc0 h2.rc), rfl⟩ h104) ?_
    rintro e u ⟨rfl, T⟩
    refine ⟨_, rfl, ?_⟩
    clear hF; intro a hF
    replace S := S.call0 T; clear T
    refine op_val (v := .int .i64 p104) rfl rfl hF rfl (run_assign rfl (hF.ev rfl)) ?_;clear hF;intro a hF
    refine wn ?_
    refine ws ?_
    revert a;refine sr (mv rfl rfl (ov (v := .bool (ltB p104 0)) rfl rfl rfl (fun a hF=>run_lss (hF.ev rfl) rfl rfl) fun a hF=>wn ?_))
    cases hc105 : (ltB p104 0)
    · replace hM := bif_f hc105 hM
      refine cond_f hF rfl hc105 ?_
      refine wp_skip ?_
      revert a;refine sr (ov (v := .pointer (some ⟨g101, 3, none⟩)) rfl rfl rfl (fun a hF=>run_fieldAddr rfl fl32_2 (hF.ev rfl) rfl) (ov rfl rfl rfl (fun a hF=>run_loadN rfl ag29 (hF.ev rfl) rfl ((S.free 0 rfl).cells 3 #[.slice A3 x3.length c3, .slice A4 x4.length c4, .slice A5 x5.length c5] rfl)) (mv rfl rfl fun a hF=>?_)))
      obtain ⟨p106, h106, hM⟩ := bind_ex hM
      refine op_call rfl rfl hF rfl (run_call (vs := [.agg #[.slice A3 x3.length c3, .slice A4 x4.length c4, .slice A5 x5.length c5], .int .i64 p104]) rfl rfl co18 ⟨(hF.ev rfl), (hF.ev rfl), trivial⟩) (c_laws_szWork (x0 := x3) (x1 := x4) (x2 := x5) (x3 := p104) ⟨(S.rc0 h3.rc), rfl⟩ ⟨(S.rc0 h4.rc), rfl⟩ ⟨(S.rc0 h5.rc), rfl⟩ h106) ?_
      rintro e u ⟨rfl, T⟩
      refine ⟨_, rfl, ?_⟩
      clear hF; intro a hF
      replace S := S.call0 T; clear T
      refine op_val (v := .int .i64 p106) rfl rfl hF rfl (run_assign rfl (hF.ev rfl)) ?_;clear hF;intro a hF
      refine wn ?_
      refine ws ?_
      revert a;refine sr (mv rfl rfl (ov (v := .bool (ltB p106 0)) rfl rfl rfl (fun a hF=>run_lss (hF.ev rfl) rfl rfl) fun a hF=>wn ?_))
      cases hc107 : (ltB p106 0)
      · replace hM := bif_f hc107 hM
        refine cond_f hF rfl hc107 ?_
        refine wp_skip ?_
        revert a;refine sr (ov (v := .pointer (some ⟨g101, 6, none⟩)) rfl rfl rfl (fun a hF=>run_fieldAddr rfl fl32_3 (hF.ev rfl) rfl) (ov (v := .slice A6 x6.length c6) rfl rfl rfl (fun a hF=>run_load1 rfl one30 (hF.ev rfl) ((S.free 0 rfl).cell rfl)) (mv rfl rfl fun a hF=>?_)))
        obtain ⟨p108, h108, hM⟩ := bind_ex hM
        refine op_call rfl rfl hF rfl (run_call (vs := [.slice A6 x6.length c6, .int .i64 p106]) rfl rfl co19 ⟨(hF.ev rfl), (hF.ev rfl), trivial⟩) (c_laws_szIntS (x0 := x6) (x1 := p106) ⟨(S.rc0 h6.rc), rfl⟩ h108) ?_
        rintro e u ⟨rfl, T⟩
        refine ⟨_, rfl, ?_⟩
        clear hF; intro a hF
        replace S := S.call0 T; clear T
        refine op_val (v := .int .i64 p108) rfl rfl hF rfl (run_assign rfl (hF.ev rfl)) ?_;clear hF;intro a hF
        refine wn ?_
        refine ws ?_
        revert a;refine sr (mv rfl rfl (ov (v := .bool (ltB p108 0)) rfl rfl rfl (fun a hF=>run_lss (hF.ev rfl) rfl rfl) fun a hF=>wn ?_))
        cases hc109 : (ltB p108 0)
        · replace hM := bif_f hc109 hM
          refine cond_f hF rfl hc109 ?_
          refine wp_skip ?_
          revert a;refine sr (mv rfl rfl (ag rfl rfl fun a hF=>wn ?_))
          refine wp_ret ?_
          repeat with_reducible first|refine tr ?_|refine ir ?_|refine nr ?_
          refine ret1_gw (.inl rfl) hF rfl (res_tmp (hF.ev rfl)) ?_
          obtain rfl := Option.some.inj hM
          exact ⟨rfl, S.sel [] rfl rfl⟩
        replace hM := bif_t hc109 hM
        refine cond_t hF rfl hc109 ?_
        revert a;refine sr (ov (v := .int .i64 (-1)) rfl rfl rfl (fun a hF=>run_assign rfl rfl) fun a hF=>wn ?_)
        refine wp_ret ?_
        repeat with_reducible first|refine tr ?_|refine ir ?_|refine nr ?_
        refine ret1_gw (.inl rfl) hF rfl (res_tmp (hF.ev rfl)) ?_
        obtain rfl := Option.some.inj hM
        exact ⟨rfl, S.sel [] rfl rfl⟩
      replace hM := bif_t hc107 hM
      refine cond_t hF rfl hc107 ?_
      revert a;refine sr (ov (v := .int .i64 (-1)) rfl rfl rfl (fun a hF=>run_assign rfl rfl) fun a hF=>wn ?_)
      refine wp_ret ?_
      repeat with_reducible first|refine tr ?_|refine ir ?_|refine nr ?_
      refine ret1_gw (.inl rfl) hF rfl (res_tmp (hF.ev rfl)) ?_
      obtain rfl := Option.some.inj hM
      exact ⟨rfl, S.sel [] rfl rfl⟩
    replace hM := bif_t hc105 hM
    refine cond_t hF rfl hc105 ?_
    revert a;refine sr (ov (v := .int .i64 (-1)) rfl rfl rfl (fun a hF=>run_assign rfl rfl) fun a hF=>wn ?_)
    refine wp_ret ?_
    repeat with_reducible first|refine tr ?_|refine ir ?_|refine nr ?_
    refine ret1_gw (.inl rfl) hF rfl (res_tmp (hF.ev rfl)) ?_
    obtain rfl := Option.some.inj hM
    exact ⟨rfl, S.sel [] rfl rfl⟩
  replace hM := bif_t hc103 hM
  refine cond_t hF rfl hc103 ?_
  revert a;refine sr (ov (v := .int .i64 (-1)) rfl rfl rfl (fun a hF=>run_assign rfl rfl) fun a hF=>wn ?_)
  refine wp_ret ?_
  repeat with_reducible first|refine tr ?_|refine ir ?_|refine nr ?_
  refine ret1_gw (.inl rfl) hF rfl (res_tmp (hF.ev rfl)) ?_
  obtain rfl := Option.some.inj hM
  exact ⟨rfl, S.sel [] rfl rfl⟩
theorem c_laws_toLine {x0 : Int} {x1 : Int} {x2 : Int} {w : World} {r : Int × Int × Int}  (hM : m_laws_toLine x0 x1 x2 = some r) :
    Calls Try.prog 74 #[.agg #[.int .i64 x0, .int .i64 x1, .int .i64 x2]] w (fun e w' => e = .returned (.agg #[.int .i64 r.1, .int .i64 r.2.1, .int .i64 r.2.2]) ∧ St w w' []) := by
  unfold m_laws_toLine at hM
  refine calls_gw Try.func74 Try.ntmps74 rfl [(0, .agg #[.int .i64 x0, .int .i64 x1, .int .i64 x2])] ⟨rfl, trivial⟩ rfl ?_
  intro a hF
  have S := St.nil w
  refine wsg ?_
  refine op_new (cs := #[.int .i64 x0, .int .i64 x1, .int .i64 x2]) rfl rfl hF rfl S (run_box rfl (hF.ev rfl) rfl) ?_; clear hF S; intro a g101 u hF S
  refine op_new (cs := #[.int .i64 0, .int .i64 0, .int .i64 0]) rfl rfl hF rfl S (run_allocZ rfl zr107) ?_; clear hF S; intro a g102 u hF S
  refine wn ?_
  refine wsg ?_
  refine op_new (cs := #[.int .i64 0, .int .i64 0, .int .i64 0]) rfl rfl hF rfl S (run_allocZ rfl zr107) ?_; clear hF S; intro a g103 u hF S
  refine wn ?_
  revert a;refine sr (ov (v := .pointer (some ⟨g101, 0, none⟩)) rfl rfl rfl (fun a hF=>run_fieldAddr rfl fl111_0 (hF.ev rfl) rfl) (ov (v := .int .i64 x0) rfl rfl rfl (fun a hF=>run_load1 rfl one3 (hF.ev rfl) ((S.free 2 rfl).cell rfl)) (ov (v := .pointer (some ⟨g103, 0, none⟩)) rfl rfl rfl (fun a hF=>run_fieldAddr rfl fl107_0 (hF.ev rfl) rfl) fun a hF=>?_)))
  refine op_do rfl rfl (run_store (cs' := #[.int .i64 x0, .int .i64 0, .int .i64 0]) rfl sz3 (hF.ev rfl) (hF.ev rfl) rfl rfl rfl (S.free 0 rfl) rfl rfl) ?_; replace S := S.put 0 rfl (#[.int .i64 x0, .int .i64 0, .int .i64 0])
  generalize World.setRow _ _ _ = u at S ⊢
  refine wn ?_
  revert a;refine sr (ov (v := .pointer (some ⟨g101, 1, none⟩)) rfl rfl rfl (fun a hF=>run_fieldAddr rfl fl111_1 (hF.ev rfl) rfl) (ov (v := .int .i64 x1) rfl rfl rfl (fun a hF=>run_load1 rfl one3 (hF.ev rfl) ((S.free 2 rfl).cell rfl)) (ov (v := .pointer (some ⟨g103, 1, none⟩)) rfl rfl rfl (fun a hF=>run_fieldAddr rfl fl107_1 (hF.ev rfl) rfl) fun a hF=>?_)))
  refine op_do rfl rfl (run_store (cs' := #[.int .i64 x0, .int .i64 x1, .int .i64 0]) rfl sz3 (hF.ev rfl) (hF.ev rfl) rfl rfl rfl (S.free 0 rfl) rfl rfl) ?_; replace S := S.put 0 rfl (#[.int .i64 x0, .int .i64 x1, .int .i64 0])
  generalize World.setRow _ _ _ = u at S ⊢
  refine wn ?_
  revert a;refine sr (ov (v := .pointer (some ⟨g101, 2, none⟩)) rfl rfl rfl (fun a hF=>run_fieldAddr rfl fl111_2 (hF.ev rfl) rfl) (ov (v := .int .i64 x2) rfl rfl rfl (fun a hF=>run_load1 rfl one3 (hF.ev rfl) ((S.free 2 rfl).cell rfl)) (ov (v := .pointer (some ⟨g103, 2, none⟩)) rfl rfl rfl (fun a hF=>run_fieldAddr rfl fl107_2 (hF.ev rfl) rfl) fun a hF=>?_)))
  refine op_do rfl rfl (run_store (cs' := #[.int .i64 x0, .int .i64 x1, .int .i64 x2]) rfl sz3 (hF.ev rfl) (hF.ev rfl) rfl rfl rfl (S.free 0 rfl) rfl rfl) ?_; replace S := S.put 0 rfl (#[.int .i64 x0, .int .i64 x1, .int .i64 x2])
  generalize World.setRow _ _ _ = u at S ⊢
  refine wn ?_
  revert a;refine sr (ov rfl rfl rfl (fun a hF=>run_loadN rfl ag107 (hF.ev rfl) rfl ((S.free 0 rfl).cells 0 #[.int .i64 x0, .int .i64 x1, .int .i64 x2] rfl)) fun a hF=>?_)
  refine op_do rfl rfl (run_store (cs' := #[.int .i64 x0, .int .i64 x1, .int .i64 x2]) rfl sz107 (hF.ev rfl) (hF.ev rfl) rfl rfl rfl (S.free 1 rfl) rfl rfl) ?_; replace S := S.put 1 rfl (#[.int .i64 x0, .int .i64 x1, .int .i64 x2])
  generalize World.setRow _ _ _ = u at S ⊢
  refine wn ?_
  refine wp_ret ?_
  repeat with_reducible first|refine tr ?_|refine ir ?_|refine nr ?_
  refine ret1_gw (.inl rfl) hF rfl (res_cell (hF.ev rfl) (res_loadN ag107 rfl (S.cells 1 rfl 0 #[.int .i64 x0, .int .i64 x1, .int .i64 x2] rfl))) ?_
  obtain rfl := Option.some.inj hM
  exact ⟨rfl, S.sel [] rfl rfl⟩
theorem c_laws_toLineS {x0 : List (Int × Int × Int)} {A0 : Option Addr} {n0 c0 : Nat} {w : World} {r : List (Int × Int × Int)} (h0 : Rt w 3 eLLine A0 n0 c0 x0) (hM : m_laws_toLineS x0 = some r) :
    Calls Try.prog 50 #[.slice A0 n0 c0] w (fun e w' => ∃ (B0 : Option Addr) (N0 D0 : Nat), e = .returned (.slice B0 N0 D0) ∧ N0 = r.length ∧ St w w' [.row 107 3 (.slice B0 N0 D0) N0 (r.flatMap eLine)]) := by
  obtain rfl := h0.len
  unfold m_laws_toLineS at hM
  refine calls_gw Try.func50 Try.ntmps50 rfl [(0, .slice A0 x0.length c0)] ⟨rfl, trivial⟩ rfl ?_
  intro a hF
  have S := St.nil w
  revert a;refine sr (ov (v := .slice none 0 0) rfl rfl rfl (fun a hF=>run_assign rfl rfl) fun a hF=>wn ?_)
  revert a;refine sr (mv rfl rfl (ov rfl rfl rfl (fun a hF=>run_lenL rfl rfl Try.underlying22 (hF.ev rfl)) fun a hF=>?_))
  obtain ⟨hk102, hM⟩ := chk_ex hM
  replace hk102 := mkB_t hk102
  refine op_newrowL (m := x0.length) (ls := List.replicate x0.length ((0, 0, 0) : Int × Int × Int)) (e := eLine) rfl rfl hF rfl S (run_makeL rfl (hF.ev rfl) (hF.ev rfl) Try.underlying35 inf107 eLine_len rfl (by decide) hk102) List.length_replicate eLine_len (by rw [List.length_replicate]; omega) ?_; clear hF S; intro a g101 u hF S
  refine op_val (v := .slice (some ⟨g101, 0, none⟩) x0.length x0.length) rfl rfl hF rfl (run_assign rfl (hF.ev rfl)) ?_;clear hF;intro a hF
  refine wn ?_
  refine ws ?_
  revert a;refine sr (ov (v := .int .i64 0) rfl rfl rfl (fun a hF=>run_assign rfl rfl) fun a hF=>wn ?_)
  obtain ⟨o104, hM106, hM⟩ := bind_ex hM
  refine wp_cut (fun a u => ∃ (p103 : List (Int × Int × Int)), p103 = o104 ∧ x0.length = p103.length ∧ Fr a 23 [(2, .slice none 0 0), (3, .slice (some ⟨g101, 0, none⟩) x0.length x0.length)] ∧ St w u [.row 107 3 (.slice (some ⟨g101, 0, none⟩) x0.length x0.length) x0.length (p103.flatMap eLine)]) ?_ ?_
  · have _ := trivial
    refine wp_block ?_
    refine loop_gw (fun m a u => ∃ (p107 : List (Int × Int × Int) × Int), m_laws_toLineS_l1 x0 m p107 = some _ ∧ x0.length = p107.1.length ∧ Fr a 23 [(0, .slice A0 x0.length c0), (2, .slice none 0 0), (3, .slice (some ⟨g101, 0, none⟩) x0.length x0.length), (4, .int .i64 p107.2)] ∧ St w u [.row 107 3 (.slice (some ⟨g101, 0, none⟩) x0.length x0.length) x0.length (p107.1.flatMap eLine)]) FUEL ⟨(List.replicate x0.length ((0, 0, 0) : Int × Int × Int), 0), hM106, List.length_replicate.symm, hF.keep _ ⟨rfl, rfl, rfl, rfl, trivial⟩, S.sel [0] rfl rfl⟩ ?_
    clear hF S hM106; rintro m a u ⟨p107, hM106, hn108, hF, S⟩
    rcases m with _ | f1
    · exact none_some hM106
    rw [m_laws_toLineS_l1.eq_2] at hM106
    refine ws ?_
    revert a;refine sr (mv rfl rfl (mv rfl rfl (ov rfl rfl rfl (fun a hF=>run_lenL rfl rfl Try.underlying22 (hF.ev rfl)) (ov (v := .bool (ltB p107.2 (x0.length : Int))) rfl rfl rfl (fun a hF=>run_lss (hF.ev rfl) (hF.ev rfl) rfl) fun a hF=>wn ?_))))
    cases hc109 : (ltB p107.2 (x0.length : Int))
    · replace hM106 := bif_f hc109 hM106
      refine cond_f hF rfl hc109 ?_
      refine wp_exit ?_
      repeat with_reducible (first | refine then_exit ?_ | refine in_hit ?_ | refine in_miss rfl ?_)
      obtain rfl := Option.some.inj hM106
      exact ⟨p107.1, rfl, hn108, hF.keep _ ⟨rfl, rfl, trivial⟩, S.sel [0] rfl rfl⟩
    replace hM106 := bif_t hc109 hM106
    refine cond_t hF rfl hc109 ?_
    refine wp_skip ?_
    refine ws ?_
    refine wp_block ?_
    revert a;refine rl (mv rfl rfl (mv rfl rfl (mv rfl rfl (mv rfl rfl fun a hF=>?_))))
    obtain ⟨hk110, hM106⟩ := chk_ex hM106
    replace hk110 := ixB_t hk110
    revert a;refine ov rfl rfl rfl (fun a hF=>run_indexAddr (b := adB A0) (off := adO A0) rfl Try.underlying22 sz111 ((hF.ev rfl).trans (congrArg (fun A => Value.slice A x0.length c0) ((S.rc0 h0.rc).rd.ad (ix_pos hk110)))) (hF.ev rfl) hk110.1 hk110.2 (k' := adO A0 + p107.2.toNat * 3) rfl) (ov rfl rfl rfl (fun a hF=>run_loadN (cs := #[.int .i64 ((x0.getD p107.2.toNat ((0, 0, 0) : Int × Int × Int)).1), .int .i64 ((x0.getD p107.2.toNat ((0, 0, 0) : Int × Int × Int)).2.1), .int .i64 ((x0.getD p107.2.toNat ((0, 0, 0) : Int × Int × Int)).2.2)]) rfl ag111 (hF.ev rfl) rfl (rd_elN (l := x0) (S.rc0 h0.rc).rd rfl eLLine_len ((0, 0, 0) : Int × Int × Int) (ix_ltn hk110 rfl) rfl)) fun a hF=>?_)
    obtain ⟨p111, h111, hM106⟩ := bind_ex hM106
    refine op_call rfl rfl hF rfl (run_call (vs := [.agg #[.int .i64 ((x0.getD p107.2.toNat ((0, 0, 0) : Int × Int × Int)).1), .int .i64 ((x0.getD p107.2.toNat ((0, 0, 0) : Int × Int × Int)).2.1), .int .i64 ((x0.getD p107.2.toNat ((0, 0, 0) : Int × Int × Int)).2.2)]]) rfl rfl co74 ⟨(hF.ev rfl), trivial⟩) (c_laws_toLine (x0 := (x0.getD p107.2.toNat ((0, 0, 0) : Int × Int × Int)).1) (x1 := (x0.getD p107.2.toNat ((0, 0, 0) : Int × Int × Int)).2.1) (x2 := (x0.getD p107.2.toNat ((0, 0, 0) : Int × Int × Int)).2.2)  h111) ?_
    rintro e u ⟨rfl, T⟩
    refine ⟨_, rfl, ?_⟩
    clear hF; intro a hF
    replace S := S.call0 T; clear T
    obtain ⟨hk112, hM106⟩ := chk_ex hM106
    replace hk112 := ixB_t hk112
    refine op_val (v := .pointer (some ⟨adB (some ⟨g101, 0, none⟩), adO (some ⟨g101, 0, none⟩) + p107.2.toNat * 3, none⟩)) rfl rfl hF rfl (run_indexAddr (b := adB (some ⟨g101, 0, none⟩)) (off := adO (some ⟨g101, 0, none⟩)) rfl Try.underlying35 sz107 ((hF.ev rfl).trans (congrArg (fun A => Value.slice A x0.length x0.length) ((S.rc 0 rfl).rd.ad (ix_pos hk112)))) (hF.ev rfl) hk112.1 hk112.2 (k' := adO (some ⟨g101, 0, none⟩) + p107.2.toNat * 3) rfl) ?_;clear hF;intro a hF
    obtain ⟨w', hrun, S'⟩ := run_storeElN (P := Try.prog) (ρ := a.eval) (y0 := (p111.1, p111.2.1, p111.2.2)) (off := 0) S 107 (.tmp 21) (.tmp 20) (i := 0) sz107 (hF.ev rfl) (hF.ev rfl) rfl rfl rfl rfl hn108 eLine_len ((0, 0, 0) : Int × Int × Int) (ix_ltn hk112 hn108) rfl rfl
    refine op_do rfl rfl (hrun _ rfl) ?_; clear hrun S; have S := S'; clear S'; generalize w' = u at S ⊢
    refine wn ?_
    revert a;refine rl (mv rfl rfl (ov (v := .int .i64 (w64 (p107.2 + 1))) rfl rfl rfl (fun a hF=>run_add (z := w64 (p107.2 + 1)) (hF.ev rfl) rfl rfl rfl) (ag rfl rfl fun a hF=>wn ?_)))
    exact ⟨f1, Nat.lt_succ_self _, (p107.1.set p107.2.toNat (p111.1, p111.2.1, p111.2.2), w64 (p107.2 + 1)), hM106, (len_set hn108), hF.keep _ ⟨rfl, rfl, rfl, rfl, trivial⟩, S.sel [0] rfl rfl⟩
  rintro a u ⟨p103, rfl, hn105, hF, S⟩
  revert a;refine sr (mv rfl rfl (ag rfl rfl fun a hF=>wn ?_))
  refine wp_ret ?_
  repeat with_reducible first|refine tr ?_|refine ir ?_|refine nr ?_
  refine ret1_gw (.inl rfl) hF rfl (res_tmp (hF.ev rfl)) ?_
  obtain rfl := Option.some.inj hM
  exact ⟨(some ⟨g101, 0, none⟩), x0.length, x0.length, rfl, hn105, S.sel [0] rfl rfl⟩
theorem c_laws_toNet {x0 : Int} {x1 : List (Int × Int × Int)} {A1 : Option Addr} {n1 c1 : Nat} {w : World} {r : Int × List (Int × Int × Int)} (h1 : Rt w 3 eLLine A1 n1 c1 x1) (hM : m_laws_toNet x0 x1 = some r) :
    Calls Try.prog 24 #[.agg #[.int .i64 x0, .slice A1 n1 c1]] w (fun e w' => ∃ (B0 : Option Addr) (N0 D0 : Nat), e = .returned (.agg #[.int .i64 r.1, .slice B0 N0 D0]) ∧ N0 = r.2.length ∧ St w w' [.row 107 3 (.slice B0 N0 D0) N0 (r.2.flatMap eLine)]) := by
  obtain rfl := h1.len
  unfold m_laws_toNet at hM
  refine calls_gw Try.func24 Try.ntmps24 rfl [(0, .agg #[.int .i64 x0, .slice A1 x1.length c1])] ⟨rfl, trivial⟩ rfl ?_
  intro a hF
  have S := St.nil w
  refine wsg ?_
  refine op_new (cs := #[.int .i64 x0, .slice A1 x1.length c1]) rfl rfl hF rfl S (run_box rfl (hF.ev rfl) rfl) ?_; clear hF S; intro a g101 u hF S
  refine op_new (cs := #[.int .i64 0, .slice none 0 0]) rfl rfl hF rfl S (run_allocZ rfl zr37) ?_; clear hF S; intro a g102 u hF S
  refine wn ?_
  refine wsg ?_
  refine op_new (cs := #[.int .i64 0, .slice none 0 0]) rfl rfl hF rfl S (run_allocZ rfl zr37) ?_; clear hF S; intro a g103 u hF S
  refine wn ?_
  revert a;refine sr (ov (v := .pointer (some ⟨g101, 0, none⟩)) rfl rfl rfl (fun a hF=>run_fieldAddr rfl fl24_0 (hF.ev rfl) rfl) (ov (v := .int .i64 x0) rfl rfl rfl (fun a hF=>run_load1 rfl one3 (hF.ev rfl) ((S.free 2 rfl).cell rfl)) (ov (v := .pointer (some ⟨g103, 0, none⟩)) rfl rfl rfl (fun a hF=>run_fieldAddr rfl fl37_0 (hF.ev rfl) rfl) fun a hF=>?_)))
  refine op_do rfl rfl (run_store (cs' := #[.int .i64 x0, .slice none 0 0]) rfl sz3 (hF.ev rfl) (hF.ev rfl) rfl rfl rfl (S.free 0 rfl) rfl rfl) ?_; replace S := S.put 0 rfl (#[.int .i64 x0, .slice none 0 0])
  generalize World.setRow _ _ _ = u at S ⊢
  refine wn ?_
  revert a;refine sr (ov (v := .pointer (some ⟨g101, 1, none⟩)) rfl rfl rfl (fun a hF=>run_fieldAddr rfl fl24_1 (hF.ev rfl) rfl) (ov (v := .slice A1 x1.length c1) rfl rfl rfl (fun a hF=>run_load1 rfl one22 (hF.ev rfl) ((S.free 2 rfl).cell rfl)) fun a hF=>?_))
  obtain ⟨p104, h104, hM⟩ := bind_ex hM
  refine op_call rfl rfl hF rfl (run_call (vs := [.slice A1 x1.length c1]) rfl rfl co50 ⟨(hF.ev rfl), trivial⟩) (c_laws_toLineS (x0 := x1) ⟨(S.rc0 h1.rc), rfl⟩ h104) ?_
  rintro e u ⟨B105, n106, d107, rfl, rfl, T⟩
  refine ⟨_, rfl, ?_⟩
  clear hF; intro a hF
  replace S := S.call1 T; clear T
  refine op_val (v := .pointer (some ⟨g103, 1, none⟩)) rfl rfl hF rfl (run_fieldAddr rfl fl37_1 (hF.ev rfl) rfl) ?_;clear hF;intro a hF
  refine op_do rfl rfl (run_store (cs' := #[.int .i64 x0, .slice B105 p104.length d107]) rfl sz35 (hF.ev rfl) (hF.ev rfl) rfl rfl rfl (S.free 1 rfl) rfl rfl) ?_; replace S := S.put 1 rfl (#[.int .i64 x0, .slice B105 p104.length d107])
  generalize World.setRow _ _ _ = u at S ⊢
  refine wn ?_
  revert a;refine sr (ov rfl rfl rfl (fun a hF=>run_loadN rfl ag37 (hF.ev rfl) rfl ((S.free 1 rfl).cells 0 #[.int .i64 x0, .slice B105 p104.length d107] rfl)) fun a hF=>?_)
  refine op_do rfl rfl (run_store (cs' := #[.int .i64 x0, .slice B105 p104.length d107]) rfl sz37 (hF.ev rfl) (hF.ev rfl) rfl rfl rfl (S.free 2 rfl) rfl rfl) ?_; replace S := S.put 2 rfl (#[.int .i64 x0, .slice B105 p104.length d107])
  generalize World.setRow _ _ _ = u at S ⊢
  refine wn ?_
  refine wp_ret ?_
  repeat with_reducible first|refine tr ?_|refine ir ?_|refine nr ?_
  refine ret1_gw (.inl rfl) hF rfl (res_cell (hF.ev rfl) (res_loadN ag37 rfl (S.cells 2 rfl 0 #[.int .i64 x0, .slice B105 p104.length d107] rfl))) ?_
  obtain rfl := Option.some.inj hM
  exact ⟨B105, p104.length, d107, rfl, rfl, S.sel [0] rfl rfl⟩
theorem c_laws_toBus {x0 : Int} {x1 : Int} {w : World} {r : Int × Int}  (hM : m_laws_toBus x0 x1 = some r) :
    Calls Try.prog 51 #[.agg #[.int .i64 x0, .int .i64 x1]] w (fun e w' => e = .returned (.agg #[.int .i64 r.1, .int .i64 r.2]) ∧ St w w' []) := by
  unfold m_laws_toBus at hM
  refine calls_gw Try.func51 Try.ntmps51 rfl [(0, .agg #[.int .i64 x0, .int .i64 x1])] ⟨rfl, trivial⟩ rfl ?_
  intro a hF
  have S := St.nil w
  refine wsg ?_
  refine op_new (cs := #[.int .i64 x0, .int .i64 x1]) rfl rfl hF rfl S (run_box rfl (hF.ev rfl) rfl) ?_; clear hF S; intro a g101 u hF S
  refine op_new (cs := #[.int .i64 0, .int .i64 0]) rfl rfl hF rfl S (run_allocZ rfl zr69) ?_; clear hF S; intro a g102 u hF S
  refine wn ?_
  refine wsg ?_
  refine op_new (cs := #[.int .i64 0, .int .i64 0]) rfl rfl hF rfl S (run_allocZ rfl zr69) ?_; clear hF S; intro a g103 u hF S
  refine wn ?_
  revert a;refine sr (ov (v := .pointer (some ⟨g101, 0, none⟩)) rfl rfl rfl (fun a hF=>run_fieldAddr rfl fl84_0 (hF.ev rfl) rfl) (ov (v := .int .i64 x0) rfl rfl rfl (fun a hF=>run_load1 rfl one3 (hF.ev rfl) ((S.free 2 rfl).cell rfl)) (ov (v := .pointer (some ⟨g103, 0, none⟩)) rfl rfl rfl (fun a hF=>run_fieldAddr rfl fl69_0 (hF.ev rfl) rfl) fun a hF=>?_)))
  refine op_do rfl rfl (run_store (cs' := #[.int .i64 x0, .int .i64 0]) rfl sz3 (hF.ev rfl) (hF.ev rfl) rfl rfl rfl (S.free 0 rfl) rfl rfl) ?_; replace S := S.put 0 rfl (#[.int .i64 x0, .int .i64 0])
  generalize World.setRow _ _ _ = u at S ⊢
  refine wn ?_
  revert a;refine sr (ov (v := .pointer (some ⟨g101, 1, none⟩)) rfl rfl rfl (fun a hF=>run_fieldAddr rfl fl84_1 (hF.ev rfl) rfl) (ov (v := .int .i64 x1) rfl rfl rfl (fun a hF=>run_load1 rfl one3 (hF.ev rfl) ((S.free 2 rfl).cell rfl)) (ov (v := .pointer (some ⟨g103, 1, none⟩)) rfl rfl rfl (fun a hF=>run_fieldAddr rfl fl69_1 (hF.ev rfl) rfl) fun a hF=>?_)))
  refine op_do rfl rfl (run_store (cs' := #[.int .i64 x0, .int .i64 x1]) rfl sz3 (hF.ev rfl) (hF.ev rfl) rfl rfl rfl (S.free 0 rfl) rfl rfl) ?_; replace S := S.put 0 rfl (#[.int .i64 x0, .int .i64 x1])
  generalize World.setRow _ _ _ = u at S ⊢
  refine wn ?_
  revert a;refine sr (ov rfl rfl rfl (fun a hF=>run_loadN rfl ag69 (hF.ev rfl) rfl ((S.free 0 rfl).cells 0 #[.int .i64 x0, .int .i64 x1] rfl)) fun a hF=>?_)
  refine op_do rfl rfl (run_store (cs' := #[.int .i64 x0, .int .i64 x1]) rfl sz69 (hF.ev rfl) (hF.ev rfl) rfl rfl rfl (S.free 1 rfl) rfl rfl) ?_; replace S := S.put 1 rfl (#[.int .i64 x0, .int .i64 x1])
  generalize World.setRow _ _ _ = u at S ⊢
  refine wn ?_
  refine wp_ret ?_
  repeat with_reducible first|refine tr ?_|refine ir ?_|refine nr ?_
  refine ret1_gw (.inl rfl) hF rfl (res_cell (hF.ev rfl) (res_loadN ag69 rfl (S.cells 1 rfl 0 #[.int .i64 x0, .int .i64 x1] rfl))) ?_
  obtain rfl := Option.some.inj hM
  exact ⟨rfl, S.sel [] rfl rfl⟩
theorem c_laws_toBusS {x0 : List (Int × Int)} {A0 : Option Addr} {n0 c0 : Nat} {w : World} {r : List (Int × Int)} (h0 : Rt w 2 eLBus A0 n0 c0 x0) (hM : m_laws_toBusS x0 = some r) :
    Calls Try.prog 25 #[.slice A0 n0 c0] w (fun e w' => ∃ (B0 : Option Addr) (N0 D0 : Nat), e = .returned (.slice B0 N0 D0) ∧ N0 = r.length ∧ St w w' [.row 69 2 (.slice B0 N0 D0) N0 (r.flatMap eBus)]) := by
  obtain rfl := h0.len
  unfold m_laws_toBusS at hM
  refine calls_gw Try.func25 Try.ntmps25 rfl [(0, .slice A0 x0.length c0)] ⟨rfl, trivial⟩ rfl ?_
  intro a hF
  have S := St.nil w
  revert a;refine sr (ov (v := .slice none 0 0) rfl rfl rfl (fun a hF=>run_assign rfl rfl) fun a hF=>wn ?_)
  revert a;refine sr (mv rfl rfl (ov rfl rfl rfl (fun a hF=>run_lenL rfl rfl Try.underlying25 (hF.ev rfl)) fun a hF=>?_))
  obtain ⟨hk102, hM⟩ := chk_ex hM
  replace hk102 := mkB_t hk102
  refine op_newrowL (m := x0.length) (ls := List.replicate x0.length ((0, 0) : Int × Int)) (e := eBus) rfl rfl hF rfl S (run_makeL rfl (hF.ev rfl) (hF.ev rfl) Try.underlying38 inf69 eBus_len rfl (by decide) hk102) List.length_replicate eBus_len (by rw [List.length_replicate]; omega) ?_; clear hF S; intro a g101 u hF S
  refine op_val (v := .slice (some ⟨g101, 0, none⟩) x0.length x0.length) rfl rfl hF rfl (run_assign rfl (hF.ev rfl)) ?_;clear hF;intro a hF
  refine wn ?_
  refine ws ?_
  revert a;refine sr (ov (v := .int .i64 0) rfl rfl rfl (fun a hF=>run_assign rfl rfl) fun a hF=>wn ?_)
  obtain ⟨o104, hM106, hM⟩ := bind_ex hM
  refine wp_cut (fun a u => ∃ (p103 : List (Int × Int)), p103 = o104 ∧ x0.length = p103.length ∧ Fr a 23 [(2, .slice none 0 0), (3, .slice (some ⟨g101, 0, none⟩) x0.length x0.length)] ∧ St w u [.row 69 2 (.slice (some ⟨g101, 0, none⟩) x0.length x0.length) x0.length (p103.flatMap eBus)]) ?_ ?_
  · have _ := trivial
    refine wp_block ?_
    refine loop_gw (fun m a u => ∃ (p107 : List (Int × Int) × Int), m_laws_toBusS_l1 x0 m p107 = some _ ∧ x0.length = p107.1.length ∧ Fr a 23 [(0, .slice A0 x0.length c0), (2, .slice none 0 0), (3, .slice (some ⟨g101, 0, none⟩) x0.length x0.length), (4, .int .i64 p107.2)] ∧ St w u [.row 69 2 (.slice (some ⟨g101, 0, none⟩) x0.length x0.length) x0.length (p107.1.flatMap eBus)]) FUEL ⟨(List.replicate x0.length ((0, 0) : Int × Int), 0), hM106, List.length_replicate.symm, hF.keep _ ⟨rfl, rfl, rfl, rfl, trivial⟩, S.sel [0] rfl rfl⟩ ?_
    clear hF S hM106; rintro m a u ⟨p107, hM106, hn108, hF, S⟩
    rcases m with _ | f1
    · exact none_some hM106
    rw [m_laws_toBusS_l1.eq_2] at hM106
    refine ws ?_
    revert a;refine sr (mv rfl rfl (mv rfl rfl (ov rfl rfl rfl (fun a hF=>run_lenL rfl rfl Try.underlying25 (hF.ev rfl)) (ov (v := .bool (ltB p107.2 (x0.length : Int))) rfl rfl rfl (fun a hF=>run_lss (hF.ev rfl) (hF.ev rfl) rfl) fun a hF=>wn ?_))))
    cases hc109 : (ltB p107.2 (x0.length : Int))
    · replace hM106 := bif_f hc109 hM106
      refine cond_f hF rfl hc109 ?_
      refine wp_exit ?_
      repeat with_reducible (first | refine then_exit ?_ | refine in_hit ?_ | refine in_miss rfl ?_)
      obtain rfl := Option.some.inj hM106
      exact ⟨p107.1, rfl, hn108, hF.keep _ ⟨rfl, rfl, trivial⟩, S.sel [0] rfl rfl⟩
    replace hM106 := bif_t hc109 hM106
    refine cond_t hF rfl hc109 ?_
    refine wp_skip ?_
    refine ws ?_
    refine wp_block ?_
    revert a;refine rl (mv rfl rfl (mv rfl rfl (mv rfl rfl (mv rfl rfl fun a hF=>?_))))
    obtain ⟨hk110, hM106⟩ := chk_ex hM106
    replace hk110 := ixB_t hk110
    revert a;refine ov rfl rfl rfl (fun a hF=>run_indexAddr (b := adB A0) (off := adO A0) rfl Try.underlying25 sz84 ((hF.ev rfl).trans (congrArg (fun A => Value.slice A x0.length c0) ((S.rc0 h0.rc).rd.ad (ix_pos hk110)))) (hF.ev rfl) hk110.1 hk110.2 (k' := adO A0 + p107.2.toNat * 2) rfl) (ov rfl rfl rfl (fun a hF=>run_loadN (cs := #[.int .i64 ((x0.getD p107.2.toNat ((0, 0) : Int × Int)).1), .int .i64 ((x0.getD p107.2.toNat ((0, 0) : Int × Int)).2)]) rfl ag84 (hF.ev rfl) rfl (rd_elN (l := x0) (S.rc0 h0.rc).rd rfl eLBus_len ((0, 0) : Int × Int) (ix_ltn hk110 rfl) rfl)) fun a hF=>?_)
    obtain ⟨p111, h111, hM106⟩ := bind_ex hM106
    refine op_call rfl rfl hF rfl (run_call (vs := [.agg #[.int .i64 ((x0.getD p107.2.toNat ((0, 0) : Int × Int)).1), .int .i64 ((x0.getD p107.2.toNat ((0, 0) : Int × Int)).2)]]) rfl rfl co51 ⟨(hF.ev rfl), trivial⟩) (c_laws_toBus (x0 := (x0.getD p107.2.toNat ((0, 0) : Int × Int)).1) (x1 := (x0.getD p107.2.toNat ((0, 0) : Int × Int)).2)  h111) ?_
    rintro e u ⟨rfl, T⟩
    refine ⟨_, rfl, ?_⟩
    clear hF; intro a hF
    replace S := S.call0 T; clear T
    obtain ⟨hk112, hM106⟩ := chk_ex hM106
    replace hk112 := ixB_t hk112
    refine op_val (v := .pointer (some ⟨adB (some ⟨g101, 0, none⟩), adO (some ⟨g101, 0, none⟩) + p107.2.toNat * 2, none⟩)) rfl rfl hF rfl (run_indexAddr (b := adB (some ⟨g101, 0, none⟩)) (off := adO (some ⟨g101, 0, none⟩)) rfl Try.underlying38 sz69 ((hF.ev rfl).trans (congrArg (fun A => Value.slice A x0.length x0.length) ((S.rc 0 rfl).rd.ad (ix_pos hk112)))) (hF.ev rfl) hk112.1 hk112.2 (k' := adO (some ⟨g101, 0, none⟩) + p107.2.toNat * 2) rfl) ?_;clear hF;intro a hF
    obtain ⟨w', hrun, S'⟩ := run_storeElN (P := Try.prog) (ρ := a.eval) (y0 := (p111.1, p111.2)) (off := 0) S 69 (.tmp 21) (.tmp 20) (i := 0) sz69 (hF.ev rfl) (hF.ev rfl) rfl rfl rfl rfl hn108 eBus_len ((0, 0) : Int × Int) (ix_ltn hk112 hn108) rfl rfl
    refine op_do rfl rfl (hrun _ rfl) ?_; clear hrun S; have S := S'; clear S'; generalize w' = u at S ⊢
    refine wn ?_
    revert a;refine rl (mv rfl rfl (ov (v := .int .i64 (w64 (p107.2 + 1))) rfl rfl rfl (fun a hF=>run_add (z := w64 (p107.2 + 1)) (hF.ev rfl) rfl rfl rfl) (ag rfl rfl fun a hF=>wn ?_)))
    exact ⟨f1, Nat.lt_succ_self _, (p107.1.set p107.2.toNat (p111.1, p111.2), w64 (p107.2 + 1)), hM106, (len_set hn108), hF.keep _ ⟨rfl, rfl, rfl, rfl, trivial⟩, S.sel [0] rfl rfl⟩
  rintro a u ⟨p103, rfl, hn105, hF, S⟩
  revert a;refine sr (mv rfl rfl (ag rfl rfl fun a hF=>wn ?_))
  refine wp_ret ?_
  repeat with_reducible first|refine tr ?_|refine ir ?_|refine nr ?_
  refine ret1_gw (.inl rfl) hF rfl (res_tmp (hF.ev rfl)) ?_
  obtain rfl := Option.some.inj hM
  exact ⟨(some ⟨g101, 0, none⟩), x0.length, x0.length, rfl, hn105, S.sel [0] rfl rfl⟩
theorem c_laws_toBoolS {x0 : List Bool} {A0 : Option Addr} {n0 c0 : Nat} {w : World} {r : List Bool} (h0 : Rt w 1 eB A0 n0 c0 x0) (hM : m_laws_toBoolS x0 = some r) :
    Calls Try.prog 52 #[.slice A0 n0 c0] w (fun e w' => ∃ (B0 : Option Addr) (N0 D0 : Nat), e = .returned (.slice B0 N0 D0) ∧ N0 = r.length ∧ St w w' [.row 4 1 (.slice B0 N0 D0) N0 (r.flatMap eB)]) := by
  obtain rfl := h0.len
  unfold m_laws_toBoolS at hM
  refine calls_gw Try.func52 Try.ntmps52 rfl [(0, .slice A0 x0.length c0)] ⟨rfl, trivial⟩ rfl ?_
  intro a hF
  have S := St.nil w
  revert a;refine sr (ov (v := .slice none 0 0) rfl rfl rfl (fun a hF=>run_assign rfl rfl) fun a hF=>wn ?_)
  revert a;refine sr (mv rfl rfl (ov rfl rfl rfl (fun a hF=>run_lenL rfl rfl Try.underlying26 (hF.ev rfl)) fun a hF=>?_))
  obtain ⟨hk102, hM⟩ := chk_ex hM
  replace hk102 := mkB_t hk102
  refine op_newrowL (m := x0.length) (ls := List.replicate x0.length false) (e := eB) rfl rfl hF rfl S (run_makeL rfl (hF.ev rfl) (hF.ev rfl) Try.underlying26 inf4 eB_len rfl (by decide) hk102) List.length_replicate eB_len (by rw [List.length_replicate]; omega) ?_; clear hF S; intro a g101 u hF S
  refine op_val (v := .slice (some ⟨g101, 0, none⟩) x0.length x0.length) rfl rfl hF rfl (run_assign rfl (hF.ev rfl)) ?_;clear hF;intro a hF
  refine wn ?_
  refine ws ?_
  revert a;refine sr (ov (v := .int .i64 0) rfl rfl rfl (fun a hF=>run_assign rfl rfl) fun a hF=>wn ?_)
  obtain ⟨o104, hM106, hM⟩ := bind_ex hM
  refine wp_cut (fun a u => ∃ (p103 : List Bool), p103 = o104 ∧ x0.length = p103.length ∧ Fr a 22 [(2, .slice none 0 0), (3, .slice (some ⟨g101, 0, none⟩) x0.length x0.length)] ∧ St w u [.row 4 1 (.slice (some ⟨g101, 0, none⟩) x0.length x0.length) x0.length (p103.flatMap eB)]) ?_ ?_
  · have _ := trivial
    refine wp_block ?_
    refine loop_gw (fun m a u => ∃ (p107 : List Bool × Int), m_laws_toBoolS_l1 x0 m p107 = some _ ∧ x0.length = p107.1.length ∧ Fr a 22 [(0, .slice A0 x0.length c0), (2, .slice none 0 0), (3, .slice (some ⟨g101, 0, none⟩) x0.length x0.length), (4, .int .i64 p107.2)] ∧ St w u [.row 4 1 (.slice (some ⟨g101, 0, none⟩) x0.length x0.length) x0.length (p107.1.flatMap eB)]) FUEL ⟨(List.replicate x0.length false, 0), hM106, List.length_replicate.symm, hF.keep _ ⟨rfl, rfl, rfl, rfl, trivial⟩, S.sel [0] rfl rfl⟩ ?_
    clear hF S hM106; rintro m a u ⟨p107, hM106, hn108, hF, S⟩
    rcases m with _ | f1
    · exact none_some hM106
    rw [m_laws_toBoolS_l1.eq_2] at hM106
    refine ws ?_
    revert a;refine sr (mv rfl rfl (mv rfl rfl (ov rfl rfl rfl (fun a hF=>run_lenL rfl rfl Try.underlying26 (hF.ev rfl)) (ov (v := .bool (ltB p107.2 (x0.length : Int))) rfl rfl rfl (fun a hF=>run_lss (hF.ev rfl) (hF.ev rfl) rfl) fun a hF=>wn ?_))))
    cases hc109 : (ltB p107.2 (x0.length : Int))
    · replace hM106 := bif_f hc109 hM106
      refine cond_f hF rfl hc109 ?_
      refine wp_exit ?_
      repeat with_reducible (first | refine then_exit ?_ | refine in_hit ?_ | refine in_miss rfl ?_)
      obtain rfl := Option.some.inj hM106
      exact ⟨p107.1, rfl, hn108, hF.keep _ ⟨rfl, rfl, trivial⟩, S.sel [0] rfl rfl⟩
    replace hM106 := bif_t hc109 hM106
    refine cond_t hF rfl hc109 ?_
    refine wp_skip ?_
    refine ws ?_
    refine wp_block ?_
    revert a;refine rl (mv rfl rfl (mv rfl rfl (mv rfl rfl (mv rfl rfl fun a hF=>?_))))
    obtain ⟨hk110, hM106⟩ := chk_ex hM106
    replace hk110 := ixB_t hk110
    revert a;refine ov rfl rfl rfl (fun a hF=>run_indexAddr (b := adB A0) (off := adO A0) rfl Try.underlying26 sz4 ((hF.ev rfl).trans (congrArg (fun A => Value.slice A x0.length c0) ((S.rc0 h0.rc).rd.ad (ix_pos hk110)))) (hF.ev rfl) hk110.1 hk110.2 (k' := adO A0 + p107.2.toNat * 1) rfl) (ov (v := .bool (x0.getD p107.2.toNat false)) rfl rfl rfl (fun a hF=>run_load1 rfl one4 (hF.ev rfl) (rd_el0 (l := x0) (S.rc0 h0.rc).rd rfl eB_len false (ix_ltn hk110 rfl) rfl)) fun a hF=>?_)
    obtain ⟨hk111, hM106⟩ := chk_ex hM106
    replace hk111 := ixB_t hk111
    refine op_val (v := .pointer (some ⟨adB (some ⟨g101, 0, none⟩), adO (some ⟨g101, 0, none⟩) + p107.2.toNat * 1, none⟩)) rfl rfl hF rfl (run_indexAddr (b := adB (some ⟨g101, 0, none⟩)) (off := adO (some ⟨g101, 0, none⟩)) rfl Try.underlying26 sz4 ((hF.ev rfl).trans (congrArg (fun A => Value.slice A x0.length x0.length) ((S.rc 0 rfl).rd.ad (ix_pos hk111)))) (hF.ev rfl) hk111.1 hk111.2 (k' := adO (some ⟨g101, 0, none⟩) + p107.2.toNat * 1) rfl) ?_;clear hF;intro a hF
    obtain ⟨w', hrun, S'⟩ := run_storeElN (P := Try.prog) (ρ := a.eval) (y0 := (x0.getD p107.2.toNat false)) (off := 0) S 4 (.tmp 20) (.tmp 19) (i := 0) sz4 (hF.ev rfl) (hF.ev rfl) rfl rfl rfl rfl hn108 eB_len false (ix_ltn hk111 hn108) rfl rfl
    refine op_do rfl rfl (hrun _ rfl) ?_; clear hrun S; have S := S'; clear S'; generalize w' = u at S ⊢
    refine wn ?_
    revert a;refine rl (mv rfl rfl (ov (v := .int .i64 (w64 (p107.2 + 1))) rfl rfl rfl (fun a hF=>run_add (z := w64 (p107.2 + 1)) (hF.ev rfl) rfl rfl rfl) (ag rfl rfl fun a hF=>wn ?_)))
    exact ⟨f1, Nat.lt_succ_self _, (p107.1.set p107.2.toNat (x0.getD p107.2.toNat false), w64 (p107.2 + 1)), hM106, (len_set hn108), hF.keep _ ⟨rfl, rfl, rfl, rfl, trivial⟩, S.sel [0] rfl rfl⟩
  rintro a u ⟨p103, rfl, hn105, hF, S⟩
  revert a;refine sr (mv rfl rfl (ag rfl rfl fun a hF=>wn ?_))
  refine wp_ret ?_
  repeat with_reducible first|refine tr ?_|refine ir ?_|refine nr ?_
  refine ret1_gw (.inl rfl) hF rfl (res_tmp (hF.ev rfl)) ?_
  obtain rfl := Option.some.inj hM
  exact ⟨(some ⟨g101, 0, none⟩), x0.length, x0.length, rfl, hn105, S.sel [0] rfl rfl⟩
theorem c_laws_toPermit {x0 : Int} {x1 : Int} {w : World} {r : Int × Int}  (hM : m_laws_toPermit x0 x1 = some r) :
    Calls Try.prog 75 #[.agg #[.int .i64 x0, .int .i64 x1]] w (fun e w' => e = .returned (.agg #[.int .i64 r.1, .int .i64 r.2]) ∧ St w w' []) := by
  unfold m_laws_toPermit at hM
  refine calls_gw Try.func75 Try.ntmps75 rfl [(0, .agg #[.int .i64 x0, .int .i64 x1])] ⟨rfl, trivial⟩ rfl ?_
  intro a hF
  have S := St.nil w
  refine wsg ?_
  refine op_new (cs := #[.int .i64 x0, .int .i64 x1]) rfl rfl hF rfl S (run_box rfl (hF.ev rfl) rfl) ?_; clear hF S; intro a g101 u hF S
  refine op_new (cs := #[.int .i64 0, .int .i64 0]) rfl rfl hF rfl S (run_allocZ rfl zr78) ?_; clear hF S; intro a g102 u hF S
  refine wn ?_
  refine wsg ?_
  refine op_new (cs := #[.int .i64 0, .int .i64 0]) rfl rfl hF rfl S (run_allocZ rfl zr78) ?_; clear hF S; intro a g103 u hF S
  refine wn ?_
  revert a;refine sr (ov (v := .pointer (some ⟨g101, 0, none⟩)) rfl rfl rfl (fun a hF=>run_fieldAddr rfl fl113_0 (hF.ev rfl) rfl) (ov (v := .int .i64 x0) rfl rfl rfl (fun a hF=>run_load1 rfl one3 (hF.ev rfl) ((S.free 2 rfl).cell rfl)) (ov (v := .pointer (some ⟨g103, 0, none⟩)) rfl rfl rfl (fun a hF=>run_fieldAddr rfl fl78_0 (hF.ev rfl) rfl) fun a hF=>?_)))
  refine op_do rfl rfl (run_store (cs' := #[.int .i64 x0, .int .i64 0]) rfl sz3 (hF.ev rfl) (hF.ev rfl) rfl rfl rfl (S.free 0 rfl) rfl rfl) ?_; replace S := S.put 0 rfl (#[.int .i64 x0, .int .i64 0])
  generalize World.setRow _ _ _ = u at S ⊢
  refine wn ?_
  revert a;refine sr (ov (v := .pointer (some ⟨g101, 1, none⟩)) rfl rfl rfl (fun a hF=>run_fieldAddr rfl fl113_1 (hF.ev rfl) rfl) (ov (v := .int .i64 x1) rfl rfl rfl (fun a hF=>run_load1 rfl one3 (hF.ev rfl) ((S.free 2 rfl).cell rfl)) (ov (v := .pointer (some ⟨g103, 1, none⟩)) rfl rfl rfl (fun a hF=>run_fieldAddr rfl fl78_1 (hF.ev rfl) rfl) fun a hF=>?_)))
  refine op_do rfl rfl (run_store (cs' := #[.int .i64 x0, .int .i64 x1]) rfl sz3 (hF.ev rfl) (hF.ev rfl) rfl rfl rfl (S.free 0 rfl) rfl rfl) ?_; replace S := S.put 0 rfl (#[.int .i64 x0, .int .i64 x1])
  generalize World.setRow _ _ _ = u at S ⊢
  refine wn ?_
  revert a;refine sr (ov rfl rfl rfl (fun a hF=>run_loadN rfl ag78 (hF.ev rfl) rfl ((S.free 0 rfl).cells 0 #[.int .i64 x0, .int .i64 x1] rfl)) fun a hF=>?_)
  refine op_do rfl rfl (run_store (cs' := #[.int .i64 x0, .int .i64 x1]) rfl sz78 (hF.ev rfl) (hF.ev rfl) rfl rfl rfl (S.free 1 rfl) rfl rfl) ?_; replace S := S.put 1 rfl (#[.int .i64 x0, .int .i64 x1])
  generalize World.setRow _ _ _ = u at S ⊢
  refine wn ?_
  refine wp_ret ?_
  repeat with_reducible first|refine tr ?_|refine ir ?_|refine nr ?_
  refine ret1_gw (.inl rfl) hF rfl (res_cell (hF.ev rfl) (res_loadN ag78 rfl (S.cells 1 rfl 0 #[.int .i64 x0, .int .i64 x1] rfl))) ?_
  obtain rfl := Option.some.inj hM
  exact ⟨rfl, S.sel [] rfl rfl⟩
theorem c_laws_toPermitS {x0 : List (Int × Int)} {A0 : Option Addr} {n0 c0 : Nat} {w : World} {r : List (Int × Int)} (h0 : Rt w 2 eLPermit A0 n0 c0 x0) (hM : m_laws_toPermitS x0 = some r) :
    Calls Try.prog 53 #[.slice A0 n0 c0] w (fun e w' => ∃ (B0 : Option Addr) (N0 D0 : Nat), e = .returned (.slice B0 N0 D0) ∧ N0 = r.length ∧ St w w' [.row 78 2 (.slice B0 N0 D0) N0 (r.flatMap ePermit)]) := by
  obtain rfl := h0.len
  unfold m_laws_toPermitS at hM
  refine calls_gw Try.func53 Try.ntmps53 rfl [(0, .slice A0 x0.length c0)] ⟨rfl, trivial⟩ rfl ?_
  intro a hF
  have S := St.nil w
  revert a;refine sr (ov (v := .slice none 0 0) rfl rfl rfl (fun a hF=>run_assign rfl rfl) fun a hF=>wn ?_)
  revert a;refine sr (mv rfl rfl (ov rfl rfl rfl (fun a hF=>run_lenL rfl rfl Try.underlying27 (hF.ev rfl)) fun a hF=>?_))
  obtain ⟨hk102, hM⟩ := chk_ex hM
  replace hk102 := mkB_t hk102
  refine op_newrowL (m := x0.length) (ls := List.replicate x0.length ((0, 0) : Int × Int)) (e := ePermit) rfl rfl hF rfl S (run_makeL rfl (hF.ev rfl) (hF.ev rfl) Try.underlying39 inf78 ePermit_len rfl (by decide) hk102) List.length_replicate ePermit_len (by rw [List.length_replicate]; omega) ?_; clear hF S; intro a g101 u hF S
  refine op_val (v := .slice (some ⟨g101, 0, none⟩) x0.length x0.length) rfl rfl hF rfl (run_assign rfl (hF.ev rfl)) ?_;clear hF;intro a hF
  refine wn ?_
  refine ws ?_
  revert a;refine sr (ov (v := .int .i64 0) rfl rfl rfl (fun a hF=>run_assign rfl rfl) fun a hF=>wn ?_)
  obtain ⟨o104, hM106, hM⟩ := bind_ex hM
  refine wp_cut (fun a u => ∃ (p103 : List (Int × Int)), p103 = o104 ∧ x0.length = p103.length ∧ Fr a 23 [(2, .slice none 0 0), (3, .slice (some ⟨g101, 0, none⟩) x0.length x0.length)] ∧ St w u [.row 78 2 (.slice (some ⟨g101, 0, none⟩) x0.length x0.length) x0.length (p103.flatMap ePermit)]) ?_ ?_
  · have _ := trivial
    refine wp_block ?_
    refine loop_gw (fun m a u => ∃ (p107 : List (Int × Int) × Int), m_laws_toPermitS_l1 x0 m p107 = some _ ∧ x0.length = p107.1.length ∧ Fr a 23 [(0, .slice A0 x0.length c0), (2, .slice none 0 0), (3, .slice (some ⟨g101, 0, none⟩) x0.length x0.length), (4, .int .i64 p107.2)] ∧ St w u [.row 78 2 (.slice (some ⟨g101, 0, none⟩) x0.length x0.length) x0.length (p107.1.flatMap ePermit)]) FUEL ⟨(List.replicate x0.length ((0, 0) : Int × Int), 0), hM106, List.length_replicate.symm, hF.keep _ ⟨rfl, rfl, rfl, rfl, trivial⟩, S.sel [0] rfl rfl⟩ ?_
    clear hF S hM106; rintro m a u ⟨p107, hM106, hn108, hF, S⟩
    rcases m with _ | f1
    · exact none_some hM106
    rw [m_laws_toPermitS_l1.eq_2] at hM106
    refine ws ?_
    revert a;refine sr (mv rfl rfl (mv rfl rfl (ov rfl rfl rfl (fun a hF=>run_lenL rfl rfl Try.underlying27 (hF.ev rfl)) (ov (v := .bool (ltB p107.2 (x0.length : Int))) rfl rfl rfl (fun a hF=>run_lss (hF.ev rfl) (hF.ev rfl) rfl) fun a hF=>wn ?_))))
    cases hc109 : (ltB p107.2 (x0.length : Int))
    · replace hM106 := bif_f hc109 hM106
      refine cond_f hF rfl hc109 ?_
      refine wp_exit ?_
      repeat with_reducible (first | refine then_exit ?_ | refine in_hit ?_ | refine in_miss rfl ?_)
      obtain rfl := Option.some.inj hM106
      exact ⟨p107.1, rfl, hn108, hF.keep _ ⟨rfl, rfl, trivial⟩, S.sel [0] rfl rfl⟩
    replace hM106 := bif_t hc109 hM106
    refine cond_t hF rfl hc109 ?_
    refine wp_skip ?_
    refine ws ?_
    refine wp_block ?_
    revert a;refine rl (mv rfl rfl (mv rfl rfl (mv rfl rfl (mv rfl rfl fun a hF=>?_))))
    obtain ⟨hk110, hM106⟩ := chk_ex hM106
    replace hk110 := ixB_t hk110
    revert a;refine ov rfl rfl rfl (fun a hF=>run_indexAddr (b := adB A0) (off := adO A0) rfl Try.underlying27 sz113 ((hF.ev rfl).trans (congrArg (fun A => Value.slice A x0.length c0) ((S.rc0 h0.rc).rd.ad (ix_pos hk110)))) (hF.ev rfl) hk110.1 hk110.2 (k' := adO A0 + p107.2.toNat * 2) rfl) (ov rfl rfl rfl (fun a hF=>run_loadN (cs := #[.int .i64 ((x0.getD p107.2.toNat ((0, 0) : Int × Int)).1), .int .i64 ((x0.getD p107.2.toNat ((0, 0) : Int × Int)).2)]) rfl ag113 (hF.ev rfl) rfl (rd_elN (l := x0) (S.rc0 h0.rc).rd rfl eLPermit_len ((0, 0) : Int × Int) (ix_ltn hk110 rfl) rfl)) fun a hF=>?_)
    obtain ⟨p111, h111, hM106⟩ := bind_ex hM106
    refine op_call rfl rfl hF rfl (run_call (vs := [.agg #[.int .i64 ((x0.getD p107.2.toNat ((0, 0) : Int × Int)).1), .int .i64 ((x0.getD p107.2.toNat ((0, 0) : Int × Int)).2)]]) rfl rfl co75 ⟨(hF.ev rfl), trivial⟩) (c_laws_toPermit (x0 := (x0.getD p107.2.toNat ((0, 0) : Int × Int)).1) (x1 := (x0.getD p107.2.toNat ((0, 0) : Int × Int)).2)  h111) ?_
    rintro e u ⟨rfl, T⟩
    refine ⟨_, rfl, ?_⟩
    clear hF; intro a hF
    replace S := S.call0 T; clear T
    obtain ⟨hk112, hM106⟩ := chk_ex hM106
    replace hk112 := ixB_t hk112
    refine op_val (v := .pointer (some ⟨adB (some ⟨g101, 0, none⟩), adO (some ⟨g101, 0, none⟩) + p107.2.toNat * 2, none⟩)) rfl rfl hF rfl (run_indexAddr (b := adB (some ⟨g101, 0, none⟩)) (off := adO (some ⟨g101, 0, none⟩)) rfl Try.underlying39 sz78 ((hF.ev rfl).trans (congrArg (fun A => Value.slice A x0.length x0.length) ((S.rc 0 rfl).rd.ad (ix_pos hk112)))) (hF.ev rfl) hk112.1 hk112.2 (k' := adO (some ⟨g101, 0, none⟩) + p107.2.toNat * 2) rfl) ?_;clear hF;intro a hF
    obtain ⟨w', hrun, S'⟩ := run_storeElN (P := Try.prog) (ρ := a.eval) (y0 := (p111.1, p111.2)) (off := 0) S 78 (.tmp 21) (.tmp 20) (i := 0) sz78 (hF.ev rfl) (hF.ev rfl) rfl rfl rfl rfl hn108 ePermit_len ((0, 0) : Int × Int) (ix_ltn hk112 hn108) rfl rfl
    refine op_do rfl rfl (hrun _ rfl) ?_; clear hrun S; have S := S'; clear S'; generalize w' = u at S ⊢
    refine wn ?_
    revert a;refine rl (mv rfl rfl (ov (v := .int .i64 (w64 (p107.2 + 1))) rfl rfl rfl (fun a hF=>run_add (z := w64 (p107.2 + 1)) (hF.ev rfl) rfl rfl rfl) (ag rfl rfl fun a hF=>wn ?_)))
    exact ⟨f1, Nat.lt_succ_self _, (p107.1.set p107.2.toNat (p111.1, p111.2), w64 (p107.2 + 1)), hM106, (len_set hn108), hF.keep _ ⟨rfl, rfl, rfl, rfl, trivial⟩, S.sel [0] rfl rfl⟩
  rintro a u ⟨p103, rfl, hn105, hF, S⟩
  revert a;refine sr (mv rfl rfl (ag rfl rfl fun a hF=>wn ?_))
  refine wp_ret ?_
  repeat with_reducible first|refine tr ?_|refine ir ?_|refine nr ?_
  refine ret1_gw (.inl rfl) hF rfl (res_tmp (hF.ev rfl)) ?_
  obtain rfl := Option.some.inj hM
  exact ⟨(some ⟨g101, 0, none⟩), x0.length, x0.length, rfl, hn105, S.sel [0] rfl rfl⟩
theorem c_laws_toWork {x0 : List Bool} {x1 : List Bool} {x2 : List (Int × Int)} {A0 : Option Addr} {n0 c0 : Nat} {A1 : Option Addr} {n1 c1 : Nat} {A2 : Option Addr} {n2 c2 : Nat} {w : World} {r : List Bool × List Bool × List (Int × Int)} (h0 : Rt w 1 eB A0 n0 c0 x0) (h1 : Rt w 1 eB A1 n1 c1 x1) (h2 : Rt w 2 eLPermit A2 n2 c2 x2) (hM : m_laws_toWork x0 x1 x2 = some r) :
    Calls Try.prog 26 #[.agg #[.slice A0 n0 c0, .slice A1 n1 c1, .slice A2 n2 c2]] w (fun e w' => ∃ (B0 : Option Addr) (N0 D0 : Nat) (B1 : Option Addr) (N1 D1 : Nat) (B2 : Option Addr) (N2 D2 : Nat), e = .returned (.agg #[.slice B0 N0 D0, .slice B1 N1 D1, .slice B2 N2 D2]) ∧ N0 = r.1.length ∧ N1 = r.2.1.length ∧ N2 = r.2.2.length ∧ St w w' [.row 4 1 (.slice B0 N0 D0) N0 (r.1.flatMap eB), .row 4 1 (.slice B1 N1 D1) N1 (r.2.1.flatMap eB), .row 78 2 (.slice B2 N2 D2) N2 (r.2.2.flatMap ePermit)]) := by
  obtain rfl := h0.len
  obtain rfl := h1.len
  obtain rfl := h2.len
  unfold m_laws_toWork at hM
  refine calls_gw Try.func26 Try.ntmps26 rfl [(0, .agg #[.slice A0 x0.length c0, .slice A1 x1.length c1, .slice A2 x2.length c2])] ⟨rfl, trivial⟩ rfl ?_
  intro a hF
  have S := St.nil w
  refine wsg ?_
  refine op_new (cs := #[.slice A0 x0.length c0, .slice A1 x1.length c1, .slice A2 x2.length c2]) rfl rfl hF rfl S (run_box rfl (hF.ev rfl) rfl) ?_; clear hF S; intro a g101 u hF S
  refine op_new (cs := #[.slice none 0 0, .slice none 0 0, .slice none 0 0]) rfl rfl hF rfl S (run_allocZ rfl zr41) ?_; clear hF S; intro a g102 u hF S
  refine wn ?_
  refine wsg ?_
  refine op_new (cs := #[.slice none 0 0, .slice none 0 0, .slice none 0 0]) rfl rfl hF rfl S (run_allocZ rfl zr41) ?_; clear hF S; intro a g103 u hF S
  refine wn ?_
  revert a;refine sr (ov (v := .pointer (some ⟨g101, 0, none⟩)) rfl rfl rfl (fun a hF=>run_fieldAddr rfl fl29_0 (hF.ev rfl) rfl) (ov (v := .slice A0 x0.length c0) rfl rfl rfl (fun a hF=>run_load1 rfl one26 (hF.ev rfl) ((S.free 2 rfl).cell rfl)) fun a hF=>?_))
  obtain ⟨p104, h104, hM⟩ := bind_ex hM
  refine op_call rfl rfl hF rfl (run_call (vs := [.slice A0 x0.length c0]) rfl rfl co52 ⟨(hF.ev rfl), trivial⟩) (c_laws_toBoolS (x0 := x0) ⟨(S.rc0 h0.rc), rfl⟩ h104) ?_
  rintro e u ⟨B105, n106, d107, rfl, rfl, T⟩
  refine ⟨_, rfl, ?_⟩
  clear hF; intro a hF
  replace S := S.call1 T; clear T
  refine op_val (v := .pointer (some ⟨g103, 0, none⟩)) rfl rfl hF rfl (run_fieldAddr rfl fl41_0 (hF.ev rfl) rfl) ?_;clear hF;intro a hF
  refine op_do rfl rfl (run_store (cs' := #[.slice B105 p104.length d107, .slice none 0 0, .slice none 0 0]) rfl sz26 (hF.ev rfl) (hF.ev rfl) rfl rfl rfl (S.free 1 rfl) rfl rfl) ?_; replace S := S.put 1 rfl (#[.slice B105 p104.length d107, .slice none 0 0, .slice none 0 0])
  generalize World.setRow _ _ _ = u at S ⊢
  refine wn ?_
  revert a;refine sr (ov (v := .pointer (some ⟨g101, 1, none⟩)) rfl rfl rfl (fun a hF=>run_fieldAddr rfl fl29_1 (hF.ev rfl) rfl) (ov (v := .slice A1 x1.length c1) rfl rfl rfl (fun a hF=>run_load1 rfl one26 (hF.ev rfl) ((S.free 3 rfl).cell rfl)) fun a hF=>?_))
  obtain ⟨p108, h108, hM⟩ := bind_ex hM
  refine op_call rfl rfl hF rfl (run_call (vs := [.slice A1 x1.length c1]) rfl rfl co52 ⟨(hF.ev rfl), trivial⟩) (c_laws_toBoolS (x0 := x1) ⟨(S.rc0 h1.rc), rfl⟩ h108) ?_
  rintro e u ⟨B109, n110, d111, rfl, rfl, T⟩
  refine ⟨_, rfl, ?_⟩
  clear hF; intro a hF
  replace S := S.call1 T; clear T
  refine op_val (v := .pointer (some ⟨g103, 1, none⟩)) rfl rfl hF rfl (run_fieldAddr rfl fl41_1 (hF.ev rfl) rfl) ?_;clear hF;intro a hF
  refine op_do rfl rfl (run_store (cs' := #[.slice B105 p104.length d107, .slice B109 p108.length d111, .slice none 0 0]) rfl sz26 (hF.ev rfl) (hF.ev rfl) rfl rfl rfl (S.free 2 rfl) rfl rfl) ?_; replace S := S.put 2 rfl (#[.slice B105 p104.length d107, .slice B109 p108.length d111, .slice none 0 0])
  generalize World.setRow _ _ _ = u at S ⊢
  refine wn ?_
  revert a;refine sr (ov (v := .pointer (some ⟨g101, 2, none⟩)) rfl rfl rfl (fun a hF=>run_fieldAddr rfl fl29_2 (hF.ev rfl) rfl) (ov (v := .slice A2 x2.length c2) rfl rfl rfl (fun a hF=>run_load1 rfl one27 (hF.ev rfl) ((S.free 4 rfl).cell rfl)) fun a hF=>?_))
  obtain ⟨p112, h112, hM⟩ := bind_ex hM
  refine op_call rfl rfl hF rfl (run_call (vs := [.slice A2 x2.length c2]) rfl rfl co53 ⟨(hF.ev rfl), trivial⟩) (c_laws_toPermitS (x0 := x2) ⟨(S.rc0 h2.rc), rfl⟩ h112) ?_
  rintro e u ⟨B113, n114, d115, rfl, rfl, T⟩
  refine ⟨_, rfl, ?_⟩
  clear hF; intro a hF
  replace S := S.call1 T; clear T
  refine op_val (v := .pointer (some ⟨g103, 2, none⟩)) rfl rfl hF rfl (run_fieldAddr rfl fl41_2 (hF.ev rfl) rfl) ?_;clear hF;intro a hF
  refine op_do rfl rfl (run_store (cs' := #[.slice B105 p104.length d107, .slice B109 p108.length d111, .slice B113 p112.length d115]) rfl sz39 (hF.ev rfl) (hF.ev rfl) rfl rfl rfl (S.free 3 rfl) rfl rfl) ?_; replace S := S.put 3 rfl (#[.slice B105 p104.length d107, .slice B109 p108.length d111, .slice B113 p112.length d115])
  generalize World.setRow _ _ _ = u at S ⊢
  refine wn ?_
  revert a;refine sr (ov rfl rfl rfl (fun a hF=>run_loadN rfl ag41 (hF.ev rfl) rfl ((S.free 3 rfl).cells 0 #[.slice B105 p104.length d107, .slice B109 p108.length d111, .slice B113 p112.length d115] rfl)) fun a hF=>?_)
  refine op_do rfl rfl (run_store (cs' := #[.slice B105 p104.length d107, .slice B109 p108.length d111, .slice B113 p112.length d115]) rfl sz41 (hF.ev rfl) (hF.ev rfl) rfl rfl rfl (S.free 4 rfl) rfl rfl) ?_; replace S := S.put 4 rfl (#[.slice B105 p104.length d107, .slice B109 p108.length d111, .slice B113 p112.length d115])
  generalize World.setRow _ _ _ = u at S ⊢
  refine wn ?_
  refine wp_ret ?_
  repeat with_reducible first|refine tr ?_|refine ir ?_|refine nr ?_
  refine ret1_gw (.inl rfl) hF rfl (res_cell (hF.ev rfl) (res_loadN ag41 rfl (S.cells 4 rfl 0 #[.slice B105 p104.length d107, .slice B109 p108.length d111, .slice B113 p112.length d115] rfl))) ?_
  obtain rfl := Option.some.inj hM
  exact ⟨B105, p104.length, d107, B109, p108.length, d111, B113, p112.length, d115, rfl, rfl, rfl, rfl, S.sel [2, 1, 0] rfl rfl⟩
theorem c_laws_toIntS {x0 : List Int} {A0 : Option Addr} {n0 c0 : Nat} {w : World} {r : List Int} (h0 : Rt w 1 eI A0 n0 c0 x0) (hM : m_laws_toIntS x0 = some r) :
    Calls Try.prog 27 #[.slice A0 n0 c0] w (fun e w' => ∃ (B0 : Option Addr) (N0 D0 : Nat), e = .returned (.slice B0 N0 D0) ∧ N0 = r.length ∧ St w w' [.row 3 1 (.slice B0 N0 D0) N0 (r.flatMap eI)]) := by
  obtain rfl := h0.len
  unfold m_laws_toIntS at hM
  refine calls_gw Try.func27 Try.ntmps27 rfl [(0, .slice A0 x0.length c0)] ⟨rfl, trivial⟩ rfl ?_
  intro a hF
  have S := St.nil w
  revert a;refine sr (ov (v := .slice none 0 0) rfl rfl rfl (fun a hF=>run_assign rfl rfl) fun a hF=>wn ?_)
  revert a;refine sr (mv rfl rfl (ov rfl rfl rfl (fun a hF=>run_lenL rfl rfl Try.underlying30 (hF.ev rfl)) fun a hF=>?_))
  obtain ⟨hk102, hM⟩ := chk_ex hM
  replace hk102 := mkB_t hk102
  refine op_newrowL (m := x0.length) (ls := List.replicate x0.length (0 : Int)) (e := eI) rfl rfl hF rfl S (run_makeL rfl (hF.ev rfl) (hF.ev rfl) Try.underlying30 inf3 eI_len rfl (by decide) hk102) List.length_replicate eI_len (by rw [List.length_replicate]; omega) ?_; clear hF S; intro a g101 u hF S
  refine op_val (v := .slice (some ⟨g101, 0, none⟩) x0.length x0.length) rfl rfl hF rfl (run_assign rfl (hF.ev rfl)) ?_;clear hF;intro a hF
  refine wn ?_
  refine ws ?_
  revert a;refine sr (ov (v := .int .i64 0) rfl rfl rfl (fun a hF=>run_assign rfl rfl) fun a hF=>wn ?_)
  obtain ⟨o104, hM106, hM⟩ := bind_ex hM
  refine wp_cut (fun a u => ∃ (p103 : List Int), p103 = o104 ∧ x0.length = p103.length ∧ Fr a 22 [(2, .slice none 0 0), (3, .slice (some ⟨g101, 0, none⟩) x0.length x0.length)] ∧ St w u [.row 3 1 (.slice (some ⟨g101, 0, none⟩) x0.length x0.length) x0.length (p103.flatMap eI)]) ?_ ?_
  · have _ := trivial
    refine wp_block ?_
    refine loop_gw (fun m a u => ∃ (p107 : List Int × Int), m_laws_toIntS_l1 x0 m p107 = some _ ∧ x0.length = p107.1.length ∧ Fr a 22 [(0, .slice A0 x0.length c0), (2, .slice none 0 0), (3, .slice (some ⟨g101, 0, none⟩) x0.length x0.length), (4, .int .i64 p107.2)] ∧ St w u [.row 3 1 (.slice (some ⟨g101, 0, none⟩) x0.length x0.length) x0.length (p107.1.flatMap eI)]) FUEL ⟨(List.replicate x0.length (0 : Int), 0), hM106, List.length_replicate.symm, hF.keep _ ⟨rfl, rfl, rfl, rfl, trivial⟩, S.sel [0] rfl rfl⟩ ?_
    clear hF S hM106; rintro m a u ⟨p107, hM106, hn108, hF, S⟩
    rcases m with _ | f1
    · exact none_some hM106
    rw [m_laws_toIntS_l1.eq_2] at hM106
    refine ws ?_
    revert a;refine sr (mv rfl rfl (mv rfl rfl (ov rfl rfl rfl (fun a hF=>run_lenL rfl rfl Try.underlying30 (hF.ev rfl)) (ov (v := .bool (ltB p107.2 (x0.length : Int))) rfl rfl rfl (fun a hF=>run_lss (hF.ev rfl) (hF.ev rfl) rfl) fun a hF=>wn ?_))))
    cases hc109 : (ltB p107.2 (x0.length : Int))
    · replace hM106 := bif_f hc109 hM106
      refine cond_f hF rfl hc109 ?_
      refine wp_exit ?_
      repeat with_reducible (first | refine then_exit ?_ | refine in_hit ?_ | refine in_miss rfl ?_)
      obtain rfl := Option.some.inj hM106
      exact ⟨p107.1, rfl, hn108, hF.keep _ ⟨rfl, rfl, trivial⟩, S.sel [0] rfl rfl⟩
    replace hM106 := bif_t hc109 hM106
    refine cond_t hF rfl hc109 ?_
    refine wp_skip ?_
    refine ws ?_
    refine wp_block ?_
    revert a;refine rl (mv rfl rfl (mv rfl rfl (mv rfl rfl (mv rfl rfl fun a hF=>?_))))
    obtain ⟨hk110, hM106⟩ := chk_ex hM106
    replace hk110 := ixB_t hk110
    revert a;refine ov rfl rfl rfl (fun a hF=>run_indexAddr (b := adB A0) (off := adO A0) rfl Try.underlying30 sz3 ((hF.ev rfl).trans (congrArg (fun A => Value.slice A x0.length c0) ((S.rc0 h0.rc).rd.ad (ix_pos hk110)))) (hF.ev rfl) hk110.1 hk110.2 (k' := adO A0 + p107.2.toNat * 1) rfl) (ov (v := .int .i64 (x0.getD p107.2.toNat (0 : Int))) rfl rfl rfl (fun a hF=>run_load1 rfl one3 (hF.ev rfl) (rd_el0 (l := x0) (S.rc0 h0.rc).rd rfl eI_len (0 : Int) (ix_ltn hk110 rfl) rfl)) fun a hF=>?_)
    obtain ⟨hk111, hM106⟩ := chk_ex hM106
    replace hk111 := ixB_t hk111
    refine op_val (v := .pointer (some ⟨adB (some ⟨g101, 0, none⟩), adO (some ⟨g101, 0, none⟩) + p107.2.toNat * 1, none⟩)) rfl rfl hF rfl (run_indexAddr (b := adB (some ⟨g101, 0, none⟩)) (off := adO (some ⟨g101, 0, none⟩)) rfl Try.underlying30 sz3 ((hF.ev rfl).trans (congrArg (fun A => Value.slice A x0.length x0.length) ((S.rc 0 rfl).rd.ad (ix_pos hk111)))) (hF.ev rfl) hk111.1 hk111.2 (k' := adO (some ⟨g101, 0, none⟩) + p107.2.toNat * 1) rfl) ?_;clear hF;intro a hF
    obtain ⟨w', hrun, S'⟩ := run_storeElN (P := Try.prog) (ρ := a.eval) (y0 := (x0.getD p107.2.toNat (0 : Int))) (off := 0) S 3 (.tmp 20) (.tmp 19) (i := 0) sz3 (hF.ev rfl) (hF.ev rfl) rfl rfl rfl rfl hn108 eI_len (0 : Int) (ix_ltn hk111 hn108) rfl rfl
    refine op_do rfl rfl (hrun _ rfl) ?_; clear hrun S; have S := S'; clear S'; generalize w' = u at S ⊢
    refine wn ?_
    revert a;refine rl (mv rfl rfl (ov (v := .int .i64 (w64 (p107.2 + 1))) rfl rfl rfl (fun a hF=>run_add (z := w64 (p107.2 + 1)) (hF.ev rfl) rfl rfl rfl) (ag rfl rfl fun a hF=>wn ?_)))
    exact ⟨f1, Nat.lt_succ_self _, (p107.1.set p107.2.toNat (x0.getD p107.2.toNat (0 : Int)), w64 (p107.2 + 1)), hM106, (len_set hn108), hF.keep _ ⟨rfl, rfl, rfl, rfl, trivial⟩, S.sel [0] rfl rfl⟩
  rintro a u ⟨p103, rfl, hn105, hF, S⟩
  revert a;refine sr (mv rfl rfl (ag rfl rfl fun a hF=>wn ?_))
  refine wp_ret ?_
  repeat with_reducible first|refine tr ?_|refine ir ?_|refine nr ?_
  refine ret1_gw (.inl rfl) hF rfl (res_tmp (hF.ev rfl)) ?_
  obtain rfl := Option.some.inj hM
  exact ⟨(some ⟨g101, 0, none⟩), x0.length, x0.length, rfl, hn105, S.sel [0] rfl rfl⟩
theorem c_laws_toWorld {x0 : Int} {x1 : List (Int × Int × Int)} {x2 : List (Int × Int)} {x3 : List Bool} {x4 : List Bool} {x5 : List (Int × Int)} {x6 : List Int} {A1 : Option Addr} {n1 c1 : Nat} {A2 : Option Addr} {n2 c2 : Nat} {A3 : Option Addr} {n3 c3 : Nat} {A4 : Option Addr} {n4 c4 : Nat} {A5 : Option Addr} {n5 c5 : Nat} {A6 : Option Addr} {n6 c6 : Nat} {w : World} {r : Int × List (Int × Int × Int) × List (Int × Int) × List Bool × List Bool × List (Int × Int) × List Int} (h1 : Rt w 3 eLLine A1 n1 c1 x1) (h2 : Rt w 2 eLBus A2 n2 c2 x2) (h3 : Rt w 1 eB A3 n3 c3 x3) (h4 : Rt w 1 eB A4 n4 c4 x4) (h5 : Rt w 2 eLPermit A5 n5 c5 x5) (h6 : Rt w 1 eI A6 n6 c6 x6) (hM : m_laws_toWorld x0 x1 x2 x3 x4 x5 x6 = some r) :
    Calls Try.prog 7 #[.agg #[.int .i64 x0, .slice A1 n1 c1, .slice A2 n2 c2, .slice A3 n3 c3, .slice A4 n4 c4, .slice A5 n5 c5, .slice A6 n6 c6]] w (fun e w' => ∃ (B0 : Option Addr) (N0 D0 : Nat) (B1 : Option Addr) (N1 D1 : Nat) (B2 : Option Addr) (N2 D2 : Nat) (B3 : Option Addr) (N3 D3 : Nat) (B4 : Option Addr) (N4 D4 : Nat) (B5 : Option Addr) (N5 D5 : Nat), e = .returned (.agg #[.int .i64 r.1, .slice B0 N0 D0, .slice B1 N1 D1, .slice B2 N2 D2, .slice B3 N3 D3, .slice B4 N4 D4, .slice B5 N5 D5]) ∧ N0 = r.2.1.length ∧ N1 = r.2.2.1.length ∧ N2 = r.2.2.2.1.length ∧ N3 = r.2.2.2.2.1.length ∧ N4 = r.2.2.2.2.2.1.length ∧ N5 = r.2.2.2.2.2.2.length ∧ St w w' [.row 107 3 (.slice B0 N0 D0) N0 (r.2.1.flatMap eLine), .row 69 2 (.slice B1 N1 D1) N1 (r.2.2.1.flatMap eBus), .row 4 1 (.slice B2 N2 D2) N2 (r.2.2.2.1.flatMap eB), .row 4 1 (.slice B3 N3 D3) N3 (r.2.2.2.2.1.flatMap eB), .row 78 2 (.slice B4 N4 D4) N4 (r.2.2.2.2.2.1.flatMap ePermit), .row 3 1 (.slice B5 N5 D5) N5 (r.2.2.2.2.2.2.flatMap eI)]) := by
  obtain rfl := h1.len
  obtain rfl := h2.len
  obtain rfl := h3.len
  obtain rfl := h4.len
  obtain rfl := h5.len
  obtain rfl := h6.len
  unfold m_laws_toWorld at hM
  refine calls_gw Try.func7 Try.ntmps7 rfl [(0, .agg #[.int .i64 x0, .slice A1 x1.length c1, .slice A2 x2.length c2, .slice A3 x3.length c3, .slice A4 x4.length c4, .slice A5 x5.length c5, .slice A6 x6.length c6])] ⟨rfl, trivial⟩ rfl ?_
  intro a hF
  have S := St.nil w
  refine wsg ?_
  refine op_new (cs := #[.int .i64 x0, .slice A1 x1.length c1, .slice A2 x2.length c2, .slice A3 x3.length c3, .slice A4 x4.length c4, .slice A5 x5.length c5, .slice A6 x6.length c6]) rfl rfl hF rfl S (run_box rfl (hF.ev rfl) rfl) ?_; clear hF S; intro a g101 u hF S
  refine op_new (cs := #[.int .i64 0, .slice none 0 0, .slice none 0 0, .slice none 0 0, .slice none 0 0, .slice none 0 0, .slice none 0 0]) rfl rfl hF rfl S (run_allocZ rfl zr43) ?_; clear hF S; intro a g102 u hF S
  refine wn ?_
  refine wsg ?_
  refine op_new (cs := #[.int .i64 0, .slice none 0 0, .slice none 0 0, .slice none 0 0, .slice none 0 0, .slice none 0 0, .slice none 0 0]) rfl rfl hF rfl S (run_allocZ rfl zr43) ?_; clear hF S; intro a g103 u hF S
  refine wn ?_
  revert a;refine sr (ov (v := .pointer (some ⟨g101, 0, none⟩)) rfl rfl rfl (fun a hF=>run_fieldAddr rfl fl32_0 (hF.ev rfl) rfl) (ov rfl rfl rfl (fun a hF=>run_loadN rfl ag24 (hF.ev rfl) rfl ((S.free 2 rfl).cells 0 #[.int .i64 x0, .slice A1 x1.length c1] rfl)) fun a hF=>?_))
  obtain ⟨p104, h104, hM⟩ := bind_ex hM
  refine op_call rfl rfl hF rfl (run_call (vs := [.agg #[.int .i64 x0, .slice A1 x1.length c1]]) rfl rfl co24 ⟨(hF.ev rfl), trivial⟩) (c_laws_toNet (x0 := x0) (x1 := x1) ⟨(S.rc0 h1.rc), rfl⟩ h104) ?_
  rintro e u ⟨B105, n106, d107, rfl, rfl, T⟩
  refine ⟨_, rfl, ?_⟩
  clear hF; intro a hF
  replace S := S.call1 T; clear T
  refine op_val (v := .pointer (some ⟨g103, 0, none⟩)) rfl rfl hF rfl (run_fieldAddr rfl fl43_0 (hF.ev rfl) rfl) ?_;clear hF;intro a hF
  refine op_do rfl rfl (run_store (cs' := #[.int .i64 p104.1, .slice B105 p104.2.length d107, .slice none 0 0, .slice none 0 0, .slice none 0 0, .slice none 0 0, .slice none 0 0]) rfl sz37 (hF.ev rfl) (hF.ev rfl) rfl rfl rfl (S.free 1 rfl) rfl rfl) ?_; replace S := S.put 1 rfl (#[.int .i64 p104.1, .slice B105 p104.2.length d107, .slice none 0 0, .slice none 0 0, .slice none 0 0, .slice none 0 0, .slice none 0 0])
  generalize World.setRow _ _ _ = u at S ⊢
  refine wn ?_
  revert a;refine sr (ov (v := .pointer (some ⟨g101, 2, none⟩)) rfl rfl rfl (fun a hF=>run_fieldAddr rfl fl32_1 (hF.ev rfl) rfl) (ov (v := .slice A2 x2.length c2) rfl rfl rfl (fun a hF=>run_load1 rfl one25 (hF.ev rfl) ((S.free 3 rfl).cell rfl)) fun a hF=>?_))
  obtain ⟨p108, h108, hM⟩ := bind_ex hM
  refine op_call rfl rfl hF rfl (run_call (vs := [.slice A2 x2.length c2]) rfl rfl co25 ⟨(hF.ev rfl), trivial⟩) (c_laws_toBusS (x0 := x2) ⟨(S.rc0 h2.rc), rfl⟩ h108) ?_
  rintro e u ⟨B109, n110, d111, rfl, rfl, T⟩
  refine ⟨_, rfl, ?_⟩
  clear hF; intro a hF
  replace S := S.call1 T; clear T
  refine op_val (v := .pointer (some ⟨g103, 2, none⟩)) rfl rfl hF rfl (run_fieldAddr rfl fl43_1 (hF.ev rfl) rfl) ?_;clear hF;intro a hF
  refine op_do rfl rfl (run_store (cs' := #[.int .i64 p104.1, .slice B105 p104.2.length d107, .slice B109 p108.length d111, .slice none 0 0, .slice none 0 0, .slice none 0 0, .slice none 0 0]) rfl sz38 (hF.ev rfl) (hF.ev rfl) rfl rfl rfl (S.free 2 rfl) rfl rfl) ?_; replace S := S.put 2 rfl (#[.int .i64 p104.1, .slice B105 p104.2.length d107, .slice B109 p108.length d111, .slice none 0 0, .slice none 0 0, .slice none 0 0, .slice none 0 0])
  generalize World.setRow _ _ _ = u at S ⊢
  refine wn ?_
  revert a;refine sr (ov (v := .pointer (some ⟨g101, 3, none⟩)) rfl rfl rfl (fun a hF=>run_fieldAddr rfl fl32_2 (hF.ev rfl) rfl) (ov rfl rfl rfl (fun a hF=>run_loadN rfl ag29 (hF.ev rfl) rfl ((S.free 4 rfl).cells 3 #[.slice A3 x3.length c3, .slice A4 x4.length c4, .slice A5 x5.length c5] rfl)) fun a hF=>?_))
  obtain ⟨p112, h112, hM⟩ := bind_ex hM
  refine op_call rfl rfl hF rfl (run_call (vs := [.agg #[.slice A3 x3.length c3, .slice A4 x4.length c4, .slice A5 x5.length c5]]) rfl rfl co26 ⟨(hF.ev rfl), trivial⟩) (c_laws_toWork (x0 := x3) (x1 := x4) (x2 := x5) ⟨(S.rc0 h3.rc), rfl⟩ ⟨(S.rc0 h4.rc), rfl⟩ ⟨(S.rc0 h5.rc), rfl⟩ h112) ?_
  rintro e u ⟨B113, n114, d115, B116, n117, d118, B119, n120, d121, rfl, rfl, rfl, rfl, T⟩
  refine ⟨_, rfl, ?_⟩
  clear hF; intro a hF
  replace S := S.call3 T; clear T
  refine op_val (v := .pointer (some ⟨g103, 3, none⟩)) rfl rfl hF rfl (run_fieldAddr rfl fl43_2 (hF.ev rfl) rfl) ?_;clear hF;intro a hF
  refine op_do rfl rfl (run_store (cs' := #[.int .i64 p104.1, .slice B105 p104.2.length d107, .slice B109 p108.length d111, .slice B113 p112.1.length d115, .slice B116 p112.2.1.length d118, .slice B119 p112.2.2.length d121, .slice none 0 0]) rfl sz41 (hF.ev rfl) (hF.ev rfl) rfl rfl rfl (S.free 5 rfl) rfl rfl) ?_; replace S := S.put 5 rfl (#[.int .i64 p104.1, .slice B105 p104.2.length d107, .slice B109 p108.length d111, .slice B113 p112.1.length d115, .slice B116 p112.2.1.length d118, .slice B119 p112.2.2.length d121, .slice none 0 0])
  generalize World.setRow _ _ _ = u at S ⊢
  refine wn ?_
  revert a;refine sr (ov (v := .pointer (some ⟨g101, 6, none⟩)) rfl rfl rfl (fun a hF=>run_fieldAddr rfl fl32_3 (hF.ev rfl) rfl) (ov (v := .slice A6 x6.length c6) rfl rfl rfl (fun a hF=>run_load1 rfl one30 (hF.ev rfl) ((S.free 7 rfl).cell rfl)) fun a hF=>?_))
  obtain ⟨p122, h122, hM⟩ := bind_ex hM
  refine op_call rfl rfl hF rfl (run_call (vs := [.slice A6 x6.length c6]) rfl rfl co27 ⟨(hF.ev rfl), trivial⟩) (c_laws_toIntS (x0 := x6) ⟨(S.rc0 h6.rc), rfl⟩ h122) ?_
  rintro e u ⟨B123, n124, d125, rfl, rfl, T⟩
  refine ⟨_, rfl, ?_⟩
  clear hF; intro a hF
  replace S := S.call1 T; clear T
  refine op_val (v := .pointer (some ⟨g103, 6, none⟩)) rfl rfl hF rfl (run_fieldAddr rfl fl43_3 (hF.ev rfl) rfl) ?_;clear hF;intro a hF
  refine op_do rfl rfl (run_store (cs' := #[.int .i64 p104.1, .slice B105 p104.2.length d107, .slice B109 p108.length d111, .slice B113 p112.1.length d115, .slice B116 p112.2.1.length d118, .slice B119 p112.2.2.length d121, .slice B123 p122.length d125]) rfl sz30 (hF.ev rfl) (hF.ev rfl) rfl rfl rfl (S.free 6 rfl) rfl rfl) ?_; replace S := S.put 6 rfl (#[.int .i64 p104.1, .slice B105 p104.2.length d107, .slice B109 p108.length d111, .slice B113 p112.1.length d115, .slice B116 p112.2.1.length d118, .slice B119 p112.2.2.length d121, .slice B123 p122.length d125])
  generalize World.setRow _ _ _ = u at S ⊢
  refine wn ?_
  revert a;refine sr (ov rfl rfl rfl (fun a hF=>run_loadN rfl ag43 (hF.ev rfl) rfl ((S.free 6 rfl).cells 0 #[.int .i64 p104.1, .slice B105 p104.2.length d107, .slice B109 p108.length d111, .slice B113 p112.1.length d115, .slice B116 p112.2.1.length d118, .slice B119 p112.2.2.length d121, .slice B123 p122.length d125] rfl)) fun a hF=>?_)
  refine op_do rfl rfl (run_store (cs' := #[.int .i64 p104.1, .slice B105 p104.2.length d107, .slice B109 p108.length d111, .slice B113 p112.1.length d115, .slice B116 p112.2.1.length d118, .slice B119 p112.2.2.length d121, .slice B123 p122.length d125]) rfl sz43 (hF.ev rfl) (hF.ev rfl) rfl rfl rfl (S.free 7 rfl) rfl rfl) ?_; replace S := S.put 7 rfl (#[.int .i64 p104.1, .slice B105 p104.2.length d107, .slice B109 p108.length d111, .slice B113 p112.1.length d115, .slice B116 p112.2.1.length d118, .slice B119 p112.2.2.length d121, .slice B123 p122.length d125])
  generalize World.setRow _ _ _ = u at S ⊢
  refine wn ?_
  refine wp_ret ?_
  repeat with_reducible first|refine tr ?_|refine ir ?_|refine nr ?_
  refine ret1_gw (.inl rfl) hF rfl (res_cell (hF.ev rfl) (res_loadN ag43 rfl (S.cells 7 rfl 0 #[.int .i64 p104.1, .slice B105 p104.2.length d107, .slice B109 p108.length d111, .slice B113 p112.1.length d115, .slice B116 p112.2.1.length d118, .slice B119 p112.2.2.length d121, .slice B123 p122.length d125] rfl))) ?_
  obtain rfl := Option.some.inj hM
  exact ⟨B105, p104.2.length, d107, B109, p108.length, d111, B113, p112.1.length, d115, B116, p112.2.1.length, d118, B119, p112.2.2.length, d121, B123, p122.length, d125, rfl, rfl, rfl, rfl, rfl, rfl, rfl, S.sel [5, 4, 1, 2, 3, 0] rfl rfl⟩
theorem c_spec_l1In {x0 : Int} {x1 : Int} {x2 : Int} {w : World} {r : Bool}  (hM : m_spec_l1In x0 x1 x2 = some r) :
    Calls Try.prog 22 #[.int .i64 x0, .int .i64 x1, .int .i64 x2] w (fun e w' => e = .returned (.bool r) ∧ St w w' []) := by
  unfold m_spec_l1In at hM
  refine calls_gw Try.func22 Try.ntmps22 rfl [(0, .int .i64 x0), (1, .int .i64 x1), (2, .int .i64 x2)] ⟨rfl, rfl, rfl, trivial⟩ rfl ?_
  intro a hF
  have S := St.nil w
  revert a;refine sr (ov (v := .bool false) rfl rfl rfl (fun a hF=>run_assign rfl rfl) fun a hF=>wn ?_)
  revert a;refine sr (mv rfl rfl (mv rfl rfl (ov (v := .bool (leB x1 x0)) rfl rfl rfl (fun a hF=>run_geq (hF.ev rfl) (hF.ev rfl) rfl) (mv rfl rfl fun a hF=>?_))))
  refine op_gv (v := .int .i64 x0) rfl rfl hF rfl (yt (gw_yield hF rfl rfl rfl)) (fun hg => (run_move rfl (hF.ev rfl))) ?_;clear hF;intro a hF
  refine op_gv (v := .int .i64 x2) rfl rfl hF rfl (yt (gw_yield hF rfl rfl rfl)) (fun hg => (run_move rfl (hF.ev rfl))) ?_;clear hF;intro a hF
  refine op_gv (v := .bool (leB x0 x2)) rfl rfl hF rfl (yt (gw_yield hF rfl rfl rfl)) (fun hg => (run_leq ((hF.ev rfl).trans (gv_t hg)) ((hF.ev rfl).trans (gv_t hg)) rfl)) ?_;clear hF;intro a hF
  revert a;refine ov (v := .bool ((leB x1 x0) && (leB x0 x2))) rfl rfl rfl (fun a hF=>run_pick_and rfl (hF.ev rfl) (fun hp => ((hF.ev rfl).trans (gv_t hp))) rfl) (ag rfl rfl fun a hF=>wn ?_)
  refine wp_ret ?_
  repeat with_reducible first|refine tr ?_|refine ir ?_|refine nr ?_
  refine ret1_gw (.inl rfl) hF rfl (res_tmp (hF.ev rfl)) ?_
  obtain rfl := Option.some.inj hM
  exact ⟨rfl, S.sel [] rfl rfl⟩
theorem c_spec_NetValid {x0 : Int} {x1 : List (Int × Int × Int)} {A1 : Option Addr} {n1 c1 : Nat} {w : World} {r : Bool} (h1 : Rt w 3 eLine A1 n1 c1 x1) (hM : m_spec_NetValid x0 x1 = some r) :
    Calls Try.prog 45 #[.agg #[.int .i64 x0, .slice A1 n1 c1]] w (fun e w' => e = .returned (.bool r) ∧ St w w' []) := by
  obtain rfl := h1.len
  unfold m_spec_NetValid at hM
  refine calls_gw Try.func45 Try.ntmps45 rfl [(0, .agg #[.int .i64 x0, .slice A1 x1.length c1])] ⟨rfl, trivial⟩ rfl ?_
  intro a hF
  have S := St.nil w
  refine wsg ?_
  refine op_new (cs := #[.int .i64 x0, .slice A1 x1.length c1]) rfl rfl hF rfl S (run_box rfl (hF.ev rfl) rfl) ?_; clear hF S; intro a g101 u hF S
  refine op_val (v := .bool false) rfl rfl hF rfl (run_assign rfl rfl) ?_;clear hF;intro a hF
  refine wn ?_
  refine ws ?_
  revert a;refine sr (ov (v := .pointer (some ⟨g101, 0, none⟩)) rfl rfl rfl (fun a hF=>run_fieldAddr rfl fl37_0 (hF.ev rfl) rfl) (ov (v := .int .i64 x0) rfl rfl rfl (fun a hF=>run_load1 rfl one3 (hF.ev rfl) ((S.free 0 rfl).cell rfl)) fun a hF=>?_))
  obtain ⟨p102, h102, hM⟩ := bind_ex hM
  refine op_call rfl rfl hF rfl (run_call (vs := [.int .i64 x0, .int .i64 1, .int .i64 8]) rfl rfl co22 ⟨(hF.ev rfl), rfl, rfl, trivial⟩) (c_spec_l1In (x0 := x0) (x1 := 1) (x2 := 8)  h102) ?_
  rintro e u ⟨rfl, T⟩
  refine ⟨_, rfl, ?_⟩
  clear hF; intro a hF
  replace S := S.call0 T; clear T
  revert a;refine ov (v := .bool (!p102)) rfl rfl rfl (fun a hF=>run_not rfl (hF.ev rfl)) (mv rfl rfl fun a hF=>?_)
  refine op_gv (v := .pointer (some ⟨g101, 1, none⟩)) rfl rfl hF rfl (yf (gw_yield hF rfl rfl rfl)) (fun hg => (run_fieldAddr rfl fl37_1 (hF.ev rfl) rfl)) ?_;clear hF;intro a hF
  refine op_gv (v := .slice A1 x1.length c1) rfl rfl hF rfl (yf (gw_yield hF rfl rfl rfl)) (fun hg => (run_load1 rfl one35 ((hF.ev rfl).trans (gv_t hg)) ((S.free 0 rfl).cell rfl))) ?_;clear hF;intro a hF
  refine op_gv (v := .int .i64 (x1.length : Int)) rfl rfl hF rfl (yf (gw_yield hF rfl rfl rfl)) (fun hg => (run_lenL rfl rfl Try.underlying35 ((hF.ev rfl).trans (gv_t hg)))) ?_;clear hF;intro a hF
  refine op_gv (v := .bool (ltB 10 (x1.length : Int))) rfl rfl hF rfl (yf (gw_yield hF rfl rfl rfl)) (fun hg => (run_gtr ((hF.ev rfl).trans (gv_t hg)) rfl rfl)) ?_;clear hF;intro a hF
  refine op_val (v := .bool ((!p102) || (ltB 10 (x1.length : Int)))) rfl rfl hF rfl (run_pick_or rfl (hF.ev rfl) rfl (fun hp => ((hF.ev rfl).trans (gv_t (not_t hp))))) ?_;clear hF;intro a hF
  refine wn ?_
  cases hc103 : ((!p102) || (ltB 10 (x1.length : Int)))
  · replace hM := bif_f hc103 hM
    refine cond_f hF rfl hc103 ?_
    refine wp_skip ?_
    refine ws ?_
    revert a;refine sr (ov (v := .int .i64 0) rfl rfl rfl (fun a hF=>run_assign rfl rfl) fun a hF=>wn ?_)
    obtain ⟨o105, hM106, hM⟩ := bind_ex hM
    refine wp_cut (fun a u => ∃ (p104 : Unit), (Sum.inl p104) = o105 ∧ Fr a 56 [(2, .bool false)] ∧ St w u []) ?_ ?_
    · have _ := trivial
      refine wp_block ?_
      refine loop_gw (fun m a u => ∃ (p107 : Int), m_spec_NetValid_l1 x0 x1 m p107 = some _ ∧ Fr a 56 [(1, .pointer (some ⟨g101, 0, none⟩)), (2, .bool false), (3, .int .i64 p107)] ∧ St w u [.box g101 37 #[.int .i64 x0, .slice A1 x1.length c1]]) FUEL ⟨0, hM106, hF.keep _ ⟨rfl, rfl, rfl, trivial⟩, S.sel [0] rfl rfl⟩ ?_
      clear hF S hM106; rintro m a u ⟨p107, hM106, hF, S⟩
      rcases m with _ | f1
      · exact none_some hM106
      rw [m_spec_NetValid_l1.eq_2] at hM106
      refine ws ?_
      revert a;refine sr (mv rfl rfl (ov (v := .pointer (some ⟨g101, 1, none⟩)) rfl rfl rfl (fun a hF=>run_fieldAddr rfl fl37_1 (hF.ev rfl) rfl) (ov (v := .slice A1 x1.length c1) rfl rfl rfl (fun a hF=>run_load1 rfl one35 (hF.ev rfl) ((S.free 0 rfl).cell rfl)) (ov rfl rfl rfl (fun a hF=>run_lenL rfl rfl Try.underlying35 (hF.ev rfl)) (ov (v := .bool (ltB p107 (x1.length : Int))) rfl rfl rfl (fun a hF=>run_lss (hF.ev rfl) (hF.ev rfl) rfl) fun a hF=>wn ?_)))))
      cases hc108 : (ltB p107 (x1.length : Int))
      · replace hM106 := bif_f hc108 hM106
        refine cond_f hF rfl hc108 ?_
        refine wp_exit ?_
        repeat with_reducible (first | refine then_exit ?_ | refine in_hit ?_ | refine in_miss rfl ?_)
        obtain rfl := Option.some.inj hM106
        exact ⟨(), rfl, hF.keep _ ⟨rfl, trivial⟩, S.sel [] rfl rfl⟩
      replace hM106 := bif_t hc108 hM106
      refine cond_t hF rfl hc108 ?_
      refine wp_skip ?_
      refine ws ?_
      refine wp_block ?_
      revert a;refine sr (ov (v := .pointer (some ⟨g101, 1, none⟩)) rfl rfl rfl (fun a hF=>run_fieldAddr rfl fl37_1 (hF.ev rfl) rfl) (ov (v := .slice A1 x1.length c1) rfl rfl rfl (fun a hF=>run_load1 rfl one35 (hF.ev rfl) ((S.free 0 rfl).cell rfl)) (mv rfl rfl fun a hF=>?_)))
      obtain ⟨hk109, hM106⟩ := chk_ex hM106
      replace hk109 := ixB_t hk109
      revert a;refine ov rfl rfl rfl (fun a hF=>run_indexAddr (b := adB A1) (off := adO A1) rfl Try.underlying35 sz107 ((hF.ev rfl).trans (congrArg (fun A => Value.slice A x1.length c1) ((S.rc0 h1.rc).rd.ad (ix_pos hk109)))) (hF.ev rfl) hk109.1 hk109.2 (k' := adO A1 + p107.toNat * 3) rfl) (ov rfl rfl rfl (fun a hF=>run_loadN (cs := #[.int .i64 ((x1.getD p107.toNat ((0, 0, 0) : Int × Int × Int)).1), .int .i64 ((x1.getD p107.toNat ((0, 0, 0) : Int × Int × Int)).2.1), .int .i64 ((x1.getD p107.toNat ((0, 0, 0) : Int × Int × Int)).2.2)]) rfl ag107 (hF.ev rfl) rfl (rd_elN (l := x1) (S.rc0 h1.rc).rd rfl eLine_len ((0, 0, 0) : Int × Int × Int) (ix_ltn hk109 rfl) rfl)) fun a hF=>?_)
      refine op_new (cs := #[.int .i64 0, .int .i64 0, .int .i64 0]) rfl rfl hF rfl S (run_allocZ rfl zr107) ?_; clear hF S; intro a g110 u hF S
      refine op_do rfl rfl (run_store (cs' := #[.int .i64 ((x1.getD p107.toNat ((0, 0, 0) : Int × Int × Int)).1), .int .i64 ((x1.getD p107.toNat ((0, 0, 0) : Int × Int × Int)).2.1), .int .i64 ((x1.getD p107.toNat ((0, 0, 0) : Int × Int × Int)).2.2)]) rfl sz107 (hF.ev rfl) (hF.ev rfl) rfl rfl rfl (S.free 0 rfl) rfl rfl) ?_; replace S := S.put 0 rfl (#[.int .i64 ((x1.getD p107.toNat ((0, 0, 0) : Int × Int × Int)).1), .int .i64 ((x1.getD p107.toNat ((0, 0, 0) : Int × Int × Int)).2.1), .int .i64 ((x1.getD p107.toNat ((0, 0, 0) : Int × Int × Int)).2.2)])
      generalize World.setRow _ _ _ = u at S ⊢
      refine wn ?_
      revert a;refine sr (ov (v := .pointer (some ⟨g110, 0, none⟩)) rfl rfl rfl (fun a hF=>run_fieldAddr rfl fl107_0 (hF.ev rfl) rfl) (ov (v := .int .i64 ((x1.getD p107.toNat ((0, 0, 0) : Int × Int × Int)).1)) rfl rfl rfl (fun a hF=>run_load1 rfl one3 (hF.ev rfl) ((S.free 0 rfl).cell rfl)) (ov (v := .pointer (some ⟨g101, 0, none⟩)) rfl rfl rfl (fun a hF=>run_fieldAddr rfl fl37_0 (hF.ev rfl) rfl) (ov (v := .int .i64 x0) rfl rfl rfl (fun a hF=>run_load1 rfl one3 (hF.ev rfl) ((S.free 1 rfl).cell rfl)) (ov (v := .int .i64 (w64 (x0 - 1))) rfl rfl rfl (fun a hF=>run_sub (z := w64 (x0 - 1)) (hF.ev rfl) rfl rfl rfl) fun a hF=>?_)))))
      obtain ⟨p111, h111, hM106⟩ := bind_ex hM106
      refine op_call rfl rfl hF rfl (run_call (vs := [.int .i64 ((x1.getD p107.toNat ((0, 0, 0) : Int × Int × Int)).1), .int .i64 0, .int .i64 (w64 (x0 - 1))]) rfl rfl co22 ⟨(hF.ev rfl), rfl, (hF.ev rfl), trivial⟩) (c_spec_l1In (x0 := (x1.getD p107.toNat ((0, 0, 0) : Int × Int × Int)).1) (x1 := 0) (x2 := w64 (x0 - 1))  h111) ?_
      rintro e u ⟨rfl, T⟩
      refine ⟨_, rfl, ?_⟩
      clear hF; intro a hF
      replace S := S.call0 T; clear T
      revert a;refine ov (v := .bool (!p111)) rfl rfl rfl (fun a hF=>run_not rfl (hF.ev rfl)) (mv rfl rfl fun a hF=>?_)
      refine op_gv (v := .pointer (some ⟨g110, 1, none⟩)) rfl rfl hF rfl (yf (gw_yield hF rfl rfl rfl)) (fun hg => (run_fieldAddr rfl fl107_1 (hF.ev rfl) rfl)) ?_;clear hF;intro a hF
      refine op_gv (v := .int .i64 ((x1.getD p107.toNat ((0, 0, 0) : Int × Int × Int)).2.1)) rfl rfl hF rfl (yf (gw_yield hF rfl rfl rfl)) (fun hg => (run_load1 rfl one3 ((hF.ev rfl).trans (gv_t hg)) ((S.free 0 rfl).cell rfl))) ?_;clear hF;intro a hF
      refine op_gv (v := .pointer (some ⟨g101, 0, none⟩)) rfl rfl hF rfl (yf (gw_yield hF rfl rfl rfl)) (fun hg => (run_fieldAddr rfl fl37_0 (hF.ev rfl) rfl)) ?_;clear hF;intro a hF
      refine op_gv (v := .int .i64 x0) rfl rfl hF rfl (yf (gw_yield hF rfl rfl rfl)) (fun hg => (run_load1 rfl one3 ((hF.ev rfl).trans (gv_t hg)) ((S.free 1 rfl).cell rfl))) ?_;clear hF;intro a hF
      refine op_gv (v := .int .i64 (w64 (x0 - 1))) rfl rfl hF rfl (yf (gw_yield hF rfl rfl rfl)) (fun hg => (run_sub (z := w64 (x0 - 1)) ((hF.ev rfl).trans (gv_t hg)) rfl rfl rfl)) ?_;clear hF;intro a hF
      obtain ⟨p112, h112, hM106⟩ := bind_ex hM106
      refine op_gcall (v := .bool p112) rfl rfl hF rfl S (yf (gw_yield hF rfl rfl rfl)) (fun hg => (run_call (vs := [.int .i64 ((x1.getD p107.toNat ((0, 0, 0) : Int × Int × Int)).2.1), .int .i64 0, .int .i64 (w64 (x0 - 1))]) rfl rfl co22 ⟨((hF.ev rfl).trans (gv_t hg)), rfl, ((hF.ev rfl).trans (gv_t hg)), trivial⟩)) (fun hg => c_spec_l1In (x0 := (x1.getD p107.toNat ((0, 0, 0) : Int × Int × Int)).2.1) (x1 := 0) (x2 := w64 (x0 - 1))  (gb_t h112 hg)) ?_; clear hF S; intro a u hF S
      refine op_gv (v := .bool (!p112)) rfl rfl hF rfl (yf (gw_yield hF rfl rfl rfl)) (fun hg => (run_not rfl ((hF.ev rfl).trans (gv_t hg)))) ?_;clear hF;intro a hF
      revert a;refine ov (v := .bool ((!p111) || (!p112))) rfl rfl rfl (fun a hF=>run_pick_or rfl (hF.ev rfl) rfl (fun hp => ((hF.ev rfl).trans (gv_t (not_t hp))))) (mv rfl rfl fun a hF=>?_)
      refine op_gv (v := .pointer (some ⟨g110, 0, none⟩)) rfl rfl hF rfl (yf (gw_yield hF rfl rfl rfl)) (fun hg => (run_fieldAddr rfl fl107_0 (hF.ev rfl) rfl)) ?_;clear hF;intro a hF
      refine op_gv (v := .int .i64 ((x1.getD p107.toNat ((0, 0, 0) : Int × Int × Int)).1)) rfl rfl hF rfl (yf (gw_yield hF rfl rfl rfl)) (fun hg => (run_load1 rfl one3 ((hF.ev rfl).trans (gv_t hg)) ((S.free 0 rfl).cell rfl))) ?_;clear hF;intro a hF
      refine op_gv (v := .pointer (some ⟨g110, 1, none⟩)) rfl rfl hF rfl (yf (gw_yield hF rfl rfl rfl)) (fun hg => (run_fieldAddr rfl fl107_1 (hF.ev rfl) rfl)) ?_;clear hF;intro a hF
      refine op_gv (v := .int .i64 ((x1.getD p107.toNat ((0, 0, 0) : Int × Int × Int)).2.1)) rfl rfl hF rfl (yf (gw_yield hF rfl rfl rfl)) (fun hg => (run_load1 rfl one3 ((hF.ev rfl).trans (gv_t hg)) ((S.free 0 rfl).cell rfl))) ?_;clear hF;intro a hF
      refine op_gv (v := .bool (((x1.getD p107.toNat ((0, 0, 0) : Int × Int × Int)).1) == ((x1.getD p107.toNat ((0, 0, 0) : Int × Int × Int)).2.1))) rfl rfl hF rfl (yf (gw_yield hF rfl rfl rfl)) (fun hg => (run_eql ((hF.ev rfl).trans (gv_t hg)) ((hF.ev rfl).trans (gv_t hg)) rfl)) ?_;clear hF;intro a hF
      revert a;refine ov (v := .bool (((!p111) || (!p112)) || (((x1.getD p107.toNat ((0, 0, 0) : Int × Int × Int)).1) == ((x1.getD p107.toNat ((0, 0, 0) : Int × Int × Int)).2.1)))) rfl rfl rfl (fun a hF=>run_pick_or rfl (hF.ev rfl) rfl (fun hp => ((hF.ev rfl).trans (gv_t (not_t hp))))) (mv rfl rfl fun a hF=>?_)
      refine op_gv (v := .pointer (some ⟨g110, 2, none⟩)) rfl rfl hF rfl (yf (gw_yield hF rfl rfl rfl)) (fun hg => (run_fieldAddr rfl fl107_2 (hF.ev rfl) rfl)) ?_;clear hF;intro a hF
      refine op_gv (v := .int .i64 ((x1.getD p107.toNat ((0, 0, 0) : Int × Int × Int)).2.2)) rfl rfl hF rfl (yf (gw_yield hF rfl rfl rfl)) (fun hg => (run_load1 rfl one3 ((hF.ev rfl).trans (gv_t hg)) ((S.free 0 rfl).cell rfl))) ?_;clear hF;intro a hF
      obtain ⟨p113, h113, hM106⟩ := bind_ex hM106
      refine op_gcall (v := .bool p113) rfl rfl hF rfl S (yf (gw_yield hF rfl rfl rfl)) (fun hg => (run_call (vs := [.int .i64 ((x1.getD p107.toNat ((0, 0, 0) : Int × Int × Int)).2.2), .int .i64 1, .int .i64 999]) rfl rfl co22 ⟨((hF.ev rfl).trans (gv_t hg)), rfl, rfl, trivial⟩)) (fun hg => c_spec_l1In (x0 := (x1.getD p107.toNat ((0, 0, 0) : Int × Int × Int)).2.2) (x1 := 1) (x2 := 999)  (gb_t h113 hg)) ?_; clear hF S; intro a u hF S
      refine op_gv (v := .bool (!p113)) rfl rfl hF rfl (yf (gw_yield hF rfl rfl rfl)) (fun hg => (run_not rfl ((hF.ev rfl).trans (gv_t hg)))) ?_;clear hF;intro a hF
      refine op_val (v := .bool ((((!p111) || (!p112)) || (((x1.getD p107.toNat ((0, 0, 0) : Int × Int × Int)).1) == ((x1.getD p107.toNat ((0, 0, 0) : Int × Int × Int)).2.1))) || (!p113))) rfl rfl hF rfl (run_pick_or rfl (hF.ev rfl) rfl (fun hp => ((hF.ev rfl).trans (gv_t (not_t hp))))) ?_;clear hF;intro a hF
      refine wn ?_
      cases hc114 : ((((!p111) || (!p112)) || (((x1.getD p107.toNat ((0, 0, 0) : Int × Int × Int)).1) == ((x1.getD p107.toNat ((0, 0, 0) : Int × Int × Int)).2.1))) || (!p113))
      · replace hM106 := bif_f hc114 hM106
        refine cond_f hF rfl hc114 ?_
        refine wp_skip ?_
        revert a;refine rl (mv rfl rfl (ov (v := .int .i64 (w64 (p107 + 1))) rfl rfl rfl (fun a hF=>run_add (z := w64 (p107 + 1)) (hF.ev rfl) rfl rfl rfl) (ag rfl rfl fun a hF=>wn ?_)))
        exact ⟨f1, Nat.lt_succ_self _, w64 (p107 + 1), hM106, hF.keep _ ⟨rfl, rfl, rfl, trivial⟩, S.sel [1] rfl rfl⟩
      replace hM106 := bif_t hc114 hM106
      refine cond_t hF rfl hc114 ?_
      revert a;refine sr (ov (v := .bool false) rfl rfl rfl (fun a hF=>run_assign rfl rfl) fun a hF=>wn ?_)
      refine wp_ret ?_
      repeat with_reducible first|refine tr ?_|refine ir ?_|refine nr ?_
      refine ret1_gw (.inl rfl) hF rfl (res_tmp (hF.ev rfl)) ?_
      obtain rfl := Option.some.inj hM106
      obtain rfl := Option.some.inj hM
      exact ⟨rfl, S.sel [] rfl rfl⟩
    rintro a u ⟨p104, rfl, hF, S⟩
    replace hM := elim_l hM
    revert a;refine sr (ov (v := .bool true) rfl rfl rfl (fun a hF=>run_assign rfl rfl) fun a hF=>wn ?_)
    refine wp_ret ?_
    repeat with_reducible first|refine tr ?_|refine ir ?_|refine nr ?_
    refine ret1_gw (.inl rfl) hF rfl (res_tmp (hF.ev rfl)) ?_
    obtain rfl := Option.some.inj hM
    exact ⟨rfl, S.sel [] rfl rfl⟩
  replace hM := bif_t hc103 hM
  refine cond_t hF rfl hc103 ?_
  revert a;refine sr (ov (v := .bool false) rfl rfl rfl (fun a hF=>run_assign rfl rfl) fun a hF=>wn ?_)
  refine wp_ret ?_
  repeat with_reducible first|refine tr ?_|refine ir ?_|refine nr ?_
  refine ret1_gw (.inl rfl) hF rfl (res_tmp (hF.ev rfl)) ?_
  obtain rfl := Option.some.inj hM
  exact ⟨rfl, S.sel [] rfl rfl⟩
theorem c_spec_BusesValid {x0 : Int} {x1 : List (Int × Int × Int)} {x2 : List (Int × Int)} {A1 : Option Addr} {n1 c1 : Nat} {A2 : Option Addr} {n2 c2 : Nat} {w : World} {r : Bool} (h1 : Rt w 3 eLine A1 n1 c1 x1) (h2 : Rt w 2 eBus A2 n2 c2 x2) (hM : m_spec_BusesValid x0 x1 x2 = some r) :
    Calls Try.prog 20 #[.agg #[.int .i64 x0, .slice A1 n1 c1], .slice A2 n2 c2] w (fun e w' => e = .returned (.bool r) ∧ St w w' []) := by
  obtain rfl := h1.len
  obtain rfl := h2.len
  unfold m_spec_BusesValid at hM
  refine calls_gw Try.func20 Try.ntmps20 rfl [(0, .agg #[.int .i64 x0, .slice A1 x1.length c1]), (1, .slice A2 x2.length c2)] ⟨rfl, rfl, trivial⟩ rfl ?_
  intro a hF
  have S := St.nil w
  refine wsg ?_
  refine op_new (cs := #[.int .i64 x0, .slice A1 x1.length c1]) rfl rfl hF rfl S (run_box rfl (hF.ev rfl) rfl) ?_; clear hF S; intro a g101 u hF S
  refine op_val (v := .bool false) rfl rfl hF rfl (run_assign rfl rfl) ?_;clear hF;intro a hF
  refine wn ?_
  refine ws ?_
  revert a;refine sr (ov (v := .int .i64 0) rfl rfl rfl (fun a hF=>run_assign rfl rfl) fun a hF=>wn ?_)
  obtain ⟨o103, hM104, hM⟩ := bind_ex hM
  refine wp_cut (fun a u => ∃ (p102 : Unit), (Sum.inl p102) = o103 ∧ Fr a 37 [(1, .slice A2 x2.length c2), (2, .pointer (some ⟨g101, 0, none⟩)), (4, .bool false)] ∧ St w u [.box g101 37 #[.int .i64 x0, .slice A1 x1.length c1]]) ?_ ?_
  · have _ := trivial
    refine wp_block ?_
    refine loop_gw (fun m a u => ∃ (p105 : Int), m_spec_BusesValid_l1 x2 m p105 = some _ ∧ Fr a 37 [(1, .slice A2 x2.length c2), (2, .pointer (some ⟨g101, 0, none⟩)), (4, .bool false), (5, .int .i64 p105)] ∧ St w u [.box g101 37 #[.int .i64 x0, .slice A1 x1.length c1]]) FUEL ⟨0, hM104, hF.keep _ ⟨rfl, rfl, rfl, rfl, trivial⟩, S.sel [0] rfl rfl⟩ ?_
    clear hF S hM104; rintro m a u ⟨p105, hM104, hF, S⟩
    rcases m with _ | f1
    · exact none_some hM104
    rw [m_spec_BusesValid_l1.eq_2] at hM104
    refine ws ?_
    revert a;refine sr (mv rfl rfl (mv rfl rfl (ov rfl rfl rfl (fun a hF=>run_lenL rfl rfl Try.underlying38 (hF.ev rfl)) (ov (v := .bool (ltB p105 (x2.length : Int))) rfl rfl rfl (fun a hF=>run_lss (hF.ev rfl) (hF.ev rfl) rfl) fun a hF=>wn ?_))))
    cases hc106 : (ltB p105 (x2.length : Int))
    · replace hM104 := bif_f hc106 hM104
      refine cond_f hF rfl hc106 ?_
      refine wp_exit ?_
      repeat with_reducible (first | refine then_exit ?_ | refine in_hit ?_ | refine in_miss rfl ?_)
      obtain rfl := Option.some.inj hM104
      exact ⟨(), rfl, hF.keep _ ⟨rfl, rfl, rfl, trivial⟩, S.sel [0] rfl rfl⟩
    replace hM104 := bif_t hc106 hM104
    refine cond_t hF rfl hc106 ?_
    refine wp_skip ?_
    refine ws ?_
    refine wp_block ?_
    revert a;refine sr (mv rfl rfl (mv rfl rfl fun a hF=>?_))
    obtain ⟨hk107, hM104⟩ := chk_ex hM104
    replace hk107 := ixB_t hk107
    revert a;refine ov rfl rfl rfl (fun a hF=>run_indexAddr (b := adB A2) (off := adO A2) rfl Try.underlying38 sz69 ((hF.ev rfl).trans (congrArg (fun A => Value.slice A x2.length c2) ((S.rc0 h2.rc).rd.ad (ix_pos hk107)))) (hF.ev rfl) hk107.1 hk107.2 (k' := adO A2 + p105.toNat * 2) rfl) (ov (v := .pointer (some ⟨adB A2, adO A2 + p105.toNat * 2, none⟩)) rfl rfl rfl (fun a hF=>run_fieldAddr rfl fl69_0 (hF.ev rfl) rfl) (ov (v := .int .i64 ((x2.getD p105.toNat ((0, 0) : Int × Int)).1)) rfl rfl rfl (fun a hF=>run_load1 rfl one3 (hF.ev rfl) (rd_el0 (l := x2) (S.rc0 h2.rc).rd rfl eBus_len ((0, 0) : Int × Int) (ix_ltn hk107 rfl) rfl)) fun a hF=>?_))
    obtain ⟨p108, h108, hM104⟩ := bind_ex hM104
    refine op_call rfl rfl hF rfl (run_call (vs := [.int .i64 ((x2.getD p105.toNat ((0, 0) : Int × Int)).1), .int .i64 0, .int .i64 999]) rfl rfl co22 ⟨(hF.ev rfl), rfl, rfl, trivial⟩) (c_spec_l1In (x0 := (x2.getD p105.toNat ((0, 0) : Int × Int)).1) (x1 := 0) (x2 := 999)  h108) ?_
    rintro e u ⟨rfl, T⟩
    refine ⟨_, rfl, ?_⟩
    clear hF; intro a hF
    replace S := S.call0 T; clear T
    revert a;refine ov (v := .bool (!p108)) rfl rfl rfl (fun a hF=>run_not rfl (hF.ev rfl)) (mv rfl rfl fun a hF=>?_)
    refine op_gv (v := .slice A2 x2.length c2) rfl rfl hF rfl (yf (gw_yield hF rfl rfl rfl)) (fun hg => (run_move rfl (hF.ev rfl))) ?_;clear hF;intro a hF
    refine op_gv (v := .int .i64 p105) rfl rfl hF rfl (yf (gw_yield hF rfl rfl rfl)) (fun hg => (run_move rfl (hF.ev rfl))) ?_;clear hF;intro a hF
    obtain ⟨hk109, hM104⟩ := chk_ex hM104
    replace hk109 := fun hg => ixB_t (imp_t hk109 hg)
    refine op_gv (v := .pointer (some ⟨adB A2, adO A2 + p105.toNat * 2, none⟩)) rfl rfl hF rfl (yf (gw_yield hF rfl rfl rfl)) (fun hg => (run_indexAddr (b := adB A2) (off := adO A2) rfl Try.underlying38 sz69 (((hF.ev rfl).trans (gv_t hg)).trans (congrArg (fun A => Value.slice A x2.length c2) ((S.rc0 h2.rc).rd.ad (ix_pos (hk109 hg))))) ((hF.ev rfl).trans (gv_t hg)) (hk109 hg).1 (hk109 hg).2 (k' := adO A2 + p105.toNat * 2) rfl)) ?_;clear hF;intro a hF
    refine op_gv (v := .pointer (some ⟨adB A2, adO A2 + p105.toNat * 2 + 1, none⟩)) rfl rfl hF rfl (yf (gw_yield hF rfl rfl rfl)) (fun hg => (run_fieldAddr rfl fl69_1 ((hF.ev rfl).trans (gv_t hg)) rfl)) ?_;clear hF;intro a hF
    refine op_gv (v := .int .i64 ((x2.getD p105.toNat ((0, 0) : Int × Int)).2)) rfl rfl hF rfl (yf (gw_yield hF rfl rfl rfl)) (fun hg => (run_load1 rfl one3 ((hF.ev rfl).trans (gv_t hg)) (rd_el (l := x2) (S.rc0 h2.rc).rd rfl eBus_len ((0, 0) : Int × Int) (ix_ltn (hk109 hg) rfl) rfl))) ?_;clear hF;intro a hF
    obtain ⟨p110, h110, hM104⟩ := bind_ex hM104
    refine op_gcall (v := .bool p110) rfl rfl hF rfl S (yf (gw_yield hF rfl rfl rfl)) (fun hg => (run_call (vs := [.int .i64 ((x2.getD p105.toNat ((0, 0) : Int × Int)).2), .int .i64 0, .int .i64 999]) rfl rfl co22 ⟨((hF.ev rfl).trans (gv_t hg)), rfl, rfl, trivial⟩)) (fun hg => c_spec_l1In (x0 := (x2.getD p105.toNat ((0, 0) : Int × Int)).2) (x1 := 0) (x2 := 999)  (gb_t h110 hg)) ?_; clear hF S; intro a u hF S
    refine op_gv (v := .bool (!p110)) rfl rfl hF rfl (yf (gw_yield hF rfl rfl rfl)) (fun hg => (run_not rfl ((hF.ev rfl).trans (gv_t hg)))) ?_;clear hF;intro a hF
    refine op_val (v := .bool ((!p108) || (!p110))) rfl rfl hF rfl (run_pick_or rfl (hF.ev rfl) rfl (fun hp => ((hF.ev rfl).trans (gv_t (not_t hp))))) ?_;clear hF;intro a hF
    refine wn ?_
    cases hc111 : ((!p108) || (!p110))
    · replace hM104 := bif_f hc111 hM104
      refine cond_f hF rfl hc111 ?_
      refine wp_skip ?_
      revert a;refine rl (mv rfl rfl (ov (v := .int .i64 (w64 (p105 + 1))) rfl rfl rfl (fun a hF=>run_add (z := w64 (p105 + 1)) (hF.ev rfl) rfl rfl rfl) (ag rfl rfl fun a hF=>wn ?_)))
      exact ⟨f1, Nat.lt_succ_self _, w64 (p105 + 1), hM104, hF.keep _ ⟨rfl, rfl, rfl, rfl, trivial⟩, S.sel [0] rfl rfl⟩
    replace hM104 := bif_t hc111 hM104
    refine cond_t hF rfl hc111 ?_
    revert a;refine sr (ov (v := .bool false) rfl rfl rfl (fun a hF=>run_assign rfl rfl) fun a hF=>wn ?_)
    refine wp_ret ?_
    repeat with_reducible first|refine tr ?_|refine ir ?_|refine nr ?_
    refine ret1_gw (.inl rfl) hF rfl (res_tmp (hF.ev rfl)) ?_
    obtain rfl := Option.some.inj hM104
    obtain rfl := Option.some.inj hM
    exact ⟨rfl, S.sel [] rfl rfl⟩
  rintro a u ⟨p102, rfl, hF, S⟩
  replace hM := elim_l hM
  revert a;refine sr (ov rfl rfl rfl (fun a hF=>run_loadN rfl ag37 (hF.ev rfl) rfl ((S.free 0 rfl).cells 0 #[.int .i64 x0, .slice A1 x1.length c1] rfl)) fun a hF=>?_)
  obtain ⟨p112, h112, hM⟩ := bind_ex hM
  refine op_call rfl rfl hF rfl (run_call (vs := [.agg #[.int .i64 x0, .slice A1 x1.length c1]]) rfl rfl co45 ⟨(hF.ev rfl), trivial⟩) (c_spec_NetValid (x0 := x0) (x1 := x1) ⟨(S.rc0 h1.rc), rfl⟩ h112) ?_
  rintro e u ⟨rfl, T⟩
  refine ⟨_, rfl, ?_⟩
  clear hF; intro a hF
  replace S := S.call0 T; clear T
  refine op_val (v := .bool p112) rfl rfl hF rfl (run_move rfl (hF.ev rfl)) ?_;clear hF;intro a hF
  refine op_gv (v := .slice A2 x2.length c2) rfl rfl hF rfl (yt (gw_yield hF rfl rfl rfl)) (fun hg => (run_move rfl (hF.ev rfl))) ?_;clear hF;intro a hF
  refine op_gv (v := .int .i64 (x2.length : Int)) rfl rfl hF rfl (yt (gw_yield hF rfl rfl rfl)) (fun hg => (run_lenL rfl rfl Try.underlying38 ((hF.ev rfl).trans (gv_t hg)))) ?_;clear hF;intro a hF
  refine op_gv (v := .pointer (some ⟨g101, 0, none⟩)) rfl rfl hF rfl (yt (gw_yield hF rfl rfl rfl)) (fun hg => (run_fieldAddr rfl fl37_0 (hF.ev rfl) rfl)) ?_;clear hF;intro a hF
  refine op_gv (v := .int .i64 x0) rfl rfl hF rfl (yt (gw_yield hF rfl rfl rfl)) (fun hg => (run_load1 rfl one3 ((hF.ev rfl).trans (gv_t hg)) ((S.free 0 rfl).cell rfl))) ?_;clear hF;intro a hF
  refine op_gv (v := .bool ((x2.length : Int) == x0)) rfl rfl hF rfl (yt (gw_yield hF rfl rfl rfl)) (fun hg => (run_eql ((hF.ev rfl).trans (gv_t hg)) ((hF.ev rfl).trans (gv_t hg)) rfl)) ?_;clear hF;intro a hF
  revert a;refine ov (v := .bool (p112 && ((x2.length : Int) == x0))) rfl rfl rfl (fun a hF=>run_pick_and rfl (hF.ev rfl) (fun hp => ((hF.ev rfl).trans (gv_t hp))) rfl) (ag rfl rfl fun a hF=>wn ?_)
  refine wp_ret ?_
  repeat with_reducible first|refine tr ?_|refine ir ?_|refine nr ?_
  refine ret1_gw (.inl rfl) hF rfl (res_tmp (hF.ev rfl)) ?_
  obtain rfl := Option.some.inj hM
  exact ⟨rfl, S.sel [] rfl rfl⟩
theorem c_spec_l12Find {x0 : List (Int × Int)} {x1 : Int} {x2 : Int} {A0 : Option Addr} {n0 c0 : Nat} {w : World} {r : Int} (h0 : Rt w 2 ePermit A0 n0 c0 x0) (hM : m_spec_l12Find x0 x1 x2 = some r) :
    Calls Try.prog 46 #[.slice A0 n0 c0, .agg #[.int .i64 x1, .int .i64 x2]] w (fun e w' => e = .returned (.int .i64 r) ∧ St w w' []) := by
  obtain rfl := h0.len
  unfold m_spec_l12Find at hM
  refine calls_gw Try.func46 Try.ntmps46 rfl [(0, .slice A0 x0.length c0), (1, .agg #[.int .i64 x1, .int .i64 x2])] ⟨rfl, rfl, trivial⟩ rfl ?_
  intro a hF
  have S := St.nil w
  refine wsg ?_
  refine op_new (cs := #[.int .i64 x1, .int .i64 x2]) rfl rfl hF rfl S (run_box rfl (hF.ev rfl) rfl) ?_; clear hF S; intro a g101 u hF S
  refine op_val (v := .int .i64 0) rfl rfl hF rfl (run_assign rfl rfl) ?_;clear hF;intro a hF
  refine wn ?_
  refine ws ?_
  revert a;refine sr (ov (v := .int .i64 0) rfl rfl rfl (fun a hF=>run_assign rfl rfl) fun a hF=>wn ?_)
  obtain ⟨o103, hM104, hM⟩ := bind_ex hM
  refine wp_cut (fun a u => ∃ (p102 : Unit), (Sum.inl p102) = o103 ∧ Fr a 19 [(4, .int .i64 0)] ∧ St w u []) ?_ ?_
  · have _ := trivial
    refine wp_block ?_
    refine loop_gw (fun m a u => ∃ (p105 : Int), m_spec_l12Find_l1 x0 x1 x2 m p105 = some _ ∧ Fr a 19 [(0, .slice A0 x0.length c0), (3, .pointer (some ⟨g101, 0, none⟩)), (4, .int .i64 0), (5, .int .i64 p105)] ∧ St w u [.box g101 78 #[.int .i64 x1, .int .i64 x2]]) FUEL ⟨0, hM104, hF.keep _ ⟨rfl, rfl, rfl, rfl, trivial⟩, S.sel [0] rfl rfl⟩ ?_
    clear hF S hM104; rintro m a u ⟨p105, hM104, hF, S⟩
    rcases m with _ | f1
    · exact none_some hM104
    rw [m_spec_l12Find_l1.eq_2] at hM104
    refine ws ?_
    revert a;refine sr (mv rfl rfl (mv rfl rfl (ov rfl rfl rfl (fun a hF=>run_lenL rfl rfl Try.underlying39 (hF.ev rfl)) (ov (v := .bool (ltB p105 (x0.length : Int))) rfl rfl rfl (fun a hF=>run_lss (hF.ev rfl) (hF.ev rfl) rfl) fun a hF=>wn ?_))))
    cases hc106 : (ltB p105 (x0.length : Int))
    · replace hM104 := bif_f hc106 hM104
      refine cond_f hF rfl hc106 ?_
      refine wp_exit ?_
      repeat with_reducible (first | refine then_exit ?_ | refine in_hit ?_ | refine in_miss rfl ?_)
      obtain rfl := Option.some.inj hM104
      exact ⟨(), rfl, hF.keep _ ⟨rfl, trivial⟩, S.sel [] rfl rfl⟩
    replace hM104 := bif_t hc106 hM104
    refine cond_t hF rfl hc106 ?_
    refine wp_skip ?_
    refine ws ?_
    refine wp_block ?_
    refine ws ?_
    obtain ⟨hk107, hM104⟩ := chk_ex hM104
    replace hk107 := ixB_t hk107
    refine region_gw (D := [12, 13, 14, 15, 16, 17]) (Lr := [.box g101 78 #[.int .i64 x1, .int .i64 x2]]) (deps := (fun | 0 => [12] | 1 => [13] | 2 => [14] | 3 => [15] | 4 => [16] | 5 => [17] | _ => [])) (rd := (fun _ => [])) (zr := (fun _ => []))
      (φ := fun i vs => match i, vs with | 0, [v12] => v12 = .slice A0 x0.length c0 | 1, [v13] => v13 = .int .i64 p105 | 2, [v14] => v14 = .pointer (some ⟨adB A0, adO A0 + p105.toNat * 2, none⟩) | 3, [v15] => v15 = .agg #[.int .i64 ((x0.getD p105.toNat ((0, 0) : Int × Int)).1), .int .i64 ((x0.getD p105.toNat ((0, 0) : Int × Int)).2)] | 4, [v16] => v16 = .agg #[.int .i64 x1, .int .i64 x2] | 5, [v17] => v17 = .bool ((((x0.getD p105.toNat ((0, 0) : Int × Int)).1) == x1) && (((x0.getD p105.toNat ((0, 0) : Int × Int)).2) == x2)) | _, _ => True)
      (C := fun _ _ => [])
      (κ := (fun _ => none)) (Z := (fun _ => [])) mixed hF (by kernel_rfl) S ?_ ?_
    · refine ⟨?_, ?_, ?_, ?_, ?_, ?_, trivial⟩
      · intro a u X hB hu hp hr hz hl S
        replace S : St w u ([] ++ X) := S
        exact .inl ⟨rfl, .slice A0 x0.length c0, u, (run_move rfl (hF.evB hB rfl rfl)), rfl, S⟩
      · intro a u X hB hu hp hr hz hl S
        replace S : St w u ([] ++ X) := S
        exact .inl ⟨rfl, .int .i64 p105, u, (run_move rfl (hF.evB hB rfl rfl)), rfl, S⟩
      · intro a u X hB hu hp hr hz hl S
        replace S : St w u ([] ++ X) := S
        have e12 : sl a 12 = .slice A0 x0.length c0 := hp 0 rfl
        have e13 : sl a 13 = .int .i64 p105 := hp 1 rfl
        exact .inl ⟨rfl, .pointer (some ⟨adB A0, adO A0 + p105.toNat * 2, none⟩), u, (run_indexAddr (b := adB A0) (off := adO A0) rfl Try.underlying39 sz78 ((ev_sl e12).trans (congrArg (fun A => Value.slice A x0.length c0) ((S.rc0 h0.rc).rd.ad (ix_pos hk107)))) (ev_sl e13) hk107.1 hk107.2 (k' := adO A0 + p105.toNat * 2) rfl), rfl, S⟩
      · intro a u X hB hu hp hr hz hl S
        replace S : St w u ([] ++ X) := S
        have e14 : sl a 14 = .pointer (some ⟨adB A0, adO A0 + p105.toNat * 2, none⟩) := hp 2 rfl
        exact .inl ⟨rfl, .agg #[.int .i64 ((x0.getD p105.toNat ((0, 0) : Int × Int)).1), .int .i64 ((x0.getD p105.toNat ((0, 0) : Int × Int)).2)], u, (run_loadN (cs := #[.int .i64 ((x0.getD p105.toNat ((0, 0) : Int × Int)).1), .int .i64 ((x0.getD p105.toNat ((0, 0) : Int × Int)).2)]) rfl ag78 (ev_sl e14) rfl (rd_elN (l := x0) (S.rc0 h0.rc).rd rfl ePermit_len ((0, 0) : Int × Int) (ix_ltn hk107 rfl) rfl)), rfl, S⟩
      · intro a u X hB hu hp hr hz hl S
        replace S : St w u ([] ++ X) := S
        exact .inl ⟨rfl, .agg #[.int .i64 x1, .int .i64 x2], u, (run_loadN rfl ag78 (hF.evB hB rfl rfl) rfl ((gr_box S hl 0 rfl).cells 0 #[.int .i64 x1, .int .i64 x2] rfl)), rfl, S⟩
      intro a u X hB hu hp hr hz hl S
      replace S : St w u ([] ++ X) := S
      have e15 : sl a 15 = .agg #[.int .i64 ((x0.getD p105.toNat ((0, 0) : Int × Int)).1), .int .i64 ((x0.getD p105.toNat ((0, 0) : Int × Int)).2)] := hp 3 rfl
      have e16 : sl a 16 = .agg #[.int .i64 x1, .int .i64 x2] := hp 4 rfl
      exact .inl ⟨rfl, .bool ((((x0.getD p105.toNat ((0, 0) : Int × Int)).1) == x1) && (((x0.getD p105.toNat ((0, 0) : Int × Int)).2) == x2)), u, (run_eqlA (ev_sl e15) (ev_sl e16) rfl eg78 eq78), rfl, S⟩
    intro a u hB hp S
    obtain ⟨q0, q1, q2, q3, q4, q5, -⟩ := hp
    have e12 : sl a 12 = .slice A0 x0.length c0 := q0
    have e13 : sl a 13 = .int .i64 p105 := q1
    have e14 : sl a 14 = .pointer (some ⟨adB A0, adO A0 + p105.toNat * 2, none⟩) := q2
    have e15 : sl a 15 = .agg #[.int .i64 ((x0.getD p105.toNat ((0, 0) : Int × Int)).1), .int .i64 ((x0.getD p105.toNat ((0, 0) : Int × Int)).2)] := q3
    have e16 : sl a 16 = .agg #[.int .i64 x1, .int .i64 x2] := q4
    have e17 : sl a 17 = .bool ((((x0.getD p105.toNat ((0, 0) : Int × Int)).1) == x1) && (((x0.getD p105.toNat ((0, 0) : Int × Int)).2) == x2)) := q5
    replace S : St w u [.box g101 78 #[.int .i64 x1, .int .i64 x2]] := S
    clear q0 q1 q2 q3 q4 q5
    have hF := hF.region hB [(12, .slice A0 x0.length c0), (13, .int .i64 p105), (14, .pointer (some ⟨adB A0, adO A0 + p105.toNat * 2, none⟩)), (15, .agg #[.int .i64 ((x0.getD p105.toNat ((0, 0) : Int × Int)).1), .int .i64 ((x0.getD p105.toNat ((0, 0) : Int × Int)).2)]), (16, .agg #[.int .i64 x1, .int .i64 x2]), (17, .bool ((((x0.getD p105.toNat ((0, 0) : Int × Int)).1) == x1) && (((x0.getD p105.toNat ((0, 0) : Int × Int)).2) == x2)))] (allSl_mem ⟨e12, e13, e14, e15, e16, e17, trivial⟩) rfl
    clear hB e12 e13 e14 e15 e16 e17
    cases hc108 : ((((x0.getD p105.toNat ((0, 0) : Int × Int)).1) == x1) && (((x0.getD p105.toNat ((0, 0) : Int × Int)).2) == x2))
    · replace hM104 := bif_f hc108 hM104
      refine cond_f hF rfl hc108 ?_
      refine wp_skip ?_
      revert a;refine rl (mv rfl rfl (ov (v := .int .i64 (w64 (p105 + 1))) rfl rfl rfl (fun a hF=>run_add (z := w64 (p105 + 1)) (hF.ev rfl) rfl rfl rfl) (ag rfl rfl fun a hF=>wn ?_)))
      exact ⟨f1, Nat.lt_succ_self _, w64 (p105 + 1), hM104, hF.keep _ ⟨rfl, rfl, rfl, rfl, trivial⟩, S.sel [0] rfl rfl⟩
    replace hM104 := bif_t hc108 hM104
    refine cond_t hF rfl hc108 ?_
    revert a;refine sr (mv rfl rfl (ag rfl rfl fun a hF=>wn ?_))
    refine wp_ret ?_
    repeat with_reducible first|refine tr ?_|refine ir ?_|refine nr ?_
    refine ret1_gw (.inl rfl) hF rfl (res_tmp (hF.ev rfl)) ?_
    obtain rfl := Option.some.inj hM104
    obtain rfl := Option.some.inj hM
    exact ⟨rfl, S.sel [] rfl rfl⟩
  rintro a u ⟨p102, rfl, hF, S⟩
  replace hM := elim_l hM
  revert a;refine sr (ov (v := .int .i64 (-1)) rfl rfl rfl (fun a hF=>run_assign rfl rfl) fun a hF=>wn ?_)
  refine wp_ret ?_
  repeat with_reducible first|refine tr ?_|refine ir ?_|refine nr ?_
  refine ret1_gw (.inl rfl) hF rfl (res_tmp (hF.ev rfl)) ?_
  obtain rfl := Option.some.inj hM
  exact ⟨rfl, S.sel [] rfl rfl⟩
theorem c_spec_WorkValid {x0 : List Bool} {x1 : List Bool} {x2 : List (Int × Int)} {A0 : Option Addr} {n0 c0 : Nat} {A1 : Option Addr} {n1 c1 : Nat} {A2 : Option Addr} {n2 c2 : Nat} {w : World} {r : Bool} (h0 : Rt w 1 eB A0 n0 c0 x0) (h1 : Rt w 1 eB A1 n1 c1 x1) (h2 : Rt w 2 ePermit A2 n2 c2 x2) (hM : m_spec_WorkValid x0 x1 x2 = some r) :
    Calls Try.prog 21 #[.agg #[.slice A0 n0 c0, .slice A1 n1 c1, .slice A2 n2 c2]] w (fun e w' => e = .returned (.bool r) ∧ St w w' []) := by
  obtain rfl := h0.len
  obtain rfl := h1.len
  obtain rfl := h2.len
  unfold m_spec_WorkValid at hM
  refine calls_gw Try.func21 Try.ntmps21 rfl [(0, .agg #[.slice A0 x0.length c0, .slice A1 x1.length c1, .slice A2 x2.length c2])] ⟨rfl, trivial⟩ rfl ?_
  intro a hF
  have S := St.nil w
  refine wsg ?_
  refine op_new (cs := #[.slice A0 x0.length c0, .slice A1 x1.length c1, .slice A2 x2.length c2]) rfl rfl hF rfl S (run_box rfl (hF.ev rfl) rfl) ?_; clear hF S; intro a g101 u hF S
  refine op_val (v := .bool false) rfl rfl hF rfl (run_assign rfl rfl) ?_;clear hF;intro a hF
  refine wn ?_
  refine ws ?_
  revert a;refine sr (ov (v := .pointer (some ⟨g101, 0, none⟩)) rfl rfl rfl (fun a hF=>run_fieldAddr rfl fl41_0 (hF.ev rfl) rfl) (ov (v := .slice A0 x0.length c0) rfl rfl rfl (fun a hF=>run_load1 rfl one26 (hF.ev rfl) ((S.free 0 rfl).cell rfl)) (ov rfl rfl rfl (fun a hF=>run_lenL rfl rfl Try.underlying26 (hF.ev rfl)) fun a hF=>?_)))
  obtain ⟨p102, h102, hM⟩ := bind_ex hM
  refine op_call rfl rfl hF rfl (run_call (vs := [.int .i64 (x0.length : Int), .int .i64 1, .int .i64 10]) rfl rfl co22 ⟨(hF.ev rfl), rfl, rfl, trivial⟩) (c_spec_l1In (x0 := (x0.length : Int)) (x1 := 1) (x2 := 10)  h102) ?_
  rintro e u ⟨rfl, T⟩
  refine ⟨_, rfl, ?_⟩
  clear hF; intro a hF
  replace S := S.call0 T; clear T
  revert a;refine ov (v := .bool (!p102)) rfl rfl rfl (fun a hF=>run_not rfl (hF.ev rfl)) (mv rfl rfl fun a hF=>?_)
  refine op_gv (v := .pointer (some ⟨g101, 0, none⟩)) rfl rfl hF rfl (yf (gw_yield hF rfl rfl rfl)) (fun hg => (run_fieldAddr rfl fl41_0 (hF.ev rfl) rfl)) ?_;clear hF;intro a hF
  refine op_gv (v := .slice A0 x0.length c0) rfl rfl hF rfl (yf (gw_yield hF rfl rfl rfl)) (fun hg => (run_load1 rfl one26 ((hF.ev rfl).trans (gv_t hg)) ((S.free 0 rfl).cell rfl))) ?_;clear hF;intro a hF
  refine op_gv (v := .int .i64 (x0.length : Int)) rfl rfl hF rfl (yf (gw_yield hF rfl rfl rfl)) (fun hg => (run_lenL rfl rfl Try.underlying26 ((hF.ev rfl).trans (gv_t hg)))) ?_;clear hF;intro a hF
  refine op_gv (v := .pointer (some ⟨g101, 1, none⟩)) rfl rfl hF rfl (yf (gw_yield hF rfl rfl rfl)) (fun hg => (run_fieldAddr rfl fl41_1 (hF.ev rfl) rfl)) ?_;clear hF;intro a hF
  refine op_gv (v := .slice A1 x1.length c1) rfl rfl hF rfl (yf (gw_yield hF rfl rfl rfl)) (fun hg => (run_load1 rfl one26 ((hF.ev rfl).trans (gv_t hg)) ((S.free 0 rfl).cell rfl))) ?_;clear hF;intro a hF
  refine op_gv (v := .int .i64 (x1.length : Int)) rfl rfl hF rfl (yf (gw_yield hF rfl rfl rfl)) (fun hg => (run_lenL rfl rfl Try.underlying26 ((hF.ev rfl).trans (gv_t hg)))) ?_;clear hF;intro a hF
  refine op_gv (v := .bool ((x0.length : Int) != (x1.length : Int))) rfl rfl hF rfl (yf (gw_yield hF rfl rfl rfl)) (fun hg => (run_neq ((hF.ev rfl).trans (gv_t hg)) ((hF.ev rfl).trans (gv_t hg)) rfl)) ?_;clear hF;intro a hF
  revert a;refine ov (v := .bool ((!p102) || ((x0.length : Int) != (x1.length : Int)))) rfl rfl rfl (fun a hF=>run_pick_or rfl (hF.ev rfl) rfl (fun hp => ((hF.ev rfl).trans (gv_t (not_t hp))))) (mv rfl rfl fun a hF=>?_)
  refine op_gv (v := .pointer (some ⟨g101, 2, none⟩)) rfl rfl hF rfl (yf (gw_yield hF rfl rfl rfl)) (fun hg => (run_fieldAddr rfl fl41_2 (hF.ev rfl) rfl)) ?_;clear hF;intro a hF
  refine op_gv (v := .slice A2 x2.length c2) rfl rfl hF rfl (yf (gw_yield hF rfl rfl rfl)) (fun hg => (run_load1 rfl one39 ((hF.ev rfl).trans (gv_t hg)) ((S.free 0 rfl).cell rfl))) ?_;clear hF;intro a hF
  refine op_gv (v := .int .i64 (x2.length : Int)) rfl rfl hF rfl (yf (gw_yield hF rfl rfl rfl)) (fun hg => (run_lenL rfl rfl Try.underlying39 ((hF.ev rfl).trans (gv_t hg)))) ?_;clear hF;intro a hF
  refine op_gv (v := .bool (ltB 6 (x2.length : Int))) rfl rfl hF rfl (yf (gw_yield hF rfl rfl rfl)) (fun hg => (run_gtr ((hF.ev rfl).trans (gv_t hg)) rfl rfl)) ?_;clear hF;intro a hF
  refine op_val (v := .bool (((!p102) || ((x0.length : Int) != (x1.length : Int))) || (ltB 6 (x2.length : Int)))) rfl rfl hF rfl (run_pick_or rfl (hF.ev rfl) rfl (fun hp => ((hF.ev rfl).trans (gv_t (not_t hp))))) ?_;clear hF;intro a hF
  refine wn ?_
  cases hc103 : (((!p102) || ((x0.length : Int) != (x1.length : Int))) || (ltB 6 (x2.length : Int)))
  · replace hM := bif_f hc103 hM
    refine cond_f hF rfl hc103 ?_
    refine wp_skip ?_
    refine ws ?_
    revert a;refine sr (ov (v := .int .i64 0) rfl rfl rfl (fun a hF=>run_assign rfl rfl) fun a hF=>wn ?_)
    obtain ⟨o105, hM106, hM⟩ := bind_ex hM
    refine wp_cut (fun a u => ∃ (p104 : Unit), (Sum.inl p104) = o105 ∧ Fr a 88 [(1, .pointer (some ⟨g101, 0, none⟩)), (2, .bool false)] ∧ St w u [.box g101 41 #[.slice A0 x0.length c0, .slice A1 x1.length c1, .slice A2 x2.length c2]]) ?_ ?_
    · have _ := trivial
      refine wp_block ?_
      refine loop_gw (fun m a u => ∃ (p107 : Int), m_spec_WorkValid_l1 x0 x1 m p107 = some _ ∧ Fr a 88 [(1, .pointer (some ⟨g101, 0, none⟩)), (2, .bool false), (3, .int .i64 p107)] ∧ St w u [.box g101 41 #[.slice A0 x0.length c0, .slice A1 x1.length c1, .slice A2 x2.length c2]]) FUEL ⟨0, hM106, hF.keep _ ⟨rfl, rfl, rfl, trivial⟩, S.sel [0] rfl rfl⟩ ?_
      clear hF S hM106; rintro m a u ⟨p107, hM106, hF, S⟩
      rcases m with _ | f1
      · exact none_some hM106
      rw [m_spec_WorkValid_l1.eq_2] at hM106
      refine ws ?_
      revert a;refine sr (mv rfl rfl (ov (v := .pointer (some ⟨g101, 0, none⟩)) rfl rfl rfl (fun a hF=>run_fieldAddr rfl fl41_0 (hF.ev rfl) rfl) (ov (v := .slice A0 x0.length c0) rfl rfl rfl (fun a hF=>run_load1 rfl one26 (hF.ev rfl) ((S.free 0 rfl).cell rfl)) (ov rfl rfl rfl (fun a hF=>run_lenL rfl rfl Try.underlying26 (hF.ev rfl)) (ov (v := .bool (ltB p107 (x0.length : Int))) rfl rfl rfl (fun a hF=>run_lss (hF.ev rfl) (hF.ev rfl) rfl) fun a hF=>wn ?_)))))
      cases hc108 : (ltB p107 (x0.length : Int))
      · replace hM106 := bif_f hc108 hM106
        refine cond_f hF rfl hc108 ?_
        refine wp_exit ?_
        repeat with_reducible (first | refine then_exit ?_ | refine in_hit ?_ | refine in_miss rfl ?_)
        obtain rfl := Option.some.inj hM106
        exact ⟨(), rfl, hF.keep _ ⟨rfl, rfl, trivial⟩, S.sel [0] rfl rfl⟩
      replace hM106 := bif_t hc108 hM106
      refine cond_t hF rfl hc108 ?_
      refine wp_skip ?_
      refine ws ?_
      refine wp_block ?_
      revert a;refine sr (ov (v := .pointer (some ⟨g101, 0, none⟩)) rfl rfl rfl (fun a hF=>run_fieldAddr rfl fl41_0 (hF.ev rfl) rfl) (ov (v := .slice A0 x0.length c0) rfl rfl rfl (fun a hF=>run_load1 rfl one26 (hF.ev rfl) ((S.free 0 rfl).cell rfl)) (mv rfl rfl fun a hF=>?_)))
      obtain ⟨hk109, hM106⟩ := chk_ex hM106
      replace hk109 := ixB_t hk109
      revert a;refine ov rfl rfl rfl (fun a hF=>run_indexAddr (b := adB A0) (off := adO A0) rfl Try.underlying26 sz4 ((hF.ev rfl).trans (congrArg (fun A => Value.slice A x0.length c0) ((S.rc0 h0.rc).rd.ad (ix_pos hk109)))) (hF.ev rfl) hk109.1 hk109.2 (k' := adO A0 + p107.toNat * 1) rfl) (ov (v := .bool (x0.getD p107.toNat false)) rfl rfl rfl (fun a hF=>run_load1 rfl one4 (hF.ev rfl) (rd_el0 (l := x0) (S.rc0 h0.rc).rd rfl eB_len false (ix_ltn hk109 rfl) rfl)) (mv rfl rfl fun a hF=>?_))
      refine op_gv (v := .pointer (some ⟨g101, 1, none⟩)) rfl rfl hF rfl (yt (gw_yield hF rfl rfl rfl)) (fun hg => (run_fieldAddr rfl fl41_1 (hF.ev rfl) rfl)) ?_;clear hF;intro a hF
      refine op_gv (v := .slice A1 x1.length c1) rfl rfl hF rfl (yt (gw_yield hF rfl rfl rfl)) (fun hg => (run_load1 rfl one26 ((hF.ev rfl).trans (gv_t hg)) ((S.free 0 rfl).cell rfl))) ?_;clear hF;intro a hF
      refine op_gv (v := .int .i64 p107) rfl rfl hF rfl (yt (gw_yield hF rfl rfl rfl)) (fun hg => (run_move rfl (hF.ev rfl))) ?_;clear hF;intro a hF
      obtain ⟨hk110, hM106⟩ := chk_ex hM106
      replace hk110 := fun hg => ixB_t (imp_t hk110 hg)
      refine op_gv (v := .pointer (some ⟨adB A1, adO A1 + p107.toNat * 1, none⟩)) rfl rfl hF rfl (yt (gw_yield hF rfl rfl rfl)) (fun hg => (run_indexAddr (b := adB A1) (off := adO A1) rfl Try.underlying26 sz4 (((hF.ev rfl).trans (gv_t hg)).trans (congrArg (fun A => Value.slice A x1.length c1) ((S.rc0 h1.rc).rd.ad (ix_pos (hk110 hg))))) ((hF.ev rfl).trans (gv_t hg)) (hk110 hg).1 (hk110 hg).2 (k' := adO A1 + p107.toNat * 1) rfl)) ?_;clear hF;intro a hF
      refine op_gv (v := .bool (x1.getD p107.toNat false)) rfl rfl hF rfl (yt (gw_yield hF rfl rfl rfl)) (fun hg => (run_load1 rfl one4 ((hF.ev rfl).trans (gv_t hg)) (rd_el0 (l := x1) (S.rc0 h1.rc).rd rfl eB_len false (ix_ltn (hk110 hg) rfl) rfl))) ?_;clear hF;intro a hF
      refine op_val (v := .bool ((x0.getD p107.toNat false) && (x1.getD p107.toNat false))) rfl rfl hF rfl (run_pick_and rfl (hF.ev rfl) (fun hp => ((hF.ev rfl).trans (gv_t hp))) rfl) ?_;clear hF;intro a hF
      refine wn ?_
      cases hc111 : ((x0.getD p107.toNat false) && (x1.getD p107.toNat false))
      · replace hM106 := bif_f hc111 hM106
        refine cond_f hF rfl hc111 ?_
        refine wp_skip ?_
        revert a;refine rl (mv rfl rfl (ov (v := .int .i64 (w64 (p107 + 1))) rfl rfl rfl (fun a hF=>run_add (z := w64 (p107 + 1)) (hF.ev rfl) rfl rfl rfl) (ag rfl rfl fun a hF=>wn ?_)))
        exact ⟨f1, Nat.lt_succ_self _, w64 (p107 + 1), hM106, hF.keep _ ⟨rfl, rfl, rfl, trivial⟩, S.sel [0] rfl rfl⟩
      replace hM106 := bif_t hc111 hM106
      refine cond_t hF rfl hc111 ?_
      revert a;refine sr (ov (v := .bool false) rfl rfl rfl (fun a hF=>run_assign rfl rfl) fun a hF=>wn ?_)
      refine wp_ret ?_
      repeat with_reducible first|refine tr ?_|refine ir ?_|refine nr ?_
      refine ret1_gw (.inl rfl) hF rfl (res_tmp (hF.ev rfl)) ?_
      obtain rfl := Option.some.inj hM106
      obtain rfl := Option.some.inj hM
      exact ⟨rfl, S.sel [] rfl rfl⟩
    rintro a u ⟨p104, rfl, hF, S⟩
    replace hM := elim_l hM
    refine ws ?_
    revert a;refine sr (ov (v := .int .i64 0) rfl rfl rfl (fun a hF=>run_assign rfl rfl) fun a hF=>wn ?_)
    obtain ⟨o113, hM114, hM⟩ := bind_ex hM
    refine wp_cut (fun a u => ∃ (p112 : Unit), (Sum.inl p112) = o113 ∧ Fr a 88 [(2, .bool false)] ∧ St w u []) ?_ ?_
    · have _ := trivial
      refine wp_block ?_
      refine loop_gw (fun m a u => ∃ (p115 : Int), m_spec_WorkValid_l2 x0 x1 x2 m p115 = some _ ∧ Fr a 88 [(1, .pointer (some ⟨g101, 0, none⟩)), (2, .bool false), (4, .int .i64 p115)] ∧ St w u [.box g101 41 #[.slice A0 x0.length c0, .slice A1 x1.length c1, .slice A2 x2.length c2]]) FUEL ⟨0, hM114, hF.keep _ ⟨rfl, rfl, rfl, trivial⟩, S.sel [0] rfl rfl⟩ ?_
      clear hF S hM114; rintro m a u ⟨p115, hM114, hF, S⟩
      rcases m with _ | f2
      · exact none_some hM114
      rw [m_spec_WorkValid_l2.eq_2] at hM114
      refine ws ?_
      revert a;refine sr (mv rfl rfl (ov (v := .pointer (some ⟨g101, 2, none⟩)) rfl rfl rfl (fun a hF=>run_fieldAddr rfl fl41_2 (hF.ev rfl) rfl) (ov (v := .slice A2 x2.length c2) rfl rfl rfl (fun a hF=>run_load1 rfl one39 (hF.ev rfl) ((S.free 0 rfl).cell rfl)) (ov rfl rfl rfl (fun a hF=>run_lenL rfl rfl Try.underlying39 (hF.ev rfl)) (ov (v := .bool (ltB p115 (x2.length : Int))) rfl rfl rfl (fun a hF=>run_lss (hF.ev rfl) (hF.ev rfl) rfl) fun a hF=>wn ?_)))))
      cases hc116 : (ltB p115 (x2.length : Int))
      · replace hM114 := bif_f hc116 hM114
        refine cond_f hF rfl hc116 ?_
        refine wp_exit ?_
        repeat with_reducible (first | refine then_exit ?_ | refine in_hit ?_ | refine in_miss rfl ?_)
        obtain rfl := Option.some.inj hM114
        exact ⟨(), rfl, hF.keep _ ⟨rfl, trivial⟩, S.sel [] rfl rfl⟩
      replace hM114 := bif_t hc116 hM114
      refine cond_t hF rfl hc116 ?_
      refine wp_skip ?_
      refine ws ?_
      refine wp_block ?_
      revert a;refine sr (ov (v := .pointer (some ⟨g101, 2, none⟩)) rfl rfl rfl (fun a hF=>run_fieldAddr rfl fl41_2 (hF.ev rfl) rfl) (ov (v := .slice A2 x2.length c2) rfl rfl rfl (fun a hF=>run_load1 rfl one39 (hF.ev rfl) ((S.free 0 rfl).cell rfl)) (mv rfl rfl fun a hF=>?_)))
      obtain ⟨hk117, hM114⟩ := chk_ex hM114
      replace hk117 := ixB_t hk117
      revert a;refine ov rfl rfl rfl (fun a hF=>run_indexAddr (b := adB A2) (off := adO A2) rfl Try.underlying39 sz78 ((hF.ev rfl).trans (congrArg (fun A => Value.slice A x2.length c2) ((S.rc0 h2.rc).rd.ad (ix_pos hk117)))) (hF.ev rfl) hk117.1 hk117.2 (k' := adO A2 + p115.toNat * 2) rfl) (ov rfl rfl rfl (fun a hF=>run_loadN (cs := #[.int .i64 ((x2.getD p115.toNat ((0, 0) : Int × Int)).1), .int .i64 ((x2.getD p115.toNat ((0, 0) : Int × Int)).2)]) rfl ag78 (hF.ev rfl) rfl (rd_elN (l := x2) (S.rc0 h2.rc).rd rfl ePermit_len ((0, 0) : Int × Int) (ix_ltn hk117 rfl) rfl)) fun a hF=>?_)
      refine op_new (cs := #[.int .i64 0, .int .i64 0]) rfl rfl hF rfl S (run_allocZ rfl zr78) ?_; clear hF S; intro a g118 u hF S
      refine op_do rfl rfl (run_store (cs' := #[.int .i64 ((x2.getD p115.toNat ((0, 0) : Int × Int)).1), .int .i64 ((x2.getD p115.toNat ((0, 0) : Int × Int)).2)]) rfl sz78 (hF.ev rfl) (hF.ev rfl) rfl rfl rfl (S.free 0 rfl) rfl rfl) ?_; replace S := S.put 0 rfl (#[.int .i64 ((x2.getD p115.toNat ((0, 0) : Int × Int)).1), .int .i64 ((x2.getD p115.toNat ((0, 0) : Int × Int)).2)])
      generalize World.setRow _ _ _ = u at S ⊢
      refine wn ?_
      revert a;refine sr (ov (v := .pointer (some ⟨g118, 0, none⟩)) rfl rfl rfl (fun a hF=>run_fieldAddr rfl fl78_0 (hF.ev rfl) rfl) (ov (v := .int .i64 ((x2.getD p115.toNat ((0, 0) : Int × Int)).1)) rfl rfl rfl (fun a hF=>run_load1 rfl one3 (hF.ev rfl) ((S.free 0 rfl).cell rfl)) fun a hF=>?_))
      obtain ⟨p119, h119, hM114⟩ := bind_ex hM114
      refine op_call rfl rfl hF rfl (run_call (vs := [.int .i64 ((x2.getD p115.toNat ((0, 0) : Int × Int)).1), .int .i64 0, .int .i64 9]) rfl rfl co22 ⟨(hF.ev rfl), rfl, rfl, trivial⟩) (c_spec_l1In (x0 := (x2.getD p115.toNat ((0, 0) : Int × Int)).1) (x1 := 0) (x2 := 9)  h119) ?_
      rintro e u ⟨rfl, T⟩
      refine ⟨_, rfl, ?_⟩
      clear hF; intro a hF
      replace S := S.call0 T; clear T
      revert a;refine ov (v := .bool (!p119)) rfl rfl rfl (fun a hF=>run_not rfl (hF.ev rfl)) (mv rfl rfl fun a hF=>?_)
      refine op_gv (v := .pointer (some ⟨g118, 1, none⟩)) rfl rfl hF rfl (yf (gw_yield hF rfl rfl rfl)) (fun hg => (run_fieldAddr rfl fl78_1 (hF.ev rfl) rfl)) ?_;clear hF;intro a hF
      refine op_gv (v := .int .i64 ((x2.getD p115.toNat ((0, 0) : Int × Int)).2)) rfl rfl hF rfl (yf (gw_yield hF rfl rfl rfl)) (fun hg => (run_load1 rfl one3 ((hF.ev rfl).trans (gv_t hg)) ((S.free 0 rfl).cell rfl))) ?_;clear hF;intro a hF
      refine op_gv (v := .pointer (some ⟨g101, 0, none⟩)) rfl rfl hF rfl (yf (gw_yield hF rfl rfl rfl)) (fun hg => (run_fieldAddr rfl fl41_0 (hF.ev rfl) rfl)) ?_;clear hF;intro a hF
      refine op_gv (v := .slice A0 x0.length c0) rfl rfl hF rfl (yf (gw_yield hF rfl rfl rfl)) (fun hg => (run_load1 rfl one26 ((hF.ev rfl).trans (gv_t hg)) ((S.free 1 rfl).cell rfl))) ?_;clear hF;intro a hF
      refine op_gv (v := .int .i64 (x0.length : Int)) rfl rfl hF rfl (yf (gw_yield hF rfl rfl rfl)) (fun hg => (run_lenL rfl rfl Try.underlying26 ((hF.ev rfl).trans (gv_t hg)))) ?_;clear hF;intro a hF
      refine op_gv (v := .int .i64 (w64 ((x0.length : Int) - 1))) rfl rfl hF rfl (yf (gw_yield hF rfl rfl rfl)) (fun hg => (run_sub (z := w64 ((x0.length : Int) - 1)) ((hF.ev rfl).trans (gv_t hg)) rfl rfl rfl)) ?_;clear hF;intro a hF
      obtain ⟨p120, h120, hM114⟩ := bind_ex hM114
      refine op_gcall (v := .bool p120) rfl rfl hF rfl S (yf (gw_yield hF rfl rfl rfl)) (fun hg => (run_call (vs := [.int .i64 ((x2.getD p115.toNat ((0, 0) : Int × Int)).2), .int .i64 0, .int .i64 (w64 ((x0.length : Int) - 1))]) rfl rfl co22 ⟨((hF.ev rfl).trans (gv_t hg)), rfl, ((hF.ev rfl).trans (gv_t hg)), trivial⟩)) (fun hg => c_spec_l1In (x0 := (x2.getD p115.toNat ((0, 0) : Int × Int)).2) (x1 := 0) (x2 := w64 ((x0.length : Int) - 1))  (gb_t h120 hg)) ?_; clear hF S; intro a u hF S
      refine op_gv (v := .bool (!p120)) rfl rfl hF rfl (yf (gw_yield hF rfl rfl rfl)) (fun hg => (run_not rfl ((hF.ev rfl).trans (gv_t hg)))) ?_;clear hF;intro a hF
      revert a;refine ov (v := .bool ((!p119) || (!p120))) rfl rfl rfl (fun a hF=>run_pick_or rfl (hF.ev rfl) rfl (fun hp => ((hF.ev rfl).trans (gv_t (not_t hp))))) (mv rfl rfl fun a hF=>?_)
      refine op_gv (v := .pointer (some ⟨g101, 1, none⟩)) rfl rfl hF rfl (yf (gw_yield hF rfl rfl rfl)) (fun hg => (run_fieldAddr rfl fl41_1 (hF.ev rfl) rfl)) ?_;clear hF;intro a hF
      refine op_gv (v := .slice A1 x1.length c1) rfl rfl hF rfl (yf (gw_yield hF rfl rfl rfl)) (fun hg => (run_load1 rfl one26 ((hF.ev rfl).trans (gv_t hg)) ((S.free 1 rfl).cell rfl))) ?_;clear hF;intro a hF
      refine op_gv (v := .pointer (some ⟨g118, 1, none⟩)) rfl rfl hF rfl (yf (gw_yield hF rfl rfl rfl)) (fun hg => (run_fieldAddr rfl fl78_1 (hF.ev rfl) rfl)) ?_;clear hF;intro a hF
      refine op_gv (v := .int .i64 ((x2.getD p115.toNat ((0, 0) : Int × Int)).2)) rfl rfl hF rfl (yf (gw_yield hF rfl rfl rfl)) (fun hg => (run_load1 rfl one3 ((hF.ev rfl).trans (gv_t hg)) ((S.free 0 rfl).cell rfl))) ?_;clear hF;intro a hF
      obtain ⟨hk121, hM114⟩ := chk_ex hM114
      replace hk121 := fun hg => ixB_t (imp_t hk121 hg)
      refine op_gv (v := .pointer (some ⟨adB A1, adO A1 + (((x2.getD p115.toNat ((0, 0) : Int × Int)).2).toNat) * 1, none⟩)) rfl rfl hF rfl (yf (gw_yield hF rfl rfl rfl)) (fun hg => (run_indexAddr (b := adB A1) (off := adO A1) rfl Try.underlying26 sz4 (((hF.ev rfl).trans (gv_t hg)).trans (congrArg (fun A => Value.slice A x1.length c1) ((S.rc0 h1.rc).rd.ad (ix_pos (hk121 hg))))) ((hF.ev rfl).trans (gv_t hg)) (hk121 hg).1 (hk121 hg).2 (k' := adO A1 + (((x2.getD p115.toNat ((0, 0) : Int × Int)).2).toNat) * 1) rfl)) ?_;clear hF;intro a hF
      refine op_gv (v := .bool (x1.getD (((x2.getD p115.toNat ((0, 0) : Int × Int)).2).toNat) false)) rfl rfl hF rfl (yf (gw_yield hF rfl rfl rfl)) (fun hg => (run_load1 rfl one4 ((hF.ev rfl).trans (gv_t hg)) (rd_el0 (l := x1) (S.rc0 h1.rc).rd rfl eB_len false (ix_ltn (hk121 hg) rfl) rfl))) ?_;clear hF;intro a hF
      refine op_gv (v := .bool (!(x1.getD (((x2.getD p115.toNat ((0, 0) : Int × Int)).2).toNat) false))) rfl rfl hF rfl (yf (gw_yield hF rfl rfl rfl)) (fun hg => (run_not rfl ((hF.ev rfl).trans (gv_t hg)))) ?_;clear hF;intro a hF
      revert a;refine ov (v := .bool (((!p119) || (!p120)) || (!(x1.getD (((x2.getD p115.toNat ((0, 0) : Int × Int)).2).toNat) false)))) rfl rfl rfl (fun a hF=>run_pick_or rfl (hF.ev rfl) rfl (fun hp => ((hF.ev rfl).trans (gv_t (not_t hp))))) (mv rfl rfl fun a hF=>?_)
      refine op_gv (v := .pointer (some ⟨g101, 2, none⟩)) rfl rfl hF rfl (yf (gw_yield hF rfl rfl rfl)) (fun hg => (run_fieldAddr rfl fl41_2 (hF.ev rfl) rfl)) ?_;clear hF;intro a hF
      refine op_gv (v := .slice A2 x2.length c2) rfl rfl hF rfl (yf (gw_yield hF rfl rfl rfl)) (fun hg => (run_load1 rfl one39 ((hF.ev rfl).trans (gv_t hg)) ((S.free 1 rfl).cell rfl))) ?_;clear hF;intro a hF
      refine op_gv (v := .agg #[.int .i64 ((x2.getD p115.toNat ((0, 0) : Int × Int)).1), .int .i64 ((x2.getD p115.toNat ((0, 0) : Int × Int)).2)]) rfl rfl hF rfl (yf (gw_yield hF rfl rfl rfl)) (fun hg => (run_loadN rfl ag78 (hF.ev rfl) rfl ((S.free 0 rfl).cells 0 #[.int .i64 ((x2.getD p115.toNat ((0, 0) : Int × Int)).1), .int .i64 ((x2.getD p115.toNat ((0, 0) : Int × Int)).2)] rfl))) ?_;clear hF;intro a hF
      obtain ⟨p122, h122, hM114⟩ := bind_ex hM114
      refine op_gcall (v := .int .i64 p122) rfl rfl hF rfl S (yf (gw_yield hF rfl rfl rfl)) (fun hg => (run_call (vs := [.slice A2 x2.length c2, .agg #[.int .i64 ((x2.getD p115.toNat ((0, 0) : Int × Int)).1), .int .i64 ((x2.getD p115.toNat ((0, 0) : Int × Int)).2)]]) rfl rfl co46 ⟨((hF.ev rfl).trans (gv_t hg)), ((hF.ev rfl).trans (gv_t hg)), trivial⟩)) (fun hg => c_spec_l12Find (x0 := x2) (x1 := (x2.getD p115.toNat ((0, 0) : Int × Int)).1) (x2 := (x2.getD p115.toNat ((0, 0) : Int × Int)).2) ⟨(S.rc0 h2.rc), rfl⟩ (gb_t h122 hg)) ?_; clear hF S; intro a u hF S
      refine op_gv (v := .int .i64 p115) rfl rfl hF rfl (yf (gw_yield hF rfl rfl rfl)) (fun hg => (run_move rfl (hF.ev rfl))) ?_;clear hF;intro a hF
      refine op_gv (v := .bool (ltB p122 p115)) rfl rfl hF rfl (yf (gw_yield hF rfl rfl rfl)) (fun hg => (run_lss ((hF.ev rfl).trans (gv_t hg)) ((hF.ev rfl).trans (gv_t hg)) rfl)) ?_;clear hF;intro a hF
      refine op_val (v := .bool ((((!p119) || (!p120)) || (!(x1.getD (((x2.getD p115.toNat ((0, 0) : Int × Int)).2).toNat) false))) || (ltB p122 p115))) rfl rfl hF rfl (run_pick_or rfl (hF.ev rfl) rfl (fun hp => ((hF.ev rfl).trans (gv_t (not_t hp))))) ?_;clear hF;intro a hF
      refine wn ?_
      cases hc123 : ((((!p119) || (!p120)) || (!(x1.getD (((x2.getD p115.toNat ((0, 0) : Int × Int)).2).toNat) false))) || (ltB p122 p115))
      · replace hM114 := bif_f hc123 hM114
        refine cond_f hF rfl hc123 ?_
        refine wp_skip ?_
        revert a;refine rl (mv rfl rfl (ov (v := .int .i64 (w64 (p115 + 1))) rfl rfl rfl (fun a hF=>run_add (z := w64 (p115 + 1)) (hF.ev rfl) rfl rfl rfl) (ag rfl rfl fun a hF=>wn ?_)))
        exact ⟨f2, Nat.lt_succ_self _, w64 (p115 + 1), hM114, hF.keep _ ⟨rfl, rfl, rfl, trivial⟩, S.sel [1] rfl rfl⟩
      replace hM114 := bif_t hc123 hM114
      refine cond_t hF rfl hc123 ?_
      revert a;refine sr (ov (v := .bool false) rfl rfl rfl (fun a hF=>run_assign rfl rfl) fun a hF=>wn ?_)
      refine wp_ret ?_
      repeat with_reducible first|refine tr ?_|refine ir ?_|refine nr ?_
      refine ret1_gw (.inl rfl) hF rfl (res_tmp (hF.ev rfl)) ?_
      obtain rfl := Option.some.inj hM114
      obtain rfl := Option.some.inj hM
      exact ⟨rfl, S.sel [] rfl rfl⟩
    rintro a u ⟨p112, rfl, hF, S⟩
    replace hM := elim_l hM
    revert a;refine sr (ov (v := .bool true) rfl rfl rfl (fun a hF=>run_assign rfl rfl) fun a hF=>wn ?_)
    refine wp_ret ?_
    repeat with_reducible first|refine tr ?_|refine ir ?_|refine nr ?_
    refine ret1_gw (.inl rfl) hF rfl (res_tmp (hF.ev rfl)) ?_
    obtain rfl := Option.some.inj hM
    exact ⟨rfl, S.sel [] rfl rfl⟩
  replace hM := bif_t hc103 hM
  refine cond_t hF rfl hc103 ?_
  revert a;refine sr (ov (v := .bool false) rfl rfl rfl (fun a hF=>run_assign rfl rfl) fun a hF=>wn ?_)
  refine wp_ret ?_
  repeat with_reducible first|refine tr ?_|refine ir ?_|refine nr ?_
  refine ret1_gw (.inl rfl) hF rfl (res_tmp (hF.ev rfl)) ?_
  obtain rfl := Option.some.inj hM
  exact ⟨rfl, S.sel [] rfl rfl⟩
theorem c_spec_StateValid {x0 : Int} {x1 : List (Int × Int × Int)} {x2 : List Bool} {A1 : Option Addr} {n1 c1 : Nat} {A2 : Option Addr} {n2 c2 : Nat} {w : World} {r : Bool} (h1 : Rt w 3 eLine A1 n1 c1 x1) (h2 : Rt w 1 eB A2 n2 c2 x2) (hM : m_spec_StateValid x0 x1 x2 = some r) :
    Calls Try.prog 71 #[.agg #[.int .i64 x0, .slice A1 n1 c1], .slice A2 n2 c2] w (fun e w' => e = .returned (.bool r) ∧ St w w' []) := by
  obtain rfl := h1.len
  obtain rfl := h2.len
  unfold m_spec_StateValid at hM
  refine calls_gw Try.func71 Try.ntmps71 rfl [(0, .agg #[.int .i64 x0, .slice A1 x1.length c1]), (1, .slice A2 x2.length c2)] ⟨rfl, rfl, trivial⟩ rfl ?_
  intro a hF
  have S := St.nil w
  refine wsg ?_
  refine op_new (cs := #[.int .i64 x0, .slice A1 x1.length c1]) rfl rfl hF rfl S (run_box rfl (hF.ev rfl) rfl) ?_; clear hF S; intro a g101 u hF S
  refine op_val (v := .bool false) rfl rfl hF rfl (run_assign rfl rfl) ?_;clear hF;intro a hF
  refine wn ?_
  revert a;refine sr (ov rfl rfl rfl (fun a hF=>run_loadN rfl ag37 (hF.ev rfl) rfl ((S.free 0 rfl).cells 0 #[.int .i64 x0, .slice A1 x1.length c1] rfl)) fun a hF=>?_)
  obtain ⟨p102, h102, hM⟩ := bind_ex hM
  refine op_call rfl rfl hF rfl (run_call (vs := [.agg #[.int .i64 x0, .slice A1 x1.length c1]]) rfl rfl co45 ⟨(hF.ev rfl), trivial⟩) (c_spec_NetValid (x0 := x0) (x1 := x1) ⟨(S.rc0 h1.rc), rfl⟩ h102) ?_
  rintro e u ⟨rfl, T⟩
  refine ⟨_, rfl, ?_⟩
  clear hF; intro a hF
  replace S := S.call0 T; clear T
  refine op_val (v := .bool p102) rfl rfl hF rfl (run_move rfl (hF.ev rfl)) ?_;clear hF;intro a hF
  refine op_gv (v := .slice A2 x2.length c2) rfl rfl hF rfl (yt (gw_yield hF rfl rfl rfl)) (fun hg => (run_move rfl (hF.ev rfl))) ?_;clear hF;intro a hF
  refine op_gv (v := .int .i64 (x2.length : Int)) rfl rfl hF rfl (yt (gw_yield hF rfl rfl rfl)) (fun hg => (run_lenL rfl rfl Try.underlying26 ((hF.ev rfl).trans (gv_t hg)))) ?_;clear hF;intro a hF
  refine op_gv (v := .pointer (some ⟨g101, 1, none⟩)) rfl rfl hF rfl (yt (gw_yield hF rfl rfl rfl)) (fun hg => (run_fieldAddr rfl fl37_1 (hF.ev rfl) rfl)) ?_;clear hF;intro a hF
  refine op_gv (v := .slice A1 x1.length c1) rfl rfl hF rfl (yt (gw_yield hF rfl rfl rfl)) (fun hg => (run_load1 rfl one35 ((hF.ev rfl).trans (gv_t hg)) ((S.free 0 rfl).cell rfl))) ?_;clear hF;intro a hF
  refine op_gv (v := .int .i64 (x1.length : Int)) rfl rfl hF rfl (yt (gw_yield hF rfl rfl rfl)) (fun hg => (run_lenL rfl rfl Try.underlying35 ((hF.ev rfl).trans (gv_t hg)))) ?_;clear hF;intro a hF
  refine op_gv (v := .bool ((x2.length : Int) == (x1.length : Int))) rfl rfl hF rfl (yt (gw_yield hF rfl rfl rfl)) (fun hg => (run_eql ((hF.ev rfl).trans (gv_t hg)) ((hF.ev rfl).trans (gv_t hg)) rfl)) ?_;clear hF;intro a hF
  revert a;refine ov (v := .bool (p102 && ((x2.length : Int) == (x1.length : Int)))) rfl rfl rfl (fun a hF=>run_pick_and rfl (hF.ev rfl) (fun hp => ((hF.ev rfl).trans (gv_t hp))) rfl) (ag rfl rfl fun a hF=>wn ?_)
  refine wp_ret ?_
  repeat with_reducible first|refine tr ?_|refine ir ?_|refine nr ?_
  refine ret1_gw (.inl rfl) hF rfl (res_tmp (hF.ev rfl)) ?_
  obtain rfl := Option.some.inj hM
  exact ⟨rfl, S.sel [] rfl rfl⟩
theorem c_spec_l5Ok {x0 : Int} {x1 : List (Int × Int × Int)} {x2 : List Bool} {x3 : List (Int × Int)} {A1 : Option Addr} {n1 c1 : Nat} {A2 : Option Addr} {n2 c2 : Nat} {A3 : Option Addr} {n3 c3 : Nat} {w : World} {r : Bool} (h1 : Rt w 3 eLine A1 n1 c1 x1) (h2 : Rt w 1 eB A2 n2 c2 x2) (h3 : Rt w 2 eBus A3 n3 c3 x3) (hM : m_spec_l5Ok x0 x1 x2 x3 = some r) :
    Calls Try.prog 47 #[.agg #[.int .i64 x0, .slice A1 n1 c1], .slice A2 n2 c2, .slice A3 n3 c3] w (fun e w' => e = .returned (.bool r) ∧ St w w' []) := by
  obtain rfl := h1.len
  obtain rfl := h2.len
  obtain rfl := h3.len
  unfold m_spec_l5Ok at hM
  refine calls_gw Try.func47 Try.ntmps47 rfl [(0, .agg #[.int .i64 x0, .slice A1 x1.length c1]), (1, .slice A2 x2.length c2), (2, .slice A3 x3.length c3)] ⟨rfl, rfl, rfl, trivial⟩ rfl ?_
  intro a hF
  have S := St.nil w
  refine wsg ?_
  refine op_new (cs := #[.int .i64 x0, .slice A1 x1.length c1]) rfl rfl hF rfl S (run_box rfl (hF.ev rfl) rfl) ?_; clear hF S; intro a g101 u hF S
  refine op_val (v := .bool false) rfl rfl hF rfl (run_assign rfl rfl) ?_;clear hF;intro a hF
  refine wn ?_
  revert a;refine sr (ov rfl rfl rfl (fun a hF=>run_loadN rfl ag37 (hF.ev rfl) rfl ((S.free 0 rfl).cells 0 #[.int .i64 x0, .slice A1 x1.length c1] rfl)) (mv rfl rfl fun a hF=>?_))
  obtain ⟨p102, h102, hM⟩ := bind_ex hM
  refine op_call rfl rfl hF rfl (run_call (vs := [.agg #[.int .i64 x0, .slice A1 x1.length c1], .slice A2 x2.length c2]) rfl rfl co71 ⟨(hF.ev rfl), (hF.ev rfl), trivial⟩) (c_spec_StateValid (x0 := x0) (x1 := x1) (x2 := x2) ⟨(S.rc0 h1.rc), rfl⟩ ⟨(S.rc0 h2.rc), rfl⟩ h102) ?_
  rintro e u ⟨rfl, T⟩
  refine ⟨_, rfl, ?_⟩
  clear hF; intro a hF
  replace S := S.call0 T; clear T
  refine op_val (v := .bool p102) rfl rfl hF rfl (run_move rfl (hF.ev rfl)) ?_;clear hF;intro a hF
  refine op_gv (v := .agg #[.int .i64 x0, .slice A1 x1.length c1]) rfl rfl hF rfl (yt (gw_yield hF rfl rfl rfl)) (fun hg => (run_loadN rfl ag37 (hF.ev rfl) rfl ((S.free 0 rfl).cells 0 #[.int .i64 x0, .slice A1 x1.length c1] rfl))) ?_;clear hF;intro a hF
  refine op_gv (v := .slice A3 x3.length c3) rfl rfl hF rfl (yt (gw_yield hF rfl rfl rfl)) (fun hg => (run_move rfl (hF.ev rfl))) ?_;clear hF;intro a hF
  obtain ⟨p103, h103, hM⟩ := bind_ex hM
  refine op_gcall (v := .bool p103) rfl rfl hF rfl S (yt (gw_yield hF rfl rfl rfl)) (fun hg => (run_call (vs := [.agg #[.int .i64 x0, .slice A1 x1.length c1], .slice A3 x3.length c3]) rfl rfl co20 ⟨((hF.ev rfl).trans (gv_t hg)), ((hF.ev rfl).trans (gv_t hg)), trivial⟩)) (fun hg => c_spec_BusesValid (x0 := x0) (x1 := x1) (x2 := x3) ⟨(S.rc0 h1.rc), rfl⟩ ⟨(S.rc0 h3.rc), rfl⟩ (gb_t h103 hg)) ?_; clear hF S; intro a u hF S
  revert a;refine ov (v := .bool (p102 && p103)) rfl rfl rfl (fun a hF=>run_pick_and rfl (hF.ev rfl) (fun hp => ((hF.ev rfl).trans (gv_t hp))) rfl) (ag rfl rfl fun a hF=>wn ?_)
  refine wp_ret ?_
  repeat with_reducible first|refine tr ?_|refine ir ?_|refine nr ?_
  refine ret1_gw (.inl rfl) hF rfl (res_tmp (hF.ev rfl)) ?_
  obtain rfl := Option.some.inj hM
  exact ⟨rfl, S.sel [] rfl rfl⟩
theorem c_spec_l2Copy {x0 : List Bool} {A0 : Option Addr} {n0 c0 : Nat} {w : World} {r : List Bool} (h0 : Rt w 1 eB A0 n0 c0 x0) (hM : m_spec_l2Copy x0 = some r) :
    Calls Try.prog 89 #[.slice A0 n0 c0] w (fun e w' => ∃ (B0 : Option Addr) (N0 D0 : Nat), e = .returned (.slice B0 N0 D0) ∧ N0 = r.length ∧ St w w' [.row 4 1 (.slice B0 N0 D0) N0 (r.flatMap eB)]) := by
  obtain rfl := h0.len
  unfold m_spec_l2Copy at hM
  refine calls_gw Try.func89 Try.ntmps89 rfl [(0, .slice A0 x0.length c0)] ⟨rfl, trivial⟩ rfl ?_
  intro a hF
  have S := St.nil w
  revert a;refine sr (ov (v := .slice none 0 0) rfl rfl rfl (fun a hF=>run_assign rfl rfl) fun a hF=>wn ?_)
  refine wsg ?_
  refine op_newrow (cs := #[]) (size := 1) rfl rfl hF rfl S (run_buildSlice0 rfl Try.underlying26 (congrArg Option.isSome sz4)) rfl (Nat.zero_le _) ?_; clear hF S; intro a g101 u hF S
  refine op_val (v := .slice A0 x0.length c0) rfl rfl hF rfl (run_move rfl (hF.ev rfl)) ?_;clear hF;intro a hF
  obtain ⟨hk104, hM⟩ := chk_ex hM
  replace hk104 := apB_t hk104
  refine op_appendL (lx := []) (ly := x0) rfl rfl hF rfl S rfl (hF.ev rfl) (hF.ev rfl) (i := 0) rfl rfl Try.underlying26 inf4 rfl (by decide) (S.rc0 h0.rc).rd rfl eB_one hk104 (by decide) ?_; clear hF S; intro a B102 d103 u hF S
  refine op_val (v := .slice B102 ((([] : List Bool) ++ x0).length) d103) rfl rfl hF rfl (run_assign rfl (hF.ev rfl)) ?_;clear hF;intro a hF
  refine wn ?_
  refine wp_ret ?_
  repeat with_reducible first|refine tr ?_|refine ir ?_|refine nr ?_
  refine ret1_gw (.inl rfl) hF rfl (res_tmp (hF.ev rfl)) ?_
  obtain rfl := Option.some.inj hM
  exact ⟨B102, ((([] : List Bool) ++ x0).length), d103, rfl, rfl, S.sel [0] rfl rfl⟩
theorem c_spec_SwitchLine {x0 : Int} {x1 : List (Int × Int × Int)} {x2 : List Bool} {x3 : Int} {x4 : Bool} {A1 : Option Addr} {n1 c1 : Nat} {A2 : Option Addr} {n2 c2 : Nat} {w : World} {r : List Bool × Bool} (h1 : Rt w 3 eLine A1 n1 c1 x1) (h2 : Rt w 1 eB A2 n2 c2 x2) (hM : m_spec_SwitchLine x0 x1 x2 x3 x4 = some r) :
    Calls Try.prog 85 #[.agg #[.int .i64 x0, .slice A1 n1 c1], .slice A2 n2 c2, .int .i64 x3, .bool x4] w (fun e w' => ∃ (B0 : Option Addr) (N0 D0 : Nat), e = .returned (.tuple #[.slice B0 N0 D0, .bool r.2]) ∧ N0 = r.1.length ∧ St w w' [.row 4 1 (.slice B0 N0 D0) N0 (r.1.flatMap eB)]) := by
  obtain rfl := h1.len
  obtain rfl := h2.len
  unfold m_spec_SwitchLine at hM
  refine calls_gw Try.func85 Try.ntmps85 rfl [(0, .agg #[.int .i64 x0, .slice A1 x1.length c1]), (1, .slice A2 x2.length c2), (2, .int .i64 x3), (3, .bool x4)] ⟨rfl, rfl, rfl, rfl, trivial⟩ rfl ?_
  intro a hF
  have S := St.nil w
  refine wsg ?_
  refine op_new (cs := #[.int .i64 x0, .slice A1 x1.length c1]) rfl rfl hF rfl S (run_box rfl (hF.ev rfl) rfl) ?_; clear hF S; intro a g101 u hF S
  revert a;refine ov (v := .slice none 0 0) rfl rfl rfl (fun a hF=>run_assign rfl rfl) (ov (v := .bool false) rfl rfl rfl (fun a hF=>run_assign rfl rfl) fun a hF=>wn ?_)
  refine ws ?_
  revert a;refine sr (ov rfl rfl rfl (fun a hF=>run_loadN rfl ag37 (hF.ev rfl) rfl ((S.free 0 rfl).cells 0 #[.int .i64 x0, .slice A1 x1.length c1] rfl)) (mv rfl rfl fun a hF=>?_))
  obtain ⟨p102, h102, hM⟩ := bind_ex hM
  refine op_call rfl rfl hF rfl (run_call (vs := [.agg #[.int .i64 x0, .slice A1 x1.length c1], .slice A2 x2.length c2]) rfl rfl co71 ⟨(hF.ev rfl), (hF.ev rfl), trivial⟩) (c_spec_StateValid (x0 := x0) (x1 := x1) (x2 := x2) ⟨(S.rc0 h1.rc), rfl⟩ ⟨(S.rc0 h2.rc), rfl⟩ h102) ?_
  rintro e u ⟨rfl, T⟩
  refine ⟨_, rfl, ?_⟩
  clear hF; intro a hF
  replace S := S.call0 T; clear T
  refine op_val (v := .bool (!p102)) rfl rfl hF rfl (run_not rfl (hF.ev rfl)) ?_;clear hF;intro a hF
  refine wn ?_
  cases hc103 : (p102)
  · replace hM := bif_f hc103 hM
    refine cond_t hF rfl (not_t hc103) ?_
    refine wsg ?_
    refine op_newrow (cs := #[]) (size := 1) rfl rfl hF rfl S (run_buildSlice0 rfl Try.underlying26 (congrArg Option.isSome sz4)) rfl (Nat.zero_le _) ?_; clear hF S; intro a g104 u hF S
    revert a;refine ag rfl rfl (ov (v := .bool false) rfl rfl rfl (fun a hF=>run_assign rfl rfl) fun a hF=>wn ?_)
    refine wp_ret ?_
    repeat with_reducible first|refine tr ?_|refine ir ?_|refine nr ?_
    refine ret2_gw (.inl rfl) hF rfl (res_tmp (hF.ev rfl)) (res_tmp (hF.ev rfl)) ?_
    obtain rfl := Option.some.inj hM
    exact ⟨(some ⟨g104, 0, none⟩), 0, 0, rfl, rfl, S.sel [0] rfl rfl⟩
  replace hM := bif_t hc103 hM
  refine cond_f hF rfl (not_f hc103) ?_
  refine wp_skip ?_
  revert a;refine sr (mv rfl rfl fun a hF=>?_)
  obtain ⟨p105, h105, hM⟩ := bind_ex hM
  refine op_call rfl rfl hF rfl (run_call (vs := [.slice A2 x2.length c2]) rfl rfl co89 ⟨(hF.ev rfl), trivial⟩) (c_spec_l2Copy (x0 := x2) ⟨(S.rc0 h2.rc), rfl⟩ h105) ?_
  rintro e u ⟨B106, n107, d108, rfl, rfl, T⟩
  refine ⟨_, rfl, ?_⟩
  clear hF; intro a hF
  replace S := S.call1 T; clear T
  refine op_val (v := .slice B106 p105.length d108) rfl rfl hF rfl (run_assign rfl (hF.ev rfl)) ?_;clear hF;intro a hF
  refine wn ?_
  refine ws ?_
  revert a;refine sr (mv rfl rfl (mv rfl rfl (ov rfl rfl rfl (fun a hF=>run_lenL rfl rfl Try.underlying26 (hF.ev rfl)) (ov (v := .int .i64 (w64 ((x2.length : Int) - 1))) rfl rfl rfl (fun a hF=>run_sub (z := w64 ((x2.length : Int) - 1)) (hF.ev rfl) rfl rfl rfl) fun a hF=>?_))))
  obtain ⟨p109, h109, hM⟩ := bind_ex hM
  refine op_call rfl rfl hF rfl (run_call (vs := [.int .i64 x3, .int .i64 0, .int .i64 (w64 ((x2.length : Int) - 1))]) rfl rfl co22 ⟨(hF.ev rfl), rfl, (hF.ev rfl), trivial⟩) (c_spec_l1In (x0 := x3) (x1 := 0) (x2 := w64 ((x2.length : Int) - 1))  h109) ?_
  rintro e u ⟨rfl, T⟩
  refine ⟨_, rfl, ?_⟩
  clear hF; intro a hF
  replace S := S.call0 T; clear T
  refine op_val (v := .bool (!p109)) rfl rfl hF rfl (run_not rfl (hF.ev rfl)) ?_;clear hF;intro a hF
  refine wn ?_
  cases hc110 : (p109)
  · replace hM := bif_f hc110 hM
    refine cond_t hF rfl (not_t hc110) ?_
    revert a;refine sr (mv rfl rfl (ag rfl rfl (ov (v := .bool false) rfl rfl rfl (fun a hF=>run_assign rfl rfl) fun a hF=>wn ?_)))
    refine wp_ret ?_
    repeat with_reducible first|refine tr ?_|refine ir ?_|refine nr ?_
    refine ret2_gw (.inl rfl) hF rfl (res_tmp (hF.ev rfl)) (res_tmp (hF.ev rfl)) ?_
    obtain rfl := Option.some.inj hM
    exact ⟨B106, p105.length, d108, rfl, rfl, S.sel [0] rfl rfl⟩
  replace hM := bif_t hc110 hM
  refine cond_f hF rfl (not_f hc110) ?_
  refine wp_skip ?_
  revert a;refine sr (mv rfl rfl (mv rfl rfl (mv rfl rfl fun a hF=>?_)))
  obtain ⟨hk111, hM⟩ := chk_ex hM
  replace hk111 := ixB_t hk111
  refine op_val (v := .pointer (some ⟨adB B106, adO B106 + x3.toNat * 1, none⟩)) rfl rfl hF rfl (run_indexAddr (b := adB B106) (off := adO B106) rfl Try.underlying26 sz4 ((hF.ev rfl).trans (congrArg (fun A => Value.slice A p105.length d108) ((S.rc 0 rfl).rd.ad (ix_pos hk111)))) (hF.ev rfl) hk111.1 hk111.2 (k' := adO B106 + x3.toNat * 1) rfl) ?_;clear hF;intro a hF
  obtain ⟨w', hrun, S'⟩ := run_storeElN (P := Try.prog) (ρ := a.eval) (y0 := x4) (off := 0) S 4 (.tmp 28) (.tmp 27) (i := 0) sz4 (hF.ev rfl) (hF.ev rfl) rfl rfl rfl rfl rfl eB_len false (ix_ltn hk111 rfl) rfl rfl
  refine op_do rfl rfl (hrun _ rfl) ?_; clear hrun S; have S := S'; clear S'; generalize w' = u at S ⊢
  refine wn ?_
  revert a;refine sr (mv rfl rfl (ag rfl rfl (ov (v := .bool true) rfl rfl rfl (fun a hF=>run_assign rfl rfl) fun a hF=>wn ?_)))
  refine wp_ret ?_
  repeat with_reducible first|refine tr ?_|refine ir ?_|refine nr ?_
  refine ret2_gw (.inl rfl) hF rfl (res_tmp (hF.ev rfl)) (res_tmp (hF.ev rfl)) ?_
  obtain rfl := Option.some.inj hM
  exact ⟨B106, p105.length, d108, rfl, (len_set rfl), S.sel [0] rfl rfl⟩
theorem c_spec_l3Reach {x0 : Int} {x1 : List (Int × Int × Int)} {x2 : List Bool} {x3 : Int} {A1 : Option Addr} {n1 c1 : Nat} {A2 : Option Addr} {n2 c2 : Nat} {w : World} {r : List Bool} (h1 : Rt w 3 eLine A1 n1 c1 x1) (h2 : Rt w 1 eB A2 n2 c2 x2) (hM : m_spec_l3Reach x0 x1 x2 x3 = some r) :
    Calls Try.prog 86 #[.agg #[.int .i64 x0, .slice A1 n1 c1], .slice A2 n2 c2, .int .i64 x3] w (fun e w' => ∃ (B0 : Option Addr) (N0 D0 : Nat), e = .returned (.slice B0 N0 D0) ∧ N0 = r.length ∧ St w w' [.row 4 1 (.slice B0 N0 D0) N0 (r.flatMap eB)]) := by
  obtain rfl := h1.len
  obtain rfl := h2.len
  unfold m_spec_l3Reach at hM
  refine calls_gw Try.func86 Try.ntmps86 rfl [(0, .agg #[.int .i64 x0, .slice A1 x1.length c1]), (1, .slice A2 x2.length c2), (2, .int .i64 x3)] ⟨rfl, rfl, rfl, trivial⟩ rfl ?_
  intro a hF
  have S := St.nil w
  refine wsg ?_
  refine op_new (cs := #[.int .i64 x0, .slice A1 x1.length c1]) rfl rfl hF rfl S (run_box rfl (hF.ev rfl) rfl) ?_; clear hF S; intro a g101 u hF S
  refine op_val (v := .slice none 0 0) rfl rfl hF rfl (run_assign rfl rfl) ?_;clear hF;intro a hF
  refine wn ?_
  revert a;refine sr (ov (v := .pointer (some ⟨g101, 0, none⟩)) rfl rfl rfl (fun a hF=>run_fieldAddr rfl fl37_0 (hF.ev rfl) rfl) (ov (v := .int .i64 x0) rfl rfl rfl (fun a hF=>run_load1 rfl one3 (hF.ev rfl) ((S.free 0 rfl).cell rfl)) fun a hF=>?_))
  obtain ⟨hk103, hM⟩ := chk_ex hM
  replace hk103 := mkB_t hk103
  refine op_newrowL (m := x0.toNat) (ls := List.replicate x0.toNat false) (e := eB) rfl rfl hF rfl S (run_makeL rfl (hF.ev rfl) (hF.ev rfl) Try.underlying26 inf4 eB_len rfl (by decide) hk103) List.length_replicate eB_len (by rw [List.length_replicate]; omega) ?_; clear hF S; intro a g102 u hF S
  refine op_val (v := .slice (some ⟨g102, 0, none⟩) x0.toNat x0.toNat) rfl rfl hF rfl (run_assign rfl (hF.ev rfl)) ?_;clear hF;intro a hF
  refine wn ?_
  revert a;refine sr (mv rfl rfl (mv rfl rfl fun a hF=>?_))
  obtain ⟨hk104, hM⟩ := chk_ex hM
  replace hk104 := ixB_t hk104
  refine op_val (v := .pointer (some ⟨adB (some ⟨g102, 0, none⟩), adO (some ⟨g102, 0, none⟩) + x3.toNat * 1, none⟩)) rfl rfl hF rfl (run_indexAddr (b := adB (some ⟨g102, 0, none⟩)) (off := adO (some ⟨g102, 0, none⟩)) rfl Try.underlying26 sz4 ((hF.ev rfl).trans (congrArg (fun A => Value.slice A x0.toNat x0.toNat) ((S.rc 0 rfl).rd.ad (ix_pos hk104)))) (hF.ev rfl) hk104.1 hk104.2 (k' := adO (some ⟨g102, 0, none⟩) + x3.toNat * 1) rfl) ?_;clear hF;intro a hF
  obtain ⟨w', hrun, S'⟩ := run_storeElN (P := Try.prog) (ρ := a.eval) (y0 := true) (off := 0) S 4 (.tmp 16) (.const (.bool true)) (i := 0) sz4 (hF.ev rfl) rfl rfl rfl rfl rfl List.length_replicate.symm eB_len false (ix_ltn hk104 List.length_replicate.symm) rfl rfl
  refine op_do rfl rfl (hrun _ rfl) ?_; clear hrun S; have S := S'; clear S'; generalize w' = u at S ⊢
  refine wn ?_
  refine ws ?_
  revert a;refine sr (ov (v := .int .i64 0) rfl rfl rfl (fun a hF=>run_assign rfl rfl) fun a hF=>wn ?_)
  obtain ⟨o106, hM108, hM⟩ := bind_ex hM
  refine wp_cut (fun a u => ∃ (p105 : List Bool), p105 = o106 ∧ x0.toNat = p105.length ∧ Fr a 62 [(6, .slice none 0 0), (7, .slice (some ⟨g102, 0, none⟩) x0.toNat x0.toNat)] ∧ St w u [.row 4 1 (.slice (some ⟨g102, 0, none⟩) x0.toNat x0.toNat) x0.toNat (p105.flatMap eB)]) ?_ ?_
  · have _ := trivial
    refine wp_block ?_
    refine loop_gw (fun m a u => ∃ (p109 : List Bool × Int), m_spec_l3Reach_l1 x0 x1 x2 m p109 = some _ ∧ x0.toNat = p109.1.length ∧ Fr a 62 [(1, .slice A2 x2.length c2), (3, .pointer (some ⟨g101, 0, none⟩)), (6, .slice none 0 0), (7, .slice (some ⟨g102, 0, none⟩) x0.toNat x0.toNat), (8, .int .i64 p109.2)] ∧ St w u [.box g101 37 #[.int .i64 x0, .slice A1 x1.length c1], .row 4 1 (.slice (some ⟨g102, 0, none⟩) x0.toNat x0.toNat) x0.toNat (p109.1.flatMap eB)]) FUEL ⟨((List.replicate x0.toNat false).set x3.toNat true, 0), hM108, (len_set List.length_replicate.symm), hF.keep _ ⟨rfl, rfl, rfl, rfl, rfl, trivial⟩, S.sel [1, 0] rfl rfl⟩ ?_
    clear hF S hM108; rintro m a u ⟨p109, hM108, hn110, hF, S⟩
    rcases m with _ | f1
    · exact none_some hM108
    rw [m_spec_l3Reach_l1.eq_2] at hM108
    refine ws ?_
    revert a;refine sr (mv rfl rfl (ov (v := .pointer (some ⟨g101, 0, none⟩)) rfl rfl rfl (fun a hF=>run_fieldAddr rfl fl37_0 (hF.ev rfl) rfl) (ov (v := .int .i64 x0) rfl rfl rfl (fun a hF=>run_load1 rfl one3 (hF.ev rfl) ((S.free 0 rfl).cell rfl)) (ov (v := .bool (ltB p109.2 x0)) rfl rfl rfl (fun a hF=>run_lss (hF.ev rfl) (hF.ev rfl) rfl) fun a hF=>wn ?_))))
    cases hc111 : (ltB p109.2 x0)
    · replace hM108 := bif_f hc111 hM108
      refine cond_f hF rfl hc111 ?_
      refine wp_exit ?_
      repeat with_reducible (first | refine then_exit ?_ | refine in_hit ?_ | refine in_miss rfl ?_)
      obtain rfl := Option.some.inj hM108
      exact ⟨p109.1, rfl, hn110, hF.keep _ ⟨rfl, rfl, trivial⟩, S.sel [1] rfl rfl⟩
    replace hM108 := bif_t hc111 hM108
    refine cond_t hF rfl hc111 ?_
    refine wp_skip ?_
    refine ws ?_
    refine wp_block ?_
    revert a;refine sr (ov (v := .int .i64 0) rfl rfl rfl (fun a hF=>run_assign rfl rfl) fun a hF=>wn ?_)
    obtain ⟨o113, hM115, hM108⟩ := bind_ex hM108
    refine wp_cut (fun a u => ∃ (p112 : List Bool), p112 = o113 ∧ x0.toNat = p112.length ∧ Fr a 62 [(1, .slice A2 x2.length c2), (3, .pointer (some ⟨g101, 0, none⟩)), (6, .slice none 0 0), (7, .slice (some ⟨g102, 0, none⟩) x0.toNat x0.toNat), (8, .int .i64 p109.2)] ∧ St w u [.box g101 37 #[.int .i64 x0, .slice A1 x1.length c1], .row 4 1 (.slice (some ⟨g102, 0, none⟩) x0.toNat x0.toNat) x0.toNat (p112.flatMap eB)]) ?_ ?_
    · have _ := trivial
      refine wp_block ?_
      refine loop_gw (fun m a u => ∃ (p116 : List Bool × Int), m_spec_l3Reach_l2 x0 x1 x2 m p116 = some _ ∧ x0.toNat = p116.1.length ∧ Fr a 62 [(1, .slice A2 x2.length c2), (3, .pointer (some ⟨g101, 0, none⟩)), (6, .slice none 0 0), (7, .slice (some ⟨g102, 0, none⟩) x0.toNat x0.toNat), (8, .int .i64 p109.2), (9, .int .i64 p116.2)] ∧ St w u [.box g101 37 #[.int .i64 x0, .slice A1 x1.length c1], .row 4 1 (.slice (some ⟨g102, 0, none⟩) x0.toNat x0.toNat) x0.toNat (p116.1.flatMap eB)]) FUEL ⟨(p109.1, 0), hM115, hn110, hF.keep _ ⟨rfl, rfl, rfl, rfl, rfl, rfl, trivial⟩, S.sel [0, 1] rfl rfl⟩ ?_
      clear hF S hM115; rintro m a u ⟨p116, hM115, hn117, hF, S⟩
      rcases m with _ | f2
      · exact none_some hM115
      rw [m_spec_l3Reach_l2.eq_2] at hM115
      refine ws ?_
      revert a;refine sr (mv rfl rfl (ov (v := .pointer (some ⟨g101, 1, none⟩)) rfl rfl rfl (fun a hF=>run_fieldAddr rfl fl37_1 (hF.ev rfl) rfl) (ov (v := .slice A1 x1.length c1) rfl rfl rfl (fun a hF=>run_load1 rfl one35 (hF.ev rfl) ((S.free 0 rfl).cell rfl)) (ov rfl rfl rfl (fun a hF=>run_lenL rfl rfl Try.underlying35 (hF.ev rfl)) (ov (v := .bool (ltB p116.2 (x1.length : Int))) rfl rfl rfl (fun a hF=>run_lss (hF.ev rfl) (hF.ev rfl) rfl) fun a hF=>wn ?_)))))
      cases hc118 : (ltB p116.2 (x1.length : Int))
      · replace hM115 := bif_f hc118 hM115
        refine cond_f hF rfl hc118 ?_
        refine wp_exit ?_
        repeat with_reducible (first | refine then_exit ?_ | refine in_hit ?_ | refine in_miss rfl ?_)
        obtain rfl := Option.some.inj hM115
        exact ⟨p116.1, rfl, hn117, hF.keep _ ⟨rfl, rfl, rfl, rfl, rfl, trivial⟩, S.sel [0, 1] rfl rfl⟩
      replace hM115 := bif_t hc118 hM115
      refine cond_t hF rfl hc118 ?_
      refine wp_skip ?_
      refine ws ?_
      refine wp_block ?_
      revert a;refine sr (ov (v := .pointer (some ⟨g101, 1, none⟩)) rfl rfl rfl (fun a hF=>run_fieldAddr rfl fl37_1 (hF.ev rfl) rfl) (ov (v := .slice A1 x1.length c1) rfl rfl rfl (fun a hF=>run_load1 rfl one35 (hF.ev rfl) ((S.free 0 rfl).cell rfl)) (mv rfl rfl fun a hF=>?_)))
      obtain ⟨hk119, hM115⟩ := chk_ex hM115
      replace hk119 := ixB_t hk119
      revert a;refine ov rfl rfl rfl (fun a hF=>run_indexAddr (b := adB A1) (off := adO A1) rfl Try.underlying35 sz107 ((hF.ev rfl).trans (congrArg (fun A => Value.slice A x1.length c1) ((S.rc0 h1.rc).rd.ad (ix_pos hk119)))) (hF.ev rfl) hk119.1 hk119.2 (k' := adO A1 + p116.2.toNat * 3) rfl) (ov rfl rfl rfl (fun a hF=>run_loadN (cs := #[.int .i64 ((x1.getD p116.2.toNat ((0, 0, 0) : Int × Int × Int)).1), .int .i64 ((x1.getD p116.2.toNat ((0, 0, 0) : Int × Int × Int)).2.1), .int .i64 ((x1.getD p116.2.toNat ((0, 0, 0) : Int × Int × Int)).2.2)]) rfl ag107 (hF.ev rfl) rfl (rd_elN (l := x1) (S.rc0 h1.rc).rd rfl eLine_len ((0, 0, 0) : Int × Int × Int) (ix_ltn hk119 rfl) rfl)) fun a hF=>?_)
      refine op_new (cs := #[.int .i64 0, .int .i64 0, .int .i64 0]) rfl rfl hF rfl S (run_allocZ rfl zr107) ?_; clear hF S; intro a g120 u hF S
      refine op_do rfl rfl (run_store (cs' := #[.int .i64 ((x1.getD p116.2.toNat ((0, 0, 0) : Int × Int × Int)).1), .int .i64 ((x1.getD p116.2.toNat ((0, 0, 0) : Int × Int × Int)).2.1), .int .i64 ((x1.getD p116.2.toNat ((0, 0, 0) : Int × Int × Int)).2.2)]) rfl sz107 (hF.ev rfl) (hF.ev rfl) rfl rfl rfl (S.free 0 rfl) rfl rfl) ?_; replace S := S.put 0 rfl (#[.int .i64 ((x1.getD p116.2.toNat ((0, 0, 0) : Int × Int × Int)).1), .int .i64 ((x1.getD p116.2.toNat ((0, 0, 0) : Int × Int × Int)).2.1), .int .i64 ((x1.getD p116.2.toNat ((0, 0, 0) : Int × Int × Int)).2.2)])
      generalize World.setRow _ _ _ = u at S ⊢
      refine wn ?_
      revert a;refine sr (mv rfl rfl (mv rfl rfl fun a hF=>?_))
      obtain ⟨hk121, hM115⟩ := chk_ex hM115
      replace hk121 := ixB_t hk121
      revert a;refine ov rfl rfl rfl (fun a hF=>run_indexAddr (b := adB A2) (off := adO A2) rfl Try.underlying26 sz4 ((hF.ev rfl).trans (congrArg (fun A => Value.slice A x2.length c2) ((S.rc0 h2.rc).rd.ad (ix_pos hk121)))) (hF.ev rfl) hk121.1 hk121.2 (k' := adO A2 + p116.2.toNat * 1) rfl) (ov (v := .bool (x2.getD p116.2.toNat false)) rfl rfl rfl (fun a hF=>run_load1 rfl one4 (hF.ev rfl) (rd_el0 (l := x2) (S.rc0 h2.rc).rd rfl eB_len false (ix_ltn hk121 rfl) rfl)) (mv rfl rfl fun a hF=>?_))
      refine op_gv (v := .slice (some ⟨g102, 0, none⟩) x0.toNat x0.toNat) rfl rfl hF rfl (yt (gw_yield hF rfl rfl rfl)) (fun hg => (run_move rfl (hF.ev rfl))) ?_;clear hF;intro a hF
      refine op_gv (v := .pointer (some ⟨g120, 0, none⟩)) rfl rfl hF rfl (yt (gw_yield hF rfl rfl rfl)) (fun hg => (run_fieldAddr rfl fl107_0 (hF.ev rfl) rfl)) ?_;clear hF;intro a hF
      refine op_gv (v := .int .i64 ((x1.getD p116.2.toNat ((0, 0, 0) : Int × Int × Int)).1)) rfl rfl hF rfl (yt (gw_yield hF rfl rfl rfl)) (fun hg => (run_load1 rfl one3 ((hF.ev rfl).trans (gv_t hg)) ((S.free 0 rfl).cell rfl))) ?_;clear hF;intro a hF
      obtain ⟨hk122, hM115⟩ := chk_ex hM115
      replace hk122 := fun hg => ixB_t (imp_t hk122 hg)
      refine op_gv (v := .pointer (some ⟨adB (some ⟨g102, 0, none⟩), adO (some ⟨g102, 0, none⟩) + (((x1.getD p116.2.toNat ((0, 0, 0) : Int × Int × Int)).1).toNat) * 1, none⟩)) rfl rfl hF rfl (yt (gw_yield hF rfl rfl rfl)) (fun hg => (run_indexAddr (b := adB (some ⟨g102, 0, none⟩)) (off := adO (some ⟨g102, 0, none⟩)) rfl Try.underlying26 sz4 (((hF.ev rfl).trans (gv_t hg)).trans (congrArg (fun A => Value.slice A x0.toNat x0.toNat) ((S.rc 2 rfl).rd.ad (ix_pos (hk122 hg))))) ((hF.ev rfl).trans (gv_t hg)) (hk122 hg).1 (hk122 hg).2 (k' := adO (some ⟨g102, 0, none⟩) + (((x1.getD p116.2.toNat ((0, 0, 0) : Int × Int × Int)).1).toNat) * 1) rfl)) ?_;clear hF;intro a hF
      refine op_gv (v := .bool (p116.1.getD (((x1.getD p116.2.toNat ((0, 0, 0) : Int × Int × Int)).1).toNat) false)) rfl rfl hF rfl (yt (gw_yield hF rfl rfl rfl)) (fun hg => (run_load1 rfl one4 ((hF.ev rfl).trans (gv_t hg)) (rd_el0 (l := p116.1) (S.rc 2 rfl).rd hn117 eB_len false (ix_ltn (hk122 hg) hn117) rfl))) ?_;clear hF;intro a hF
      refine op_gv (v := .bool (p116.1.getD (((x1.getD p116.2.toNat ((0, 0, 0) : Int × Int × Int)).1).toNat) false)) rfl rfl hF rfl (yt (gw_yield hF rfl rfl rfl)) (fun hg => (run_move rfl ((hF.ev rfl).trans (gv_t hg)))) ?_;clear hF;intro a hF
      refine op_gv (v := .slice (some ⟨g102, 0, none⟩) x0.toNat x0.toNat) rfl rfl hF rfl (yfG (gw_yieldG hF rfl rfl rfl)) (fun hg => (run_move rfl (hF.ev rfl))) ?_;clear hF;intro a hF
      refine op_gv (v := .pointer (some ⟨g120, 1, none⟩)) rfl rfl hF rfl (yfG (gw_yieldG hF rfl rfl rfl)) (fun hg => (run_fieldAddr rfl fl107_1 (hF.ev rfl) rfl)) ?_;clear hF;intro a hF
      refine op_gv (v := .int .i64 ((x1.getD p116.2.toNat ((0, 0, 0) : Int × Int × Int)).2.1)) rfl rfl hF rfl (yfG (gw_yieldG hF rfl rfl rfl)) (fun hg => (run_load1 rfl one3 ((hF.ev rfl).trans (gv_t hg)) ((S.free 0 rfl).cell rfl))) ?_;clear hF;intro a hF
      obtain ⟨hk123, hM115⟩ := chk_ex hM115
      replace hk123 := fun hg => ixB_t (imp_t hk123 hg)
      refine op_gv (v := .pointer (some ⟨adB (some ⟨g102, 0, none⟩), adO (some ⟨g102, 0, none⟩) + (((x1.getD p116.2.toNat ((0, 0, 0) : Int × Int × Int)).2.1).toNat) * 1, none⟩)) rfl rfl hF rfl (yfG (gw_yieldG hF rfl rfl rfl)) (fun hg => (run_indexAddr (b := adB (some ⟨g102, 0, none⟩)) (off := adO (some ⟨g102, 0, none⟩)) rfl Try.underlying26 sz4 (((hF.ev rfl).trans (gv_t hg)).trans (congrArg (fun A => Value.slice A x0.toNat x0.toNat) ((S.rc 2 rfl).rd.ad (ix_pos (hk123 hg))))) ((hF.ev rfl).trans (gv_t hg)) (hk123 hg).1 (hk123 hg).2 (k' := adO (some ⟨g102, 0, none⟩) + (((x1.getD p116.2.toNat ((0, 0, 0) : Int × Int × Int)).2.1).toNat) * 1) rfl)) ?_;clear hF;intro a hF
      refine op_gv (v := .bool (p116.1.getD (((x1.getD p116.2.toNat ((0, 0, 0) : Int × Int × Int)).2.1).toNat) false)) rfl rfl hF rfl (yfG (gw_yieldG hF rfl rfl rfl)) (fun hg => (run_load1 rfl one4 ((hF.ev rfl).trans (gv_t hg)) (rd_el0 (l := p116.1) (S.rc 2 rfl).rd hn117 eB_len false (ix_ltn (hk123 hg) hn117) rfl))) ?_;clear hF;intro a hF
      refine op_gv (v := .bool ((p116.1.getD (((x1.getD p116.2.toNat ((0, 0, 0) : Int × Int × Int)).1).toNat) false) || (p116.1.getD (((x1.getD p116.2.toNat ((0, 0, 0) : Int × Int × Int)).2.1).toNat) false))) rfl rfl hF rfl (yt (gw_yield hF rfl rfl rfl)) (fun hg => (run_pick_or rfl ((hF.ev rfl).trans (gv_t hg)) rfl (fun hp => ((hF.ev rfl).trans (gv_t (and_i hg (not_t hp))))))) ?_;clear hF;intro a hF
      refine op_val (v := .bool ((x2.getD p116.2.toNat false) && ((p116.1.getD (((x1.getD p116.2.toNat ((0, 0, 0) : Int × Int × Int)).1).toNat) false) || (p116.1.getD (((x1.getD p116.2.toNat ((0, 0, 0) : Int × Int × Int)).2.1).toNat) false)))) rfl rfl hF rfl (run_pick_and rfl (hF.ev rfl) (fun hp => ((hF.ev rfl).trans (gv_t hp))) rfl) ?_;clear hF;intro a hF
      refine wn ?_
      obtain ⟨o125, hM127, hM115⟩ := bind_ex hM115
      refine wp_cut (fun a u => ∃ (p124 : List Bool), p124 = o125 ∧ x0.toNat = p124.length ∧ Fr a 62 [(1, .slice A2 x2.length c2), (3, .pointer (some ⟨g101, 0, none⟩)), (6, .slice none 0 0), (7, .slice (some ⟨g102, 0, none⟩) x0.toNat x0.toNat), (8, .int .i64 p109.2), (9, .int .i64 p116.2)] ∧ St w u [.box g101 37 #[.int .i64 x0, .slice A1 x1.length c1], .row 4 1 (.slice (some ⟨g102, 0, none⟩) x0.toNat x0.toNat) x0.toNat (p124.flatMap eB)]) ?_ ?_
      · have _ := trivial
        cases hc128 : ((x2.getD p116.2.toNat false) && ((p116.1.getD (((x1.getD p116.2.toNat ((0, 0, 0) : Int × Int × Int)).1).toNat) false) || (p116.1.getD (((x1.getD p116.2.toNat ((0, 0, 0) : Int × Int × Int)).2.1).toNat) false)))
        · replace hM127 := bif_f hc128 hM127
          refine cond_f hF rfl hc128 ?_
          refine wp_skip ?_
          obtain rfl := Option.some.inj hM127
          exact ⟨p116.1, rfl, hn117, hF.keep _ ⟨rfl, rfl, rfl, rfl, rfl, rfl, trivial⟩, S.sel [1, 2] rfl rfl⟩
        replace hM127 := bif_t hc128 hM127
        refine cond_t hF rfl hc128 ?_
        revert a;refine sr (mv rfl rfl (ov (v := .pointer (some ⟨g120, 0, none⟩)) rfl rfl rfl (fun a hF=>run_fieldAddr rfl fl107_0 (hF.ev rfl) rfl) (ov (v := .int .i64 ((x1.getD p116.2.toNat ((0, 0, 0) : Int × Int × Int)).1)) rfl rfl rfl (fun a hF=>run_load1 rfl one3 (hF.ev rfl) ((S.free 0 rfl).cell rfl)) fun a hF=>?_)))
        obtain ⟨hk129, hM127⟩ := chk_ex hM127
        replace hk129 := ixB_t hk129
        refine op_val (v := .pointer (some ⟨adB (some ⟨g102, 0, none⟩), adO (some ⟨g102, 0, none⟩) + (((x1.getD p116.2.toNat ((0, 0, 0) : Int × Int × Int)).1).toNat) * 1, none⟩)) rfl rfl hF rfl (run_indexAddr (b := adB (some ⟨g102, 0, none⟩)) (off := adO (some ⟨g102, 0, none⟩)) rfl Try.underlying26 sz4 ((hF.ev rfl).trans (congrArg (fun A => Value.slice A x0.toNat x0.toNat) ((S.rc 2 rfl).rd.ad (ix_pos hk129)))) (hF.ev rfl) hk129.1 hk129.2 (k' := adO (some ⟨g102, 0, none⟩) + (((x1.getD p116.2.toNat ((0, 0, 0) : Int × Int × Int)).1).toNat) * 1) rfl) ?_;clear hF;intro a hF
        obtain ⟨w', hrun, S'⟩ := run_storeElN (P := Try.prog) (ρ := a.eval) (y0 := true) (off := 0) S 4 (.tmp 56) (.const (.bool true)) (i := 2) sz4 (hF.ev rfl) rfl rfl rfl rfl rfl hn117 eB_len false (ix_ltn hk129 hn117) rfl rfl
        refine op_do rfl rfl (hrun _ rfl) ?_; clear hrun S; have S := S'; clear S'; generalize w' = u at S ⊢
        refine wn ?_
        revert a;refine rl (mv rfl rfl (ov (v := .pointer (some ⟨g120, 1, none⟩)) rfl rfl rfl (fun a hF=>run_fieldAddr rfl fl107_1 (hF.ev rfl) rfl) (ov (v := .int .i64 ((x1.getD p116.2.toNat ((0, 0, 0) : Int × Int × Int)).2.1)) rfl rfl rfl (fun a hF=>run_load1 rfl one3 (hF.ev rfl) ((S.free 0 rfl).cell rfl)) fun a hF=>?_)))
        obtain ⟨hk130, hM127⟩ := chk_ex hM127
        replace hk130 := ixB_t hk130
        refine op_val (v := .pointer (some ⟨adB (some ⟨g102, 0, none⟩), adO (some ⟨g102, 0, none⟩) + (((x1.getD p116.2.toNat ((0, 0, 0) : Int × Int × Int)).2.1).toNat) * 1, none⟩)) rfl rfl hF rfl (run_indexAddr (b := adB (some ⟨g102, 0, none⟩)) (off := adO (some ⟨g102, 0, none⟩)) rfl Try.underlying26 sz4 ((hF.ev rfl).trans (congrArg (fun A => Value.slice A x0.toNat x0.toNat) ((S.rc 2 rfl).rd.ad (ix_pos hk130)))) (hF.ev rfl) hk130.1 hk130.2 (k' := adO (some ⟨g102, 0, none⟩) + (((x1.getD p116.2.toNat ((0, 0, 0) : Int × Int × Int)).2.1).toNat) * 1) rfl) ?_;clear hF;intro a hF
        obtain ⟨w', hrun, S'⟩ := run_storeElN (P := Try.prog) (ρ := a.eval) (y0 := true) (off := 0) S 4 (.tmp 60) (.const (.bool true)) (i := 2) sz4 (hF.ev rfl) rfl rfl rfl rfl rfl (len_set hn117) eB_len false (ix_ltn hk130 (len_set hn117)) rfl rfl
        refine op_do rfl rfl (hrun _ rfl) ?_; clear hrun S; have S := S'; clear S'; generalize w' = u at S ⊢
        refine wn ?_
        obtain rfl := Option.some.inj hM127
        exact ⟨(p116.1.set (((x1.getD p116.2.toNat ((0, 0, 0) : Int × Int × Int)).1).toNat) true).set (((x1.getD p116.2.toNat ((0, 0, 0) : Int × Int × Int)).2.1).toNat) true, rfl, (len_set (len_set hn117)), hF.keep _ ⟨rfl, rfl, rfl, rfl, rfl, rfl, trivial⟩, S.sel [1, 2] rfl rfl⟩
      rintro a u ⟨p124, rfl, hn126, hF, S⟩
      revert a;refine rl (mv rfl rfl (ov (v := .int .i64 (w64 (p116.2 + 1))) rfl rfl rfl (fun a hF=>run_add (z := w64 (p116.2 + 1)) (hF.ev rfl) rfl rfl rfl) (ag rfl rfl fun a hF=>wn ?_)))
      exact ⟨f2, Nat.lt_succ_self _, (p124, w64 (p116.2 + 1)), hM115, hn126, hF.keep _ ⟨rfl, rfl, rfl, rfl, rfl, rfl, trivial⟩, S.sel [0, 1] rfl rfl⟩
    rintro a u ⟨p112, rfl, hn114, hF, S⟩
    revert a;refine rl (mv rfl rfl (ov (v := .int .i64 (w64 (p109.2 + 1))) rfl rfl rfl (fun a hF=>run_add (z := w64 (p109.2 + 1)) (hF.ev rfl) rfl rfl rfl) (ag rfl rfl fun a hF=>wn ?_)))
    exact ⟨f1, Nat.lt_succ_self _, (p112, w64 (p109.2 + 1)), hM108, hn114, hF.keep _ ⟨rfl, rfl, rfl, rfl, rfl, trivial⟩, S.sel [0, 1] rfl rfl⟩
  rintro a u ⟨p105, rfl, hn107, hF, S⟩
  revert a;refine sr (mv rfl rfl (ag rfl rfl fun a hF=>wn ?_))
  refine wp_ret ?_
  repeat with_reducible first|refine tr ?_|refine ir ?_|refine nr ?_
  refine ret1_gw (.inl rfl) hF rfl (res_tmp (hF.ev rfl)) ?_
  obtain rfl := Option.some.inj hM
  exact ⟨(some ⟨g102, 0, none⟩), x0.toNat, x0.toNat, rfl, hn107, S.sel [0] rfl rfl⟩
theorem c_spec_Reached {x0 : Int} {x1 : List (Int × Int × Int)} {x2 : List Bool} {x3 : Int} {A1 : Option Addr} {n1 c1 : Nat} {A2 : Option Addr} {n2 c2 : Nat} {w : World} {r : List Int} (h1 : Rt w 3 eLine A1 n1 c1 x1) (h2 : Rt w 1 eB A2 n2 c2 x2) (hM : m_spec_Reached x0 x1 x2 x3 = some r) :
    Calls Try.prog 73 #[.agg #[.int .i64 x0, .slice A1 n1 c1], .slice A2 n2 c2, .int .i64 x3] w (fun e w' => ∃ (B0 : Option Addr) (N0 D0 : Nat), e = .returned (.slice B0 N0 D0) ∧ N0 = r.length ∧ St w w' [.row 3 1 (.slice B0 N0 D0) N0 (r.flatMap eI)]) := by
  obtain rfl := h1.len
  obtain rfl := h2.len
  unfold m_spec_Reached at hM
  refine calls_gw Try.func73 Try.ntmps73 rfl [(0, .agg #[.int .i64 x0, .slice A1 x1.length c1]), (1, .slice A2 x2.length c2), (2, .int .i64 x3)] ⟨rfl, rfl, rfl, trivial⟩ rfl ?_
  intro a hF
  have S := St.nil w
  refine wsg ?_
  refine op_new (cs := #[.int .i64 x0, .slice A1 x1.length c1]) rfl rfl hF rfl S (run_box rfl (hF.ev rfl) rfl) ?_; clear hF S; intro a g101 u hF S
  refine op_val (v := .slice none 0 0) rfl rfl hF rfl (run_assign rfl rfl) ?_;clear hF;intro a hF
  refine wn ?_
  refine wsg ?_
  refine op_newrow (cs := #[]) (size := 1) rfl rfl hF rfl S (run_buildSlice0 rfl Try.underlying30 (congrArg Option.isSome sz3)) rfl (Nat.zero_le _) ?_; clear hF S; intro a g102 u hF S
  refine op_val (v := .slice (some ⟨g102, 0, none⟩) 0 0) rfl rfl hF rfl (run_assign rfl (hF.ev rfl)) ?_;clear hF;intro a hF
  refine wn ?_
  refine ws ?_
  revert a;refine sr (ov rfl rfl rfl (fun a hF=>run_loadN rfl ag37 (hF.ev rfl) rfl ((S.free 1 rfl).cells 0 #[.int .i64 x0, .slice A1 x1.length c1] rfl)) (mv rfl rfl fun a hF=>?_))
  obtain ⟨p103, h103, hM⟩ := bind_ex hM
  refine op_call rfl rfl hF rfl (run_call (vs := [.agg #[.int .i64 x0, .slice A1 x1.length c1], .slice A2 x2.length c2]) rfl rfl co71 ⟨(hF.ev rfl), (hF.ev rfl), trivial⟩) (c_spec_StateValid (x0 := x0) (x1 := x1) (x2 := x2) ⟨(S.rc0 h1.rc), rfl⟩ ⟨(S.rc0 h2.rc), rfl⟩ h103) ?_
  rintro e u ⟨rfl, T⟩
  refine ⟨_, rfl, ?_⟩
  clear hF; intro a hF
  replace S := S.call0 T; clear T
  revert a;refine ov (v := .bool (!p103)) rfl rfl rfl (fun a hF=>run_not rfl (hF.ev rfl)) (mv rfl rfl fun a hF=>?_)
  refine op_gv (v := .int .i64 x3) rfl rfl hF rfl (yf (gw_yield hF rfl rfl rfl)) (fun hg => (run_move rfl (hF.ev rfl))) ?_;clear hF;intro a hF
  refine op_gv (v := .pointer (some ⟨g101, 0, none⟩)) rfl rfl hF rfl (yf (gw_yield hF rfl rfl rfl)) (fun hg => (run_fieldAddr rfl fl37_0 (hF.ev rfl) rfl)) ?_;clear hF;intro a hF
  refine op_gv (v := .int .i64 x0) rfl rfl hF rfl (yf (gw_yield hF rfl rfl rfl)) (fun hg => (run_load1 rfl one3 ((hF.ev rfl).trans (gv_t hg)) ((S.free 1 rfl).cell rfl))) ?_;clear hF;intro a hF
  refine op_gv (v := .int .i64 (w64 (x0 - 1))) rfl rfl hF rfl (yf (gw_yield hF rfl rfl rfl)) (fun hg => (run_sub (z := w64 (x0 - 1)) ((hF.ev rfl).trans (gv_t hg)) rfl rfl rfl)) ?_;clear hF;intro a hF
  obtain ⟨p104, h104, hM⟩ := bind_ex hM
  refine op_gcall (v := .bool p104) rfl rfl hF rfl S (yf (gw_yield hF rfl rfl rfl)) (fun hg => (run_call (vs := [.int .i64 x3, .int .i64 0, .int .i64 (w64 (x0 - 1))]) rfl rfl co22 ⟨((hF.ev rfl).trans (gv_t hg)), rfl, ((hF.ev rfl).trans (gv_t hg)), trivial⟩)) (fun hg => c_spec_l1In (x0 := x3) (x1 := 0) (x2 := w64 (x0 - 1))  (gb_t h104 hg)) ?_; clear hF S; intro a u hF S
  refine op_gv (v := .bool (!p104)) rfl rfl hF rfl (yf (gw_yield hF rfl rfl rfl)) (fun hg => (run_not rfl ((hF.ev rfl).trans (gv_t hg)))) ?_;clear hF;intro a hF
  refine op_val (v := .bool ((!p103) || (!p104))) rfl rfl hF rfl (run_pick_or rfl (hF.ev rfl) rfl (fun hp => ((hF.ev rfl).trans (gv_t (not_t hp))))) ?_;clear hF;intro a hF
  refine wn ?_
  cases hc105 : ((!p103) || (!p104))
  · replace hM := bif_f hc105 hM
    refine cond_f hF rfl hc105 ?_
    refine wp_skip ?_
    revert a;refine sr (ov rfl rfl rfl (fun a hF=>run_loadN rfl ag37 (hF.ev rfl) rfl ((S.free 1 rfl).cells 0 #[.int .i64 x0, .slice A1 x1.length c1] rfl)) (mv rfl rfl (mv rfl rfl fun a hF=>?_)))
    obtain ⟨p106, h106, hM⟩ := bind_ex hM
    refine op_call rfl rfl hF rfl (run_call (vs := [.agg #[.int .i64 x0, .slice A1 x1.length c1], .slice A2 x2.length c2, .int .i64 x3]) rfl rfl co86 ⟨(hF.ev rfl), (hF.ev rfl), (hF.ev rfl), trivial⟩) (c_spec_l3Reach (x0 := x0) (x1 := x1) (x2 := x2) (x3 := x3) ⟨(S.rc0 h1.rc), rfl⟩ ⟨(S.rc0 h2.rc), rfl⟩ h106) ?_
    rintro e u ⟨B107, n108, d109, rfl, rfl, T⟩
    refine ⟨_, rfl, ?_⟩
    clear hF; intro a hF
    replace S := S.call1 T; clear T
    refine op_val (v := .slice B107 p106.length d109) rfl rfl hF rfl (run_assign rfl (hF.ev rfl)) ?_;clear hF;intro a hF
    refine wn ?_
    refine ws ?_
    revert a;refine sr (ov (v := .int .i64 0) rfl rfl rfl (fun a hF=>run_assign rfl rfl) fun a hF=>wn ?_)
    obtain ⟨o111, hM114, hM⟩ := bind_ex hM
    refine wp_cut (fun a u => ∃ (p110 : List Int) (B112 : Option Addr) (d113 : Nat), p110 = o111 ∧ Fr a 43 [(6, .slice none 0 0), (7, .slice B112 p110.length d113)] ∧ St w u [.row 3 1 (.slice B112 p110.length d113) p110.length (p110.flatMap eI)]) ?_ ?_
    · have _ := trivial
      refine wp_block ?_
      refine loop_gw (fun m a u => ∃ (p115 : List Int × Int) (B116 : Option Addr) (d117 : Nat), m_spec_Reached_l1 x0 p106 m p115 = some _ ∧ Fr a 43 [(3, .pointer (some ⟨g101, 0, none⟩)), (6, .slice none 0 0), (7, .slice B116 p115.1.length d117), (8, .slice B107 p106.length d109), (9, .int .i64 p115.2)] ∧ St w u [.box g101 37 #[.int .i64 x0, .slice A1 x1.length c1], .row 3 1 (.slice B116 p115.1.length d117) p115.1.length (p115.1.flatMap eI), .row 4 1 (.slice B107 p106.length d109) p106.length (p106.flatMap eB)]) FUEL ⟨(([] : List Int), 0), (some ⟨g102, 0, none⟩), 0, hM114, hF.keep _ ⟨rfl, rfl, rfl, rfl, rfl, trivial⟩, S.sel [2, 1, 0] rfl rfl⟩ ?_
      clear hF S hM114; rintro m a u ⟨p115, B116, d117, hM114, hF, S⟩
      rcases m with _ | f1
      · exact none_some hM114
      rw [m_spec_Reached_l1.eq_2] at hM114
      refine ws ?_
      revert a;refine sr (mv rfl rfl (ov (v := .pointer (some ⟨g101, 0, none⟩)) rfl rfl rfl (fun a hF=>run_fieldAddr rfl fl37_0 (hF.ev rfl) rfl) (ov (v := .int .i64 x0) rfl rfl rfl (fun a hF=>run_load1 rfl one3 (hF.ev rfl) ((S.free 0 rfl).cell rfl)) (ov (v := .bool (ltB p115.2 x0)) rfl rfl rfl (fun a hF=>run_lss (hF.ev rfl) (hF.ev rfl) rfl) fun a hF=>wn ?_))))
      cases hc118 : (ltB p115.2 x0)
      · replace hM114 := bif_f hc118 hM114
        refine cond_f hF rfl hc118 ?_
        refine wp_exit ?_
        repeat with_reducible (first | refine then_exit ?_ | refine in_hit ?_ | refine in_miss rfl ?_)
        obtain rfl := Option.some.inj hM114
        exact ⟨p115.1, B116, d117, rfl, hF.keep _ ⟨rfl, rfl, trivial⟩, S.sel [1] rfl rfl⟩
      replace hM114 := bif_t hc118 hM114
      refine cond_t hF rfl hc118 ?_
      refine wp_skip ?_
      refine ws ?_
      refine wp_block ?_
      revert a;refine sr (mv rfl rfl (mv rfl rfl fun a hF=>?_))
      obtain ⟨hk119, hM114⟩ := chk_ex hM114
      replace hk119 := ixB_t hk119
      revert a;refine ov rfl rfl rfl (fun a hF=>run_indexAddr (b := adB B107) (off := adO B107) rfl Try.underlying26 sz4 ((hF.ev rfl).trans (congrArg (fun A => Value.slice A p106.length d109) ((S.rc 2 rfl).rd.ad (ix_pos hk119)))) (hF.ev rfl) hk119.1 hk119.2 (k' := adO B107 + p115.2.toNat * 1) rfl) (ov (v := .bool (p106.getD p115.2.toNat false)) rfl rfl rfl (fun a hF=>run_load1 rfl one4 (hF.ev rfl) (rd_el0 (l := p106) (S.rc 2 rfl).rd rfl eB_len false (ix_ltn hk119 rfl) rfl)) fun a hF=>wn ?_)
      obtain ⟨o121, hM124, hM114⟩ := bind_ex hM114
      refine wp_cut (fun a u => ∃ (p120 : List Int) (B122 : Option Addr) (d123 : Nat), p120 = o121 ∧ Fr a 43 [(3, .pointer (some ⟨g101, 0, none⟩)), (6, .slice none 0 0), (7, .slice B122 p120.length d123), (8, .slice B107 p106.length d109), (9, .int .i64 p115.2)] ∧ St w u [.box g101 37 #[.int .i64 x0, .slice A1 x1.length c1], .row 3 1 (.slice B122 p120.length d123) p120.length (p120.flatMap eI), .row 4 1 (.slice B107 p106.length d109) p106.length (p106.flatMap eB)]) ?_ ?_
      · have _ := trivial
        cases hc125 : (p106.getD p115.2.toNat false)
        · replace hM124 := bif_f hc125 hM124
          refine cond_f hF rfl hc125 ?_
          refine wp_skip ?_
          obtain rfl := Option.some.inj hM124
          exact ⟨p115.1, B116, d117, rfl, hF.keep _ ⟨rfl, rfl, rfl, rfl, rfl, trivial⟩, S.sel [0, 1, 2] rfl rfl⟩
        replace hM124 := bif_t hc125 hM124
        refine cond_t hF rfl hc125 ?_
        revert a;refine rl (mv rfl rfl (mv rfl rfl fun a hF=>?_))
        refine op_newrowL (ls := (([p115.2] : List Int) : List Int)) (e := eI) rfl rfl hF rfl S (run_buildS (vs := [(0, .int .i64 p115.2)]) rfl ⟨⟨rfl, (hF.ev rfl)⟩, trivial⟩ (bs30_1_0 rfl)) rfl eI_len (Nat.le_of_ble_eq_true rfl) ?_; clear hF S; intro a g126 u hF S
        obtain ⟨hk129, hM124⟩ := chk_ex hM124
        replace hk129 := apB_t hk129
        refine op_appendL (lx := p115.1) (ly := ([p115.2] : List Int)) rfl rfl hF rfl S rfl (hF.ev rfl) (hF.ev rfl) (i := 2) rfl rfl Try.underlying30 inf3 rfl (by decide) (S.rc 0 rfl).rd rfl eI_one hk129 (by decide) ?_; clear hF S; intro a B127 d128 u hF S
        refine op_val (v := .slice B127 ((p115.1 ++ ([p115.2] : List Int)).length) d128) rfl rfl hF rfl (run_assign rfl (hF.ev rfl)) ?_;clear hF;intro a hF
        refine wn ?_
        obtain rfl := Option.some.inj hM124
        exact ⟨p115.1 ++ ([p115.2] : List Int), B127, d128, rfl, hF.keep _ ⟨rfl, rfl, rfl, rfl, rfl, trivial⟩, S.sel [1, 2, 3] rfl rfl⟩
      rintro a u ⟨p120, B122, d123, rfl, hF, S⟩
      revert a;refine rl (mv rfl rfl (ov (v := .int .i64 (w64 (p115.2 + 1))) rfl rfl rfl (fun a hF=>run_add (z := w64 (p115.2 + 1)) (hF.ev rfl) rfl rfl rfl) (ag rfl rfl fun a hF=>wn ?_)))
      exact ⟨f1, Nat.lt_succ_self _, (p120, w64 (p115.2 + 1)), B122, d123, hM114, hF.keep _ ⟨rfl, rfl, rfl, rfl, rfl, trivial⟩, S.sel [0, 1, 2] rfl rfl⟩
    rintro a u ⟨p110, B112, d113, rfl, hF, S⟩
    revert a;refine sr (mv rfl rfl (ag rfl rfl fun a hF=>wn ?_))
    refine wp_ret ?_
    repeat with_reducible first|refine tr ?_|refine ir ?_|refine nr ?_
    refine ret1_gw (.inl rfl) hF rfl (res_tmp (hF.ev rfl)) ?_
    obtain rfl := Option.some.inj hM
    exact ⟨B112, p110.length, d113, rfl, rfl, S.sel [0] rfl rfl⟩
  replace hM := bif_t hc105 hM
  refine cond_t hF rfl hc105 ?_
  revert a;refine sr (mv rfl rfl (ag rfl rfl fun a hF=>wn ?_))
  refine wp_ret ?_
  repeat with_reducible first|refine tr ?_|refine ir ?_|refine nr ?_
  refine ret1_gw (.inl rfl) hF rfl (res_tmp (hF.ev rfl)) ?_
  obtain rfl := Option.some.inj hM
  exact ⟨(some ⟨g102, 0, none⟩), 0, 0, rfl, rfl, S.sel [0] rfl rfl⟩
theorem c_spec_l1Has {x0 : List Int} {x1 : Int} {A0 : Option Addr} {n0 c0 : Nat} {w : World} {r : Bool} (h0 : Rt w 1 eI A0 n0 c0 x0) (hM : m_spec_l1Has x0 x1 = some r) :
    Calls Try.prog 36 #[.slice A0 n0 c0, .int .i64 x1] w (fun e w' => e = .returned (.bool r) ∧ St w w' []) := by
  obtain rfl := h0.len
  unfold m_spec_l1Has at hM
  refine calls_gw Try.func36 Try.ntmps36 rfl [(0, .slice A0 x0.length c0), (1, .int .i64 x1)] ⟨rfl, rfl, trivial⟩ rfl ?_
  intro a hF
  have S := St.nil w
  revert a;refine sr (ov (v := .bool false) rfl rfl rfl (fun a hF=>run_assign rfl rfl) fun a hF=>wn ?_)
  refine ws ?_
  revert a;refine sr (ov (v := .int .i64 0) rfl rfl rfl (fun a hF=>run_assign rfl rfl) fun a hF=>wn ?_)
  obtain ⟨o102, hM103, hM⟩ := bind_ex hM
  refine wp_cut (fun a u => ∃ (p101 : Unit), (Sum.inl p101) = o102 ∧ Fr a 18 [(4, .bool false)] ∧ St w u []) ?_ ?_
  · have _ := trivial
    refine wp_block ?_
    refine loop_gw (fun m a u => ∃ (p104 : Int), m_spec_l1Has_l1 x0 x1 m p104 = some _ ∧ Fr a 18 [(0, .slice A0 x0.length c0), (1, .int .i64 x1), (4, .bool false), (5, .int .i64 p104)] ∧ St w u []) FUEL ⟨0, hM103, hF.keep _ ⟨rfl, rfl, rfl, rfl, trivial⟩, S.sel [] rfl rfl⟩ ?_
    clear hF S hM103; rintro m a u ⟨p104, hM103, hF, S⟩
    rcases m with _ | f1
    · exact none_some hM103
    rw [m_spec_l1Has_l1.eq_2] at hM103
    refine ws ?_
    revert a;refine sr (mv rfl rfl (mv rfl rfl (ov rfl rfl rfl (fun a hF=>run_lenL rfl rfl Try.underlying30 (hF.ev rfl)) (ov (v := .bool (ltB p104 (x0.length : Int))) rfl rfl rfl (fun a hF=>run_lss (hF.ev rfl) (hF.ev rfl) rfl) fun a hF=>wn ?_))))
    cases hc105 : (ltB p104 (x0.length : Int))
    · replace hM103 := bif_f hc105 hM103
      refine cond_f hF rfl hc105 ?_
      refine wp_exit ?_
      repeat with_reducible (first | refine then_exit ?_ | refine in_hit ?_ | refine in_miss rfl ?_)
      obtain rfl := Option.some.inj hM103
      exact ⟨(), rfl, hF.keep _ ⟨rfl, trivial⟩, S.sel [] rfl rfl⟩
    replace hM103 := bif_t hc105 hM103
    refine cond_t hF rfl hc105 ?_
    refine wp_skip ?_
    refine ws ?_
    refine wp_block ?_
    revert a;refine sr (mv rfl rfl (mv rfl rfl fun a hF=>?_))
    obtain ⟨hk106, hM103⟩ := chk_ex hM103
    replace hk106 := ixB_t hk106
    revert a;refine ov rfl rfl rfl (fun a hF=>run_indexAddr (b := adB A0) (off := adO A0) rfl Try.underlying30 sz3 ((hF.ev rfl).trans (congrArg (fun A => Value.slice A x0.length c0) ((S.rc0 h0.rc).rd.ad (ix_pos hk106)))) (hF.ev rfl) hk106.1 hk106.2 (k' := adO A0 + p104.toNat * 1) rfl) (ov (v := .int .i64 (x0.getD p104.toNat (0 : Int))) rfl rfl rfl (fun a hF=>run_load1 rfl one3 (hF.ev rfl) (rd_el0 (l := x0) (S.rc0 h0.rc).rd rfl eI_len (0 : Int) (ix_ltn hk106 rfl) rfl)) (mv rfl rfl (ov (v := .bool ((x0.getD p104.toNat (0 : Int)) == x1)) rfl rfl rfl (fun a hF=>run_eql (hF.ev rfl) (hF.ev rfl) rfl) fun a hF=>wn ?_)))
    cases hc107 : ((x0.getD p104.toNat (0 : Int)) == x1)
    · replace hM103 := bif_f hc107 hM103
      refine cond_f hF rfl hc107 ?_
      refine wp_skip ?_
      revert a;refine rl (mv rfl rfl (ov (v := .int .i64 (w64 (p104 + 1))) rfl rfl rfl (fun a hF=>run_add (z := w64 (p104 + 1)) (hF.ev rfl) rfl rfl rfl) (ag rfl rfl fun a hF=>wn ?_)))
      exact ⟨f1, Nat.lt_succ_self _, w64 (p104 + 1), hM103, hF.keep _ ⟨rfl, rfl, rfl, rfl, trivial⟩, S.sel [] rfl rfl⟩
    replace hM103 := bif_t hc107 hM103
    refine cond_t hF rfl hc107 ?_
    revert a;refine sr (ov (v := .bool true) rfl rfl rfl (fun a hF=>run_assign rfl rfl) fun a hF=>wn ?_)
    refine wp_ret ?_
    repeat with_reducible first|refine tr ?_|refine ir ?_|refine nr ?_
    refine ret1_gw (.inl rfl) hF rfl (res_tmp (hF.ev rfl)) ?_
    obtain rfl := Option.some.inj hM103
    obtain rfl := Option.some.inj hM
    exact ⟨rfl, S.sel [] rfl rfl⟩
  rintro a u ⟨p101, rfl, hF, S⟩
  replace hM := elim_l hM
  revert a;refine sr (ov (v := .bool false) rfl rfl rfl (fun a hF=>run_assign rfl rfl) fun a hF=>wn ?_)
  refine wp_ret ?_
  repeat with_reducible first|refine tr ?_|refine ir ?_|refine nr ?_
  refine ret1_gw (.inl rfl) hF rfl (res_tmp (hF.ev rfl)) ?_
  obtain rfl := Option.some.inj hM
  exact ⟨rfl, S.sel [] rfl rfl⟩
theorem c_spec_SameIsland {x0 : Int} {x1 : List (Int × Int × Int)} {x2 : List Bool} {x3 : Int} {x4 : Int} {A1 : Option Addr} {n1 c1 : Nat} {A2 : Option Addr} {n2 c2 : Nat} {w : World} {r : Bool} (h1 : Rt w 3 eLine A1 n1 c1 x1) (h2 : Rt w 1 eB A2 n2 c2 x2) (hM : m_spec_SameIsland x0 x1 x2 x3 x4 = some r) :
    Calls Try.prog 49 #[.agg #[.int .i64 x0, .slice A1 n1 c1], .slice A2 n2 c2, .int .i64 x3, .int .i64 x4] w (fun e w' => e = .returned (.bool r) ∧ St w w' []) := by
  obtain rfl := h1.len
  obtain rfl := h2.len
  unfold m_spec_SameIsland at hM
  refine calls_gw Try.func49 Try.ntmps49 rfl [(0, .agg #[.int .i64 x0, .slice A1 x1.length c1]), (1, .slice A2 x2.length c2), (2, .int .i64 x3), (3, .int .i64 x4)] ⟨rfl, rfl, rfl, rfl, trivial⟩ rfl ?_
  intro a hF
  have S := St.nil w
  refine wsg ?_
  refine op_new (cs := #[.int .i64 x0, .slice A1 x1.length c1]) rfl rfl hF rfl S (run_box rfl (hF.ev rfl) rfl) ?_; clear hF S; intro a g101 u hF S
  refine op_val (v := .bool false) rfl rfl hF rfl (run_assign rfl rfl) ?_;clear hF;intro a hF
  refine wn ?_
  revert a;refine sr (ov rfl rfl rfl (fun a hF=>run_loadN rfl ag37 (hF.ev rfl) rfl ((S.free 0 rfl).cells 0 #[.int .i64 x0, .slice A1 x1.length c1] rfl)) (mv rfl rfl (mv rfl rfl fun a hF=>?_)))
  obtain ⟨p102, h102, hM⟩ := bind_ex hM
  refine op_call rfl rfl hF rfl (run_call (vs := [.agg #[.int .i64 x0, .slice A1 x1.length c1], .slice A2 x2.length c2, .int .i64 x3]) rfl rfl co73 ⟨(hF.ev rfl), (hF.ev rfl), (hF.ev rfl), trivial⟩) (c_spec_Reached (x0 := x0) (x1 := x1) (x2 := x2) (x3 := x3) ⟨(S.rc0 h1.rc), rfl⟩ ⟨(S.rc0 h2.rc), rfl⟩ h102) ?_
  rintro e u ⟨B103, n104, d105, rfl, rfl, T⟩
  refine ⟨_, rfl, ?_⟩
  clear hF; intro a hF
  replace S := S.call1 T; clear T
  refine op_val (v := .int .i64 x4) rfl rfl hF rfl (run_move rfl (hF.ev rfl)) ?_;clear hF;intro a hF
  obtain ⟨p106, h106, hM⟩ := bind_ex hM
  refine op_call rfl rfl hF rfl (run_call (vs := [.slice B103 p102.length d105, .int .i64 x4]) rfl rfl co36 ⟨(hF.ev rfl), (hF.ev rfl), trivial⟩) (c_spec_l1Has (x0 := p102) (x1 := x4) ⟨(S.rc 0 rfl), rfl⟩ h106) ?_
  rintro e u ⟨rfl, T⟩
  refine ⟨_, rfl, ?_⟩
  clear hF; intro a hF
  replace S := S.call0 T; clear T
  refine op_val (v := .bool p106) rfl rfl hF rfl (run_assign rfl (hF.ev rfl)) ?_;clear hF;intro a hF
  refine wn ?_
  refine wp_ret ?_
  repeat with_reducible first|refine tr ?_|refine ir ?_|refine nr ?_
  refine ret1_gw (.inl rfl) hF rfl (res_tmp (hF.ev rfl)) ?_
  obtain rfl := Option.some.inj hM
  exact ⟨rfl, S.sel [] rfl rfl⟩
end Go.Proofs.Ytcmnjaccapbhfaa
