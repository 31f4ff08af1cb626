/- Calls return what the models say. -/
import Derived.Test.YtnoeliaefhldmaaDa2
namespace Go.Proofs.Ytnoeliaefhldmaa
open Go.ChangeShapes Go.WideShapes Go.ChangeAt Go.RowKit
set_option linter.unusedVariables false
set_option linter.unusedSimpArgs false

set_option maxHeartbeats 4000000 in
theorem c_laws_markBoolS {x0 : List Bool} {x1 : Int} {A0 : Option Addr} {n0 c0 : Nat} {w : World} {r : Int × List Bool} {w0 : World} {X : List Asn} (h0 : n0 = x0.length) (S : St w0 w (Asn.row 4 1 (.slice A0 n0 c0) n0 (x0.flatMap eB) :: X)) (hM : m_laws_markBoolS x0 x1 = some r) :
    Calls Try.prog 35 #[.slice A0 n0 c0, .int .i64 x1] w (fun e w' => e = .returned (.int .i64 r.1) ∧ n0 = r.2.length ∧ St w0 w' (Asn.row 4 1 (.slice A0 n0 c0) n0 (r.2.flatMap eB) :: X)) := by
  obtain rfl := h0
  unfold m_laws_markBoolS at hM
  refine calls_gw Try.func35 Try.ntmps35 rfl [(0, .slice A0 x0.length c0), (1, .int .i64 x1)] ⟨rfl, rfl, trivial⟩ rfl ?_
  intro a hF
  refine wp_seq ?_
  refine wp_region_lit ?_
  refine op_val (v := .int .i64 0) rfl rfl hF rfl (run_assign rfl rfl) ?_; clear hF; intro a hF
  refine wpList_nil ?_
  refine wp_seq ?_
  refine wp_seq ?_
  refine wp_region_lit ?_
  refine op_val (v := .int .i64 0) rfl rfl hF rfl (run_assign rfl rfl) ?_; clear hF; intro a hF
  refine wpList_nil ?_
  obtain ⟨o102, hM104, hM⟩ := bind_ex hM
  refine wp_cut (fun a u => ∃ (p101 : Int × List Bool), p101 = o102 ∧ x0.length = p101.2.length ∧ Fr a 21 [(1, .int .i64 p101.1), (4, .int .i64 0)] ∧ St w0 u (Asn.row 4 1 (.slice A0 x0.length c0) x0.length (p101.2.flatMap eB) :: X)) ?_ ?_
  · have _ := trivial
    refine wp_block ?_
    refine loop_gw (fun m a u => ∃ (p105 : List Bool × Int × Int), m_laws_markBoolS_l1 x0 m p105 = some _ ∧ x0.length = p105.1.length ∧ Fr a 21 [(0, .slice A0 x0.length c0), (1, .int .i64 p105.2.1), (4, .int .i64 0), (5, .int .i64 p105.2.2)] ∧ St w0 u (Asn.row 4 1 (.slice A0 x0.length c0) x0.length (p105.1.flatMap eB) :: X)) FUEL ⟨(x0, x1, 0), hM104, rfl, hF.keep _ ⟨rfl, rfl, rfl, rfl, trivial⟩, S.selT (M := [.row 4 1 (.slice A0 x0.length c0) x0.length (x0.flatMap eB)]) 1 [0] rfl rfl rfl⟩ ?_
    clear hF S hM104; rintro m a u ⟨p105, hM104, hn106, hF, S⟩
    rcases m with _ | f1
    · exact none_some hM104
    rw [m_laws_markBoolS_l1.eq_2] at hM104
    refine wp_seq ?_
    refine wp_seq ?_
    refine wp_region_lit ?_
    refine op_val (v := .int .i64 p105.2.2) rfl rfl hF rfl (run_move rfl (hF.ev rfl)) ?_; clear hF; intro a hF
    refine op_val (v := .slice A0 x0.length c0) rfl rfl hF rfl (run_move rfl (hF.ev rfl)) ?_; clear hF; intro a hF
    refine op_val (v := .int .i64 (x0.length : Int)) rfl rfl hF rfl (run_lenL rfl rfl Try.underlying22 (hF.ev rfl)) ?_; clear hF; intro a hF
    refine op_val (v := .bool (ltB p105.2.2 (x0.length : Int))) rfl rfl hF rfl (run_lss (hF.ev rfl) (hF.ev rfl) rfl) ?_; clear hF; intro a hF
    refine wpList_nil ?_
    cases hc107 : (ltB p105.2.2 (x0.length : Int))
    · replace hM104 := bif_f hc107 hM104
      refine cond_f hF rfl hc107 ?_
      refine wp_exit ?_
      repeat with_reducible (first | refine then_exit ?_ | refine in_hit ?_ | refine in_miss rfl ?_)
      obtain rfl := Option.some.inj hM104
      exact ⟨(p105.2.1, p105.1), rfl, hn106, hF.keep _ ⟨rfl, rfl, trivial⟩, S.selT (M := [.row 4 1 (.slice A0 x0.length c0) x0.length (p105.1.flatMap eB)]) 1 [0] rfl rfl rfl⟩
    · replace hM104 := bif_t hc107 hM104
      refine cond_t hF rfl hc107 ?_
      refine wp_skip ?_
      refine wp_seq ?_
      refine wp_block ?_
      refine wp_seq ?_
      refine wp_region_lit ?_
      refine op_val (v := .slice A0 x0.length c0) rfl rfl hF rfl (run_move rfl (hF.ev rfl)) ?_; clear hF; intro a hF
      refine op_val (v := .int .i64 p105.2.2) rfl rfl hF rfl (run_move rfl (hF.ev rfl)) ?_; clear hF; intro a hF
      refine op_val (v := .int .i64 p105.2.1) rfl rfl hF rfl (run_move rfl (hF.ev rfl)) ?_; clear hF; intro a hF
      refine op_val (v := .int .i64 (Int.tmod p105.2.1 3)) rfl rfl hF rfl (run_rem (z := Int.tmod p105.2.1 3) (hF.ev rfl) rfl rfl (by decide) rfl) ?_; clear hF; intro a hF
      refine op_val (v := .bool ((Int.tmod p105.2.1 3) == 0)) rfl rfl hF rfl (run_eql (hF.ev rfl) rfl rfl) ?_; clear hF; intro a hF
      obtain ⟨hk108, hM104⟩ := chk_ex hM104
      replace hk108 := ixB_t hk108
      refine op_val (v := .pointer (some ⟨adB A0, adO A0 + p105.2.2.toNat * 1, none⟩)) rfl rfl hF rfl (run_indexAddr (b := adB A0) (off := adO A0) rfl Try.underlying22 sz4 ((hF.ev rfl).trans (congrArg (fun A => Value.slice A x0.length c0) ((S.rc 0 rfl).rd.ad (ix_pos hk108)))) (hF.ev rfl) hk108.1 hk108.2 (k' := adO A0 + p105.2.2.toNat * 1) rfl) ?_; clear hF; intro a hF
      obtain ⟨w', hrun, S'⟩ := run_storeElN (P := Try.prog) (ρ := a.eval) (y0 := (Int.tmod p105.2.1 3) == 0) (off := 0) S 4 (.tmp 17) (.tmp 16) (i := 0) sz4 (hF.ev rfl) (hF.ev rfl) rfl rfl rfl rfl hn106 eB_len false (ix_ltn hk108 hn106) rfl rfl
      refine op_do rfl rfl (hrun _ rfl) ?_; clear hrun S; have S := S'; clear S'; generalize w' = u at S ⊢
      refine wpList_nil ?_
      refine wp_region_lit ?_
      refine op_val (v := .int .i64 p105.2.1) rfl rfl hF rfl (run_move rfl (hF.ev rfl)) ?_; clear hF; intro a hF
      refine op_val (v := .int .i64 (w64 (p105.2.1 + 1))) rfl rfl hF rfl (run_add (z := w64 (p105.2.1 + 1)) (hF.ev rfl) rfl rfl rfl) ?_; clear hF; intro a hF
      refine op_val (v := .int .i64 (w64 (p105.2.1 + 1))) rfl rfl hF rfl (run_assign rfl (hF.ev rfl)) ?_; clear hF; intro a hF
      refine wpList_nil ?_
      refine wp_region_lit ?_
      refine op_val (v := .int .i64 p105.2.2) rfl rfl hF rfl (run_move rfl (hF.ev rfl)) ?_; clear hF; intro a hF
      refine op_val (v := .int .i64 (w64 (p105.2.2 + 1))) rfl rfl hF rfl (run_add (z := w64 (p105.2.2 + 1)) (hF.ev rfl) rfl rfl rfl) ?_; clear hF; intro a hF
      refine op_val (v := .int .i64 (w64 (p105.2.2 + 1))) rfl rfl hF rfl (run_assign rfl (hF.ev rfl)) ?_; clear hF; intro a hF
      refine wpList_nil ?_
      exact ⟨f1, Nat.lt_succ_self _, (p105.1.set p105.2.2.toNat ((Int.tmod p105.2.1 3) == 0), w64 (p105.2.1 + 1), w64 (p105.2.2 + 1)), hM104, (len_set hn106), hF.keep _ ⟨rfl, rfl, rfl, rfl, trivial⟩, S.selT (M := [.row 4 1 (.slice A0 x0.length c0) x0.length ((p105.1.set p105.2.2.toNat ((Int.tmod p105.2.1 3) == 0)).flatMap eB)]) 1 [0] rfl rfl rfl⟩
  · rintro a u ⟨p101, rfl, hn103, hF, S⟩
    refine wp_seq ?_
    refine wp_region_lit ?_
    refine op_val (v := .int .i64 p101.1) rfl rfl hF rfl (run_move rfl (hF.ev rfl)) ?_; clear hF; intro a hF
    refine op_val (v := .int .i64 p101.1) rfl rfl hF rfl (run_assign rfl (hF.ev rfl)) ?_; clear hF; intro a hF
    refine wpList_nil ?_
    refine wp_ret ?_
    repeat with_reducible (first | refine then_ret ?_ | refine in_ret ?_ | refine in_nrm ?_)
    refine ret1_gw (.inl rfl) hF rfl (res_tmp (hF.ev rfl)) ?_
    obtain rfl := Option.some.inj hM
    exact ⟨rfl, hn103, S.selT (M := [.row 4 1 (.slice A0 x0.length c0) x0.length (p101.2.flatMap eB)]) 1 [0] rfl rfl rfl⟩

set_option maxHeartbeats 4000000 in
theorem c_laws_markPermitS {x0 : List (Int × Int)} {x1 : Int} {A0 : Option Addr} {n0 c0 : Nat} {w : World} {r : Int × List (Int × Int)} {w0 : World} {X : List Asn} (h0 : n0 = x0.length) (S : St w0 w (Asn.row 56 2 (.slice A0 n0 c0) n0 (x0.flatMap ePermit) :: X)) (hM : m_laws_markPermitS x0 x1 = some r) :
    Calls Try.prog 36 #[.slice A0 n0 c0, .int .i64 x1] w (fun e w' => e = .returned (.int .i64 r.1) ∧ n0 = r.2.length ∧ St w0 w' (Asn.row 56 2 (.slice A0 n0 c0) n0 (r.2.flatMap ePermit) :: X)) := by
  obtain rfl := h0
  unfold m_laws_markPermitS at hM
  refine calls_gw Try.func36 Try.ntmps36 rfl [(0, .slice A0 x0.length c0), (1, .int .i64 x1)] ⟨rfl, rfl, trivial⟩ rfl ?_
  intro a hF
  refine wp_seq ?_
  refine wp_region_lit ?_
  refine op_val (v := .int .i64 0) rfl rfl hF rfl (run_assign rfl rfl) ?_; clear hF; intro a hF
  refine wpList_nil ?_
  refine wp_seq ?_
  refine wp_seq ?_
  refine wp_region_lit ?_
  refine op_val (v := .int .i64 0) rfl rfl hF rfl (run_assign rfl rfl) ?_; clear hF; intro a hF
  refine wpList_nil ?_
  obtain ⟨o102, hM104, hM⟩ := bind_ex hM
  refine wp_cut (fun a u => ∃ (p101 : Int × List (Int × Int)), p101 = o102 ∧ x0.length = p101.2.length ∧ Fr a 27 [(1, .int .i64 p101.1), (4, .int .i64 0)] ∧ St w0 u (Asn.row 56 2 (.slice A0 x0.length c0) x0.length (p101.2.flatMap ePermit) :: X)) ?_ ?_
  · have _ := trivial
    refine wp_block ?_
    refine loop_gw (fun m a u => ∃ (p105 : List (Int × Int) × Int × Int), m_laws_markPermitS_l1 x0 m p105 = some _ ∧ x0.length = p105.1.length ∧ Fr a 27 [(0, .slice A0 x0.length c0), (1, .int .i64 p105.2.1), (4, .int .i64 0), (5, .int .i64 p105.2.2)] ∧ St w0 u (Asn.row 56 2 (.slice A0 x0.length c0) x0.length (p105.1.flatMap ePermit) :: X)) FUEL ⟨(x0, x1, 0), hM104, rfl, hF.keep _ ⟨rfl, rfl, rfl, rfl, trivial⟩, S.selT (M := [.row 56 2 (.slice A0 x0.length c0) x0.length (x0.flatMap ePermit)]) 1 [0] rfl rfl rfl⟩ ?_
    clear hF S hM104; rintro m a u ⟨p105, hM104, hn106, hF, S⟩
    rcases m with _ | f1
    · exact none_some hM104
    rw [m_laws_markPermitS_l1.eq_2] at hM104
    refine wp_seq ?_
    refine wp_seq ?_
    refine wp_region_lit ?_
    refine op_val (v := .int .i64 p105.2.2) rfl rfl hF rfl (run_move rfl (hF.ev rfl)) ?_; clear hF; intro a hF
    refine op_val (v := .slice A0 x0.length c0) rfl rfl hF rfl (run_move rfl (hF.ev rfl)) ?_; clear hF; intro a hF
    refine op_val (v := .int .i64 (x0.length : Int)) rfl rfl hF rfl (run_lenL rfl rfl Try.underlying29 (hF.ev rfl)) ?_; clear hF; intro a hF
    refine op_val (v := .bool (ltB p105.2.2 (x0.length : Int))) rfl rfl hF rfl (run_lss (hF.ev rfl) (hF.ev rfl) rfl) ?_; clear hF; intro a hF
    refine wpList_nil ?_
    cases hc107 : (ltB p105.2.2 (x0.length : Int))
    · replace hM104 := bif_f hc107 hM104
      refine cond_f hF rfl hc107 ?_
      refine wp_exit ?_
      repeat with_reducible (first | refine then_exit ?_ | refine in_hit ?_ | refine in_miss rfl ?_)
      obtain rfl := Option.some.inj hM104
      exact ⟨(p105.2.1, p105.1), rfl, hn106, hF.keep _ ⟨rfl, rfl, trivial⟩, S.selT (M := [.row 56 2 (.slice A0 x0.length c0) x0.length (p105.1.flatMap ePermit)]) 1 [0] rfl rfl rfl⟩
    · replace hM104 := bif_t hc107 hM104
      refine cond_t hF rfl hc107 ?_
      refine wp_skip ?_
      refine wp_seq ?_
      refine wp_block ?_
      refine wp_seq ?_
      refine wp_region_lit ?_
      refine op_val (v := .slice A0 x0.length c0) rfl rfl hF rfl (run_move rfl (hF.ev rfl)) ?_; clear hF; intro a hF
      refine op_val (v := .int .i64 p105.2.2) rfl rfl hF rfl (run_move rfl (hF.ev rfl)) ?_; clear hF; intro a hF
      refine op_val (v := .int .i64 p105.2.1) rfl rfl hF rfl (run_move rfl (hF.ev rfl)) ?_; clear hF; intro a hF
      obtain ⟨hk108, hM104⟩ := chk_ex hM104
      replace hk108 := ixB_t hk108
      refine op_val (v := .pointer (some ⟨adB A0, adO A0 + p105.2.2.toNat * 2, none⟩)) rfl rfl hF rfl (run_indexAddr (b := adB A0) (off := adO A0) rfl Try.underlying29 sz56 ((hF.ev rfl).trans (congrArg (fun A => Value.slice A x0.length c0) ((S.rc 0 rfl).rd.ad (ix_pos hk108)))) (hF.ev rfl) hk108.1 hk108.2 (k' := adO A0 + p105.2.2.toNat * 2) rfl) ?_; clear hF; intro a hF
      refine op_val (v := .pointer (some ⟨adB A0, adO A0 + p105.2.2.toNat * 2, none⟩)) rfl rfl hF rfl (run_fieldAddr rfl fl56_0 (hF.ev rfl) rfl) ?_; clear hF; intro a hF
      obtain ⟨w', hrun, S'⟩ := run_storeElN (P := Try.prog) (ρ := a.eval) (y0 := (p105.2.1, (p105.1.getD p105.2.2.toNat ((0, 0) : Int × Int)).2)) (off := 0) S 3 (.tmp 16) (.tmp 14) (i := 0) sz3 (hF.ev rfl) (hF.ev rfl) rfl rfl rfl rfl hn106 ePermit_len ((0, 0) : Int × Int) (ix_ltn hk108 hn106) rfl rfl
      refine op_do rfl rfl (hrun _ rfl) ?_; clear hrun S; have S := S'; clear S'; generalize w' = u at S ⊢
      refine wpList_nil ?_
      refine wp_seq ?_
      refine wp_region_lit ?_
      refine op_val (v := .int .i64 p105.2.1) rfl rfl hF rfl (run_move rfl (hF.ev rfl)) ?_; clear hF; intro a hF
      refine op_val (v := .int .i64 (w64 (p105.2.1 + 1))) rfl rfl hF rfl (run_add (z := w64 (p105.2.1 + 1)) (hF.ev rfl) rfl rfl rfl) ?_; clear hF; intro a hF
      refine op_val (v := .int .i64 (w64 (p105.2.1 + 1))) rfl rfl hF rfl (run_assign rfl (hF.ev rfl)) ?_; clear hF; intro a hF
      refine wpList_nil ?_
      refine wp_seq ?_
      refine wp_region_lit ?_
      refine op_val (v := .slice A0 x0.length c0) rfl rfl hF rfl (run_move rfl (hF.ev rfl)) ?_; clear hF; intro a hF
      refine op_val (v := .int .i64 p105.2.2) rfl rfl hF rfl (run_move rfl (hF.ev rfl)) ?_; clear hF; intro a hF
      refine op_val (v := .int .i64 (w64 (p105.2.1 + 1))) rfl rfl hF rfl (run_move rfl (hF.ev rfl)) ?_; clear hF; intro a hF
      obtain ⟨hk109, hM104⟩ := chk_ex hM104
      replace hk109 := ixB_t hk109
      refine op_val (v := .pointer (some ⟨adB A0, adO A0 + p105.2.2.toNat * 2, none⟩)) rfl rfl hF rfl (run_indexAddr (b := adB A0) (off := adO A0) rfl Try.underlying29 sz56 ((hF.ev rfl).trans (congrArg (fun A => Value.slice A x0.length c0) ((S.rc 0 rfl).rd.ad (ix_pos hk109)))) (hF.ev rfl) hk109.1 hk109.2 (k' := adO A0 + p105.2.2.toNat * 2) rfl) ?_; clear hF; intro a hF
      refine op_val (v := .pointer (some ⟨adB A0, adO A0 + p105.2.2.toNat * 2 + 1, none⟩)) rfl rfl hF rfl (run_fieldAddr rfl fl56_1 (hF.ev rfl) rfl) ?_; clear hF; intro a hF
      obtain ⟨w', hrun, S'⟩ := run_storeEl2 (P := Try.prog) (ρ := a.eval) (l := p105.1) (y0 := (p105.2.1, (p105.1.getD p105.2.2.toNat ((0, 0) : Int × Int)).2)) (y1 := (p105.2.1, w64 (p105.2.1 + 1))) (off := 1) S 3 (.tmp 23) (.tmp 21) (i := 0) sz3 (hF.ev rfl) (hF.ev rfl) rfl rfl rfl rfl hn106 ePermit_len (ix_ltn hk109 hn106) rfl rfl
      refine op_do rfl rfl (hrun _ rfl) ?_; clear hrun S; have S := S'; clear S'; generalize w' = u at S ⊢
      refine wpList_nil ?_
      refine wp_region_lit ?_
      refine op_val (v := .int .i64 (w64 (p105.2.1 + 1))) rfl rfl hF rfl (run_move rfl (hF.ev rfl)) ?_; clear hF; intro a hF
      refine op_val (v := .int .i64 (w64 ((w64 (p105.2.1 + 1)) + 1))) rfl rfl hF rfl (run_add (z := w64 ((w64 (p105.2.1 + 1)) + 1)) (hF.ev rfl) rfl rfl rfl) ?_; clear hF; intro a hF
      refine op_val (v := .int .i64 (w64 ((w64 (p105.2.1 + 1)) + 1))) rfl rfl hF rfl (run_assign rfl (hF.ev rfl)) ?_; clear hF; intro a hF
      refine wpList_nil ?_
      refine wp_region_lit ?_
      refine op_val (v := .int .i64 p105.2.2) rfl rfl hF rfl (run_move rfl (hF.ev rfl)) ?_; clear hF; intro a hF
      refine op_val (v := .int .i64 (w64 (p105.2.2 + 1))) rfl rfl hF rfl (run_add (z := w64 (p105.2.2 + 1)) (hF.ev rfl) rfl rfl rfl) ?_; clear hF; intro a hF
      refine op_val (v := .int .i64 (w64 (p105.2.2 + 1))) rfl rfl hF rfl (run_assign rfl (hF.ev rfl)) ?_; clear hF; intro a hF
      refine wpList_nil ?_
      exact ⟨f1, Nat.lt_succ_self _, (p105.1.set p105.2.2.toNat (p105.2.1, w64 (p105.2.1 + 1)), w64 ((w64 (p105.2.1 + 1)) + 1), w64 (p105.2.2 + 1)), hM104, (len_set hn106), hF.keep _ ⟨rfl, rfl, rfl, rfl, trivial⟩, S.selT (M := [.row 56 2 (.slice A0 x0.length c0) x0.length ((p105.1.set p105.2.2.toNat (p105.2.1, w64 (p105.2.1 + 1))).flatMap ePermit)]) 1 [0] rfl rfl rfl⟩
  · rintro a u ⟨p101, rfl, hn103, hF, S⟩
    refine wp_seq ?_
    refine wp_region_lit ?_
    refine op_val (v := .int .i64 p101.1) rfl rfl hF rfl (run_move rfl (hF.ev rfl)) ?_; clear hF; intro a hF
    refine op_val (v := .int .i64 p101.1) rfl rfl hF rfl (run_assign rfl (hF.ev rfl)) ?_; clear hF; intro a hF
    refine wpList_nil ?_
    refine wp_ret ?_
    repeat with_reducible (first | refine then_ret ?_ | refine in_ret ?_ | refine in_nrm ?_)
    refine ret1_gw (.inl rfl) hF rfl (res_tmp (hF.ev rfl)) ?_
    obtain rfl := Option.some.inj hM
    exact ⟨rfl, hn103, S.selT (M := [.row 56 2 (.slice A0 x0.length c0) x0.length (p101.2.flatMap ePermit)]) 1 [0] rfl rfl rfl⟩

set_option maxHeartbeats 4000000 in
theorem c_laws_markWork {x0 : List Bool} {x1 : List Bool} {x2 : List (Int × Int)} {x3 : Int} {A0 : Option Addr} {n0 c0 : Nat} {A1 : Option Addr} {n1 c1 : Nat} {A2 : Option Addr} {n2 c2 : Nat} {w : World} {r : Int × List Bool × List Bool × List (Int × Int)} {w0 : World} {X : List Asn} (h0 : n0 = x0.length) (h1 : n1 = x1.length) (h2 : n2 = x2.length) (S : St w0 w (Asn.row 4 1 (.slice A0 n0 c0) n0 (x0.flatMap eB) :: Asn.row 4 1 (.slice A1 n1 c1) n1 (x1.flatMap eB) :: Asn.row 56 2 (.slice A2 n2 c2) n2 (x2.flatMap ePermit) :: X)) (hM : m_laws_markWork x0 x1 x2 x3 = some r) :
    Calls Try.prog 11 #[.agg #[.slice A0 n0 c0, .slice A1 n1 c1, .slice A2 n2 c2], .int .i64 x3] w (fun e w' => e = .returned (.int .i64 r.1) ∧ n0 = r.2.1.length ∧ n1 = r.2.2.1.length ∧ n2 = r.2.2.2.length ∧ St w0 w' (Asn.row 4 1 (.slice A0 n0 c0) n0 (r.2.1.flatMap eB) :: Asn.row 4 1 (.slice A1 n1 c1) n1 (r.2.2.1.flatMap eB) :: Asn.row 56 2 (.slice A2 n2 c2) n2 (r.2.2.2.flatMap ePermit) :: X)) := by
  obtain rfl := h0
  obtain rfl := h1
  obtain rfl := h2
  unfold m_laws_markWork at hM
  refine calls_gw Try.func11 Try.ntmps11 rfl [(0, .agg #[.slice A0 x0.length c0, .slice A1 x1.length c1, .slice A2 x2.length c2]), (1, .int .i64 x3)] ⟨rfl, rfl, trivial⟩ rfl ?_
  intro a hF
  refine wp_seq ?_
  refine wp_region_lit ?_
  refine op_new (cs := #[.slice A0 x0.length c0, .slice A1 x1.length c1, .slice A2 x2.length c2]) rfl rfl hF rfl S (run_box rfl (hF.ev rfl) rfl) ?_; clear hF S; intro a g101 u hF S
  refine op_val (v := .int .i64 0) rfl rfl hF rfl (run_assign rfl rfl) ?_; clear hF; intro a hF
  refine wpList_nil ?_
  refine wp_seq ?_
  refine wp_region_lit ?_
  refine op_val (v := .pointer (some ⟨g101, 0, none⟩)) rfl rfl hF rfl (run_fieldAddr rfl fl31_0 (hF.ev rfl) rfl) ?_; clear hF; intro a hF
  refine op_val (v := .slice A0 x0.length c0) rfl rfl hF rfl (run_load1 rfl one22 (hF.ev rfl) ((S.free 0 rfl).cell rfl)) ?_; clear hF; intro a hF
  refine op_val (v := .int .i64 x3) rfl rfl hF rfl (run_move rfl (hF.ev rfl)) ?_; clear hF; intro a hF
  obtain ⟨p102, h102, hM⟩ := bind_ex hM
  refine op_call rfl rfl hF rfl (run_call (vs := [.slice A0 x0.length c0, .int .i64 x3]) rfl rfl co35 ⟨(hF.ev rfl), (hF.ev rfl), trivial⟩) (c_laws_markBoolS (x0 := x0) (x1 := x3) rfl (show St w0 _ (Asn.row 4 1 (.slice A0 x0.length c0) x0.length (x0.flatMap eB) :: Asn.box g101 31 #[.slice A0 x0.length c0, .slice A1 x1.length c1, .slice A2 x2.length c2] :: Asn.row 4 1 (.slice A1 x1.length c1) x1.length (x1.flatMap eB) :: Asn.row 56 2 (.slice A2 x2.length c2) x2.length (x2.flatMap ePermit) :: X) from S.selT (M := [.row 4 1 (.slice A0 x0.length c0) x0.length (x0.flatMap eB), .box g101 31 #[.slice A0 x0.length c0, .slice A1 x1.length c1, .slice A2 x2.length c2], .row 4 1 (.slice A1 x1.length c1) x1.length (x1.flatMap eB), .row 56 2 (.slice A2 x2.length c2) x2.length (x2.flatMap ePermit)]) 4 [1, 0, 2, 3] rfl rfl rfl) h102) ?_
  rintro e u ⟨rfl, hn103, T⟩
  refine ⟨_, rfl, ?_⟩
  clear hF; intro a hF
  clear S; have S := T; clear T
  refine op_val (v := .int .i64 p102.1) rfl rfl hF rfl (run_assign rfl (hF.ev rfl)) ?_; clear hF; intro a hF
  refine wpList_nil ?_
  refine wp_seq ?_
  refine wp_region_lit ?_
  refine op_val (v := .pointer (some ⟨g101, 1, none⟩)) rfl rfl hF rfl (run_fieldAddr rfl fl31_1 (hF.ev rfl) rfl) ?_; clear hF; intro a hF
  refine op_val (v := .slice A1 x1.length c1) rfl rfl hF rfl (run_load1 rfl one22 (hF.ev rfl) ((S.free 1 rfl).cell rfl)) ?_; clear hF; intro a hF
  refine op_val (v := .int .i64 p102.1) rfl rfl hF rfl (run_move rfl (hF.ev rfl)) ?_; clear hF; intro a hF
  obtain ⟨p104, h104, hM⟩ := bind_ex hM
  refine op_call rfl rfl hF rfl (run_call (vs := [.slice A1 x1.length c1, .int .i64 p102.1]) rfl rfl co35 ⟨(hF.ev rfl), (hF.ev rfl), trivial⟩) (c_laws_markBoolS (x0 := x1) (x1 := p102.1) rfl (show St w0 _ (Asn.row 4 1 (.slice A1 x1.length c1) x1.length (x1.flatMap eB) :: Asn.row 4 1 (.slice A0 x0.length c0) x0.length (p102.2.flatMap eB) :: Asn.box g101 31 #[.slice A0 x0.length c0, .slice A1 x1.length c1, .slice A2 x2.length c2] :: Asn.row 56 2 (.slice A2 x2.length c2) x2.length (x2.flatMap ePermit) :: X) from S.selT (M := [.row 4 1 (.slice A1 x1.length c1) x1.length (x1.flatMap eB), .row 4 1 (.slice A0 x0.length c0) x0.length (p102.2.flatMap eB), .box g101 31 #[.slice A0 x0.length c0, .slice A1 x1.length c1, .slice A2 x2.length c2], .row 56 2 (.slice A2 x2.length c2) x2.length (x2.flatMap ePermit)]) 4 [2, 0, 1, 3] rfl rfl rfl) h104) ?_
  rintro e u ⟨rfl, hn105, T⟩
  refine ⟨_, rfl, ?_⟩
  clear hF; intro a hF
  clear S; have S := T; clear T
  refine op_val (v := .int .i64 p104.1) rfl rfl hF rfl (run_assign rfl (hF.ev rfl)) ?_; clear hF; intro a hF
  refine wpList_nil ?_
  refine wp_seq ?_
  refine wp_region_lit ?_
  refine op_val (v := .pointer (some ⟨g101, 2, none⟩)) rfl rfl hF rfl (run_fieldAddr rfl fl31_2 (hF.ev rfl) rfl) ?_; clear hF; intro a hF
  refine op_val (v := .slice A2 x2.length c2) rfl rfl hF rfl (run_load1 rfl one29 (hF.ev rfl) ((S.free 2 rfl).cell rfl)) ?_; clear hF; intro a hF
  refine op_val (v := .int .i64 p104.1) rfl rfl hF rfl (run_move rfl (hF.ev rfl)) ?_; clear hF; intro a hF
  obtain ⟨p106, h106, hM⟩ := bind_ex hM
  refine op_call rfl rfl hF rfl (run_call (vs := [.slice A2 x2.length c2, .int .i64 p104.1]) rfl rfl co36 ⟨(hF.ev rfl), (hF.ev rfl), trivial⟩) (c_laws_markPermitS (x0 := x2) (x1 := p104.1) rfl (show St w0 _ (Asn.row 56 2 (.slice A2 x2.length c2) x2.length (x2.flatMap ePermit) :: Asn.row 4 1 (.slice A1 x1.length c1) x1.length (p104.2.flatMap eB) :: Asn.row 4 1 (.slice A0 x0.length c0) x0.length (p102.2.flatMap eB) :: Asn.box g101 31 #[.slice A0 x0.length c0, .slice A1 x1.length c1, .slice A2 x2.length c2] :: X) from S.selT (M := [.row 56 2 (.slice A2 x2.length c2) x2.length (x2.flatMap ePermit), .row 4 1 (.slice A1 x1.length c1) x1.length (p104.2.flatMap eB), .row 4 1 (.slice A0 x0.length c0) x0.length (p102.2.flatMap eB), .box g101 31 #[.slice A0 x0.length c0, .slice A1 x1.length c1, .slice A2 x2.length c2]]) 4 [3, 0, 1, 2] rfl rfl rfl) h106) ?_
  rintro e u ⟨rfl, hn107, T⟩
  refine ⟨_, rfl, ?_⟩
  clear hF; intro a hF
  clear S; have S := T; clear T
  refine op_val (v := .int .i64 p106.1) rfl rfl hF rfl (run_assign rfl (hF.ev rfl)) ?_; clear hF; intro a hF
  refine wpList_nil ?_
  refine wp_seq ?_
  refine wp_region_lit ?_
  refine op_val (v := .int .i64 p106.1) rfl rfl hF rfl (run_move rfl (hF.ev rfl)) ?_; clear hF; intro a hF
  refine op_val (v := .int .i64 p106.1) rfl rfl hF rfl (run_assign rfl (hF.ev rfl)) ?_; clear hF; intro a hF
  refine wpList_nil ?_
  refine wp_ret ?_
  repeat with_reducible (first | refine then_ret ?_ | refine in_ret ?_ | refine in_nrm ?_)
  refine ret1_gw (.inl rfl) hF rfl (res_tmp (hF.ev rfl)) ?_
  obtain rfl := Option.some.inj hM
  exact ⟨rfl, hn103, hn105, hn107, S.selT (M := [.row 4 1 (.slice A0 x0.length c0) x0.length (p102.2.flatMap eB), .row 4 1 (.slice A1 x1.length c1) x1.length (p104.2.flatMap eB), .row 56 2 (.slice A2 x2.length c2) x2.length (p106.2.flatMap ePermit)]) 4 [2, 1, 0] rfl rfl rfl⟩

set_option maxHeartbeats 4000000 in
theorem c_laws_heldBoolS {x0 : List Bool} {x1 : Int} {A0 : Option Addr} {n0 c0 : Nat} {w : World} {r : Int} (h0 : Rt w 1 eB A0 n0 c0 x0) (hM : m_laws_heldBoolS x0 x1 = some r) :
    Calls Try.prog 37 #[.slice A0 n0 c0, .int .i64 x1] w (fun e w' => e = .returned (.int .i64 r) ∧ St w w' []) := by
  obtain rfl := h0.len
  unfold m_laws_heldBoolS at hM
  refine calls_gw Try.func37 Try.ntmps37 rfl [(0, .slice A0 x0.length c0), (1, .int .i64 x1)] ⟨rfl, rfl, trivial⟩ rfl ?_
  intro a hF
  have S := St.nil w
  refine wp_seq ?_
  refine wp_region_lit ?_
  refine op_val (v := .int .i64 0) rfl rfl hF rfl (run_assign rfl rfl) ?_; clear hF; intro a hF
  refine wpList_nil ?_
  refine wp_seq ?_
  refine wp_seq ?_
  refine wp_region_lit ?_
  refine op_val (v := .int .i64 0) rfl rfl hF rfl (run_assign rfl rfl) ?_; clear hF; intro a hF
  refine wpList_nil ?_
  obtain ⟨o102, hM103, hM⟩ := bind_ex hM
  refine wp_cut (fun a u => ∃ (p101 : Int), (Sum.inl p101) = o102 ∧ Fr a 23 [(1, .int .i64 p101), (4, .int .i64 0)] ∧ St w u []) ?_ ?_
  · have _ := trivial
    refine wp_block ?_
    refine loop_gw (fun m a u => ∃ (p104 : Int × Int), m_laws_heldBoolS_l1 x0 m p104 = some _ ∧ Fr a 23 [(0, .slice A0 x0.length c0), (1, .int .i64 p104.1), (4, .int .i64 0), (5, .int .i64 p104.2)] ∧ St w u []) FUEL ⟨(x1, 0), hM103, hF.keep _ ⟨rfl, rfl, rfl, rfl, trivial⟩, S.sel [] rfl rfl⟩ ?_
    clear hF S hM103; rintro m a u ⟨p104, hM103, hF, S⟩
    rcases m with _ | f1
    · exact none_some hM103
    rw [m_laws_heldBoolS_l1.eq_2] at hM103
    refine wp_seq ?_
    refine wp_seq ?_
    refine wp_region_lit ?_
    refine op_val (v := .int .i64 p104.2) rfl rfl hF rfl (run_move rfl (hF.ev rfl)) ?_; clear hF; intro a hF
    refine op_val (v := .slice A0 x0.length c0) rfl rfl hF rfl (run_move rfl (hF.ev rfl)) ?_; clear hF; intro a hF
    refine op_val (v := .int .i64 (x0.length : Int)) rfl rfl hF rfl (run_lenL rfl rfl Try.underlying22 (hF.ev rfl)) ?_; clear hF; intro a hF
    refine op_val (v := .bool (ltB p104.2 (x0.length : Int))) rfl rfl hF rfl (run_lss (hF.ev rfl) (hF.ev rfl) rfl) ?_; clear hF; intro a hF
    refine wpList_nil ?_
    cases hc105 : (ltB p104.2 (x0.length : Int))
    · replace hM103 := bif_f hc105 hM103
      refine cond_f hF rfl hc105 ?_
      refine wp_exit ?_
      repeat with_reducible (first | refine then_exit ?_ | refine in_hit ?_ | refine in_miss rfl ?_)
      obtain rfl := Option.some.inj hM103
      exact ⟨p104.1, rfl, hF.keep _ ⟨rfl, rfl, trivial⟩, S.sel [] rfl rfl⟩
    · replace hM103 := bif_t hc105 hM103
      refine cond_t hF rfl hc105 ?_
      refine wp_skip ?_
      refine wp_seq ?_
      refine wp_block ?_
      refine wp_seq ?_
      refine wp_seq ?_
      refine wp_region_lit ?_
      refine op_val (v := .slice A0 x0.length c0) rfl rfl hF rfl (run_move rfl (hF.ev rfl)) ?_; clear hF; intro a hF
      refine op_val (v := .int .i64 p104.2) rfl rfl hF rfl (run_move rfl (hF.ev rfl)) ?_; clear hF; intro a hF
      obtain ⟨hk106, hM103⟩ := chk_ex hM103
      replace hk106 := ixB_t hk106
      refine op_val (v := .pointer (some ⟨adB A0, adO A0 + p104.2.toNat * 1, none⟩)) rfl rfl hF rfl (run_indexAddr (b := adB A0) (off := adO A0) rfl Try.underlying22 sz4 ((hF.ev rfl).trans (congrArg (fun A => Value.slice A x0.length c0) ((S.rc0 h0.rc).rd.ad (ix_pos hk106)))) (hF.ev rfl) hk106.1 hk106.2 (k' := adO A0 + p104.2.toNat * 1) rfl) ?_; clear hF; intro a hF
      refine op_val (v := .bool (x0.getD p104.2.toNat false)) rfl rfl hF rfl (run_load1 rfl one4 (hF.ev rfl) (rd_el0 (l := x0) (S.rc0 h0.rc).rd rfl eB_len false (ix_ltn hk106 rfl) rfl)) ?_; clear hF; intro a hF
      refine op_val (v := .int .i64 p104.1) rfl rfl hF rfl (run_move rfl (hF.ev rfl)) ?_; clear hF; intro a hF
      refine op_val (v := .int .i64 (Int.tmod p104.1 3)) rfl rfl hF rfl (run_rem (z := Int.tmod p104.1 3) (hF.ev rfl) rfl rfl (by decide) rfl) ?_; clear hF; intro a hF
      refine op_val (v := .bool ((Int.tmod p104.1 3) == 0)) rfl rfl hF rfl (run_eql (hF.ev rfl) rfl rfl) ?_; clear hF; intro a hF
      refine op_val (v := .bool ((x0.getD p104.2.toNat false) != ((Int.tmod p104.1 3) == 0))) rfl rfl hF rfl (run_neqB (hF.ev rfl) (hF.ev rfl) Try.underlying4 rfl) ?_; clear hF; intro a hF
      refine wpList_nil ?_
      cases hc107 : ((x0.getD p104.2.toNat false) != ((Int.tmod p104.1 3) == 0))
      · replace hM103 := bif_f hc107 hM103
        refine cond_f hF rfl hc107 ?_
        refine wp_skip ?_
        refine wp_region_lit ?_
        refine op_val (v := .int .i64 p104.1) rfl rfl hF rfl (run_move rfl (hF.ev rfl)) ?_; clear hF; intro a hF
        refine op_val (v := .int .i64 (w64 (p104.1 + 1))) rfl rfl hF rfl (run_add (z := w64 (p104.1 + 1)) (hF.ev rfl) rfl rfl rfl) ?_; clear hF; intro a hF
        refine op_val (v := .int .i64 (w64 (p104.1 + 1))) rfl rfl hF rfl (run_assign rfl (hF.ev rfl)) ?_; clear hF; intro a hF
        refine wpList_nil ?_
        refine wp_region_lit ?_
        refine op_val (v := .int .i64 p104.2) rfl rfl hF rfl (run_move rfl (hF.ev rfl)) ?_; clear hF; intro a hF
        refine op_val (v := .int .i64 (w64 (p104.2 + 1))) rfl rfl hF rfl (run_add (z := w64 (p104.2 + 1)) (hF.ev rfl) rfl rfl rfl) ?_; clear hF; intro a hF
        refine op_val (v := .int .i64 (w64 (p104.2 + 1))) rfl rfl hF rfl (run_assign rfl (hF.ev rfl)) ?_; clear hF; intro a hF
        refine wpList_nil ?_
        exact ⟨f1, Nat.lt_succ_self _, (w64 (p104.1 + 1), w64 (p104.2 + 1)), hM103, hF.keep _ ⟨rfl, rfl, rfl, rfl, trivial⟩, S.sel [] rfl rfl⟩
      · replace hM103 := bif_t hc107 hM103
        refine cond_t hF rfl hc107 ?_
        refine wp_seq ?_
        refine wp_region_lit ?_
        refine op_val (v := .int .i64 (-1)) rfl rfl hF rfl (run_assign rfl rfl) ?_; clear hF; intro a hF
        refine wpList_nil ?_
        refine wp_ret ?_
        repeat with_reducible (first | refine then_ret ?_ | refine in_ret ?_ | refine in_nrm ?_)
        refine ret1_gw (.inl rfl) hF rfl (res_tmp (hF.ev rfl)) ?_
        obtain rfl := Option.some.inj hM103
        obtain rfl := Option.some.inj hM
        exact ⟨rfl, S.sel [] rfl rfl⟩
  · rintro a u ⟨p101, rfl, hF, S⟩
    replace hM := elim_l hM
    refine wp_seq ?_
    refine wp_region_lit ?_
    refine op_val (v := .int .i64 p101) rfl rfl hF rfl (run_move rfl (hF.ev rfl)) ?_; clear hF; intro a hF
    refine op_val (v := .int .i64 p101) rfl rfl hF rfl (run_assign rfl (hF.ev rfl)) ?_; clear hF; intro a hF
    refine wpList_nil ?_
    refine wp_ret ?_
    repeat with_reducible (first | refine then_ret ?_ | refine in_ret ?_ | refine in_nrm ?_)
    refine ret1_gw (.inl rfl) hF rfl (res_tmp (hF.ev rfl)) ?_
    obtain rfl := Option.some.inj hM
    exact ⟨rfl, S.sel [] rfl rfl⟩

set_option maxHeartbeats 4000000 in
theorem c_laws_heldPermitS {x0 : List (Int × Int)} {x1 : Int} {A0 : Option Addr} {n0 c0 : Nat} {w : World} {r : Int} (h0 : Rt w 2 ePermit A0 n0 c0 x0) (hM : m_laws_heldPermitS x0 x1 = some r) :
    Calls Try.prog 38 #[.slice A0 n0 c0, .int .i64 x1] w (fun e w' => e = .returned (.int .i64 r) ∧ St w w' []) := by
  obtain rfl := h0.len
  unfold m_laws_heldPermitS at hM
  refine calls_gw Try.func38 Try.ntmps38 rfl [(0, .slice A0 x0.length c0), (1, .int .i64 x1)] ⟨rfl, rfl, trivial⟩ rfl ?_
  intro a hF
  have S := St.nil w
  refine wp_seq ?_
  refine wp_region_lit ?_
  refine op_val (v := .int .i64 0) rfl rfl hF rfl (run_assign rfl rfl) ?_; clear hF; intro a hF
  refine wpList_nil ?_
  refine wp_seq ?_
  refine wp_seq ?_
  refine wp_region_lit ?_
  refine op_val (v := .int .i64 0) rfl rfl hF rfl (run_assign rfl rfl) ?_; clear hF; intro a hF
  refine wpList_nil ?_
  obtain ⟨o102, hM103, hM⟩ := bind_ex hM
  refine wp_cut (fun a u => ∃ (p101 : Int), (Sum.inl p101) = o102 ∧ Fr a 31 [(1, .int .i64 p101), (4, .int .i64 0)] ∧ St w u []) ?_ ?_
  · have _ := trivial
    refine wp_block ?_
    refine loop_gw (fun m a u => ∃ (p104 : Int × Int), m_laws_heldPermitS_l1 x0 m p104 = some _ ∧ Fr a 31 [(0, .slice A0 x0.length c0), (1, .int .i64 p104.1), (4, .int .i64 0), (5, .int .i64 p104.2)] ∧ St w u []) FUEL ⟨(x1, 0), hM103, hF.keep _ ⟨rfl, rfl, rfl, rfl, trivial⟩, S.sel [] rfl rfl⟩ ?_
    clear hF S hM103; rintro m a u ⟨p104, hM103, hF, S⟩
    rcases m with _ | f1
    · exact none_some hM103
    rw [m_laws_heldPermitS_l1.eq_2] at hM103
    refine wp_seq ?_
    refine wp_seq ?_
    refine wp_region_lit ?_
    refine op_val (v := .int .i64 p104.2) rfl rfl hF rfl (run_move rfl (hF.ev rfl)) ?_; clear hF; intro a hF
    refine op_val (v := .slice A0 x0.length c0) rfl rfl hF rfl (run_move rfl (hF.ev rfl)) ?_; clear hF; intro a hF
    refine op_val (v := .int .i64 (x0.length : Int)) rfl rfl hF rfl (run_lenL rfl rfl Try.underlying29 (hF.ev rfl)) ?_; clear hF; intro a hF
    refine op_val (v := .bool (ltB p104.2 (x0.length : Int))) rfl rfl hF rfl (run_lss (hF.ev rfl) (hF.ev rfl) rfl) ?_; clear hF; intro a hF
    refine wpList_nil ?_
    cases hc105 : (ltB p104.2 (x0.length : Int))
    · replace hM103 := bif_f hc105 hM103
      refine cond_f hF rfl hc105 ?_
      refine wp_exit ?_
      repeat with_reducible (first | refine then_exit ?_ | refine in_hit ?_ | refine in_miss rfl ?_)
      obtain rfl := Option.some.inj hM103
      exact ⟨p104.1, rfl, hF.keep _ ⟨rfl, rfl, trivial⟩, S.sel [] rfl rfl⟩
    · replace hM103 := bif_t hc105 hM103
      refine cond_t hF rfl hc105 ?_
      refine wp_skip ?_
      refine wp_seq ?_
      refine wp_block ?_
      refine wp_seq ?_
      refine wp_seq ?_
      refine wp_region_lit ?_
      refine op_val (v := .slice A0 x0.length c0) rfl rfl hF rfl (run_move rfl (hF.ev rfl)) ?_; clear hF; intro a hF
      refine op_val (v := .int .i64 p104.2) rfl rfl hF rfl (run_move rfl (hF.ev rfl)) ?_; clear hF; intro a hF
      obtain ⟨hk106, hM103⟩ := chk_ex hM103
      replace hk106 := ixB_t hk106
      refine op_val (v := .pointer (some ⟨adB A0, adO A0 + p104.2.toNat * 2, none⟩)) rfl rfl hF rfl (run_indexAddr (b := adB A0) (off := adO A0) rfl Try.underlying29 sz56 ((hF.ev rfl).trans (congrArg (fun A => Value.slice A x0.length c0) ((S.rc0 h0.rc).rd.ad (ix_pos hk106)))) (hF.ev rfl) hk106.1 hk106.2 (k' := adO A0 + p104.2.toNat * 2) rfl) ?_; clear hF; intro a hF
      refine op_val (v := .pointer (some ⟨adB A0, adO A0 + p104.2.toNat * 2, none⟩)) rfl rfl hF rfl (run_fieldAddr rfl fl56_0 (hF.ev rfl) rfl) ?_; clear hF; intro a hF
      refine op_val (v := .int .i64 ((x0.getD p104.2.toNat ((0, 0) : Int × Int)).1)) rfl rfl hF rfl (run_load1 rfl one3 (hF.ev rfl) (rd_el0 (l := x0) (S.rc0 h0.rc).rd rfl ePermit_len ((0, 0) : Int × Int) (ix_ltn hk106 rfl) rfl)) ?_; clear hF; intro a hF
      refine op_val (v := .int .i64 p104.1) rfl rfl hF rfl (run_move rfl (hF.ev rfl)) ?_; clear hF; intro a hF
      refine op_val (v := .bool (((x0.getD p104.2.toNat ((0, 0) : Int × Int)).1) != p104.1)) rfl rfl hF rfl (run_neq (hF.ev rfl) (hF.ev rfl) rfl) ?_; clear hF; intro a hF
      refine wpList_nil ?_
      cases hc107 : (((x0.getD p104.2.toNat ((0, 0) : Int × Int)).1) != p104.1)
      · replace hM103 := bif_f hc107 hM103
        refine cond_f hF rfl hc107 ?_
        refine wp_skip ?_
        refine wp_seq ?_
        refine wp_region_lit ?_
        refine op_val (v := .int .i64 p104.1) rfl rfl hF rfl (run_move rfl (hF.ev rfl)) ?_; clear hF; intro a hF
        refine op_val (v := .int .i64 (w64 (p104.1 + 1))) rfl rfl hF rfl (run_add (z := w64 (p104.1 + 1)) (hF.ev rfl) rfl rfl rfl) ?_; clear hF; intro a hF
        refine op_val (v := .int .i64 (w64 (p104.1 + 1))) rfl rfl hF rfl (run_assign rfl (hF.ev rfl)) ?_; clear hF; intro a hF
        refine wpList_nil ?_
        refine wp_seq ?_
        refine wp_seq ?_
        refine wp_region_lit ?_
        refine op_val (v := .slice A0 x0.length c0) rfl rfl hF rfl (run_move rfl (hF.ev rfl)) ?_; clear hF; intro a hF
        refine op_val (v := .int .i64 p104.2) rfl rfl hF rfl (run_move rfl (hF.ev rfl)) ?_; clear hF; intro a hF
        obtain ⟨hk108, hM103⟩ := chk_ex hM103
        replace hk108 := ixB_t hk108
        refine op_val (v := .pointer (some ⟨adB A0, adO A0 + p104.2.toNat * 2, none⟩)) rfl rfl hF rfl (run_indexAddr (b := adB A0) (off := adO A0) rfl Try.underlying29 sz56 ((hF.ev rfl).trans (congrArg (fun A => Value.slice A x0.length c0) ((S.rc0 h0.rc).rd.ad (ix_pos hk108)))) (hF.ev rfl) hk108.1 hk108.2 (k' := adO A0 + p104.2.toNat * 2) rfl) ?_; clear hF; intro a hF
        refine op_val (v := .pointer (some ⟨adB A0, adO A0 + p104.2.toNat * 2 + 1, none⟩)) rfl rfl hF rfl (run_fieldAddr rfl fl56_1 (hF.ev rfl) rfl) ?_; clear hF; intro a hF
        refine op_val (v := .int .i64 ((x0.getD p104.2.toNat ((0, 0) : Int × Int)).2)) rfl rfl hF rfl (run_load1 rfl one3 (hF.ev rfl) (rd_el (l := x0) (S.rc0 h0.rc).rd rfl ePermit_len ((0, 0) : Int × Int) (ix_ltn hk108 rfl) rfl)) ?_; clear hF; intro a hF
        refine op_val (v := .int .i64 (w64 (p104.1 + 1))) rfl rfl hF rfl (run_move rfl (hF.ev rfl)) ?_; clear hF; intro a hF
        refine op_val (v := .bool (((x0.getD p104.2.toNat ((0, 0) : Int × Int)).2) != (w64 (p104.1 + 1)))) rfl rfl hF rfl (run_neq (hF.ev rfl) (hF.ev rfl) rfl) ?_; clear hF; intro a hF
        refine wpList_nil ?_
        cases hc109 : (((x0.getD p104.2.toNat ((0, 0) : Int × Int)).2) != (w64 (p104.1 + 1)))
        · replace hM103 := bif_f hc109 hM103
          refine cond_f hF rfl hc109 ?_
          refine wp_skip ?_
          refine wp_region_lit ?_
          refine op_val (v := .int .i64 (w64 (p104.1 + 1))) rfl rfl hF rfl (run_move rfl (hF.ev rfl)) ?_; clear hF; intro a hF
          refine op_val (v := .int .i64 (w64 ((w64 (p104.1 + 1)) + 1))) rfl rfl hF rfl (run_add (z := w64 ((w64 (p104.1 + 1)) + 1)) (hF.ev rfl) rfl rfl rfl) ?_; clear hF; intro a hF
          refine op_val (v := .int .i64 (w64 ((w64 (p104.1 + 1)) + 1))) rfl rfl hF rfl (run_assign rfl (hF.ev rfl)) ?_; clear hF; intro a hF
          refine wpList_nil ?_
          refine wp_region_lit ?_
          refine op_val (v := .int .i64 p104.2) rfl rfl hF rfl (run_move rfl (hF.ev rfl)) ?_; clear hF; intro a hF
          refine op_val (v := .int .i64 (w64 (p104.2 + 1))) rfl rfl hF rfl (run_add (z := w64 (p104.2 + 1)) (hF.ev rfl) rfl rfl rfl) ?_; clear hF; intro a hF
          refine op_val (v := .int .i64 (w64 (p104.2 + 1))) rfl rfl hF rfl (run_assign rfl (hF.ev rfl)) ?_; clear hF; intro a hF
          refine wpList_nil ?_
          exact ⟨f1, Nat.lt_succ_self _, (w64 ((w64 (p104.1 + 1)) + 1), w64 (p104.2 + 1)), hM103, hF.keep _ ⟨rfl, rfl, rfl, rfl, trivial⟩, S.sel [] rfl rfl⟩
        · replace hM103 := bif_t hc109 hM103
          refine cond_t hF rfl hc109 ?_
          refine wp_seq ?_
          refine wp_region_lit ?_
          refine op_val (v := .int .i64 (-1)) rfl rfl hF rfl (run_assign rfl rfl) ?_; clear hF; intro a hF
          refine wpList_nil ?_
          refine wp_ret ?_
          repeat with_reducible (first | refine then_ret ?_ | refine in_ret ?_ | refine in_nrm ?_)
          refine ret1_gw (.inl rfl) hF rfl (res_tmp (hF.ev rfl)) ?_
          obtain rfl := Option.some.inj hM103
          obtain rfl := Option.some.inj hM
          exact ⟨rfl, S.sel [] rfl rfl⟩
      · replace hM103 := bif_t hc107 hM103
        refine cond_t hF rfl hc107 ?_
        refine wp_seq ?_
        refine wp_region_lit ?_
        refine op_val (v := .int .i64 (-1)) rfl rfl hF rfl (run_assign rfl rfl) ?_; clear hF; intro a hF
        refine wpList_nil ?_
        refine wp_ret ?_
        repeat with_reducible (first | refine then_ret ?_ | refine in_ret ?_ | refine in_nrm ?_)
        refine ret1_gw (.inl rfl) hF rfl (res_tmp (hF.ev rfl)) ?_
        obtain rfl := Option.some.inj hM103
        obtain rfl := Option.some.inj hM
        exact ⟨rfl, S.sel [] rfl rfl⟩
  · rintro a u ⟨p101, rfl, hF, S⟩
    replace hM := elim_l hM
    refine wp_seq ?_
    refine wp_region_lit ?_
    refine op_val (v := .int .i64 p101) rfl rfl hF rfl (run_move rfl (hF.ev rfl)) ?_; clear hF; intro a hF
    refine op_val (v := .int .i64 p101) rfl rfl hF rfl (run_assign rfl (hF.ev rfl)) ?_; clear hF; intro a hF
    refine wpList_nil ?_
    refine wp_ret ?_
    repeat with_reducible (first | refine then_ret ?_ | refine in_ret ?_ | refine in_nrm ?_)
    refine ret1_gw (.inl rfl) hF rfl (res_tmp (hF.ev rfl)) ?_
    obtain rfl := Option.some.inj hM
    exact ⟨rfl, S.sel [] rfl rfl⟩

set_option maxHeartbeats 4000000 in
theorem c_laws_heldWork {x0 : List Bool} {x1 : List Bool} {x2 : List (Int × Int)} {x3 : Int} {A0 : Option Addr} {n0 c0 : Nat} {A1 : Option Addr} {n1 c1 : Nat} {A2 : Option Addr} {n2 c2 : Nat} {w : World} {r : Int} (h0 : Rt w 1 eB A0 n0 c0 x0) (h1 : Rt w 1 eB A1 n1 c1 x1) (h2 : Rt w 2 ePermit A2 n2 c2 x2) (hM : m_laws_heldWork x0 x1 x2 x3 = some r) :
    Calls Try.prog 12 #[.agg #[.slice A0 n0 c0, .slice A1 n1 c1, .slice A2 n2 c2], .int .i64 x3] w (fun e w' => e = .returned (.int .i64 r) ∧ St w w' []) := by
  obtain rfl := h0.len
  obtain rfl := h1.len
  obtain rfl := h2.len
  unfold m_laws_heldWork at hM
  refine calls_gw Try.func12 Try.ntmps12 rfl [(0, .agg #[.slice A0 x0.length c0, .slice A1 x1.length c1, .slice A2 x2.length c2]), (1, .int .i64 x3)] ⟨rfl, rfl, trivial⟩ rfl ?_
  intro a hF
  have S := St.nil w
  refine wp_seq ?_
  refine wp_region_lit ?_
  refine op_new (cs := #[.slice A0 x0.length c0, .slice A1 x1.length c1, .slice A2 x2.length c2]) rfl rfl hF rfl S (run_box rfl (hF.ev rfl) rfl) ?_; clear hF S; intro a g101 u hF S
  refine op_val (v := .int .i64 0) rfl rfl hF rfl (run_assign rfl rfl) ?_; clear hF; intro a hF
  refine wpList_nil ?_
  refine wp_seq ?_
  refine wp_region_lit ?_
  refine op_val (v := .pointer (some ⟨g101, 0, none⟩)) rfl rfl hF rfl (run_fieldAddr rfl fl31_0 (hF.ev rfl) rfl) ?_; clear hF; intro a hF
  refine op_val (v := .slice A0 x0.length c0) rfl rfl hF rfl (run_load1 rfl one22 (hF.ev rfl) ((S.free 0 rfl).cell rfl)) ?_; clear hF; intro a hF
  refine op_val (v := .int .i64 x3) rfl rfl hF rfl (run_move rfl (hF.ev rfl)) ?_; clear hF; intro a hF
  obtain ⟨p102, h102, hM⟩ := bind_ex hM
  refine op_call rfl rfl hF rfl (run_call (vs := [.slice A0 x0.length c0, .int .i64 x3]) rfl rfl co37 ⟨(hF.ev rfl), (hF.ev rfl), trivial⟩) (c_laws_heldBoolS (x0 := x0) (x1 := x3) ⟨(S.rc0 h0.rc), rfl⟩ h102) ?_
  rintro e u ⟨rfl, T⟩
  refine ⟨_, rfl, ?_⟩
  clear hF; intro a hF
  replace S := S.call0 T; clear T
  refine op_val (v := .int .i64 p102) rfl rfl hF rfl (run_assign rfl (hF.ev rfl)) ?_; clear hF; intro a hF
  refine wpList_nil ?_
  refine wp_seq ?_
  refine wp_seq ?_
  refine wp_region_lit ?_
  refine op_val (v := .int .i64 p102) rfl rfl hF rfl (run_move rfl (hF.ev rfl)) ?_; clear hF; intro a hF
  refine op_val (v := .bool (ltB p102 0)) rfl rfl hF rfl (run_lss (hF.ev rfl) rfl rfl) ?_; clear hF; intro a hF
  refine wpList_nil ?_
  cases hc103 : (ltB p102 0)
  · replace hM := bif_f hc103 hM
    refine cond_f hF rfl hc103 ?_
    refine wp_skip ?_
    refine wp_seq ?_
    refine wp_region_lit ?_
    refine op_val (v := .pointer (some ⟨g101, 1, none⟩)) rfl rfl hF rfl (run_fieldAddr rfl fl31_1 (hF.ev rfl) rfl) ?_; clear hF; intro a hF
    refine op_val (v := .slice A1 x1.length c1) rfl rfl hF rfl (run_load1 rfl one22 (hF.ev rfl) ((S.free 0 rfl).cell rfl)) ?_; clear hF; intro a hF
    refine op_val (v := .int .i64 p102) rfl rfl hF rfl (run_move rfl (hF.ev rfl)) ?_; clear hF; intro a hF
    obtain ⟨p104, h104, hM⟩ := bind_ex hM
    refine op_call rfl rfl hF rfl (run_call (vs := [.slice A1 x1.length c1, .int .i64 p102]) rfl rfl co37 ⟨(hF.ev rfl), (hF.ev rfl), trivial⟩) (c_laws_heldBoolS (x0 := x1) (x1 := p102) ⟨(S.rc0 h1.rc), rfl⟩ h104) ?_
    rintro e u ⟨rfl, T⟩
    refine ⟨_, rfl, ?_⟩
    clear hF; intro a hF
    replace S := S.call0 T; clear T
    refine op_val (v := .int .i64 p104) rfl rfl hF rfl (run_assign rfl (hF.ev rfl)) ?_; clear hF; intro a hF
    refine wpList_nil ?_
    refine wp_seq ?_
    refine wp_seq ?_
    refine wp_region_lit ?_
    refine op_val (v := .int .i64 p104) rfl rfl hF rfl (run_move rfl (hF.ev rfl)) ?_; clear hF; intro a hF
    refine op_val (v := .bool (ltB p104 0)) rfl rfl hF rfl (run_lss (hF.ev rfl) rfl rfl) ?_; clear hF; intro a hF
    refine wpList_nil ?_
    cases hc105 : (ltB p104 0)
    · replace hM := bif_f hc105 hM
      refine cond_f hF rfl hc105 ?_
      refine wp_skip ?_
      refine wp_seq ?_
      refine wp_region_lit ?_
      refine op_val (v := .pointer (some ⟨g101, 2, none⟩)) rfl rfl hF rfl (run_fieldAddr rfl fl31_2 (hF.ev rfl) rfl) ?_; clear hF; intro a hF
      refine op_val (v := .slice A2 x2.length c2) rfl rfl hF rfl (run_load1 rfl one29 (hF.ev rfl) ((S.free 0 rfl).cell rfl)) ?_; clear hF; intro a hF
      refine op_val (v := .int .i64 p104) rfl rfl hF rfl (run_move rfl (hF.ev rfl)) ?_; clear hF; intro a hF
      obtain ⟨p106, h106, hM⟩ := bind_ex hM
      refine op_call rfl rfl hF rfl (run_call (vs := [.slice A2 x2.length c2, .int .i64 p104]) rfl rfl co38 ⟨(hF.ev rfl), (hF.ev rfl), trivial⟩) (c_laws_heldPermitS (x0 := x2) (x1 := p104) ⟨(S.rc0 h2.rc), rfl⟩ h106) ?_
      rintro e u ⟨rfl, T⟩
      refine ⟨_, rfl, ?_⟩
      clear hF; intro a hF
      replace S := S.call0 T; clear T
      refine op_val (v := .int .i64 p106) rfl rfl hF rfl (run_assign rfl (hF.ev rfl)) ?_; clear hF; intro a hF
      refine wpList_nil ?_
      refine wp_seq ?_
      refine wp_seq ?_
      refine wp_region_lit ?_
      refine op_val (v := .int .i64 p106) rfl rfl hF rfl (run_move rfl (hF.ev rfl)) ?_; clear hF; intro a hF
      refine op_val (v := .bool (ltB p106 0)) rfl rfl hF rfl (run_lss (hF.ev rfl) rfl rfl) ?_; clear hF; intro a hF
      refine wpList_nil ?_
      cases hc107 : (ltB p106 0)
      · replace hM := bif_f hc107 hM
        refine cond_f hF rfl hc107 ?_
        refine wp_skip ?_
        refine wp_seq ?_
        refine wp_region_lit ?_
        refine op_val (v := .int .i64 p106) rfl rfl hF rfl (run_move rfl (hF.ev rfl)) ?_; clear hF; intro a hF
        refine op_val (v := .int .i64 p106) rfl rfl hF rfl (run_assign rfl (hF.ev rfl)) ?_; clear hF; intro a hF
        refine wpList_nil ?_
        refine wp_ret ?_
        repeat with_reducible (first | refine then_ret ?_ | refine in_ret ?_ | refine in_nrm ?_)
        refine ret1_gw (.inl rfl) hF rfl (res_tmp (hF.ev rfl)) ?_
        obtain rfl := Option.some.inj hM
        exact ⟨rfl, S.sel [] rfl rfl⟩
      · replace hM := bif_t hc107 hM
        refine cond_t hF rfl hc107 ?_
        refine wp_seq ?_
        refine wp_region_lit ?_
        refine op_val (v := .int .i64 (-1)) rfl rfl hF rfl (run_assign rfl rfl) ?_; clear hF; intro a hF
        refine wpList_nil ?_
        refine wp_ret ?_
        repeat with_reducible (first | refine then_ret ?_ | refine in_ret ?_ | refine in_nrm ?_)
        refine ret1_gw (.inl rfl) hF rfl (res_tmp (hF.ev rfl)) ?_
        obtain rfl := Option.some.inj hM
        exact ⟨rfl, S.sel [] rfl rfl⟩
    · replace hM := bif_t hc105 hM
      refine cond_t hF rfl hc105 ?_
      refine wp_seq ?_
      refine wp_region_lit ?_
      refine op_val (v := .int .i64 (-1)) rfl rfl hF rfl (run_assign rfl rfl) ?_; clear hF; intro a hF
      refine wpList_nil ?_
      refine wp_ret ?_
      repeat with_reducible (first | refine then_ret ?_ | refine in_ret ?_ | refine in_nrm ?_)
      refine ret1_gw (.inl rfl) hF rfl (res_tmp (hF.ev rfl)) ?_
      obtain rfl := Option.some.inj hM
      exact ⟨rfl, S.sel [] rfl rfl⟩
  · replace hM := bif_t hc103 hM
    refine cond_t hF rfl hc103 ?_
    refine wp_seq ?_
    refine wp_region_lit ?_
    refine op_val (v := .int .i64 (-1)) rfl rfl hF rfl (run_assign rfl rfl) ?_; clear hF; intro a hF
    refine wpList_nil ?_
    refine wp_ret ?_
    repeat with_reducible (first | refine then_ret ?_ | refine in_ret ?_ | refine in_nrm ?_)
    refine ret1_gw (.inl rfl) hF rfl (res_tmp (hF.ev rfl)) ?_
    obtain rfl := Option.some.inj hM
    exact ⟨rfl, S.sel [] rfl rfl⟩

set_option maxHeartbeats 4000000 in
theorem c_laws_FnExactWorkDo {x0 : List Bool} {x1 : List Bool} {x2 : List (Int × Int)} {x3 : Int} {x4 : Int} {x5 : Int} {A0 : Option Addr} {n0 c0 : Nat} {A1 : Option Addr} {n1 c1 : Nat} {A2 : Option Addr} {n2 c2 : Nat} {w : World} {r : Bool} (h0 : Rt w 1 eB A0 n0 c0 x0) (h1 : Rt w 1 eB A1 n1 c1 x1) (h2 : Rt w 2 eLPermit A2 n2 c2 x2) (hM : m_laws_FnExactWorkDo x0 x1 x2 x3 x4 x5 = some r) :
    Calls Try.prog 3 #[.agg #[.slice A0 n0 c0, .slice A1 n1 c1, .slice A2 n2 c2], .agg #[.int .i64 x3, .int .i64 x4, .int .i64 x5]] w (fun e w' => e = .returned (.bool r) ∧ St w w' []) := by
  obtain rfl := h0.len
  obtain rfl := h1.len
  obtain rfl := h2.len
  unfold m_laws_FnExactWorkDo at hM
  refine calls_gw Try.func3 Try.ntmps3 rfl [(0, .agg #[.slice A0 x0.length c0, .slice A1 x1.length c1, .slice A2 x2.length c2]), (1, .agg #[.int .i64 x3, .int .i64 x4, .int .i64 x5])] ⟨rfl, rfl, trivial⟩ rfl ?_
  intro a hF
  have S := St.nil w
  refine wp_seq ?_
  refine wp_region_lit ?_
  refine op_new (cs := #[.slice A0 x0.length c0, .slice A1 x1.length c1, .slice A2 x2.length c2]) rfl rfl hF rfl S (run_box rfl (hF.ev rfl) rfl) ?_; clear hF S; intro a g101 u hF S
  refine op_new (cs := #[.int .i64 x3, .int .i64 x4, .int .i64 x5]) rfl rfl hF rfl S (run_box rfl (hF.ev rfl) rfl) ?_; clear hF S; intro a g102 u hF S
  refine op_val (v := .bool false) rfl rfl hF rfl (run_assign rfl rfl) ?_; clear hF; intro a hF
  refine wpList_nil ?_
  refine wp_seq ?_
  refine wp_region_lit ?_
  refine op_val (v := .int .i64 1048576) rfl rfl hF rfl (run_assign rfl rfl) ?_; clear hF; intro a hF
  refine wpList_nil ?_
  refine wp_seq ?_
  refine wp_region_lit ?_
  refine op_val (v := .agg #[.slice A0 x0.length c0, .slice A1 x1.length c1, .slice A2 x2.length c2]) rfl rfl hF rfl (run_loadN rfl ag25 (hF.ev rfl) rfl ((S.free 1 rfl).cells 0 #[.slice A0 x0.length c0, .slice A1 x1.length c1, .slice A2 x2.length c2] rfl)) ?_; clear hF; intro a hF
  refine op_val (v := .int .i64 1048576) rfl rfl hF rfl (run_move rfl (hF.ev rfl)) ?_; clear hF; intro a hF
  obtain ⟨p103, h103, hM⟩ := bind_ex hM
  refine op_call rfl rfl hF rfl (run_call (vs := [.agg #[.slice A0 x0.length c0, .slice A1 x1.length c1, .slice A2 x2.length c2], .int .i64 1048576]) rfl rfl co5 ⟨(hF.ev rfl), (hF.ev rfl), trivial⟩) (c_laws_szWork (x0 := x0) (x1 := x1) (x2 := x2) (x3 := 1048576) ⟨(S.rc0 h0.rc), rfl⟩ ⟨(S.rc0 h1.rc), rfl⟩ ⟨(S.rc0 h2.rc), rfl⟩ h103) ?_
  rintro e u ⟨rfl, T⟩
  refine ⟨_, rfl, ?_⟩
  clear hF; intro a hF
  replace S := S.call0 T; clear T
  refine op_val (v := .int .i64 p103) rfl rfl hF rfl (run_assign rfl (hF.ev rfl)) ?_; clear hF; intro a hF
  refine wpList_nil ?_
  refine wp_seq ?_
  refine wp_seq ?_
  refine wp_region_lit ?_
  refine op_val (v := .int .i64 p103) rfl rfl hF rfl (run_move rfl (hF.ev rfl)) ?_; clear hF; intro a hF
  refine op_val (v := .bool (ltB p103 0)) rfl rfl hF rfl (run_lss (hF.ev rfl) rfl rfl) ?_; clear hF; intro a hF
  refine wpList_nil ?_
  cases hc104 : (ltB p103 0)
  · replace hM := bif_f hc104 hM
    refine cond_f hF rfl hc104 ?_
    refine wp_skip ?_
    refine wp_seq ?_
    obtain ⟨p105, h105, hM⟩ := bind_ex hM
    obtain ⟨p115, h115, hM⟩ := bind_ex hM
    obtain ⟨p116, h116, hM⟩ := bind_ex hM
    refine region_gw (D := [22, 23, 24, 25, 26, 21, 27, 28, 6, 7]) (Lr := [.box g102 27 #[.int .i64 x3, .int .i64 x4, .int .i64 x5], .box g101 25 #[.slice A0 x0.length c0, .slice A1 x1.length c1, .slice A2 x2.length c2]]) (deps := (fun | 0 => [22] | 1 => [23] | 2 => [24] | 3 => [25] | 4 => [26] | 5 => [21, 26] | 6 => [27, 26] | 7 => [28] | 8 => [6] | 9 => [6, 26] | 10 => [7] | _ => [])) (rd := (fun | 4 => [1] | _ => [])) (zr := (fun _ => []))
      (φ := fun i vs => match i, vs with | 0, [v22] => v22 = .agg #[.slice A0 x0.length c0, .slice A1 x1.length c1, .slice A2 x2.length c2] | 1, [v23] => v23 = .agg #[.slice (slA (vtup v23 0)) p105.1.length (slC (vtup v23 0)), .slice (slA (vtup v23 1)) p105.2.1.length (slC (vtup v23 1)), .slice (slA (vtup v23 2)) p105.2.2.length (slC (vtup v23 2))] | 2, [v24] => v24 = .agg #[.int .i64 x3, .int .i64 x4, .int .i64 x5] | 3, [v25] => v25 = .agg #[.int .i64 p115.1, .int .i64 p115.2.1, .int .i64 p115.2.2] | 4, [v26] => v26 = .tuple #[.agg #[.slice (slA (vtup (vtup v26 0) 0)) p116.1.length (slC (vtup (vtup v26 0) 0)), .slice (slA (vtup (vtup v26 0) 1)) p116.2.1.length (slC (vtup (vtup v26 0) 1)), .slice (slA (vtup (vtup v26 0) 2)) p116.2.2.1.length (slC (vtup (vtup v26 0) 2))], .bool p116.2.2.2] | 5, [v21, v26] => v21 = .tuple #[.agg #[.slice (slA (vtup (vtup v26 0) 0)) p116.1.length (slC (vtup (vtup v26 0) 0)), .slice (slA (vtup (vtup v26 0) 1)) p116.2.1.length (slC (vtup (vtup v26 0) 1)), .slice (slA (vtup (vtup v26 0) 2)) p116.2.2.1.length (slC (vtup (vtup v26 0) 2))], .bool p116.2.2.2] | 6, [v27, v26] => v27 = .agg #[.slice (slA (vtup (vtup v26 0) 0)) p116.1.length (slC (vtup (vtup v26 0) 0)), .slice (slA (vtup (vtup v26 0) 1)) p116.2.1.length (slC (vtup (vtup v26 0) 1)), .slice (slA (vtup (vtup v26 0) 2)) p116.2.2.1.length (slC (vtup (vtup v26 0) 2))] | 7, [v28] => v28 = .bool p116.2.2.2 | 8, [v6] => v6 = .pointer (some ⟨ptB v6, 0, none⟩) | 10, [v7] => v7 = .bool p116.2.2.2 | _, _ => True)
      (C := fun i vs => match i, vs with | 1, [v23] => [.row 4 1 (.slice (slA (vtup v23 0)) p105.1.length (slC (vtup v23 0))) p105.1.length (p105.1.flatMap eB), .row 4 1 (.slice (slA (vtup v23 1)) p105.2.1.length (slC (vtup v23 1))) p105.2.1.length (p105.2.1.flatMap eB), .row 56 2 (.slice (slA (vtup v23 2)) p105.2.2.length (slC (vtup v23 2))) p105.2.2.length (p105.2.2.flatMap ePermit)] | 4, [v26] => [.row 4 1 (.slice (slA (vtup (vtup v26 0) 0)) p116.1.length (slC (vtup (vtup v26 0) 0))) p116.1.length (p116.1.flatMap eB), .row 4 1 (.slice (slA (vtup (vtup v26 0) 1)) p116.2.1.length (slC (vtup (vtup v26 0) 1))) p116.2.1.length (p116.2.1.flatMap eB), .row 56 2 (.slice (slA (vtup (vtup v26 0) 2)) p116.2.2.1.length (slC (vtup (vtup v26 0) 2))) p116.2.2.1.length (p116.2.2.1.flatMap ePermit)] | 8, [v6] => [.box (ptB v6) 31 #[.slice none 0 0, .slice none 0 0, .slice none 0 0]] | 9, [v6, v26] => [.box (ptB v6) 31 #[.slice (slA (vtup (vtup v26 0) 0)) p116.1.length (slC (vtup (vtup v26 0) 0)), .slice (slA (vtup (vtup v26 0) 1)) p116.2.1.length (slC (vtup (vtup v26 0) 1)), .slice (slA (vtup (vtup v26 0) 2)) p116.2.2.1.length (slC (vtup (vtup v26 0) 2))]] | _, _ => [])
      (κ := (fun | 8 => some 9 | _ => none)) (Z := (fun _ => [])) mixed hF (by kernel_rfl) S ?_ ?_
    · refine ⟨?_, ?_, ?_, ?_, ?_, ?_, ?_, ?_, ?_, ?_, ?_, trivial⟩
      · intro a u X hB hu hp hr hz hl S
        replace S : St w u ([] ++ X) := S
        exact .inl ⟨rfl, .agg #[.slice A0 x0.length c0, .slice A1 x1.length c1, .slice A2 x2.length c2], u, (run_loadN rfl ag25 (hF.evB hB rfl rfl) rfl ((gr_box S hl 1 rfl).cells 0 #[.slice A0 x0.length c0, .slice A1 x1.length c1, .slice A2 x2.length c2] rfl)), rfl, S⟩
      · intro a u X hB hu hp hr hz hl S
        replace S : St w u ([] ++ X) := S
        have e22 : sl a 22 = .agg #[.slice A0 x0.length c0, .slice A1 x1.length c1, .slice A2 x2.length c2] := hp 0 rfl
        refine .inr (.inr (.inl ⟨rfl, _, _, (run_call (vs := [.agg #[.slice A0 x0.length c0, .slice A1 x1.length c1, .slice A2 x2.length c2]]) rfl rfl co7 ⟨(ev_sl e22), trivial⟩), ?_⟩))
        refine Calls.mono (c_laws_toWork (x0 := x0) (x1 := x1) (x2 := x2) ⟨(S.rc0 h0.rc), rfl⟩ ⟨(S.rc0 h1.rc), rfl⟩ ⟨(S.rc0 h2.rc), rfl⟩ h105) ?_
        rintro e w1 ⟨B106, n107, d108, B109, n110, d111, B112, n113, d114, rfl, rfl, rfl, rfl, T⟩
        exact ⟨_, rfl, rfl, S.call3 T⟩
      · intro a u X hB hu hp hr hz hl S
        replace S : St w u ([] ++ X) := S
        exact .inl ⟨rfl, .agg #[.int .i64 x3, .int .i64 x4, .int .i64 x5], u, (run_loadN rfl ag27 (hF.evB hB rfl rfl) rfl ((gr_box S hl 0 rfl).cells 0 #[.int .i64 x3, .int .i64 x4, .int .i64 x5] rfl)), rfl, S⟩
      · intro a u X hB hu hp hr hz hl S
        replace S : St w u ([] ++ X) := S
        have e24 : sl a 24 = .agg #[.int .i64 x3, .int .i64 x4, .int .i64 x5] := hp 2 rfl
        refine .inr (.inr (.inl ⟨rfl, _, _, (run_call (vs := [.agg #[.int .i64 x3, .int .i64 x4, .int .i64 x5]]) rfl rfl co8 ⟨(ev_sl e24), trivial⟩), ?_⟩))
        refine Calls.mono (c_laws_toWorkDeed (x0 := x3) (x1 := x4) (x2 := x5)  h115) ?_
        rintro e w1 ⟨rfl, T⟩
        exact ⟨_, rfl, rfl, S.call0 T⟩
      · intro a u X hB hu hp hr hz hl S
        replace S : St w u ([] ++ X) := S
        have e23 : sl a 23 = .agg #[.slice (slA (vtup (sl a 23) 0)) p105.1.length (slC (vtup (sl a 23) 0)), .slice (slA (vtup (sl a 23) 1)) p105.2.1.length (slC (vtup (sl a 23) 1)), .slice (slA (vtup (sl a 23) 2)) p105.2.2.length (slC (vtup (sl a 23) 2))] := hp 1 rfl
        have e25 : sl a 25 = .agg #[.int .i64 p115.1, .int .i64 p115.2.1, .int .i64 p115.2.2] := hp 3 rfl
        refine .inr (.inr (.inl ⟨rfl, _, _, (run_call (vs := [.agg #[.slice (slA (vtup (sl a 23) 0)) p105.1.length (slC (vtup (sl a 23) 0)), .slice (slA (vtup (sl a 23) 1)) p105.2.1.length (slC (vtup (sl a 23) 1)), .slice (slA (vtup (sl a 23) 2)) p105.2.2.length (slC (vtup (sl a 23) 2))], .agg #[.int .i64 p115.1, .int .i64 p115.2.1, .int .i64 p115.2.2]]) rfl rfl co6 ⟨(ev_sl e23), (ev_sl e25), trivial⟩), ?_⟩))
        refine Calls.mono (c_spec_WorkDo (x0 := p105.1) (x1 := p105.2.1) (x2 := p105.2.2) (x3 := p115.1) (x4 := p115.2.1) (x5 := p115.2.2) ⟨(own_rc (show World.ownsRow _ 0 _ _ _ _ _ from S.mem (List.mem_append_right _ (hr 1 (List.mem_of_getElem? (i := 0) rfl) _ (List.mem_of_getElem? (i := 0) rfl))))), rfl⟩ ⟨(own_rc (show World.ownsRow _ 0 _ _ _ _ _ from S.mem (List.mem_append_right _ (hr 1 (List.mem_of_getElem? (i := 0) rfl) _ (List.mem_of_getElem? (i := 1) rfl))))), rfl⟩ ⟨(own_rc (show World.ownsRow _ 0 _ _ _ _ _ from S.mem (List.mem_append_right _ (hr 1 (List.mem_of_getElem? (i := 0) rfl) _ (List.mem_of_getElem? (i := 2) rfl))))), rfl⟩ h116) ?_
        rintro e w1 ⟨B117, n118, d119, B120, n121, d122, B123, n124, d125, rfl, rfl, rfl, rfl, T⟩
        exact ⟨_, rfl, rfl, S.call3 T⟩
      · intro a u X hB hu hp hr hz hl S
        replace S : St w u ([] ++ X) := S
        have e26 : sl a 26 = .tuple #[.agg #[.slice (slA (vtup (vtup (sl a 26) 0) 0)) p116.1.length (slC (vtup (vtup (sl a 26) 0) 0)), .slice (slA (vtup (vtup (sl a 26) 0) 1)) p116.2.1.length (slC (vtup (vtup (sl a 26) 0) 1)), .slice (slA (vtup (vtup (sl a 26) 0) 2)) p116.2.2.1.length (slC (vtup (vtup (sl a 26) 0) 2))], .bool p116.2.2.2] := hp 4 rfl
        exact .inl ⟨rfl, .tuple #[.agg #[.slice (slA (vtup (vtup (sl a 26) 0) 0)) p116.1.length (slC (vtup (vtup (sl a 26) 0) 0)), .slice (slA (vtup (vtup (sl a 26) 0) 1)) p116.2.1.length (slC (vtup (vtup (sl a 26) 0) 1)), .slice (slA (vtup (vtup (sl a 26) 0) 2)) p116.2.2.1.length (slC (vtup (vtup (sl a 26) 0) 2))], .bool p116.2.2.2], u, (run_move rfl (ev_sl e26)), rfl, S⟩
      · intro a u X hB hu hp hr hz hl S
        replace S : St w u ([] ++ X) := S
        have e21 : sl a 21 = .tuple #[.agg #[.slice (slA (vtup (vtup (sl a 26) 0) 0)) p116.1.length (slC (vtup (vtup (sl a 26) 0) 0)), .slice (slA (vtup (vtup (sl a 26) 0) 1)) p116.2.1.length (slC (vtup (vtup (sl a 26) 0) 1)), .slice (slA (vtup (vtup (sl a 26) 0) 2)) p116.2.2.1.length (slC (vtup (vtup (sl a 26) 0) 2))], .bool p116.2.2.2] := hp 5 rfl
        exact .inl ⟨rfl, .agg #[.slice (slA (vtup (vtup (sl a 26) 0) 0)) p116.1.length (slC (vtup (vtup (sl a 26) 0) 0)), .slice (slA (vtup (vtup (sl a 26) 0) 1)) p116.2.1.length (slC (vtup (vtup (sl a 26) 0) 1)), .slice (slA (vtup (vtup (sl a 26) 0) 2)) p116.2.2.1.length (slC (vtup (vtup (sl a 26) 0) 2))], u, (run_extract rfl (ev_sl e21) rfl), rfl, S⟩
      · intro a u X hB hu hp hr hz hl S
        replace S : St w u ([] ++ X) := S
        have e21 : sl a 21 = .tuple #[.agg #[.slice (slA (vtup (vtup (sl a 26) 0) 0)) p116.1.length (slC (vtup (vtup (sl a 26) 0) 0)), .slice (slA (vtup (vtup (sl a 26) 0) 1)) p116.2.1.length (slC (vtup (vtup (sl a 26) 0) 1)), .slice (slA (vtup (vtup (sl a 26) 0) 2)) p116.2.2.1.length (slC (vtup (vtup (sl a 26) 0) 2))], .bool p116.2.2.2] := hp 5 rfl
        exact .inl ⟨rfl, .bool p116.2.2.2, u, (run_extract rfl (ev_sl e21) rfl), rfl, S⟩
      · intro a u X hB hu hp hr hz hl S
        replace S : St w u ([] ++ X) := S
        exact .inl ⟨rfl, _, _, (run_allocZ rfl zr31), rfl, S.alloc _ _⟩
      · intro a u X hB hu hp hr hz hl S
        replace S : St w u ([.box (ptB (sl a 6)) 31 #[.slice none 0 0, .slice none 0 0, .slice none 0 0]] ++ X) := S
        have e6 : sl a 6 = .pointer (some ⟨ptB (sl a 6), 0, none⟩) := hp 8 rfl
        have e27 : sl a 27 = .agg #[.slice (slA (vtup (vtup (sl a 26) 0) 0)) p116.1.length (slC (vtup (vtup (sl a 26) 0) 0)), .slice (slA (vtup (vtup (sl a 26) 0) 1)) p116.2.1.length (slC (vtup (vtup (sl a 26) 0) 1)), .slice (slA (vtup (vtup (sl a 26) 0) 2)) p116.2.2.1.length (slC (vtup (vtup (sl a 26) 0) 2))] := hp 6 rfl
        exact .inr (.inl ⟨rfl, _, run_store (cs' := #[.slice (slA (vtup (vtup (sl a 26) 0) 0)) p116.1.length (slC (vtup (vtup (sl a 26) 0) 0)), .slice (slA (vtup (vtup (sl a 26) 0) 1)) p116.2.1.length (slC (vtup (vtup (sl a 26) 0) 1)), .slice (slA (vtup (vtup (sl a 26) 0) 2)) p116.2.2.1.length (slC (vtup (vtup (sl a 26) 0) 2))]) rfl sz31 (ev_sl e6) (ev_sl e27) rfl rfl rfl (S.free 0 rfl) rfl rfl, trivial, S.put 0 rfl (#[.slice (slA (vtup (vtup (sl a 26) 0) 0)) p116.1.length (slC (vtup (vtup (sl a 26) 0) 0)), .slice (slA (vtup (vtup (sl a 26) 0) 1)) p116.2.1.length (slC (vtup (vtup (sl a 26) 0) 1)), .slice (slA (vtup (vtup (sl a 26) 0) 2)) p116.2.2.1.length (slC (vtup (vtup (sl a 26) 0) 2))])⟩)
      · intro a u X hB hu hp hr hz hl S
        replace S : St w u ([] ++ X) := S
        have e28 : sl a 28 = .bool p116.2.2.2 := hp 7 rfl
        exact .inl ⟨rfl, .bool p116.2.2.2, u, (run_assign rfl (ev_sl e28)), rfl, S⟩
    · intro a u hB hp S
      obtain ⟨q0, q1, q2, q3, q4, q5, q6, q7, q8, q9, q10, _⟩ := hp
      have e22 : sl a 22 = .agg #[.slice A0 x0.length c0, .slice A1 x1.length c1, .slice A2 x2.length c2] := q0
      have e23 : sl a 23 = .agg #[.slice (slA (vtup (sl a 23) 0)) p105.1.length (slC (vtup (sl a 23) 0)), .slice (slA (vtup (sl a 23) 1)) p105.2.1.length (slC (vtup (sl a 23) 1)), .slice (slA (vtup (sl a 23) 2)) p105.2.2.length (slC (vtup (sl a 23) 2))] := q1
      have e24 : sl a 24 = .agg #[.int .i64 x3, .int .i64 x4, .int .i64 x5] := q2
      have e25 : sl a 25 = .agg #[.int .i64 p115.1, .int .i64 p115.2.1, .int .i64 p115.2.2] := q3
      have e26 : sl a 26 = .tuple #[.agg #[.slice (slA (vtup (vtup (sl a 26) 0) 0)) p116.1.length (slC (vtup (vtup (sl a 26) 0) 0)), .slice (slA (vtup (vtup (sl a 26) 0) 1)) p116.2.1.length (slC (vtup (vtup (sl a 26) 0) 1)), .slice (slA (vtup (vtup (sl a 26) 0) 2)) p116.2.2.1.length (slC (vtup (vtup (sl a 26) 0) 2))], .bool p116.2.2.2] := q4
      have e21 : sl a 21 = .tuple #[.agg #[.slice (slA (vtup (vtup (sl a 26) 0) 0)) p116.1.length (slC (vtup (vtup (sl a 26) 0) 0)), .slice (slA (vtup (vtup (sl a 26) 0) 1)) p116.2.1.length (slC (vtup (vtup (sl a 26) 0) 1)), .slice (slA (vtup (vtup (sl a 26) 0) 2)) p116.2.2.1.length (slC (vtup (vtup (sl a 26) 0) 2))], .bool p116.2.2.2] := q5
      have e27 : sl a 27 = .agg #[.slice (slA (vtup (vtup (sl a 26) 0) 0)) p116.1.length (slC (vtup (vtup (sl a 26) 0) 0)), .slice (slA (vtup (vtup (sl a 26) 0) 1)) p116.2.1.length (slC (vtup (vtup (sl a 26) 0) 1)), .slice (slA (vtup (vtup (sl a 26) 0) 2)) p116.2.2.1.length (slC (vtup (vtup (sl a 26) 0) 2))] := q6
      have e28 : sl a 28 = .bool p116.2.2.2 := q7
      have e6 : sl a 6 = .pointer (some ⟨ptB (sl a 6), 0, none⟩) := q8
      have e7 : sl a 7 = .bool p116.2.2.2 := q10
      replace S : St w u [.row 4 1 (.slice (slA (vtup (sl a 23) 0)) p105.1.length (slC (vtup (sl a 23) 0))) p105.1.length (p105.1.flatMap eB), .row 4 1 (.slice (slA (vtup (sl a 23) 1)) p105.2.1.length (slC (vtup (sl a 23) 1))) p105.2.1.length (p105.2.1.flatMap eB), .row 56 2 (.slice (slA (vtup (sl a 23) 2)) p105.2.2.length (slC (vtup (sl a 23) 2))) p105.2.2.length (p105.2.2.flatMap ePermit), .row 4 1 (.slice (slA (vtup (vtup (sl a 26) 0) 0)) p116.1.length (slC (vtup (vtup (sl a 26) 0) 0))) p116.1.length (p116.1.flatMap eB), .row 4 1 (.slice (slA (vtup (vtup (sl a 26) 0) 1)) p116.2.1.length (slC (vtup (vtup (sl a 26) 0) 1))) p116.2.1.length (p116.2.1.flatMap eB), .row 56 2 (.slice (slA (vtup (vtup (sl a 26) 0) 2)) p116.2.2.1.length (slC (vtup (vtup (sl a 26) 0) 2))) p116.2.2.1.length (p116.2.2.1.flatMap ePermit), .box (ptB (sl a 6)) 31 #[.slice (slA (vtup (vtup (sl a 26) 0) 0)) p116.1.length (slC (vtup (vtup (sl a 26) 0) 0)), .slice (slA (vtup (vtup (sl a 26) 0) 1)) p116.2.1.length (slC (vtup (vtup (sl a 26) 0) 1)), .slice (slA (vtup (vtup (sl a 26) 0) 2)) p116.2.2.1.length (slC (vtup (vtup (sl a 26) 0) 2))], .box g102 27 #[.int .i64 x3, .int .i64 x4, .int .i64 x5], .box g101 25 #[.slice A0 x0.length c0, .slice A1 x1.length c1, .slice A2 x2.length c2]] := S
      clear q0 q1 q2 q3 q4 q5 q6 q7 q8 q9 q10
      generalize slA (vtup (sl a 23) 0) = B126 at *
      generalize slC (vtup (sl a 23) 0) = d127 at *
      generalize slA (vtup (sl a 23) 1) = B128 at *
      generalize slC (vtup (sl a 23) 1) = d129 at *
      generalize slA (vtup (sl a 23) 2) = B130 at *
      generalize slC (vtup (sl a 23) 2) = d131 at *
      generalize slA (vtup (vtup (sl a 26) 0) 0) = B132 at *
      generalize slC (vtup (vtup (sl a 26) 0) 0) = d133 at *
      generalize slA (vtup (vtup (sl a 26) 0) 1) = B134 at *
      generalize slC (vtup (vtup (sl a 26) 0) 1) = d135 at *
      generalize slA (vtup (vtup (sl a 26) 0) 2) = B136 at *
      generalize slC (vtup (vtup (sl a 26) 0) 2) = d137 at *
      generalize ptB (sl a 6) = g138 at *
      have hF := hF.region hB [(22, .agg #[.slice A0 x0.length c0, .slice A1 x1.length c1, .slice A2 x2.length c2]), (23, .agg #[.slice B126 p105.1.length d127, .slice B128 p105.2.1.length d129, .slice B130 p105.2.2.length d131]), (24, .agg #[.int .i64 x3, .int .i64 x4, .int .i64 x5]), (25, .agg #[.int .i64 p115.1, .int .i64 p115.2.1, .int .i64 p115.2.2]), (26, .tuple #[.agg #[.slice B132 p116.1.length d133, .slice B134 p116.2.1.length d135, .slice B136 p116.2.2.1.length d137], .bool p116.2.2.2]), (21, .tuple #[.agg #[.slice B132 p116.1.length d133, .slice B134 p116.2.1.length d135, .slice B136 p116.2.2.1.length d137], .bool p116.2.2.2]), (27, .agg #[.slice B132 p116.1.length d133, .slice B134 p116.2.1.length d135, .slice B136 p116.2.2.1.length d137]), (28, .bool p116.2.2.2), (6, .pointer (some ⟨g138, 0, none⟩)), (7, .bool p116.2.2.2)] (allSl_mem ⟨e22, e23, e24, e25, e26, e21, e27, e28, e6, e7, trivial⟩) rfl
      clear hB e22 e23 e24 e25 e26 e21 e27 e28 e6 e7
      refine wp_seq ?_
      refine wp_region_lit ?_
      refine op_val (v := .agg #[.slice A0 x0.length c0, .slice A1 x1.length c1, .slice A2 x2.length c2]) rfl rfl hF rfl (run_loadN rfl ag25 (hF.ev rfl) rfl ((S.free 8 rfl).cells 0 #[.slice A0 x0.length c0, .slice A1 x1.length c1, .slice A2 x2.length c2] rfl)) ?_; clear hF; intro a hF
      obtain ⟨p139, h139, hM⟩ := bind_ex hM
      refine op_call rfl rfl hF rfl (run_call (vs := [.agg #[.slice A0 x0.length c0, .slice A1 x1.length c1, .slice A2 x2.length c2]]) rfl rfl co7 ⟨(hF.ev rfl), trivial⟩) (c_laws_toWork (x0 := x0) (x1 := x1) (x2 := x2) ⟨(S.rc0 h0.rc), rfl⟩ ⟨(S.rc0 h1.rc), rfl⟩ ⟨(S.rc0 h2.rc), rfl⟩ h139) ?_
      rintro e u ⟨B140, n141, d142, B143, n144, d145, B146, n147, d148, rfl, rfl, rfl, rfl, T⟩
      refine ⟨_, rfl, ?_⟩
      clear hF; intro a hF
      replace S := S.call3 T; clear T
      refine op_new (cs := #[.slice none 0 0, .slice none 0 0, .slice none 0 0]) rfl rfl hF rfl S (run_allocZ rfl zr31) ?_; clear hF S; intro a g149 u hF S
      refine op_do rfl rfl (run_store (cs' := #[.slice B140 p139.1.length d142, .slice B143 p139.2.1.length d145, .slice B146 p139.2.2.length d148]) rfl sz31 (hF.ev rfl) (hF.ev rfl) rfl rfl rfl (S.free 0 rfl) rfl rfl) ?_; replace S := S.put 0 rfl (#[.slice B140 p139.1.length d142, .slice B143 p139.2.1.length d145, .slice B146 p139.2.2.length d148])
      generalize World.setRow _ _ _ = u at S ⊢
      refine wpList_nil ?_
      refine wp_seq ?_
      obtain ⟨p150, h150, hM⟩ := bind_ex hM
      obtain ⟨p151, h151, hM⟩ := bind_ex hM
      refine region_gw (D := [32, 33, 34, 35, 31, 36, 37, 9, 10]) (Lr := [.box g149 31 #[.slice B140 p139.1.length d142, .slice B143 p139.2.1.length d145, .slice B146 p139.2.2.length d148], .row 4 1 (.slice B140 p139.1.length d142) p139.1.length (p139.1.flatMap eB), .row 4 1 (.slice B143 p139.2.1.length d145) p139.2.1.length (p139.2.1.flatMap eB), .row 56 2 (.slice B146 p139.2.2.length d148) p139.2.2.length (p139.2.2.flatMap ePermit), .row 4 1 (.slice B126 p105.1.length d127) p105.1.length (p105.1.flatMap eB), .row 4 1 (.slice B128 p105.2.1.length d129) p105.2.1.length (p105.2.1.flatMap eB), .row 56 2 (.slice B130 p105.2.2.length d131) p105.2.2.length (p105.2.2.flatMap ePermit), .row 4 1 (.slice B132 p116.1.length d133) p116.1.length (p116.1.flatMap eB), .row 4 1 (.slice B134 p116.2.1.length d135) p116.2.1.length (p116.2.1.flatMap eB), .row 56 2 (.slice B136 p116.2.2.1.length d137) p116.2.2.1.length (p116.2.2.1.flatMap ePermit), .box g138 31 #[.slice B132 p116.1.length d133, .slice B134 p116.2.1.length d135, .slice B136 p116.2.2.1.length d137], .box g102 27 #[.int .i64 x3, .int .i64 x4, .int .i64 x5], .box g101 25 #[.slice A0 x0.length c0, .slice A1 x1.length c1, .slice A2 x2.length c2]]) (deps := (fun | 0 => [32] | 1 => [33] | 2 => [34] | 3 => [35] | 4 => [31, 35] | 5 => [36, 35] | 6 => [37] | 7 => [9] | 8 => [9, 35] | 9 => [10] | _ => [])) (rd := (fun _ => [])) (zr := (fun _ => []))
        (φ := fun i vs => match i, vs with | 0, [v32] => v32 = .agg #[.slice B140 p139.1.length d142, .slice B143 p139.2.1.length d145, .slice B146 p139.2.2.length d148] | 1, [v33] => v33 = .agg #[.int .i64 x3, .int .i64 x4, .int .i64 x5] | 2, [v34] => v34 = .agg #[.int .i64 p150.1, .int .i64 p150.2.1, .int .i64 p150.2.2] | 3, [v35] => v35 = .tuple #[.agg #[.slice (slA (vtup (vtup v35 0) 0)) p151.1.length (slC (vtup (vtup v35 0) 0)), .slice (slA (vtup (vtup v35 0) 1)) p151.2.1.length (slC (vtup (vtup v35 0) 1)), .slice (slA (vtup (vtup v35 0) 2)) p151.2.2.1.length (slC (vtup (vtup v35 0) 2))], .bool p151.2.2.2] | 4, [v31, v35] => v31 = .tuple #[.agg #[.slice (slA (vtup (vtup v35 0) 0)) p151.1.length (slC (vtup (vtup v35 0) 0)), .slice (slA (vtup (vtup v35 0) 1)) p151.2.1.length (slC (vtup (vtup v35 0) 1)), .slice (slA (vtup (vtup v35 0) 2)) p151.2.2.1.length (slC (vtup (vtup v35 0) 2))], .bool p151.2.2.2] | 5, [v36, v35] => v36 = .agg #[.slice (slA (vtup (vtup v35 0) 0)) p151.1.length (slC (vtup (vtup v35 0) 0)), .slice (slA (vtup (vtup v35 0) 1)) p151.2.1.length (slC (vtup (vtup v35 0) 1)), .slice (slA (vtup (vtup v35 0) 2)) p151.2.2.1.length (slC (vtup (vtup v35 0) 2))] | 6, [v37] => v37 = .bool p151.2.2.2 | 7, [v9] => v9 = .pointer (some ⟨ptB v9, 0, none⟩) | 9, [v10] => v10 = .bool p151.2.2.2 | _, _ => True)
        (C := fun i vs => match i, vs with | 3, [v35] => [.row 4 1 (.slice (slA (vtup (vtup v35 0) 0)) p151.1.length (slC (vtup (vtup v35 0) 0))) p151.1.length (p151.1.flatMap eB), .row 4 1 (.slice (slA (vtup (vtup v35 0) 1)) p151.2.1.length (slC (vtup (vtup v35 0) 1))) p151.2.1.length (p151.2.1.flatMap eB), .row 56 2 (.slice (slA (vtup (vtup v35 0) 2)) p151.2.2.1.length (slC (vtup (vtup v35 0) 2))) p151.2.2.1.length (p151.2.2.1.flatMap ePermit)] | 7, [v9] => [.box (ptB v9) 31 #[.slice none 0 0, .slice none 0 0, .slice none 0 0]] | 8, [v9, v35] => [.box (ptB v9) 31 #[.slice (slA (vtup (vtup v35 0) 0)) p151.1.length (slC (vtup (vtup v35 0) 0)), .slice (slA (vtup (vtup v35 0) 1)) p151.2.1.length (slC (vtup (vtup v35 0) 1)), .slice (slA (vtup (vtup v35 0) 2)) p151.2.2.1.length (slC (vtup (vtup v35 0) 2))]] | _, _ => [])
        (κ := (fun | 7 => some 8 | _ => none)) (Z := (fun _ => [])) mixed hF (by kernel_rfl) S ?_ ?_
      · refine ⟨?_, ?_, ?_, ?_, ?_, ?_, ?_, ?_, ?_, ?_, trivial⟩
        · intro a u X hB hu hp hr hz hl S
          replace S : St w u ([] ++ X) := S
          exact .inl ⟨rfl, .agg #[.slice B140 p139.1.length d142, .slice B143 p139.2.1.length d145, .slice B146 p139.2.2.length d148], u, (run_loadN rfl ag31 (hF.evB hB rfl rfl) rfl ((gr_box S hl 0 rfl).cells 0 #[.slice B140 p139.1.length d142, .slice B143 p139.2.1.length d145, .slice B146 p139.2.2.length d148] rfl)), rfl, S⟩
        · intro a u X hB hu hp hr hz hl S
          replace S : St w u ([] ++ X) := S
          exact .inl ⟨rfl, .agg #[.int .i64 x3, .int .i64 x4, .int .i64 x5], u, (run_loadN rfl ag27 (hF.evB hB rfl rfl) rfl ((gr_box S hl 11 rfl).cells 0 #[.int .i64 x3, .int .i64 x4, .int .i64 x5] rfl)), rfl, S⟩
        · intro a u X hB hu hp hr hz hl S
          replace S : St w u ([] ++ X) := S
          have e33 : sl a 33 = .agg #[.int .i64 x3, .int .i64 x4, .int .i64 x5] := hp 1 rfl
          refine .inr (.inr (.inl ⟨rfl, _, _, (run_call (vs := [.agg #[.int .i64 x3, .int .i64 x4, .int .i64 x5]]) rfl rfl co8 ⟨(ev_sl e33), trivial⟩), ?_⟩))
          refine Calls.mono (c_laws_toWorkDeed (x0 := x3) (x1 := x4) (x2 := x5)  h150) ?_
          rintro e w1 ⟨rfl, T⟩
          exact ⟨_, rfl, rfl, S.call0 T⟩
        · intro a u X hB hu hp hr hz hl S
          replace S : St w u ([] ++ X) := S
          have e32 : sl a 32 = .agg #[.slice B140 p139.1.length d142, .slice B143 p139.2.1.length d145, .slice B146 p139.2.2.length d148] := hp 0 rfl
          have e34 : sl a 34 = .agg #[.int .i64 p150.1, .int .i64 p150.2.1, .int .i64 p150.2.2] := hp 2 rfl
          refine .inr (.inr (.inl ⟨rfl, _, _, (run_call (vs := [.agg #[.slice B140 p139.1.length d142, .slice B143 p139.2.1.length d145, .slice B146 p139.2.2.length d148], .agg #[.int .i64 p150.1, .int .i64 p150.2.1, .int .i64 p150.2.2]]) rfl rfl co9 ⟨(ev_sl e32), (ev_sl e34), trivial⟩), ?_⟩))
          refine Calls.mono (c_impl_WorkDo (x0 := p139.1) (x1 := p139.2.1) (x2 := p139.2.2) (x3 := p150.1) (x4 := p150.2.1) (x5 := p150.2.2) ⟨(gr_rc S hl 1 rfl), rfl⟩ ⟨(gr_rc S hl 2 rfl), rfl⟩ ⟨(gr_rc S hl 3 rfl), rfl⟩ h151) ?_
          rintro e w1 ⟨B152, n153, d154, B155, n156, d157, B158, n159, d160, rfl, rfl, rfl, rfl, T⟩
          exact ⟨_, rfl, rfl, S.call3 T⟩
        · intro a u X hB hu hp hr hz hl S
          replace S : St w u ([] ++ X) := S
          have e35 : sl a 35 = .tuple #[.agg #[.slice (slA (vtup (vtup (sl a 35) 0) 0)) p151.1.length (slC (vtup (vtup (sl a 35) 0) 0)), .slice (slA (vtup (vtup (sl a 35) 0) 1)) p151.2.1.length (slC (vtup (vtup (sl a 35) 0) 1)), .slice (slA (vtup (vtup (sl a 35) 0) 2)) p151.2.2.1.length (slC (vtup (vtup (sl a 35) 0) 2))], .bool p151.2.2.2] := hp 3 rfl
          exact .inl ⟨rfl, .tuple #[.agg #[.slice (slA (vtup (vtup (sl a 35) 0) 0)) p151.1.length (slC (vtup (vtup (sl a 35) 0) 0)), .slice (slA (vtup (vtup (sl a 35) 0) 1)) p151.2.1.length (slC (vtup (vtup (sl a 35) 0) 1)), .slice (slA (vtup (vtup (sl a 35) 0) 2)) p151.2.2.1.length (slC (vtup (vtup (sl a 35) 0) 2))], .bool p151.2.2.2], u, (run_move rfl (ev_sl e35)), rfl, S⟩
        · intro a u X hB hu hp hr hz hl S
          replace S : St w u ([] ++ X) := S
          have e31 : sl a 31 = .tuple #[.agg #[.slice (slA (vtup (vtup (sl a 35) 0) 0)) p151.1.length (slC (vtup (vtup (sl a 35) 0) 0)), .slice (slA (vtup (vtup (sl a 35) 0) 1)) p151.2.1.length (slC (vtup (vtup (sl a 35) 0) 1)), .slice (slA (vtup (vtup (sl a 35) 0) 2)) p151.2.2.1.length (slC (vtup (vtup (sl a 35) 0) 2))], .bool p151.2.2.2] := hp 4 rfl
          exact .inl ⟨rfl, .agg #[.slice (slA (vtup (vtup (sl a 35) 0) 0)) p151.1.length (slC (vtup (vtup (sl a 35) 0) 0)), .slice (slA (vtup (vtup (sl a 35) 0) 1)) p151.2.1.length (slC (vtup (vtup (sl a 35) 0) 1)), .slice (slA (vtup (vtup (sl a 35) 0) 2)) p151.2.2.1.length (slC (vtup (vtup (sl a 35) 0) 2))], u, (run_extract rfl (ev_sl e31) rfl), rfl, S⟩
        · intro a u X hB hu hp hr hz hl S
          replace S : St w u ([] ++ X) := S
          have e31 : sl a 31 = .tuple #[.agg #[.slice (slA (vtup (vtup (sl a 35) 0) 0)) p151.1.length (slC (vtup (vtup (sl a 35) 0) 0)), .slice (slA (vtup (vtup (sl a 35) 0) 1)) p151.2.1.length (slC (vtup (vtup (sl a 35) 0) 1)), .slice (slA (vtup (vtup (sl a 35) 0) 2)) p151.2.2.1.length (slC (vtup (vtup (sl a 35) 0) 2))], .bool p151.2.2.2] := hp 4 rfl
          exact .inl ⟨rfl, .bool p151.2.2.2, u, (run_extract rfl (ev_sl e31) rfl), rfl, S⟩
        · intro a u X hB hu hp hr hz hl S
          replace S : St w u ([] ++ X) := S
          exact .inl ⟨rfl, _, _, (run_allocZ rfl zr31), rfl, S.alloc _ _⟩
        · intro a u X hB hu hp hr hz hl S
          replace S : St w u ([.box (ptB (sl a 9)) 31 #[.slice none 0 0, .slice none 0 0, .slice none 0 0]] ++ X) := S
          have e9 : sl a 9 = .pointer (some ⟨ptB (sl a 9), 0, none⟩) := hp 7 rfl
          have e36 : sl a 36 = .agg #[.slice (slA (vtup (vtup (sl a 35) 0) 0)) p151.1.length (slC (vtup (vtup (sl a 35) 0) 0)), .slice (slA (vtup (vtup (sl a 35) 0) 1)) p151.2.1.length (slC (vtup (vtup (sl a 35) 0) 1)), .slice (slA (vtup (vtup (sl a 35) 0) 2)) p151.2.2.1.length (slC (vtup (vtup (sl a 35) 0) 2))] := hp 5 rfl
          exact .inr (.inl ⟨rfl, _, run_store (cs' := #[.slice (slA (vtup (vtup (sl a 35) 0) 0)) p151.1.length (slC (vtup (vtup (sl a 35) 0) 0)), .slice (slA (vtup (vtup (sl a 35) 0) 1)) p151.2.1.length (slC (vtup (vtup (sl a 35) 0) 1)), .slice (slA (vtup (vtup (sl a 35) 0) 2)) p151.2.2.1.length (slC (vtup (vtup (sl a 35) 0) 2))]) rfl sz31 (ev_sl e9) (ev_sl e36) rfl rfl rfl (S.free 0 rfl) rfl rfl, trivial, S.put 0 rfl (#[.slice (slA (vtup (vtup (sl a 35) 0) 0)) p151.1.length (slC (vtup (vtup (sl a 35) 0) 0)), .slice (slA (vtup (vtup (sl a 35) 0) 1)) p151.2.1.length (slC (vtup (vtup (sl a 35) 0) 1)), .slice (slA (vtup (vtup (sl a 35) 0) 2)) p151.2.2.1.length (slC (vtup (vtup (sl a 35) 0) 2))])⟩)
        · intro a u X hB hu hp hr hz hl S
          replace S : St w u ([] ++ X) := S
          have e37 : sl a 37 = .bool p151.2.2.2 := hp 6 rfl
          exact .inl ⟨rfl, .bool p151.2.2.2, u, (run_assign rfl (ev_sl e37)), rfl, S⟩
      · intro a u hB hp S
        obtain ⟨q0, q1, q2, q3, q4, q5, q6, q7, q8, q9, _⟩ := hp
        have e32 : sl a 32 = .agg #[.slice B140 p139.1.length d142, .slice B143 p139.2.1.length d145, .slice B146 p139.2.2.length d148] := q0
        have e33 : sl a 33 = .agg #[.int .i64 x3, .int .i64 x4, .int .i64 x5] := q1
        have e34 : sl a 34 = .agg #[.int .i64 p150.1, .int .i64 p150.2.1, .int .i64 p150.2.2] := q2
        have e35 : sl a 35 = .tuple #[.agg #[.slice (slA (vtup (vtup (sl a 35) 0) 0)) p151.1.length (slC (vtup (vtup (sl a 35) 0) 0)), .slice (slA (vtup (vtup (sl a 35) 0) 1)) p151.2.1.length (slC (vtup (vtup (sl a 35) 0) 1)), .slice (slA (vtup (vtup (sl a 35) 0) 2)) p151.2.2.1.length (slC (vtup (vtup (sl a 35) 0) 2))], .bool p151.2.2.2] := q3
        have e31 : sl a 31 = .tuple #[.agg #[.slice (slA (vtup (vtup (sl a 35) 0) 0)) p151.1.length (slC (vtup (vtup (sl a 35) 0) 0)), .slice (slA (vtup (vtup (sl a 35) 0) 1)) p151.2.1.length (slC (vtup (vtup (sl a 35) 0) 1)), .slice (slA (vtup (vtup (sl a 35) 0) 2)) p151.2.2.1.length (slC (vtup (vtup (sl a 35) 0) 2))], .bool p151.2.2.2] := q4
        have e36 : sl a 36 = .agg #[.slice (slA (vtup (vtup (sl a 35) 0) 0)) p151.1.length (slC (vtup (vtup (sl a 35) 0) 0)), .slice (slA (vtup (vtup (sl a 35) 0) 1)) p151.2.1.length (slC (vtup (vtup (sl a 35) 0) 1)), .slice (slA (vtup (vtup (sl a 35) 0) 2)) p151.2.2.1.length (slC (vtup (vtup (sl a 35) 0) 2))] := q5
        have e37 : sl a 37 = .bool p151.2.2.2 := q6
        have e9 : sl a 9 = .pointer (some ⟨ptB (sl a 9), 0, none⟩) := q7
        have e10 : sl a 10 = .bool p151.2.2.2 := q9
        replace S : St w u [.row 4 1 (.slice (slA (vtup (vtup (sl a 35) 0) 0)) p151.1.length (slC (vtup (vtup (sl a 35) 0) 0))) p151.1.length (p151.1.flatMap eB), .row 4 1 (.slice (slA (vtup (vtup (sl a 35) 0) 1)) p151.2.1.length (slC (vtup (vtup (sl a 35) 0) 1))) p151.2.1.length (p151.2.1.flatMap eB), .row 56 2 (.slice (slA (vtup (vtup (sl a 35) 0) 2)) p151.2.2.1.length (slC (vtup (vtup (sl a 35) 0) 2))) p151.2.2.1.length (p151.2.2.1.flatMap ePermit), .box (ptB (sl a 9)) 31 #[.slice (slA (vtup (vtup (sl a 35) 0) 0)) p151.1.length (slC (vtup (vtup (sl a 35) 0) 0)), .slice (slA (vtup (vtup (sl a 35) 0) 1)) p151.2.1.length (slC (vtup (vtup (sl a 35) 0) 1)), .slice (slA (vtup (vtup (sl a 35) 0) 2)) p151.2.2.1.length (slC (vtup (vtup (sl a 35) 0) 2))], .box g149 31 #[.slice B140 p139.1.length d142, .slice B143 p139.2.1.length d145, .slice B146 p139.2.2.length d148], .row 4 1 (.slice B140 p139.1.length d142) p139.1.length (p139.1.flatMap eB), .row 4 1 (.slice B143 p139.2.1.length d145) p139.2.1.length (p139.2.1.flatMap eB), .row 56 2 (.slice B146 p139.2.2.length d148) p139.2.2.length (p139.2.2.flatMap ePermit), .row 4 1 (.slice B126 p105.1.length d127) p105.1.length (p105.1.flatMap eB), .row 4 1 (.slice B128 p105.2.1.length d129) p105.2.1.length (p105.2.1.flatMap eB), .row 56 2 (.slice B130 p105.2.2.length d131) p105.2.2.length (p105.2.2.flatMap ePermit), .row 4 1 (.slice B132 p116.1.length d133) p116.1.length (p116.1.flatMap eB), .row 4 1 (.slice B134 p116.2.1.length d135) p116.2.1.length (p116.2.1.flatMap eB), .row 56 2 (.slice B136 p116.2.2.1.length d137) p116.2.2.1.length (p116.2.2.1.flatMap ePermit), .box g138 31 #[.slice B132 p116.1.length d133, .slice B134 p116.2.1.length d135, .slice B136 p116.2.2.1.length d137], .box g102 27 #[.int .i64 x3, .int .i64 x4, .int .i64 x5], .box g101 25 #[.slice A0 x0.length c0, .slice A1 x1.length c1, .slice A2 x2.length c2]] := S
        clear q0 q1 q2 q3 q4 q5 q6 q7 q8 q9
        generalize slA (vtup (vtup (sl a 35) 0) 0) = B161 at *
        generalize slC (vtup (vtup (sl a 35) 0) 0) = d162 at *
        generalize slA (vtup (vtup (sl a 35) 0) 1) = B163 at *
        generalize slC (vtup (vtup (sl a 35) 0) 1) = d164 at *
        generalize slA (vtup (vtup (sl a 35) 0) 2) = B165 at *
        generalize slC (vtup (vtup (sl a 35) 0) 2) = d166 at *
        generalize ptB (sl a 9) = g167 at *
        have hF := hF.region hB [(32, .agg #[.slice B140 p139.1.length d142, .slice B143 p139.2.1.length d145, .slice B146 p139.2.2.length d148]), (33, .agg #[.int .i64 x3, .int .i64 x4, .int .i64 x5]), (34, .agg #[.int .i64 p150.1, .int .i64 p150.2.1, .int .i64 p150.2.2]), (35, .tuple #[.agg #[.slice B161 p151.1.length d162, .slice B163 p151.2.1.length d164, .slice B165 p151.2.2.1.length d166], .bool p151.2.2.2]), (31, .tuple #[.agg #[.slice B161 p151.1.length d162, .slice B163 p151.2.1.length d164, .slice B165 p151.2.2.1.length d166], .bool p151.2.2.2]), (36, .agg #[.slice B161 p151.1.length d162, .slice B163 p151.2.1.length d164, .slice B165 p151.2.2.1.length d166]), (37, .bool p151.2.2.2), (9, .pointer (some ⟨g167, 0, none⟩)), (10, .bool p151.2.2.2)] (allSl_mem ⟨e32, e33, e34, e35, e31, e36, e37, e9, e10, trivial⟩) rfl
        clear hB e32 e33 e34 e35 e31 e36 e37 e9 e10
        refine wp_seq ?_
        refine wp_seq ?_
        refine wp_region_lit ?_
        refine op_val (v := .agg #[.slice B161 p151.1.length d162, .slice B163 p151.2.1.length d164, .slice B165 p151.2.2.1.length d166]) rfl rfl hF rfl (run_loadN rfl ag31 (hF.ev rfl) rfl ((S.free 3 rfl).cells 0 #[.slice B161 p151.1.length d162, .slice B163 p151.2.1.length d164, .slice B165 p151.2.2.1.length d166] rfl)) ?_; clear hF; intro a hF
        refine op_val (v := .agg #[.slice B132 p116.1.length d133, .slice B134 p116.2.1.length d135, .slice B136 p116.2.2.1.length d137]) rfl rfl hF rfl (run_loadN rfl ag31 (hF.ev rfl) rfl ((S.free 14 rfl).cells 0 #[.slice B132 p116.1.length d133, .slice B134 p116.2.1.length d135, .slice B136 p116.2.2.1.length d137] rfl)) ?_; clear hF; intro a hF
        obtain ⟨p168, h168, hM⟩ := bind_ex hM
        refine op_call rfl rfl hF rfl (run_call (vs := [.agg #[.slice B161 p151.1.length d162, .slice B163 p151.2.1.length d164, .slice B165 p151.2.2.1.length d166], .agg #[.slice B132 p116.1.length d133, .slice B134 p116.2.1.length d135, .slice B136 p116.2.2.1.length d137]]) rfl rfl co10 ⟨(hF.ev rfl), (hF.ev rfl), trivial⟩) (c_laws_eqWork (x0 := p151.1) (x1 := p151.2.1) (x2 := p151.2.2.1) (x3 := p116.1) (x4 := p116.2.1) (x5 := p116.2.2.1) ⟨(S.rc 0 rfl), rfl⟩ ⟨(S.rc 1 rfl), rfl⟩ ⟨(S.rc 2 rfl), rfl⟩ ⟨(S.rc 11 rfl), rfl⟩ ⟨(S.rc 12 rfl), rfl⟩ ⟨(S.rc 13 rfl), rfl⟩ h168) ?_
        rintro e u ⟨rfl, T⟩
        refine ⟨_, rfl, ?_⟩
        clear hF; intro a hF
        replace S := S.call0 T; clear T
        refine op_val (v := .bool (!p168)) rfl rfl hF rfl (run_not rfl (hF.ev rfl)) ?_; clear hF; intro a hF
        refine op_val (v := .bool (!p168)) rfl rfl hF rfl (run_move rfl (hF.ev rfl)) ?_; clear hF; intro a hF
        refine op_gv (v := .bool p151.2.2.2) rfl rfl hF rfl (yf (gw_yield hF rfl rfl rfl)) (fun hg => (run_move rfl (hF.ev rfl))) ?_; clear hF; intro a hF
        refine op_gv (v := .bool p116.2.2.2) rfl rfl hF rfl (yf (gw_yield hF rfl rfl rfl)) (fun hg => (run_move rfl (hF.ev rfl))) ?_; clear hF; intro a hF
        refine op_gv (v := .bool (p151.2.2.2 != p116.2.2.2)) rfl rfl hF rfl (yf (gw_yield hF rfl rfl rfl)) (fun hg => (run_neqB ((hF.ev rfl).trans (gv_t hg)) ((hF.ev rfl).trans (gv_t hg)) Try.underlying4 rfl)) ?_; clear hF; intro a hF
        refine op_val (v := .bool ((!p168) || (p151.2.2.2 != p116.2.2.2))) rfl rfl hF rfl (run_pick_or rfl (hF.ev rfl) rfl (fun hp => ((hF.ev rfl).trans (gv_t (not_t hp))))) ?_; clear hF; intro a hF
        refine wpList_nil ?_
        cases hc169 : ((!p168) || (p151.2.2.2 != p116.2.2.2))
        · replace hM := bif_f hc169 hM
          refine cond_f hF rfl hc169 ?_
          refine wp_skip ?_
          refine wp_seq ?_
          refine wp_seq ?_
          obtain ⟨p170, h170, hM⟩ := bind_ex hM
          obtain ⟨p180, h180, hM⟩ := bind_ex hM
          refine region_gw (D := [47, 48, 49, 50, 51]) (Lr := [.row 4 1 (.slice B161 p151.1.length d162) p151.1.length (p151.1.flatMap eB), .row 4 1 (.slice B163 p151.2.1.length d164) p151.2.1.length (p151.2.1.flatMap eB), .row 56 2 (.slice B165 p151.2.2.1.length d166) p151.2.2.1.length (p151.2.2.1.flatMap ePermit), .box g167 31 #[.slice B161 p151.1.length d162, .slice B163 p151.2.1.length d164, .slice B165 p151.2.2.1.length d166], .box g149 31 #[.slice B140 p139.1.length d142, .slice B143 p139.2.1.length d145, .slice B146 p139.2.2.length d148], .row 4 1 (.slice B140 p139.1.length d142) p139.1.length (p139.1.flatMap eB), .row 4 1 (.slice B143 p139.2.1.length d145) p139.2.1.length (p139.2.1.flatMap eB), .row 56 2 (.slice B146 p139.2.2.length d148) p139.2.2.length (p139.2.2.flatMap ePermit), .row 4 1 (.slice B126 p105.1.length d127) p105.1.length (p105.1.flatMap eB), .row 4 1 (.slice B128 p105.2.1.length d129) p105.2.1.length (p105.2.1.flatMap eB), .row 56 2 (.slice B130 p105.2.2.length d131) p105.2.2.length (p105.2.2.flatMap ePermit), .row 4 1 (.slice B132 p116.1.length d133) p116.1.length (p116.1.flatMap eB), .row 4 1 (.slice B134 p116.2.1.length d135) p116.2.1.length (p116.2.1.flatMap eB), .row 56 2 (.slice B136 p116.2.2.1.length d137) p116.2.2.1.length (p116.2.2.1.flatMap ePermit), .box g138 31 #[.slice B132 p116.1.length d133, .slice B134 p116.2.1.length d135, .slice B136 p116.2.2.1.length d137], .box g102 27 #[.int .i64 x3, .int .i64 x4, .int .i64 x5], .box g101 25 #[.slice A0 x0.length c0, .slice A1 x1.length c1, .slice A2 x2.length c2]]) (deps := (fun | 0 => [47] | 1 => [48] | 2 => [49] | 3 => [50] | 4 => [51] | _ => [])) (rd := (fun | 3 => [2] | _ => [])) (zr := (fun _ => []))
            (φ := fun i vs => match i, vs with | 0, [v47] => v47 = .agg #[.slice B140 p139.1.length d142, .slice B143 p139.2.1.length d145, .slice B146 p139.2.2.length d148] | 1, [v48] => v48 = .agg #[.slice A0 x0.length c0, .slice A1 x1.length c1, .slice A2 x2.length c2] | 2, [v49] => v49 = .agg #[.slice (slA (vtup v49 0)) p170.1.length (slC (vtup v49 0)), .slice (slA (vtup v49 1)) p170.2.1.length (slC (vtup v49 1)), .slice (slA (vtup v49 2)) p170.2.2.length (slC (vtup v49 2))] | 3, [v50] => v50 = .bool p180 | 4, [v51] => v51 = .bool (!p180) | _, _ => True)
            (C := fun i vs => match i, vs with | 2, [v49] => [.row 4 1 (.slice (slA (vtup v49 0)) p170.1.length (slC (vtup v49 0))) p170.1.length (p170.1.flatMap eB), .row 4 1 (.slice (slA (vtup v49 1)) p170.2.1.length (slC (vtup v49 1))) p170.2.1.length (p170.2.1.flatMap eB), .row 56 2 (.slice (slA (vtup v49 2)) p170.2.2.length (slC (vtup v49 2))) p170.2.2.length (p170.2.2.flatMap ePermit)] | _, _ => [])
            (κ := (fun _ => none)) (Z := (fun _ => [])) mixed hF (by kernel_rfl) S ?_ ?_
          · refine ⟨?_, ?_, ?_, ?_, ?_, trivial⟩
            · intro a u X hB hu hp hr hz hl S
              replace S : St w u ([] ++ X) := S
              exact .inl ⟨rfl, .agg #[.slice B140 p139.1.length d142, .slice B143 p139.2.1.length d145, .slice B146 p139.2.2.length d148], u, (run_loadN rfl ag31 (hF.evB hB rfl rfl) rfl ((gr_box S hl 4 rfl).cells 0 #[.slice B140 p139.1.length d142, .slice B143 p139.2.1.length d145, .slice B146 p139.2.2.length d148] rfl)), rfl, S⟩
            · intro a u X hB hu hp hr hz hl S
              replace S : St w u ([] ++ X) := S
              exact .inl ⟨rfl, .agg #[.slice A0 x0.length c0, .slice A1 x1.length c1, .slice A2 x2.length c2], u, (run_loadN rfl ag25 (hF.evB hB rfl rfl) rfl ((gr_box S hl 16 rfl).cells 0 #[.slice A0 x0.length c0, .slice A1 x1.length c1, .slice A2 x2.length c2] rfl)), rfl, S⟩
            · intro a u X hB hu hp hr hz hl S
              replace S : St w u ([] ++ X) := S
              have e48 : sl a 48 = .agg #[.slice A0 x0.length c0, .slice A1 x1.length c1, .slice A2 x2.length c2] := hp 1 rfl
              refine .inr (.inr (.inl ⟨rfl, _, _, (run_call (vs := [.agg #[.slice A0 x0.length c0, .slice A1 x1.length c1, .slice A2 x2.length c2]]) rfl rfl co7 ⟨(ev_sl e48), trivial⟩), ?_⟩))
              refine Calls.mono (c_laws_toWork (x0 := x0) (x1 := x1) (x2 := x2) ⟨(S.rc0 h0.rc), rfl⟩ ⟨(S.rc0 h1.rc), rfl⟩ ⟨(S.rc0 h2.rc), rfl⟩ h170) ?_
              rintro e w1 ⟨B171, n172, d173, B174, n175, d176, B177, n178, d179, rfl, rfl, rfl, rfl, T⟩
              exact ⟨_, rfl, rfl, S.call3 T⟩
            · intro a u X hB hu hp hr hz hl S
              replace S : St w u ([] ++ X) := S
              have e47 : sl a 47 = .agg #[.slice B140 p139.1.length d142, .slice B143 p139.2.1.length d145, .slice B146 p139.2.2.length d148] := hp 0 rfl
              have e49 : sl a 49 = .agg #[.slice (slA (vtup (sl a 49) 0)) p170.1.length (slC (vtup (sl a 49) 0)), .slice (slA (vtup (sl a 49) 1)) p170.2.1.length (slC (vtup (sl a 49) 1)), .slice (slA (vtup (sl a 49) 2)) p170.2.2.length (slC (vtup (sl a 49) 2))] := hp 2 rfl
              refine .inr (.inr (.inl ⟨rfl, _, _, (run_call (vs := [.agg #[.slice B140 p139.1.length d142, .slice B143 p139.2.1.length d145, .slice B146 p139.2.2.length d148], .agg #[.slice (slA (vtup (sl a 49) 0)) p170.1.length (slC (vtup (sl a 49) 0)), .slice (slA (vtup (sl a 49) 1)) p170.2.1.length (slC (vtup (sl a 49) 1)), .slice (slA (vtup (sl a 49) 2)) p170.2.2.length (slC (vtup (sl a 49) 2))]]) rfl rfl co10 ⟨(ev_sl e47), (ev_sl e49), trivial⟩), ?_⟩))
              refine Calls.mono (c_laws_eqWork (x0 := p139.1) (x1 := p139.2.1) (x2 := p139.2.2) (x3 := p170.1) (x4 := p170.2.1) (x5 := p170.2.2) ⟨(gr_rc S hl 5 rfl), rfl⟩ ⟨(gr_rc S hl 6 rfl), rfl⟩ ⟨(gr_rc S hl 7 rfl), rfl⟩ ⟨(own_rc (show World.ownsRow _ 0 _ _ _ _ _ from S.mem (List.mem_append_right _ (hr 2 (List.mem_of_getElem? (i := 0) rfl) _ (List.mem_of_getElem? (i := 0) rfl))))), rfl⟩ ⟨(own_rc (show World.ownsRow _ 0 _ _ _ _ _ from S.mem (List.mem_append_right _ (hr 2 (List.mem_of_getElem? (i := 0) rfl) _ (List.mem_of_getElem? (i := 1) rfl))))), rfl⟩ ⟨(own_rc (show World.ownsRow _ 0 _ _ _ _ _ from S.mem (List.mem_append_right _ (hr 2 (List.mem_of_getElem? (i := 0) rfl) _ (List.mem_of_getElem? (i := 2) rfl))))), rfl⟩ h180) ?_
              rintro e w1 ⟨rfl, T⟩
              exact ⟨_, rfl, rfl, S.call0 T⟩
            · intro a u X hB hu hp hr hz hl S
              replace S : St w u ([] ++ X) := S
              have e50 : sl a 50 = .bool p180 := hp 3 rfl
              exact .inl ⟨rfl, .bool (!p180), u, (run_not rfl (ev_sl e50)), rfl, S⟩
          · intro a u hB hp S
            obtain ⟨q0, q1, q2, q3, q4, _⟩ := hp
            have e47 : sl a 47 = .agg #[.slice B140 p139.1.length d142, .slice B143 p139.2.1.length d145, .slice B146 p139.2.2.length d148] := q0
            have e48 : sl a 48 = .agg #[.slice A0 x0.length c0, .slice A1 x1.length c1, .slice A2 x2.length c2] := q1
            have e49 : sl a 49 = .agg #[.slice (slA (vtup (sl a 49) 0)) p170.1.length (slC (vtup (sl a 49) 0)), .slice (slA (vtup (sl a 49) 1)) p170.2.1.length (slC (vtup (sl a 49) 1)), .slice (slA (vtup (sl a 49) 2)) p170.2.2.length (slC (vtup (sl a 49) 2))] := q2
            have e50 : sl a 50 = .bool p180 := q3
            have e51 : sl a 51 = .bool (!p180) := q4
            replace S : St w u [.row 4 1 (.slice (slA (vtup (sl a 49) 0)) p170.1.length (slC (vtup (sl a 49) 0))) p170.1.length (p170.1.flatMap eB), .row 4 1 (.slice (slA (vtup (sl a 49) 1)) p170.2.1.length (slC (vtup (sl a 49) 1))) p170.2.1.length (p170.2.1.flatMap eB), .row 56 2 (.slice (slA (vtup (sl a 49) 2)) p170.2.2.length (slC (vtup (sl a 49) 2))) p170.2.2.length (p170.2.2.flatMap ePermit), .row 4 1 (.slice B161 p151.1.length d162) p151.1.length (p151.1.flatMap eB), .row 4 1 (.slice B163 p151.2.1.length d164) p151.2.1.length (p151.2.1.flatMap eB), .row 56 2 (.slice B165 p151.2.2.1.length d166) p151.2.2.1.length (p151.2.2.1.flatMap ePermit), .box g167 31 #[.slice B161 p151.1.length d162, .slice B163 p151.2.1.length d164, .slice B165 p151.2.2.1.length d166], .box g149 31 #[.slice B140 p139.1.length d142, .slice B143 p139.2.1.length d145, .slice B146 p139.2.2.length d148], .row 4 1 (.slice B140 p139.1.length d142) p139.1.length (p139.1.flatMap eB), .row 4 1 (.slice B143 p139.2.1.length d145) p139.2.1.length (p139.2.1.flatMap eB), .row 56 2 (.slice B146 p139.2.2.length d148) p139.2.2.length (p139.2.2.flatMap ePermit), .row 4 1 (.slice B126 p105.1.length d127) p105.1.length (p105.1.flatMap eB), .row 4 1 (.slice B128 p105.2.1.length d129) p105.2.1.length (p105.2.1.flatMap eB), .row 56 2 (.slice B130 p105.2.2.length d131) p105.2.2.length (p105.2.2.flatMap ePermit), .row 4 1 (.slice B132 p116.1.length d133) p116.1.length (p116.1.flatMap eB), .row 4 1 (.slice B134 p116.2.1.length d135) p116.2.1.length (p116.2.1.flatMap eB), .row 56 2 (.slice B136 p116.2.2.1.length d137) p116.2.2.1.length (p116.2.2.1.flatMap ePermit), .box g138 31 #[.slice B132 p116.1.length d133, .slice B134 p116.2.1.length d135, .slice B136 p116.2.2.1.length d137], .box g102 27 #[.int .i64 x3, .int .i64 x4, .int .i64 x5], .box g101 25 #[.slice A0 x0.length c0, .slice A1 x1.length c1, .slice A2 x2.length c2]] := S
            clear q0 q1 q2 q3 q4
            generalize slA (vtup (sl a 49) 0) = B181 at *
            generalize slC (vtup (sl a 49) 0) = d182 at *
            generalize slA (vtup (sl a 49) 1) = B183 at *
            generalize slC (vtup (sl a 49) 1) = d184 at *
            generalize slA (vtup (sl a 49) 2) = B185 at *
            generalize slC (vtup (sl a 49) 2) = d186 at *
            have hF := hF.region hB [(47, .agg #[.slice B140 p139.1.length d142, .slice B143 p139.2.1.length d145, .slice B146 p139.2.2.length d148]), (48, .agg #[.slice A0 x0.length c0, .slice A1 x1.length c1, .slice A2 x2.length c2]), (49, .agg #[.slice B181 p170.1.length d182, .slice B183 p170.2.1.length d184, .slice B185 p170.2.2.length d186]), (50, .bool p180), (51, .bool (!p180))] (allSl_mem ⟨e47, e48, e49, e50, e51, trivial⟩) rfl
            clear hB e47 e48 e49 e50 e51
            cases hc187 : (p180)
            · replace hM := bif_f hc187 hM
              refine cond_t hF rfl (not_t hc187) ?_
              refine wp_seq ?_
              refine wp_region_lit ?_
              refine op_val (v := .bool false) rfl rfl hF rfl (run_assign rfl rfl) ?_; clear hF; intro a hF
              refine wpList_nil ?_
              refine wp_ret ?_
              repeat with_reducible (first | refine then_ret ?_ | refine in_ret ?_ | refine in_nrm ?_)
              refine ret1_gw (.inl rfl) hF rfl (res_tmp (hF.ev rfl)) ?_
              obtain rfl := Option.some.inj hM
              exact ⟨rfl, S.sel [] rfl rfl⟩
            · replace hM := bif_t hc187 hM
              refine cond_f hF rfl (not_f hc187) ?_
              refine wp_skip ?_
              refine wp_seq ?_
              refine wp_region_lit ?_
              refine op_val (v := .int .i64 1) rfl rfl hF rfl (run_assign rfl rfl) ?_; clear hF; intro a hF
              refine wpList_nil ?_
              refine wp_seq ?_
              refine wp_region_lit ?_
              refine op_val (v := .agg #[.slice B140 p139.1.length d142, .slice B143 p139.2.1.length d145, .slice B146 p139.2.2.length d148]) rfl rfl hF rfl (run_loadN rfl ag31 (hF.ev rfl) rfl ((S.free 7 rfl).cells 0 #[.slice B140 p139.1.length d142, .slice B143 p139.2.1.length d145, .slice B146 p139.2.2.length d148] rfl)) ?_; clear hF; intro a hF
              refine op_val (v := .int .i64 1) rfl rfl hF rfl (run_move rfl (hF.ev rfl)) ?_; clear hF; intro a hF
              obtain ⟨p188, h188, hM⟩ := bind_ex hM
              refine op_call rfl rfl hF rfl (run_call (vs := [.agg #[.slice B140 p139.1.length d142, .slice B143 p139.2.1.length d145, .slice B146 p139.2.2.length d148], .int .i64 1]) rfl rfl co11 ⟨(hF.ev rfl), (hF.ev rfl), trivial⟩) (c_laws_markWork (x0 := p139.1) (x1 := p139.2.1) (x2 := p139.2.2) (x3 := 1) rfl rfl rfl (show St w _ [.row 4 1 (.slice B140 p139.1.length d142) p139.1.length (p139.1.flatMap eB), .row 4 1 (.slice B143 p139.2.1.length d145) p139.2.1.length (p139.2.1.flatMap eB), .row 56 2 (.slice B146 p139.2.2.length d148) p139.2.2.length (p139.2.2.flatMap ePermit), .row 4 1 (.slice B181 p170.1.length d182) p170.1.length (p170.1.flatMap eB), .row 4 1 (.slice B183 p170.2.1.length d184) p170.2.1.length (p170.2.1.flatMap eB), .row 56 2 (.slice B185 p170.2.2.length d186) p170.2.2.length (p170.2.2.flatMap ePermit), .row 4 1 (.slice B161 p151.1.length d162) p151.1.length (p151.1.flatMap eB), .row 4 1 (.slice B163 p151.2.1.length d164) p151.2.1.length (p151.2.1.flatMap eB), .row 56 2 (.slice B165 p151.2.2.1.length d166) p151.2.2.1.length (p151.2.2.1.flatMap ePermit), .box g167 31 #[.slice B161 p151.1.length d162, .slice B163 p151.2.1.length d164, .slice B165 p151.2.2.1.length d166], .box g149 31 #[.slice B140 p139.1.length d142, .slice B143 p139.2.1.length d145, .slice B146 p139.2.2.length d148], .row 4 1 (.slice B126 p105.1.length d127) p105.1.length (p105.1.flatMap eB), .row 4 1 (.slice B128 p105.2.1.length d129) p105.2.1.length (p105.2.1.flatMap eB), .row 56 2 (.slice B130 p105.2.2.length d131) p105.2.2.length (p105.2.2.flatMap ePermit), .row 4 1 (.slice B132 p116.1.length d133) p116.1.length (p116.1.flatMap eB), .row 4 1 (.slice B134 p116.2.1.length d135) p116.2.1.length (p116.2.1.flatMap eB), .row 56 2 (.slice B136 p116.2.2.1.length d137) p116.2.2.1.length (p116.2.2.1.flatMap ePermit), .box g138 31 #[.slice B132 p116.1.length d133, .slice B134 p116.2.1.length d135, .slice B136 p116.2.2.1.length d137], .box g102 27 #[.int .i64 x3, .int .i64 x4, .int .i64 x5], .box g101 25 #[.slice A0 x0.length c0, .slice A1 x1.length c1, .slice A2 x2.length c2]] from S.sel [8, 9, 10, 0, 1, 2, 3, 4, 5, 6, 7, 11, 12, 13, 14, 15, 16, 17, 18, 19] rfl rfl) h188) ?_
              rintro e u ⟨rfl, hn189, hn190, hn191, T⟩
              refine ⟨_, rfl, ?_⟩
              clear hF; intro a hF
              clear S; have S := T; clear T
              refine op_val (v := .int .i64 p188.1) rfl rfl hF rfl (run_assign rfl (hF.ev rfl)) ?_; clear hF; intro a hF
              refine wpList_nil ?_
              refine wp_seq ?_
              refine wp_seq ?_
              refine wp_region_lit ?_
              refine op_val (v := .int .i64 p188.1) rfl rfl hF rfl (run_move rfl (hF.ev rfl)) ?_; clear hF; intro a hF
              refine op_val (v := .bool (ltB p188.1 0)) rfl rfl hF rfl (run_lss (hF.ev rfl) rfl rfl) ?_; clear hF; intro a hF
              refine op_val (v := .bool (ltB p188.1 0)) rfl rfl hF rfl (run_move rfl (hF.ev rfl)) ?_; clear hF; intro a hF
              refine op_gv (v := .agg #[.slice B161 p151.1.length d162, .slice B163 p151.2.1.length d164, .slice B165 p151.2.2.1.length d166]) rfl rfl hF rfl (yf (gw_yield hF rfl rfl rfl)) (fun hg => (run_loadN rfl ag31 (hF.ev rfl) rfl ((S.free 9 rfl).cells 0 #[.slice B161 p151.1.length d162, .slice B163 p151.2.1.length d164, .slice B165 p151.2.2.1.length d166] rfl))) ?_; clear hF; intro a hF
              refine op_gv (v := .agg #[.slice B132 p116.1.length d133, .slice B134 p116.2.1.length d135, .slice B136 p116.2.2.1.length d137]) rfl rfl hF rfl (yf (gw_yield hF rfl rfl rfl)) (fun hg => (run_loadN rfl ag31 (hF.ev rfl) rfl ((S.free 17 rfl).cells 0 #[.slice B132 p116.1.length d133, .slice B134 p116.2.1.length d135, .slice B136 p116.2.2.1.length d137] rfl))) ?_; clear hF; intro a hF
              obtain ⟨p192, h192, hM⟩ := bind_ex hM
              refine op_gcall (v := .bool p192) rfl rfl hF rfl S (yf (gw_yield hF rfl rfl rfl)) (fun hg => (run_call (vs := [.agg #[.slice B161 p151.1.length d162, .slice B163 p151.2.1.length d164, .slice B165 p151.2.2.1.length d166], .agg #[.slice B132 p116.1.length d133, .slice B134 p116.2.1.length d135, .slice B136 p116.2.2.1.length d137]]) rfl rfl co10 ⟨((hF.ev rfl).trans (gv_t hg)), ((hF.ev rfl).trans (gv_t hg)), trivial⟩)) (fun hg => c_laws_eqWork (x0 := p151.1) (x1 := p151.2.1) (x2 := p151.2.2.1) (x3 := p116.1) (x4 := p116.2.1) (x5 := p116.2.2.1) ⟨(S.rc 6 rfl), rfl⟩ ⟨(S.rc 7 rfl), rfl⟩ ⟨(S.rc 8 rfl), rfl⟩ ⟨(S.rc 14 rfl), rfl⟩ ⟨(S.rc 15 rfl), rfl⟩ ⟨(S.rc 16 rfl), rfl⟩ (gb_t h192 hg)) ?_; clear hF S; intro a u hF S
              refine op_gv (v := .bool (!p192)) rfl rfl hF rfl (yf (gw_yield hF rfl rfl rfl)) (fun hg => (run_not rfl ((hF.ev rfl).trans (gv_t hg)))) ?_; clear hF; intro a hF
              refine op_val (v := .bool ((ltB p188.1 0) || (!p192))) rfl rfl hF rfl (run_pick_or rfl (hF.ev rfl) rfl (fun hp => ((hF.ev rfl).trans (gv_t (not_t hp))))) ?_; clear hF; intro a hF
              refine op_val (v := .bool ((ltB p188.1 0) || (!p192))) rfl rfl hF rfl (run_move rfl (hF.ev rfl)) ?_; clear hF; intro a hF
              refine op_gv (v := .bool p151.2.2.2) rfl rfl hF rfl (yf (gw_yield hF rfl rfl rfl)) (fun hg => (run_move rfl (hF.ev rfl))) ?_; clear hF; intro a hF
              refine op_gv (v := .bool p116.2.2.2) rfl rfl hF rfl (yf (gw_yield hF rfl rfl rfl)) (fun hg => (run_move rfl (hF.ev rfl))) ?_; clear hF; intro a hF
              refine op_gv (v := .bool (p151.2.2.2 != p116.2.2.2)) rfl rfl hF rfl (yf (gw_yield hF rfl rfl rfl)) (fun hg => (run_neqB ((hF.ev rfl).trans (gv_t hg)) ((hF.ev rfl).trans (gv_t hg)) Try.underlying4 rfl)) ?_; clear hF; intro a hF
              refine op_val (v := .bool (((ltB p188.1 0) || (!p192)) || (p151.2.2.2 != p116.2.2.2))) rfl rfl hF rfl (run_pick_or rfl (hF.ev rfl) rfl (fun hp => ((hF.ev rfl).trans (gv_t (not_t hp))))) ?_; clear hF; intro a hF
              refine wpList_nil ?_
              cases hc193 : (((ltB p188.1 0) || (!p192)) || (p151.2.2.2 != p116.2.2.2))
              · replace hM := bif_f hc193 hM
                refine cond_f hF rfl hc193 ?_
                refine wp_skip ?_
                refine wp_seq ?_
                refine wp_region_lit ?_
                refine op_val (v := .int .i64 1) rfl rfl hF rfl (run_assign rfl rfl) ?_; clear hF; intro a hF
                refine wpList_nil ?_
                refine wp_seq ?_
                refine wp_region_lit ?_
                refine op_val (v := .agg #[.slice B161 p151.1.length d162, .slice B163 p151.2.1.length d164, .slice B165 p151.2.2.1.length d166]) rfl rfl hF rfl (run_loadN rfl ag31 (hF.ev rfl) rfl ((S.free 9 rfl).cells 0 #[.slice B161 p151.1.length d162, .slice B163 p151.2.1.length d164, .slice B165 p151.2.2.1.length d166] rfl)) ?_; clear hF; intro a hF
                refine op_val (v := .int .i64 1) rfl rfl hF rfl (run_move rfl (hF.ev rfl)) ?_; clear hF; intro a hF
                obtain ⟨p194, h194, hM⟩ := bind_ex hM
                refine op_call rfl rfl hF rfl (run_call (vs := [.agg #[.slice B161 p151.1.length d162, .slice B163 p151.2.1.length d164, .slice B165 p151.2.2.1.length d166], .int .i64 1]) rfl rfl co11 ⟨(hF.ev rfl), (hF.ev rfl), trivial⟩) (c_laws_markWork (x0 := p151.1) (x1 := p151.2.1) (x2 := p151.2.2.1) (x3 := 1) rfl rfl rfl (show St w _ [.row 4 1 (.slice B161 p151.1.length d162) p151.1.length (p151.1.flatMap eB), .row 4 1 (.slice B163 p151.2.1.length d164) p151.2.1.length (p151.2.1.flatMap eB), .row 56 2 (.slice B165 p151.2.2.1.length d166) p151.2.2.1.length (p151.2.2.1.flatMap ePermit), .row 4 1 (.slice B140 p139.1.length d142) p139.1.length (p188.2.1.flatMap eB), .row 4 1 (.slice B143 p139.2.1.length d145) p139.2.1.length (p188.2.2.1.flatMap eB), .row 56 2 (.slice B146 p139.2.2.length d148) p139.2.2.length (p188.2.2.2.flatMap ePermit), .row 4 1 (.slice B181 p170.1.length d182) p170.1.length (p170.1.flatMap eB), .row 4 1 (.slice B183 p170.2.1.length d184) p170.2.1.length (p170.2.1.flatMap eB), .row 56 2 (.slice B185 p170.2.2.length d186) p170.2.2.length (p170.2.2.flatMap ePermit), .box g167 31 #[.slice B161 p151.1.length d162, .slice B163 p151.2.1.length d164, .slice B165 p151.2.2.1.length d166], .box g149 31 #[.slice B140 p139.1.length d142, .slice B143 p139.2.1.length d145, .slice B146 p139.2.2.length d148], .row 4 1 (.slice B126 p105.1.length d127) p105.1.length (p105.1.flatMap eB), .row 4 1 (.slice B128 p105.2.1.length d129) p105.2.1.length (p105.2.1.flatMap eB), .row 56 2 (.slice B130 p105.2.2.length d131) p105.2.2.length (p105.2.2.flatMap ePermit), .row 4 1 (.slice B132 p116.1.length d133) p116.1.length (p116.1.flatMap eB), .row 4 1 (.slice B134 p116.2.1.length d135) p116.2.1.length (p116.2.1.flatMap eB), .row 56 2 (.slice B136 p116.2.2.1.length d137) p116.2.2.1.length (p116.2.2.1.flatMap ePermit), .box g138 31 #[.slice B132 p116.1.length d133, .slice B134 p116.2.1.length d135, .slice B136 p116.2.2.1.length d137], .box g102 27 #[.int .i64 x3, .int .i64 x4, .int .i64 x5], .box g101 25 #[.slice A0 x0.length c0, .slice A1 x1.length c1, .slice A2 x2.length c2]] from S.sel [6, 7, 8, 0, 1, 2, 3, 4, 5, 9, 10, 11, 12, 13, 14, 15, 16, 17, 18, 19] rfl rfl) h194) ?_
                rintro e u ⟨rfl, hn195, hn196, hn197, T⟩
                refine ⟨_, rfl, ?_⟩
                clear hF; intro a hF
                clear S; have S := T; clear T
                refine op_val (v := .int .i64 p194.1) rfl rfl hF rfl (run_assign rfl (hF.ev rfl)) ?_; clear hF; intro a hF
                refine wpList_nil ?_
                refine wp_seq ?_
                refine wp_region_lit ?_
                refine op_val (v := .int .i64 1) rfl rfl hF rfl (run_assign rfl rfl) ?_; clear hF; intro a hF
                refine wpList_nil ?_
                refine wp_seq ?_
                refine wp_region_lit ?_
                refine op_val (v := .agg #[.slice B161 p151.1.length d162, .slice B163 p151.2.1.length d164, .slice B165 p151.2.2.1.length d166]) rfl rfl hF rfl (run_loadN rfl ag31 (hF.ev rfl) rfl ((S.free 9 rfl).cells 0 #[.slice B161 p151.1.length d162, .slice B163 p151.2.1.length d164, .slice B165 p151.2.2.1.length d166] rfl)) ?_; clear hF; intro a hF
                refine op_val (v := .int .i64 1) rfl rfl hF rfl (run_move rfl (hF.ev rfl)) ?_; clear hF; intro a hF
                obtain ⟨p198, h198, hM⟩ := bind_ex hM
                refine op_call rfl rfl hF rfl (run_call (vs := [.agg #[.slice B161 p151.1.length d162, .slice B163 p151.2.1.length d164, .slice B165 p151.2.2.1.length d166], .int .i64 1]) rfl rfl co12 ⟨(hF.ev rfl), (hF.ev rfl), trivial⟩) (c_laws_heldWork (x0 := p194.2.1) (x1 := p194.2.2.1) (x2 := p194.2.2.2) (x3 := 1) ⟨(S.rc 0 rfl), hn195⟩ ⟨(S.rc 1 rfl), hn196⟩ ⟨(S.rc 2 rfl), hn197⟩ h198) ?_
                rintro e u ⟨rfl, T⟩
                refine ⟨_, rfl, ?_⟩
                clear hF; intro a hF
                replace S := S.call0 T; clear T
                refine op_val (v := .int .i64 p198) rfl rfl hF rfl (run_assign rfl (hF.ev rfl)) ?_; clear hF; intro a hF
                refine wpList_nil ?_
                refine wp_seq ?_
                refine wp_seq ?_
                refine wp_region_lit ?_
                refine op_val (v := .int .i64 p198) rfl rfl hF rfl (run_move rfl (hF.ev rfl)) ?_; clear hF; intro a hF
                refine op_val (v := .bool (ltB p198 0)) rfl rfl hF rfl (run_lss (hF.ev rfl) rfl rfl) ?_; clear hF; intro a hF
                refine wpList_nil ?_
                cases hc199 : (ltB p198 0)
                · replace hM := bif_f hc199 hM
                  refine cond_f hF rfl hc199 ?_
                  refine wp_skip ?_
                  refine wp_seq ?_
                  refine wp_seq ?_
                  refine wp_region_lit ?_
                  refine op_val (v := .int .i64 p198) rfl rfl hF rfl (run_move rfl (hF.ev rfl)) ?_; clear hF; intro a hF
                  refine op_val (v := .int .i64 p194.1) rfl rfl hF rfl (run_move rfl (hF.ev rfl)) ?_; clear hF; intro a hF
                  refine op_val (v := .bool (p198 != p194.1)) rfl rfl hF rfl (run_neq (hF.ev rfl) (hF.ev rfl) rfl) ?_; clear hF; intro a hF
                  refine wpList_nil ?_
                  cases hc200 : (p198 != p194.1)
                  · replace hM := bif_f hc200 hM
                    refine cond_f hF rfl hc200 ?_
                    refine wp_skip ?_
                    refine wp_seq ?_
                    obtain ⟨p201, h201, hM⟩ := bind_ex hM
                    obtain ⟨p211, h211, hM⟩ := bind_ex hM
                    obtain ⟨p212, h212, hM⟩ := bind_ex hM
                    refine region_gw (D := [80, 81, 82, 83, 84, 79, 85, 86, 14, 15]) (Lr := [.row 4 1 (.slice B161 p151.1.length d162) p151.1.length (p194.2.1.flatMap eB), .row 4 1 (.slice B163 p151.2.1.length d164) p151.2.1.length (p194.2.2.1.flatMap eB), .row 56 2 (.slice B165 p151.2.2.1.length d166) p151.2.2.1.length (p194.2.2.2.flatMap ePermit), .row 4 1 (.slice B140 p139.1.length d142) p139.1.length (p188.2.1.flatMap eB), .row 4 1 (.slice B143 p139.2.1.length d145) p139.2.1.length (p188.2.2.1.flatMap eB), .row 56 2 (.slice B146 p139.2.2.length d148) p139.2.2.length (p188.2.2.2.flatMap ePermit), .row 4 1 (.slice B181 p170.1.length d182) p170.1.length (p170.1.flatMap eB), .row 4 1 (.slice B183 p170.2.1.length d184) p170.2.1.length (p170.2.1.flatMap eB), .row 56 2 (.slice B185 p170.2.2.length d186) p170.2.2.length (p170.2.2.flatMap ePermit), .box g167 31 #[.slice B161 p151.1.length d162, .slice B163 p151.2.1.length d164, .slice B165 p151.2.2.1.length d166], .box g149 31 #[.slice B140 p139.1.length d142, .slice B143 p139.2.1.length d145, .slice B146 p139.2.2.length d148], .row 4 1 (.slice B126 p105.1.length d127) p105.1.length (p105.1.flatMap eB), .row 4 1 (.slice B128 p105.2.1.length d129) p105.2.1.length (p105.2.1.flatMap eB), .row 56 2 (.slice B130 p105.2.2.length d131) p105.2.2.length (p105.2.2.flatMap ePermit), .row 4 1 (.slice B132 p116.1.length d133) p116.1.length (p116.1.flatMap eB), .row 4 1 (.slice B134 p116.2.1.length d135) p116.2.1.length (p116.2.1.flatMap eB), .row 56 2 (.slice B136 p116.2.2.1.length d137) p116.2.2.1.length (p116.2.2.1.flatMap ePermit), .box g138 31 #[.slice B132 p116.1.length d133, .slice B134 p116.2.1.length d135, .slice B136 p116.2.2.1.length d137], .box g102 27 #[.int .i64 x3, .int .i64 x4, .int .i64 x5], .box g101 25 #[.slice A0 x0.length c0, .slice A1 x1.length c1, .slice A2 x2.length c2]]) (deps := (fun | 0 => [80] | 1 => [81] | 2 => [82] | 3 => [83] | 4 => [84] | 5 => [79, 84] | 6 => [85, 84] | 7 => [86] | 8 => [14] | 9 => [14, 84] | 10 => [15] | _ => [])) (rd := (fun | 4 => [1] | _ => [])) (zr := (fun _ => []))
                      (φ := fun i vs => match i, vs with | 0, [v80] => v80 = .agg #[.slice A0 x0.length c0, .slice A1 x1.length c1, .slice A2 x2.length c2] | 1, [v81] => v81 = .agg #[.slice (slA (vtup v81 0)) p201.1.length (slC (vtup v81 0)), .slice (slA (vtup v81 1)) p201.2.1.length (slC (vtup v81 1)), .slice (slA (vtup v81 2)) p201.2.2.length (slC (vtup v81 2))] | 2, [v82] => v82 = .agg #[.int .i64 x3, .int .i64 x4, .int .i64 x5] | 3, [v83] => v83 = .agg #[.int .i64 p211.1, .int .i64 p211.2.1, .int .i64 p211.2.2] | 4, [v84] => v84 = .tuple #[.agg #[.slice (slA (vtup (vtup v84 0) 0)) p212.1.length (slC (vtup (vtup v84 0) 0)), .slice (slA (vtup (vtup v84 0) 1)) p212.2.1.length (slC (vtup (vtup v84 0) 1)), .slice (slA (vtup (vtup v84 0) 2)) p212.2.2.1.length (slC (vtup (vtup v84 0) 2))], .bool p212.2.2.2] | 5, [v79, v84] => v79 = .tuple #[.agg #[.slice (slA (vtup (vtup v84 0) 0)) p212.1.length (slC (vtup (vtup v84 0) 0)), .slice (slA (vtup (vtup v84 0) 1)) p212.2.1.length (slC (vtup (vtup v84 0) 1)), .slice (slA (vtup (vtup v84 0) 2)) p212.2.2.1.length (slC (vtup (vtup v84 0) 2))], .bool p212.2.2.2] | 6, [v85, v84] => v85 = .agg #[.slice (slA (vtup (vtup v84 0) 0)) p212.1.length (slC (vtup (vtup v84 0) 0)), .slice (slA (vtup (vtup v84 0) 1)) p212.2.1.length (slC (vtup (vtup v84 0) 1)), .slice (slA (vtup (vtup v84 0) 2)) p212.2.2.1.length (slC (vtup (vtup v84 0) 2))] | 7, [v86] => v86 = .bool p212.2.2.2 | 8, [v14] => v14 = .pointer (some ⟨ptB v14, 0, none⟩) | 10, [v15] => v15 = .bool p212.2.2.2 | _, _ => True)
                      (C := fun i vs => match i, vs with | 1, [v81] => [.row 4 1 (.slice (slA (vtup v81 0)) p201.1.length (slC (vtup v81 0))) p201.1.length (p201.1.flatMap eB), .row 4 1 (.slice (slA (vtup v81 1)) p201.2.1.length (slC (vtup v81 1))) p201.2.1.length (p201.2.1.flatMap eB), .row 56 2 (.slice (slA (vtup v81 2)) p201.2.2.length (slC (vtup v81 2))) p201.2.2.length (p201.2.2.flatMap ePermit)] | 4, [v84] => [.row 4 1 (.slice (slA (vtup (vtup v84 0) 0)) p212.1.length (slC (vtup (vtup v84 0) 0))) p212.1.length (p212.1.flatMap eB), .row 4 1 (.slice (slA (vtup (vtup v84 0) 1)) p212.2.1.length (slC (vtup (vtup v84 0) 1))) p212.2.1.length (p212.2.1.flatMap eB), .row 56 2 (.slice (slA (vtup (vtup v84 0) 2)) p212.2.2.1.length (slC (vtup (vtup v84 0) 2))) p212.2.2.1.length (p212.2.2.1.flatMap ePermit)] | 8, [v14] => [.box (ptB v14) 31 #[.slice none 0 0, .slice none 0 0, .slice none 0 0]] | 9, [v14, v84] => [.box (ptB v14) 31 #[.slice (slA (vtup (vtup v84 0) 0)) p212.1.length (slC (vtup (vtup v84 0) 0)), .slice (slA (vtup (vtup v84 0) 1)) p212.2.1.length (slC (vtup (vtup v84 0) 1)), .slice (slA (vtup (vtup v84 0) 2)) p212.2.2.1.length (slC (vtup (vtup v84 0) 2))]] | _, _ => [])
                      (κ := (fun | 8 => some 9 | _ => none)) (Z := (fun _ => [])) mixed hF (by kernel_rfl) S ?_ ?_
                    · refine ⟨?_, ?_, ?_, ?_, ?_, ?_, ?_, ?_, ?_, ?_, ?_, trivial⟩
                      · intro a u X hB hu hp hr hz hl S
                        replace S : St w u ([] ++ X) := S
                        exact .inl ⟨rfl, .agg #[.slice A0 x0.length c0, .slice A1 x1.length c1, .slice A2 x2.length c2], u, (run_loadN rfl ag25 (hF.evB hB rfl rfl) rfl ((gr_box S hl 19 rfl).cells 0 #[.slice A0 x0.length c0, .slice A1 x1.length c1, .slice A2 x2.length c2] rfl)), rfl, S⟩
                      · intro a u X hB hu hp hr hz hl S
                        replace S : St w u ([] ++ X) := S
                        have e80 : sl a 80 = .agg #[.slice A0 x0.length c0, .slice A1 x1.length c1, .slice A2 x2.length c2] := hp 0 rfl
                        refine .inr (.inr (.inl ⟨rfl, _, _, (run_call (vs := [.agg #[.slice A0 x0.length c0, .slice A1 x1.length c1, .slice A2 x2.length c2]]) rfl rfl co7 ⟨(ev_sl e80), trivial⟩), ?_⟩))
                        refine Calls.mono (c_laws_toWork (x0 := x0) (x1 := x1) (x2 := x2) ⟨(S.rc0 h0.rc), rfl⟩ ⟨(S.rc0 h1.rc), rfl⟩ ⟨(S.rc0 h2.rc), rfl⟩ h201) ?_
                        rintro e w1 ⟨B202, n203, d204, B205, n206, d207, B208, n209, d210, rfl, rfl, rfl, rfl, T⟩
                        exact ⟨_, rfl, rfl, S.call3 T⟩
                      · intro a u X hB hu hp hr hz hl S
                        replace S : St w u ([] ++ X) := S
                        exact .inl ⟨rfl, .agg #[.int .i64 x3, .int .i64 x4, .int .i64 x5], u, (run_loadN rfl ag27 (hF.evB hB rfl rfl) rfl ((gr_box S hl 18 rfl).cells 0 #[.int .i64 x3, .int .i64 x4, .int .i64 x5] rfl)), rfl, S⟩
                      · intro a u X hB hu hp hr hz hl S
                        replace S : St w u ([] ++ X) := S
                        have e82 : sl a 82 = .agg #[.int .i64 x3, .int .i64 x4, .int .i64 x5] := hp 2 rfl
                        refine .inr (.inr (.inl ⟨rfl, _, _, (run_call (vs := [.agg #[.int .i64 x3, .int .i64 x4, .int .i64 x5]]) rfl rfl co8 ⟨(ev_sl e82), trivial⟩), ?_⟩))
                        refine Calls.mono (c_laws_toWorkDeed (x0 := x3) (x1 := x4) (x2 := x5)  h211) ?_
                        rintro e w1 ⟨rfl, T⟩
                        exact ⟨_, rfl, rfl, S.call0 T⟩
                      · intro a u X hB hu hp hr hz hl S
                        replace S : St w u ([] ++ X) := S
                        have e81 : sl a 81 = .agg #[.slice (slA (vtup (sl a 81) 0)) p201.1.length (slC (vtup (sl a 81) 0)), .slice (slA (vtup (sl a 81) 1)) p201.2.1.length (slC (vtup (sl a 81) 1)), .slice (slA (vtup (sl a 81) 2)) p201.2.2.length (slC (vtup (sl a 81) 2))] := hp 1 rfl
                        have e83 : sl a 83 = .agg #[.int .i64 p211.1, .int .i64 p211.2.1, .int .i64 p211.2.2] := hp 3 rfl
                        refine .inr (.inr (.inl ⟨rfl, _, _, (run_call (vs := [.agg #[.slice (slA (vtup (sl a 81) 0)) p201.1.length (slC (vtup (sl a 81) 0)), .slice (slA (vtup (sl a 81) 1)) p201.2.1.length (slC (vtup (sl a 81) 1)), .slice (slA (vtup (sl a 81) 2)) p201.2.2.length (slC (vtup (sl a 81) 2))], .agg #[.int .i64 p211.1, .int .i64 p211.2.1, .int .i64 p211.2.2]]) rfl rfl co9 ⟨(ev_sl e81), (ev_sl e83), trivial⟩), ?_⟩))
                        refine Calls.mono (c_impl_WorkDo (x0 := p201.1) (x1 := p201.2.1) (x2 := p201.2.2) (x3 := p211.1) (x4 := p211.2.1) (x5 := p211.2.2) ⟨(own_rc (show World.ownsRow _ 0 _ _ _ _ _ from S.mem (List.mem_append_right _ (hr 1 (List.mem_of_getElem? (i := 0) rfl) _ (List.mem_of_getElem? (i := 0) rfl))))), rfl⟩ ⟨(own_rc (show World.ownsRow _ 0 _ _ _ _ _ from S.mem (List.mem_append_right _ (hr 1 (List.mem_of_getElem? (i := 0) rfl) _ (List.mem_of_getElem? (i := 1) rfl))))), rfl⟩ ⟨(own_rc (show World.ownsRow _ 0 _ _ _ _ _ from S.mem (List.mem_append_right _ (hr 1 (List.mem_of_getElem? (i := 0) rfl) _ (List.mem_of_getElem? (i := 2) rfl))))), rfl⟩ h212) ?_
                        rintro e w1 ⟨B213, n214, d215, B216, n217, d218, B219, n220, d221, rfl, rfl, rfl, rfl, T⟩
                        exact ⟨_, rfl, rfl, S.call3 T⟩
                      · intro a u X hB hu hp hr hz hl S
                        replace S : St w u ([] ++ X) := S
                        have e84 : sl a 84 = .tuple #[.agg #[.slice (slA (vtup (vtup (sl a 84) 0) 0)) p212.1.length (slC (vtup (vtup (sl a 84) 0) 0)), .slice (slA (vtup (vtup (sl a 84) 0) 1)) p212.2.1.length (slC (vtup (vtup (sl a 84) 0) 1)), .slice (slA (vtup (vtup (sl a 84) 0) 2)) p212.2.2.1.length (slC (vtup (vtup (sl a 84) 0) 2))], .bool p212.2.2.2] := hp 4 rfl
                        exact .inl ⟨rfl, .tuple #[.agg #[.slice (slA (vtup (vtup (sl a 84) 0) 0)) p212.1.length (slC (vtup (vtup (sl a 84) 0) 0)), .slice (slA (vtup (vtup (sl a 84) 0) 1)) p212.2.1.length (slC (vtup (vtup (sl a 84) 0) 1)), .slice (slA (vtup (vtup (sl a 84) 0) 2)) p212.2.2.1.length (slC (vtup (vtup (sl a 84) 0) 2))], .bool p212.2.2.2], u, (run_move rfl (ev_sl e84)), rfl, S⟩
                      · intro a u X hB hu hp hr hz hl S
                        replace S : St w u ([] ++ X) := S
                        have e79 : sl a 79 = .tuple #[.agg #[.slice (slA (vtup (vtup (sl a 84) 0) 0)) p212.1.length (slC (vtup (vtup (sl a 84) 0) 0)), .slice (slA (vtup (vtup (sl a 84) 0) 1)) p212.2.1.length (slC (vtup (vtup (sl a 84) 0) 1)), .slice (slA (vtup (vtup (sl a 84) 0) 2)) p212.2.2.1.length (slC (vtup (vtup (sl a 84) 0) 2))], .bool p212.2.2.2] := hp 5 rfl
                        exact .inl ⟨rfl, .agg #[.slice (slA (vtup (vtup (sl a 84) 0) 0)) p212.1.length (slC (vtup (vtup (sl a 84) 0) 0)), .slice (slA (vtup (vtup (sl a 84) 0) 1)) p212.2.1.length (slC (vtup (vtup (sl a 84) 0) 1)), .slice (slA (vtup (vtup (sl a 84) 0) 2)) p212.2.2.1.length (slC (vtup (vtup (sl a 84) 0) 2))], u, (run_extract rfl (ev_sl e79) rfl), rfl, S⟩
                      · intro a u X hB hu hp hr hz hl S
                        replace S : St w u ([] ++ X) := S
                        have e79 : sl a 79 = .tuple #[.agg #[.slice (slA (vtup (vtup (sl a 84) 0) 0)) p212.1.length (slC (vtup (vtup (sl a 84) 0) 0)), .slice (slA (vtup (vtup (sl a 84) 0) 1)) p212.2.1.length (slC (vtup (vtup (sl a 84) 0) 1)), .slice (slA (vtup (vtup (sl a 84) 0) 2)) p212.2.2.1.length (slC (vtup (vtup (sl a 84) 0) 2))], .bool p212.2.2.2] := hp 5 rfl
                        exact .inl ⟨rfl, .bool p212.2.2.2, u, (run_extract rfl (ev_sl e79) rfl), rfl, S⟩
                      · intro a u X hB hu hp hr hz hl S
                        replace S : St w u ([] ++ X) := S
                        exact .inl ⟨rfl, _, _, (run_allocZ rfl zr31), rfl, S.alloc _ _⟩
                      · intro a u X hB hu hp hr hz hl S
                        replace S : St w u ([.box (ptB (sl a 14)) 31 #[.slice none 0 0, .slice none 0 0, .slice none 0 0]] ++ X) := S
                        have e14 : sl a 14 = .pointer (some ⟨ptB (sl a 14), 0, none⟩) := hp 8 rfl
                        have e85 : sl a 85 = .agg #[.slice (slA (vtup (vtup (sl a 84) 0) 0)) p212.1.length (slC (vtup (vtup (sl a 84) 0) 0)), .slice (slA (vtup (vtup (sl a 84) 0) 1)) p212.2.1.length (slC (vtup (vtup (sl a 84) 0) 1)), .slice (slA (vtup (vtup (sl a 84) 0) 2)) p212.2.2.1.length (slC (vtup (vtup (sl a 84) 0) 2))] := hp 6 rfl
                        exact .inr (.inl ⟨rfl, _, run_store (cs' := #[.slice (slA (vtup (vtup (sl a 84) 0) 0)) p212.1.length (slC (vtup (vtup (sl a 84) 0) 0)), .slice (slA (vtup (vtup (sl a 84) 0) 1)) p212.2.1.length (slC (vtup (vtup (sl a 84) 0) 1)), .slice (slA (vtup (vtup (sl a 84) 0) 2)) p212.2.2.1.length (slC (vtup (vtup (sl a 84) 0) 2))]) rfl sz31 (ev_sl e14) (ev_sl e85) rfl rfl rfl (S.free 0 rfl) rfl rfl, trivial, S.put 0 rfl (#[.slice (slA (vtup (vtup (sl a 84) 0) 0)) p212.1.length (slC (vtup (vtup (sl a 84) 0) 0)), .slice (slA (vtup (vtup (sl a 84) 0) 1)) p212.2.1.length (slC (vtup (vtup (sl a 84) 0) 1)), .slice (slA (vtup (vtup (sl a 84) 0) 2)) p212.2.2.1.length (slC (vtup (vtup (sl a 84) 0) 2))])⟩)
                      · intro a u X hB hu hp hr hz hl S
                        replace S : St w u ([] ++ X) := S
                        have e86 : sl a 86 = .bool p212.2.2.2 := hp 7 rfl
                        exact .inl ⟨rfl, .bool p212.2.2.2, u, (run_assign rfl (ev_sl e86)), rfl, S⟩
                    · intro a u hB hp S
                      obtain ⟨q0, q1, q2, q3, q4, q5, q6, q7, q8, q9, q10, _⟩ := hp
                      have e80 : sl a 80 = .agg #[.slice A0 x0.length c0, .slice A1 x1.length c1, .slice A2 x2.length c2] := q0
                      have e81 : sl a 81 = .agg #[.slice (slA (vtup (sl a 81) 0)) p201.1.length (slC (vtup (sl a 81) 0)), .slice (slA (vtup (sl a 81) 1)) p201.2.1.length (slC (vtup (sl a 81) 1)), .slice (slA (vtup (sl a 81) 2)) p201.2.2.length (slC (vtup (sl a 81) 2))] := q1
                      have e82 : sl a 82 = .agg #[.int .i64 x3, .int .i64 x4, .int .i64 x5] := q2
                      have e83 : sl a 83 = .agg #[.int .i64 p211.1, .int .i64 p211.2.1, .int .i64 p211.2.2] := q3
                      have e84 : sl a 84 = .tuple #[.agg #[.slice (slA (vtup (vtup (sl a 84) 0) 0)) p212.1.length (slC (vtup (vtup (sl a 84) 0) 0)), .slice (slA (vtup (vtup (sl a 84) 0) 1)) p212.2.1.length (slC (vtup (vtup (sl a 84) 0) 1)), .slice (slA (vtup (vtup (sl a 84) 0) 2)) p212.2.2.1.length (slC (vtup (vtup (sl a 84) 0) 2))], .bool p212.2.2.2] := q4
                      have e79 : sl a 79 = .tuple #[.agg #[.slice (slA (vtup (vtup (sl a 84) 0) 0)) p212.1.length (slC (vtup (vtup (sl a 84) 0) 0)), .slice (slA (vtup (vtup (sl a 84) 0) 1)) p212.2.1.length (slC (vtup (vtup (sl a 84) 0) 1)), .slice (slA (vtup (vtup (sl a 84) 0) 2)) p212.2.2.1.length (slC (vtup (vtup (sl a 84) 0) 2))], .bool p212.2.2.2] := q5
                      have e85 : sl a 85 = .agg #[.slice (slA (vtup (vtup (sl a 84) 0) 0)) p212.1.length (slC (vtup (vtup (sl a 84) 0) 0)), .slice (slA (vtup (vtup (sl a 84) 0) 1)) p212.2.1.length (slC (vtup (vtup (sl a 84) 0) 1)), .slice (slA (vtup (vtup (sl a 84) 0) 2)) p212.2.2.1.length (slC (vtup (vtup (sl a 84) 0) 2))] := q6
                      have e86 : sl a 86 = .bool p212.2.2.2 := q7
                      have e14 : sl a 14 = .pointer (some ⟨ptB (sl a 14), 0, none⟩) := q8
                      have e15 : sl a 15 = .bool p212.2.2.2 := q10
                      replace S : St w u [.row 4 1 (.slice (slA (vtup (sl a 81) 0)) p201.1.length (slC (vtup (sl a 81) 0))) p201.1.length (p201.1.flatMap eB), .row 4 1 (.slice (slA (vtup (sl a 81) 1)) p201.2.1.length (slC (vtup (sl a 81) 1))) p201.2.1.length (p201.2.1.flatMap eB), .row 56 2 (.slice (slA (vtup (sl a 81) 2)) p201.2.2.length (slC (vtup (sl a 81) 2))) p201.2.2.length (p201.2.2.flatMap ePermit), .row 4 1 (.slice (slA (vtup (vtup (sl a 84) 0) 0)) p212.1.length (slC (vtup (vtup (sl a 84) 0) 0))) p212.1.length (p212.1.flatMap eB), .row 4 1 (.slice (slA (vtup (vtup (sl a 84) 0) 1)) p212.2.1.length (slC (vtup (vtup (sl a 84) 0) 1))) p212.2.1.length (p212.2.1.flatMap eB), .row 56 2 (.slice (slA (vtup (vtup (sl a 84) 0) 2)) p212.2.2.1.length (slC (vtup (vtup (sl a 84) 0) 2))) p212.2.2.1.length (p212.2.2.1.flatMap ePermit), .box (ptB (sl a 14)) 31 #[.slice (slA (vtup (vtup (sl a 84) 0) 0)) p212.1.length (slC (vtup (vtup (sl a 84) 0) 0)), .slice (slA (vtup (vtup (sl a 84) 0) 1)) p212.2.1.length (slC (vtup (vtup (sl a 84) 0) 1)), .slice (slA (vtup (vtup (sl a 84) 0) 2)) p212.2.2.1.length (slC (vtup (vtup (sl a 84) 0) 2))], .row 4 1 (.slice B161 p151.1.length d162) p151.1.length (p194.2.1.flatMap eB), .row 4 1 (.slice B163 p151.2.1.length d164) p151.2.1.length (p194.2.2.1.flatMap eB), .row 56 2 (.slice B165 p151.2.2.1.length d166) p151.2.2.1.length (p194.2.2.2.flatMap ePermit), .row 4 1 (.slice B140 p139.1.length d142) p139.1.length (p188.2.1.flatMap eB), .row 4 1 (.slice B143 p139.2.1.length d145) p139.2.1.length (p188.2.2.1.flatMap eB), .row 56 2 (.slice B146 p139.2.2.length d148) p139.2.2.length (p188.2.2.2.flatMap ePermit), .row 4 1 (.slice B181 p170.1.length d182) p170.1.length (p170.1.flatMap eB), .row 4 1 (.slice B183 p170.2.1.length d184) p170.2.1.length (p170.2.1.flatMap eB), .row 56 2 (.slice B185 p170.2.2.length d186) p170.2.2.length (p170.2.2.flatMap ePermit), .box g167 31 #[.slice B161 p151.1.length d162, .slice B163 p151.2.1.length d164, .slice B165 p151.2.2.1.length d166], .box g149 31 #[.slice B140 p139.1.length d142, .slice B143 p139.2.1.length d145, .slice B146 p139.2.2.length d148], .row 4 1 (.slice B126 p105.1.length d127) p105.1.length (p105.1.flatMap eB), .row 4 1 (.slice B128 p105.2.1.length d129) p105.2.1.length (p105.2.1.flatMap eB), .row 56 2 (.slice B130 p105.2.2.length d131) p105.2.2.length (p105.2.2.flatMap ePermit), .row 4 1 (.slice B132 p116.1.length d133) p116.1.length (p116.1.flatMap eB), .row 4 1 (.slice B134 p116.2.1.length d135) p116.2.1.length (p116.2.1.flatMap eB), .row 56 2 (.slice B136 p116.2.2.1.length d137) p116.2.2.1.length (p116.2.2.1.flatMap ePermit), .box g138 31 #[.slice B132 p116.1.length d133, .slice B134 p116.2.1.length d135, .slice B136 p116.2.2.1.length d137], .box g102 27 #[.int .i64 x3, .int .i64 x4, .int .i64 x5], .box g101 25 #[.slice A0 x0.length c0, .slice A1 x1.length c1, .slice A2 x2.length c2]] := S
                      clear q0 q1 q2 q3 q4 q5 q6 q7 q8 q9 q10
                      generalize slA (vtup (sl a 81) 0) = B222 at *
                      generalize slC (vtup (sl a 81) 0) = d223 at *
                      generalize slA (vtup (sl a 81) 1) = B224 at *
                      generalize slC (vtup (sl a 81) 1) = d225 at *
                      generalize slA (vtup (sl a 81) 2) = B226 at *
                      generalize slC (vtup (sl a 81) 2) = d227 at *
                      generalize slA (vtup (vtup (sl a 84) 0) 0) = B228 at *
                      generalize slC (vtup (vtup (sl a 84) 0) 0) = d229 at *
                      generalize slA (vtup (vtup (sl a 84) 0) 1) = B230 at *
                      generalize slC (vtup (vtup (sl a 84) 0) 1) = d231 at *
                      generalize slA (vtup (vtup (sl a 84) 0) 2) = B232 at *
                      generalize slC (vtup (vtup (sl a 84) 0) 2) = d233 at *
                      generalize ptB (sl a 14) = g234 at *
                      have hF := hF.region hB [(80, .agg #[.slice A0 x0.length c0, .slice A1 x1.length c1, .slice A2 x2.length c2]), (81, .agg #[.slice B222 p201.1.length d223, .slice B224 p201.2.1.length d225, .slice B226 p201.2.2.length d227]), (82, .agg #[.int .i64 x3, .int .i64 x4, .int .i64 x5]), (83, .agg #[.int .i64 p211.1, .int .i64 p211.2.1, .int .i64 p211.2.2]), (84, .tuple #[.agg #[.slice B228 p212.1.length d229, .slice B230 p212.2.1.length d231, .slice B232 p212.2.2.1.length d233], .bool p212.2.2.2]), (79, .tuple #[.agg #[.slice B228 p212.1.length d229, .slice B230 p212.2.1.length d231, .slice B232 p212.2.2.1.length d233], .bool p212.2.2.2]), (85, .agg #[.slice B228 p212.1.length d229, .slice B230 p212.2.1.length d231, .slice B232 p212.2.2.1.length d233]), (86, .bool p212.2.2.2), (14, .pointer (some ⟨g234, 0, none⟩)), (15, .bool p212.2.2.2)] (allSl_mem ⟨e80, e81, e82, e83, e84, e79, e85, e86, e14, e15, trivial⟩) rfl
                      clear hB e80 e81 e82 e83 e84 e79 e85 e86 e14 e15
                      refine wp_seq ?_
                      refine wp_seq ?_
                      refine wp_region_lit ?_
                      refine op_val (v := .agg #[.slice B228 p212.1.length d229, .slice B230 p212.2.1.length d231, .slice B232 p212.2.2.1.length d233]) rfl rfl hF rfl (run_loadN rfl ag31 (hF.ev rfl) rfl ((S.free 6 rfl).cells 0 #[.slice B228 p212.1.length d229, .slice B230 p212.2.1.length d231, .slice B232 p212.2.2.1.length d233] rfl)) ?_; clear hF; intro a hF
                      refine op_val (v := .agg #[.slice B132 p116.1.length d133, .slice B134 p116.2.1.length d135, .slice B136 p116.2.2.1.length d137]) rfl rfl hF rfl (run_loadN rfl ag31 (hF.ev rfl) rfl ((S.free 24 rfl).cells 0 #[.slice B132 p116.1.length d133, .slice B134 p116.2.1.length d135, .slice B136 p116.2.2.1.length d137] rfl)) ?_; clear hF; intro a hF
                      obtain ⟨p235, h235, hM⟩ := bind_ex hM
                      refine op_call rfl rfl hF rfl (run_call (vs := [.agg #[.slice B228 p212.1.length d229, .slice B230 p212.2.1.length d231, .slice B232 p212.2.2.1.length d233], .agg #[.slice B132 p116.1.length d133, .slice B134 p116.2.1.length d135, .slice B136 p116.2.2.1.length d137]]) rfl rfl co10 ⟨(hF.ev rfl), (hF.ev rfl), trivial⟩) (c_laws_eqWork (x0 := p212.1) (x1 := p212.2.1) (x2 := p212.2.2.1) (x3 := p116.1) (x4 := p116.2.1) (x5 := p116.2.2.1) ⟨(S.rc 3 rfl), rfl⟩ ⟨(S.rc 4 rfl), rfl⟩ ⟨(S.rc 5 rfl), rfl⟩ ⟨(S.rc 21 rfl), rfl⟩ ⟨(S.rc 22 rfl), rfl⟩ ⟨(S.rc 23 rfl), rfl⟩ h235) ?_
                      rintro e u ⟨rfl, T⟩
                      refine ⟨_, rfl, ?_⟩
                      clear hF; intro a hF
                      replace S := S.call0 T; clear T
                      refine op_val (v := .bool (!p235)) rfl rfl hF rfl (run_not rfl (hF.ev rfl)) ?_; clear hF; intro a hF
                      refine op_val (v := .bool (!p235)) rfl rfl hF rfl (run_move rfl (hF.ev rfl)) ?_; clear hF; intro a hF
                      refine op_gv (v := .bool p212.2.2.2) rfl rfl hF rfl (yf (gw_yield hF rfl rfl rfl)) (fun hg => (run_move rfl (hF.ev rfl))) ?_; clear hF; intro a hF
                      refine op_gv (v := .bool p116.2.2.2) rfl rfl hF rfl (yf (gw_yield hF rfl rfl rfl)) (fun hg => (run_move rfl (hF.ev rfl))) ?_; clear hF; intro a hF
                      refine op_gv (v := .bool (p212.2.2.2 != p116.2.2.2)) rfl rfl hF rfl (yf (gw_yield hF rfl rfl rfl)) (fun hg => (run_neqB ((hF.ev rfl).trans (gv_t hg)) ((hF.ev rfl).trans (gv_t hg)) Try.underlying4 rfl)) ?_; clear hF; intro a hF
                      refine op_val (v := .bool ((!p235) || (p212.2.2.2 != p116.2.2.2))) rfl rfl hF rfl (run_pick_or rfl (hF.ev rfl) rfl (fun hp => ((hF.ev rfl).trans (gv_t (not_t hp))))) ?_; clear hF; intro a hF
                      refine wpList_nil ?_
                      cases hc236 : ((!p235) || (p212.2.2.2 != p116.2.2.2))
                      · replace hM := bif_f hc236 hM
                        refine cond_f hF rfl hc236 ?_
                        refine wp_skip ?_
                        refine wp_seq ?_
                        refine wp_region_lit ?_
                        refine op_val (v := .int .i64 1) rfl rfl hF rfl (run_assign rfl rfl) ?_; clear hF; intro a hF
                        refine wpList_nil ?_
                        refine wp_seq ?_
                        refine wp_region_lit ?_
                        refine op_val (v := .agg #[.slice B161 p151.1.length d162, .slice B163 p151.2.1.length d164, .slice B165 p151.2.2.1.length d166]) rfl rfl hF rfl (run_loadN rfl ag31 (hF.ev rfl) rfl ((S.free 16 rfl).cells 0 #[.slice B161 p151.1.length d162, .slice B163 p151.2.1.length d164, .slice B165 p151.2.2.1.length d166] rfl)) ?_; clear hF; intro a hF
                        refine op_val (v := .int .i64 1) rfl rfl hF rfl (run_move rfl (hF.ev rfl)) ?_; clear hF; intro a hF
                        obtain ⟨p237, h237, hM⟩ := bind_ex hM
                        refine op_call rfl rfl hF rfl (run_call (vs := [.agg #[.slice B161 p151.1.length d162, .slice B163 p151.2.1.length d164, .slice B165 p151.2.2.1.length d166], .int .i64 1]) rfl rfl co12 ⟨(hF.ev rfl), (hF.ev rfl), trivial⟩) (c_laws_heldWork (x0 := p194.2.1) (x1 := p194.2.2.1) (x2 := p194.2.2.2) (x3 := 1) ⟨(S.rc 7 rfl), hn195⟩ ⟨(S.rc 8 rfl), hn196⟩ ⟨(S.rc 9 rfl), hn197⟩ h237) ?_
                        rintro e u ⟨rfl, T⟩
                        refine ⟨_, rfl, ?_⟩
                        clear hF; intro a hF
                        replace S := S.call0 T; clear T
                        refine op_val (v := .int .i64 p237) rfl rfl hF rfl (run_assign rfl (hF.ev rfl)) ?_; clear hF; intro a hF
                        refine wpList_nil ?_
                        refine wp_seq ?_
                        refine wp_seq ?_
                        refine wp_region_lit ?_
                        refine op_val (v := .int .i64 p237) rfl rfl hF rfl (run_move rfl (hF.ev rfl)) ?_; clear hF; intro a hF
                        refine op_val (v := .bool (ltB p237 0)) rfl rfl hF rfl (run_lss (hF.ev rfl) rfl rfl) ?_; clear hF; intro a hF
                        refine wpList_nil ?_
                        cases hc238 : (ltB p237 0)
                        · replace hM := bif_f hc238 hM
                          refine cond_f hF rfl hc238 ?_
                          refine wp_skip ?_
                          refine wp_seq ?_
                          refine wp_seq ?_
                          refine wp_region_lit ?_
                          refine op_val (v := .int .i64 p237) rfl rfl hF rfl (run_move rfl (hF.ev rfl)) ?_; clear hF; intro a hF
                          refine op_val (v := .int .i64 p194.1) rfl rfl hF rfl (run_move rfl (hF.ev rfl)) ?_; clear hF; intro a hF
                          refine op_val (v := .bool (p237 != p194.1)) rfl rfl hF rfl (run_neq (hF.ev rfl) (hF.ev rfl) rfl) ?_; clear hF; intro a hF
                          refine wpList_nil ?_
                          cases hc239 : (p237 != p194.1)
                          · replace hM := bif_f hc239 hM
                            refine cond_f hF rfl hc239 ?_
                            refine wp_skip ?_
                            refine wp_seq ?_
                            refine wp_region_lit ?_
                            refine op_val (v := .bool true) rfl rfl hF rfl (run_assign rfl rfl) ?_; clear hF; intro a hF
                            refine wpList_nil ?_
                            refine wp_ret ?_
                            repeat with_reducible (first | refine then_ret ?_ | refine in_ret ?_ | refine in_nrm ?_)
                            refine ret1_gw (.inl rfl) hF rfl (res_tmp (hF.ev rfl)) ?_
                            obtain rfl := Option.some.inj hM
                            exact ⟨rfl, S.sel [] rfl rfl⟩
                          · replace hM := bif_t hc239 hM
                            refine cond_t hF rfl hc239 ?_
                            refine wp_seq ?_
                            refine wp_region_lit ?_
                            refine op_val (v := .bool false) rfl rfl hF rfl (run_assign rfl rfl) ?_; clear hF; intro a hF
                            refine wpList_nil ?_
                            refine wp_ret ?_
                            repeat with_reducible (first | refine then_ret ?_ | refine in_ret ?_ | refine in_nrm ?_)
                            refine ret1_gw (.inl rfl) hF rfl (res_tmp (hF.ev rfl)) ?_
                            obtain rfl := Option.some.inj hM
                            exact ⟨rfl, S.sel [] rfl rfl⟩
                        · replace hM := bif_t hc238 hM
                          refine cond_t hF rfl hc238 ?_
                          refine wp_seq ?_
                          refine wp_region_lit ?_
                          refine op_val (v := .bool false) rfl rfl hF rfl (run_assign rfl rfl) ?_; clear hF; intro a hF
                          refine wpList_nil ?_
                          refine wp_ret ?_
                          repeat with_reducible (first | refine then_ret ?_ | refine in_ret ?_ | refine in_nrm ?_)
                          refine ret1_gw (.inl rfl) hF rfl (res_tmp (hF.ev rfl)) ?_
                          obtain rfl := Option.some.inj hM
                          exact ⟨rfl, S.sel [] rfl rfl⟩
                      · replace hM := bif_t hc236 hM
                        refine cond_t hF rfl hc236 ?_
                        refine wp_seq ?_
                        refine wp_region_lit ?_
                        refine op_val (v := .bool false) rfl rfl hF rfl (run_assign rfl rfl) ?_; clear hF; intro a hF
                        refine wpList_nil ?_
                        refine wp_ret ?_
                        repeat with_reducible (first | refine then_ret ?_ | refine in_ret ?_ | refine in_nrm ?_)
                        refine ret1_gw (.inl rfl) hF rfl (res_tmp (hF.ev rfl)) ?_
                        obtain rfl := Option.some.inj hM
                        exact ⟨rfl, S.sel [] rfl rfl⟩
                  · replace hM := bif_t hc200 hM
                    refine cond_t hF rfl hc200 ?_
                    refine wp_seq ?_
                    refine wp_region_lit ?_
                    refine op_val (v := .bool false) rfl rfl hF rfl (run_assign rfl rfl) ?_; clear hF; intro a hF
                    refine wpList_nil ?_
                    refine wp_ret ?_
                    repeat with_reducible (first | refine then_ret ?_ | refine in_ret ?_ | refine in_nrm ?_)
                    refine ret1_gw (.inl rfl) hF rfl (res_tmp (hF.ev rfl)) ?_
                    obtain rfl := Option.some.inj hM
                    exact ⟨rfl, S.sel [] rfl rfl⟩
                · replace hM := bif_t hc199 hM
                  refine cond_t hF rfl hc199 ?_
                  refine wp_seq ?_
                  refine wp_region_lit ?_
                  refine op_val (v := .bool false) rfl rfl hF rfl (run_assign rfl rfl) ?_; clear hF; intro a hF
                  refine wpList_nil ?_
                  refine wp_ret ?_
                  repeat with_reducible (first | refine then_ret ?_ | refine in_ret ?_ | refine in_nrm ?_)
                  refine ret1_gw (.inl rfl) hF rfl (res_tmp (hF.ev rfl)) ?_
                  obtain rfl := Option.some.inj hM
                  exact ⟨rfl, S.sel [] rfl rfl⟩
              · replace hM := bif_t hc193 hM
                refine cond_t hF rfl hc193 ?_
                refine wp_seq ?_
                refine wp_region_lit ?_
                refine op_val (v := .bool false) rfl rfl hF rfl (run_assign rfl rfl) ?_; clear hF; intro a hF
                refine wpList_nil ?_
                refine wp_ret ?_
                repeat with_reducible (first | refine then_ret ?_ | refine in_ret ?_ | refine in_nrm ?_)
                refine ret1_gw (.inl rfl) hF rfl (res_tmp (hF.ev rfl)) ?_
                obtain rfl := Option.some.inj hM
                exact ⟨rfl, S.sel [] rfl rfl⟩
        · replace hM := bif_t hc169 hM
          refine cond_t hF rfl hc169 ?_
          refine wp_seq ?_
          refine wp_region_lit ?_
          refine op_val (v := .bool false) rfl rfl hF rfl (run_assign rfl rfl) ?_; clear hF; intro a hF
          refine wpList_nil ?_
          refine wp_ret ?_
          repeat with_reducible (first | refine then_ret ?_ | refine in_ret ?_ | refine in_nrm ?_)
          refine ret1_gw (.inl rfl) hF rfl (res_tmp (hF.ev rfl)) ?_
          obtain rfl := Option.some.inj hM
          exact ⟨rfl, S.sel [] rfl rfl⟩
  · replace hM := bif_t hc104 hM
    refine cond_t hF rfl hc104 ?_
    refine wp_seq ?_
    refine wp_region_lit ?_
    refine op_val (v := .bool true) rfl rfl hF rfl (run_assign rfl rfl) ?_; clear hF; intro a hF
    refine wpList_nil ?_
    refine wp_ret ?_
    repeat with_reducible (first | refine then_ret ?_ | refine in_ret ?_ | refine in_nrm ?_)
    refine ret1_gw (.inl rfl) hF rfl (res_tmp (hF.ev rfl)) ?_
    obtain rfl := Option.some.inj hM
    exact ⟨rfl, S.sel [] rfl rfl⟩

set_option maxHeartbeats 4000000 in
theorem c_laws_szWorkDeedS {x0 : List (Int × Int × Int)} {x1 : Int} {A0 : Option Addr} {n0 c0 : Nat} {w : World} {r : Int} (h0 : Rt w 3 eLWorkDeed A0 n0 c0 x0) (hM : m_laws_szWorkDeedS x0 x1 = some r) :
    Calls Try.prog 13 #[.slice A0 n0 c0, .int .i64 x1] w (fun e w' => e = .returned (.int .i64 r) ∧ St w w' []) := by
  obtain rfl := h0.len
  unfold m_laws_szWorkDeedS at hM
  refine calls_gw Try.func13 Try.ntmps13 rfl [(0, .slice A0 x0.length c0), (1, .int .i64 x1)] ⟨rfl, rfl, trivial⟩ rfl ?_
  intro a hF
  have S := St.nil w
  refine wp_seq ?_
  refine wp_region_lit ?_
  refine op_val (v := .int .i64 0) rfl rfl hF rfl (run_assign rfl rfl) ?_; clear hF; intro a hF
  refine wpList_nil ?_
  refine wp_seq ?_
  refine wp_region_lit ?_
  refine op_val (v := .int .i64 x1) rfl rfl hF rfl (run_move rfl (hF.ev rfl)) ?_; clear hF; intro a hF
  refine op_val (v := .slice A0 x0.length c0) rfl rfl hF rfl (run_move rfl (hF.ev rfl)) ?_; clear hF; intro a hF
  refine op_val (v := .int .i64 (x0.length : Int)) rfl rfl hF rfl (run_lenL rfl rfl Try.underlying40 (hF.ev rfl)) ?_; clear hF; intro a hF
  refine op_val (v := .int .i64 (w64 (x1 - (x0.length : Int)))) rfl rfl hF rfl (run_sub (z := w64 (x1 - (x0.length : Int))) (hF.ev rfl) (hF.ev rfl) rfl rfl) ?_; clear hF; intro a hF
  refine op_val (v := .int .i64 (w64 (x1 - (x0.length : Int)))) rfl rfl hF rfl (run_assign rfl (hF.ev rfl)) ?_; clear hF; intro a hF
  refine wpList_nil ?_
  refine wp_seq ?_
  refine wp_seq ?_
  refine wp_region_lit ?_
  refine op_val (v := .int .i64 (w64 (x1 - (x0.length : Int)))) rfl rfl hF rfl (run_move rfl (hF.ev rfl)) ?_; clear hF; intro a hF
  refine op_val (v := .bool (ltB (w64 (x1 - (x0.length : Int))) 0)) rfl rfl hF rfl (run_lss (hF.ev rfl) rfl rfl) ?_; clear hF; intro a hF
  refine wpList_nil ?_
  cases hc101 : (ltB (w64 (x1 - (x0.length : Int))) 0)
  · replace hM := bif_f hc101 hM
    refine cond_f hF rfl hc101 ?_
    refine wp_skip ?_
    refine wp_seq ?_
    refine wp_region_lit ?_
    refine op_val (v := .int .i64 (w64 (x1 - (x0.length : Int)))) rfl rfl hF rfl (run_move rfl (hF.ev rfl)) ?_; clear hF; intro a hF
    refine op_val (v := .int .i64 (w64 (x1 - (x0.length : Int)))) rfl rfl hF rfl (run_assign rfl (hF.ev rfl)) ?_; clear hF; intro a hF
    refine wpList_nil ?_
    refine wp_ret ?_
    repeat with_reducible (first | refine then_ret ?_ | refine in_ret ?_ | refine in_nrm ?_)
    refine ret1_gw (.inl rfl) hF rfl (res_tmp (hF.ev rfl)) ?_
    obtain rfl := Option.some.inj hM
    exact ⟨rfl, S.sel [] rfl rfl⟩
  · replace hM := bif_t hc101 hM
    refine cond_t hF rfl hc101 ?_
    refine wp_seq ?_
    refine wp_region_lit ?_
    refine op_val (v := .int .i64 (-1)) rfl rfl hF rfl (run_assign rfl rfl) ?_; clear hF; intro a hF
    refine wpList_nil ?_
    refine wp_ret ?_
    repeat with_reducible (first | refine then_ret ?_ | refine in_ret ?_ | refine in_nrm ?_)
    refine ret1_gw (.inl rfl) hF rfl (res_tmp (hF.ev rfl)) ?_
    obtain rfl := Option.some.inj hM
    exact ⟨rfl, S.sel [] rfl rfl⟩

set_option maxHeartbeats 4000000 in
theorem c_laws_toWorkDeedS {x0 : List (Int × Int × Int)} {A0 : Option Addr} {n0 c0 : Nat} {w : World} {r : List (Int × Int × Int)} (h0 : Rt w 3 eLWorkDeed A0 n0 c0 x0) (hM : m_laws_toWorkDeedS x0 = some r) :
    Calls Try.prog 15 #[.slice A0 n0 c0] w (fun e w' => ∃ (B0 : Option Addr) (N0 D0 : Nat), e = .returned (.slice B0 N0 D0) ∧ N0 = r.length ∧ St w w' [.row 35 3 (.slice B0 N0 D0) N0 (r.flatMap eWorkDeed)]) := by
  obtain rfl := h0.len
  unfold m_laws_toWorkDeedS at hM
  refine calls_gw Try.func15 Try.ntmps15 rfl [(0, .slice A0 x0.length c0)] ⟨rfl, trivial⟩ rfl ?_
  intro a hF
  have S := St.nil w
  refine wp_seq ?_
  refine wp_region_lit ?_
  refine op_val (v := .slice none 0 0) rfl rfl hF rfl (run_assign rfl rfl) ?_; clear hF; intro a hF
  refine wpList_nil ?_
  refine wp_seq ?_
  refine wp_region_lit ?_
  refine op_val (v := .slice A0 x0.length c0) rfl rfl hF rfl (run_move rfl (hF.ev rfl)) ?_; clear hF; intro a hF
  refine op_val (v := .int .i64 (x0.length : Int)) rfl rfl hF rfl (run_lenL rfl rfl Try.underlying40 (hF.ev rfl)) ?_; clear hF; intro a hF
  obtain ⟨hk102, hM⟩ := chk_ex hM
  replace hk102 := mkB_t hk102
  refine op_newrowL (m := x0.length) (ls := List.replicate x0.length ((0, 0, 0) : Int × Int × Int)) (e := eWorkDeed) rfl rfl hF rfl S (run_makeL rfl (hF.ev rfl) (hF.ev rfl) Try.underlying44 inf35 eWorkDeed_len rfl (by decide) hk102) List.length_replicate eWorkDeed_len (by rw [List.length_replicate]; omega) ?_; clear hF S; intro a g101 u hF S
  refine op_val (v := .slice (some ⟨g101, 0, none⟩) x0.length x0.length) rfl rfl hF rfl (run_assign rfl (hF.ev rfl)) ?_; clear hF; intro a hF
  refine wpList_nil ?_
  refine wp_seq ?_
  refine wp_seq ?_
  refine wp_region_lit ?_
  refine op_val (v := .int .i64 0) rfl rfl hF rfl (run_assign rfl rfl) ?_; clear hF; intro a hF
  refine wpList_nil ?_
  obtain ⟨o104, hM106, hM⟩ := bind_ex hM
  refine wp_cut (fun a u => ∃ (p103 : List (Int × Int × Int)), p103 = o104 ∧ x0.length = p103.length ∧ Fr a 23 [(2, .slice none 0 0), (3, .slice (some ⟨g101, 0, none⟩) x0.length x0.length)] ∧ St w u [.row 35 3 (.slice (some ⟨g101, 0, none⟩) x0.length x0.length) x0.length (p103.flatMap eWorkDeed)]) ?_ ?_
  · have _ := trivial
    refine wp_block ?_
    refine loop_gw (fun m a u => ∃ (p107 : List (Int × Int × Int) × Int), m_laws_toWorkDeedS_l1 x0 m p107 = some _ ∧ x0.length = p107.1.length ∧ Fr a 23 [(0, .slice A0 x0.length c0), (2, .slice none 0 0), (3, .slice (some ⟨g101, 0, none⟩) x0.length x0.length), (4, .int .i64 p107.2)] ∧ St w u [.row 35 3 (.slice (some ⟨g101, 0, none⟩) x0.length x0.length) x0.length (p107.1.flatMap eWorkDeed)]) FUEL ⟨(List.replicate x0.length ((0, 0, 0) : Int × Int × Int), 0), hM106, List.length_replicate.symm, hF.keep _ ⟨rfl, rfl, rfl, rfl, trivial⟩, S.sel [0] rfl rfl⟩ ?_
    clear hF S hM106; rintro m a u ⟨p107, hM106, hn108, hF, S⟩
    rcases m with _ | f1
    · exact none_some hM106
    rw [m_laws_toWorkDeedS_l1.eq_2] at hM106
    refine wp_seq ?_
    refine wp_seq ?_
    refine wp_region_lit ?_
    refine op_val (v := .int .i64 p107.2) rfl rfl hF rfl (run_move rfl (hF.ev rfl)) ?_; clear hF; intro a hF
    refine op_val (v := .slice A0 x0.length c0) rfl rfl hF rfl (run_move rfl (hF.ev rfl)) ?_; clear hF; intro a hF
    refine op_val (v := .int .i64 (x0.length : Int)) rfl rfl hF rfl (run_lenL rfl rfl Try.underlying40 (hF.ev rfl)) ?_; clear hF; intro a hF
    refine op_val (v := .bool (ltB p107.2 (x0.length : Int))) rfl rfl hF rfl (run_lss (hF.ev rfl) (hF.ev rfl) rfl) ?_; clear hF; intro a hF
    refine wpList_nil ?_
    cases hc109 : (ltB p107.2 (x0.length : Int))
    · replace hM106 := bif_f hc109 hM106
      refine cond_f hF rfl hc109 ?_
      refine wp_exit ?_
      repeat with_reducible (first | refine then_exit ?_ | refine in_hit ?_ | refine in_miss rfl ?_)
      obtain rfl := Option.some.inj hM106
      exact ⟨p107.1, rfl, hn108, hF.keep _ ⟨rfl, rfl, trivial⟩, S.sel [0] rfl rfl⟩
    · replace hM106 := bif_t hc109 hM106
      refine cond_t hF rfl hc109 ?_
      refine wp_skip ?_
      refine wp_seq ?_
      refine wp_block ?_
      refine wp_region_lit ?_
      refine op_val (v := .slice (some ⟨g101, 0, none⟩) x0.length x0.length) rfl rfl hF rfl (run_move rfl (hF.ev rfl)) ?_; clear hF; intro a hF
      refine op_val (v := .int .i64 p107.2) rfl rfl hF rfl (run_move rfl (hF.ev rfl)) ?_; clear hF; intro a hF
      refine op_val (v := .slice A0 x0.length c0) rfl rfl hF rfl (run_move rfl (hF.ev rfl)) ?_; clear hF; intro a hF
      refine op_val (v := .int .i64 p107.2) rfl rfl hF rfl (run_move rfl (hF.ev rfl)) ?_; clear hF; intro a hF
      obtain ⟨hk110, hM106⟩ := chk_ex hM106
      replace hk110 := ixB_t hk110
      refine op_val (v := .pointer (some ⟨adB A0, adO A0 + p107.2.toNat * 3, none⟩)) rfl rfl hF rfl (run_indexAddr (b := adB A0) (off := adO A0) rfl Try.underlying40 sz27 ((hF.ev rfl).trans (congrArg (fun A => Value.slice A x0.length c0) ((S.rc0 h0.rc).rd.ad (ix_pos hk110)))) (hF.ev rfl) hk110.1 hk110.2 (k' := adO A0 + p107.2.toNat * 3) rfl) ?_; clear hF; intro a hF
      refine op_val (v := .agg #[.int .i64 ((x0.getD p107.2.toNat ((0, 0, 0) : Int × Int × Int)).1), .int .i64 ((x0.getD p107.2.toNat ((0, 0, 0) : Int × Int × Int)).2.1), .int .i64 ((x0.getD p107.2.toNat ((0, 0, 0) : Int × Int × Int)).2.2)]) rfl rfl hF rfl (run_loadN (cs := #[.int .i64 ((x0.getD p107.2.toNat ((0, 0, 0) : Int × Int × Int)).1), .int .i64 ((x0.getD p107.2.toNat ((0, 0, 0) : Int × Int × Int)).2.1), .int .i64 ((x0.getD p107.2.toNat ((0, 0, 0) : Int × Int × Int)).2.2)]) rfl ag27 (hF.ev rfl) rfl (rd_elN (l := x0) (S.rc0 h0.rc).rd rfl eLWorkDeed_len ((0, 0, 0) : Int × Int × Int) (ix_ltn hk110 rfl) rfl)) ?_; clear hF; intro a hF
      obtain ⟨p111, h111, hM106⟩ := bind_ex hM106
      refine op_call rfl rfl hF rfl (run_call (vs := [.agg #[.int .i64 ((x0.getD p107.2.toNat ((0, 0, 0) : Int × Int × Int)).1), .int .i64 ((x0.getD p107.2.toNat ((0, 0, 0) : Int × Int × Int)).2.1), .int .i64 ((x0.getD p107.2.toNat ((0, 0, 0) : Int × Int × Int)).2.2)]]) rfl rfl co8 ⟨(hF.ev rfl), trivial⟩) (c_laws_toWorkDeed (x0 := (x0.getD p107.2.toNat ((0, 0, 0) : Int × Int × Int)).1) (x1 := (x0.getD p107.2.toNat ((0, 0, 0) : Int × Int × Int)).2.1) (x2 := (x0.getD p107.2.toNat ((0, 0, 0) : Int × Int × Int)).2.2)  h111) ?_
      rintro e u ⟨rfl, T⟩
      refine ⟨_, rfl, ?_⟩
      clear hF; intro a hF
      replace S := S.call0 T; clear T
      obtain ⟨hk112, hM106⟩ := chk_ex hM106
      replace hk112 := ixB_t hk112
      refine op_val (v := .pointer (some ⟨adB (some ⟨g101, 0, none⟩), adO (some ⟨g101, 0, none⟩) + p107.2.toNat * 3, none⟩)) rfl rfl hF rfl (run_indexAddr (b := adB (some ⟨g101, 0, none⟩)) (off := adO (some ⟨g101, 0, none⟩)) rfl Try.underlying44 sz35 ((hF.ev rfl).trans (congrArg (fun A => Value.slice A x0.length x0.length) ((S.rc 0 rfl).rd.ad (ix_pos hk112)))) (hF.ev rfl) hk112.1 hk112.2 (k' := adO (some ⟨g101, 0, none⟩) + p107.2.toNat * 3) rfl) ?_; clear hF; intro a hF
      obtain ⟨w', hrun, S'⟩ := run_storeElN (P := Try.prog) (ρ := a.eval) (y0 := (p111.1, p111.2.1, p111.2.2)) (off := 0) S 35 (.tmp 21) (.tmp 20) (i := 0) sz35 (hF.ev rfl) (hF.ev rfl) rfl rfl rfl rfl hn108 eWorkDeed_len ((0, 0, 0) : Int × Int × Int) (ix_ltn hk112 hn108) rfl rfl
      refine op_do rfl rfl (hrun _ rfl) ?_; clear hrun S; have S := S'; clear S'; generalize w' = u at S ⊢
      refine wpList_nil ?_
      refine wp_region_lit ?_
      refine op_val (v := .int .i64 p107.2) rfl rfl hF rfl (run_move rfl (hF.ev rfl)) ?_; clear hF; intro a hF
      refine op_val (v := .int .i64 (w64 (p107.2 + 1))) rfl rfl hF rfl (run_add (z := w64 (p107.2 + 1)) (hF.ev rfl) rfl rfl rfl) ?_; clear hF; intro a hF
      refine op_val (v := .int .i64 (w64 (p107.2 + 1))) rfl rfl hF rfl (run_assign rfl (hF.ev rfl)) ?_; clear hF; intro a hF
      refine wpList_nil ?_
      exact ⟨f1, Nat.lt_succ_self _, (p107.1.set p107.2.toNat (p111.1, p111.2.1, p111.2.2), w64 (p107.2 + 1)), hM106, (len_set hn108), hF.keep _ ⟨rfl, rfl, rfl, rfl, trivial⟩, S.sel [0] rfl rfl⟩
  · rintro a u ⟨p103, rfl, hn105, hF, S⟩
    refine wp_seq ?_
    refine wp_region_lit ?_
    refine op_val (v := .slice (some ⟨g101, 0, none⟩) x0.length x0.length) rfl rfl hF rfl (run_move rfl (hF.ev rfl)) ?_; clear hF; intro a hF
    refine op_val (v := .slice (some ⟨g101, 0, none⟩) x0.length x0.length) rfl rfl hF rfl (run_assign rfl (hF.ev rfl)) ?_; clear hF; intro a hF
    refine wpList_nil ?_
    refine wp_ret ?_
    repeat with_reducible (first | refine then_ret ?_ | refine in_ret ?_ | refine in_nrm ?_)
    refine ret1_gw (.inl rfl) hF rfl (res_tmp (hF.ev rfl)) ?_
    obtain rfl := Option.some.inj hM
    exact ⟨(some ⟨g101, 0, none⟩), x0.length, x0.length, rfl, hn105, S.sel [0] rfl rfl⟩

set_option maxHeartbeats 4000000 in
theorem c_spec_WorkRun {x0 : List Bool} {x1 : List Bool} {x2 : List (Int × Int)} {x3 : List (Int × Int × Int)} {A0 : Option Addr} {n0 c0 : Nat} {A1 : Option Addr} {n1 c1 : Nat} {A2 : Option Addr} {n2 c2 : Nat} {A3 : Option Addr} {n3 c3 : Nat} {w : World} {r : List Bool × List Bool × List (Int × Int) × Int} (h0 : Rt w 1 eB A0 n0 c0 x0) (h1 : Rt w 1 eB A1 n1 c1 x1) (h2 : Rt w 2 ePermit A2 n2 c2 x2) (h3 : Rt w 3 eWorkDeed A3 n3 c3 x3) (hM : m_spec_WorkRun x0 x1 x2 x3 = some r) :
    Calls Try.prog 14 #[.agg #[.slice A0 n0 c0, .slice A1 n1 c1, .slice A2 n2 c2], .slice A3 n3 c3] w (fun e w' => ∃ (B0 : Option Addr) (N0 D0 : Nat) (B1 : Option Addr) (N1 D1 : Nat) (B2 : Option Addr) (N2 D2 : Nat), e = .returned (.tuple #[.agg #[.slice B0 N0 D0, .slice B1 N1 D1, .slice B2 N2 D2], .int .i64 r.2.2.2]) ∧ N0 = r.1.length ∧ N1 = r.2.1.length ∧ N2 = r.2.2.1.length ∧ St w w' [.row 4 1 (.slice B0 N0 D0) N0 (r.1.flatMap eB), .row 4 1 (.slice B1 N1 D1) N1 (r.2.1.flatMap eB), .row 56 2 (.slice B2 N2 D2) N2 (r.2.2.1.flatMap ePermit)]) := by
  obtain rfl := h0.len
  obtain rfl := h1.len
  obtain rfl := h2.len
  obtain rfl := h3.len
  unfold m_spec_WorkRun at hM
  refine calls_gw Try.func14 Try.ntmps14 rfl [(0, .agg #[.slice A0 x0.length c0, .slice A1 x1.length c1, .slice A2 x2.length c2]), (1, .slice A3 x3.length c3)] ⟨rfl, rfl, trivial⟩ rfl ?_
  intro a hF
  have S := St.nil w
  refine wp_seq ?_
  refine wp_region_lit ?_
  refine op_new (cs := #[.slice A0 x0.length c0, .slice A1 x1.length c1, .slice A2 x2.length c2]) rfl rfl hF rfl S (run_box rfl (hF.ev rfl) rfl) ?_; clear hF S; intro a g101 u hF S
  refine op_new (cs := #[.slice none 0 0, .slice none 0 0, .slice none 0 0]) rfl rfl hF rfl S (run_allocZ rfl zr31) ?_; clear hF S; intro a g102 u hF S
  refine op_val (v := .int .i64 0) rfl rfl hF rfl (run_assign rfl rfl) ?_; clear hF; intro a hF
  refine wpList_nil ?_
  refine wp_seq ?_
  refine wp_seq ?_
  refine wp_region_lit ?_
  refine op_val (v := .agg #[.slice A0 x0.length c0, .slice A1 x1.length c1, .slice A2 x2.length c2]) rfl rfl hF rfl (run_loadN rfl ag31 (hF.ev rfl) rfl ((S.free 1 rfl).cells 0 #[.slice A0 x0.length c0, .slice A1 x1.length c1, .slice A2 x2.length c2] rfl)) ?_; clear hF; intro a hF
  obtain ⟨p103, h103, hM⟩ := bind_ex hM
  refine op_call rfl rfl hF rfl (run_call (vs := [.agg #[.slice A0 x0.length c0, .slice A1 x1.length c1, .slice A2 x2.length c2]]) rfl rfl co21 ⟨(hF.ev rfl), trivial⟩) (c_spec_WorkValid (x0 := x0) (x1 := x1) (x2 := x2) ⟨(S.rc0 h0.rc), rfl⟩ ⟨(S.rc0 h1.rc), rfl⟩ ⟨(S.rc0 h2.rc), rfl⟩ h103) ?_
  rintro e u ⟨rfl, T⟩
  refine ⟨_, rfl, ?_⟩
  clear hF; intro a hF
  replace S := S.call0 T; clear T
  refine op_val (v := .bool (!p103)) rfl rfl hF rfl (run_not rfl (hF.ev rfl)) ?_; clear hF; intro a hF
  refine wpList_nil ?_
  cases hc104 : (p103)
  · replace hM := bif_f hc104 hM
    refine cond_t hF rfl (not_t hc104) ?_
    refine wp_seq ?_
    refine wp_region_lit ?_
    refine op_val (v := .agg #[.slice none 0 0, .slice none 0 0, .slice none 0 0]) rfl rfl hF rfl (run_build (vs := []) rfl trivial (bd31 )) ?_; clear hF; intro a hF
    refine op_do rfl rfl (run_store (cs' := #[.slice none 0 0, .slice none 0 0, .slice none 0 0]) rfl sz31 (hF.ev rfl) (hF.ev rfl) rfl rfl rfl (S.free 0 rfl) rfl rfl) ?_; replace S := S.put 0 rfl (#[.slice none 0 0, .slice none 0 0, .slice none 0 0])
    generalize World.setRow _ _ _ = u at S ⊢
    refine op_val (v := .int .i64 0) rfl rfl hF rfl (run_assign rfl rfl) ?_; clear hF; intro a hF
    refine wpList_nil ?_
    refine wp_ret ?_
    repeat with_reducible (first | refine then_ret ?_ | refine in_ret ?_ | refine in_nrm ?_)
    refine ret2_gw (.inl rfl) hF rfl (res_cell (hF.ev rfl) (res_loadN ag31 rfl (S.cells 0 rfl 0 #[.slice none 0 0, .slice none 0 0, .slice none 0 0] rfl))) (res_tmp (hF.ev rfl)) ?_
    obtain rfl := Option.some.inj hM
    replace S := S.nilrow 4 1
    replace S := S.nilrow 4 1
    replace S := S.nilrow 56 2
    exact ⟨none, 0, 0, none, 0, 0, none, 0, 0, rfl, rfl, rfl, rfl, S.sel [2, 1, 0] rfl rfl⟩
  · replace hM := bif_t hc104 hM
    refine cond_f hF rfl (not_f hc104) ?_
    refine wp_skip ?_
    refine wp_seq ?_
    refine wp_region_lit ?_
    refine op_val (v := .agg #[.slice A0 x0.length c0, .slice A1 x1.length c1, .slice A2 x2.length c2]) rfl rfl hF rfl (run_loadN rfl ag31 (hF.ev rfl) rfl ((S.free 1 rfl).cells 0 #[.slice A0 x0.length c0, .slice A1 x1.length c1, .slice A2 x2.length c2] rfl)) ?_; clear hF; intro a hF
    obtain ⟨p105, h105, hM⟩ := bind_ex hM
    refine op_call rfl rfl hF rfl (run_call (vs := [.agg #[.slice A0 x0.length c0, .slice A1 x1.length c1, .slice A2 x2.length c2]]) rfl rfl co22 ⟨(hF.ev rfl), trivial⟩) (c_spec_l12Copy (x0 := x0) (x1 := x1) (x2 := x2) ⟨(S.rc0 h0.rc), rfl⟩ ⟨(S.rc0 h1.rc), rfl⟩ ⟨(S.rc0 h2.rc), rfl⟩ h105) ?_
    rintro e u ⟨B106, n107, d108, B109, n110, d111, B112, n113, d114, rfl, rfl, rfl, rfl, T⟩
    refine ⟨_, rfl, ?_⟩
    clear hF; intro a hF
    replace S := S.call3 T; clear T
    refine op_new (cs := #[.slice none 0 0, .slice none 0 0, .slice none 0 0]) rfl rfl hF rfl S (run_allocZ rfl zr31) ?_; clear hF S; intro a g115 u hF S
    refine op_do rfl rfl (run_store (cs' := #[.slice B106 p105.1.length d108, .slice B109 p105.2.1.length d111, .slice B112 p105.2.2.length d114]) rfl sz31 (hF.ev rfl) (hF.ev rfl) rfl rfl rfl (S.free 0 rfl) rfl rfl) ?_; replace S := S.put 0 rfl (#[.slice B106 p105.1.length d108, .slice B109 p105.2.1.length d111, .slice B112 p105.2.2.length d114])
    generalize World.setRow _ _ _ = u at S ⊢
    refine wpList_nil ?_
    refine wp_seq ?_
    refine wp_region_lit ?_
    refine op_val (v := .int .i64 0) rfl rfl hF rfl (run_assign rfl rfl) ?_; clear hF; intro a hF
    refine wpList_nil ?_
    refine wp_seq ?_
    refine wp_seq ?_
    refine wp_region_lit ?_
    refine op_val (v := .int .i64 0) rfl rfl hF rfl (run_assign rfl rfl) ?_; clear hF; intro a hF
    refine wpList_nil ?_
    obtain ⟨o117, hM124, hM⟩ := bind_ex hM
    refine wp_cut (fun a u => ∃ (p116 : Int × List Bool × List Bool × List (Int × Int)) (B118 : Option Addr) (d119 : Nat) (B120 : Option Addr) (d121 : Nat) (B122 : Option Addr) (d123 : Nat), p116 = o117 ∧ Fr a 38 [(4, .pointer (some ⟨g102, 0, none⟩)), (5, .int .i64 0), (6, .pointer (some ⟨g115, 0, none⟩)), (7, .int .i64 p116.1)] ∧ St w u [.box g115 31 #[.slice B118 p116.2.1.length d119, .slice B120 p116.2.2.1.length d121, .slice B122 p116.2.2.2.length d123], .box g102 31 #[.slice none 0 0, .slice none 0 0, .slice none 0 0], .row 4 1 (.slice B118 p116.2.1.length d119) p116.2.1.length (p116.2.1.flatMap eB), .row 4 1 (.slice B120 p116.2.2.1.length d121) p116.2.2.1.length (p116.2.2.1.flatMap eB), .row 56 2 (.slice B122 p116.2.2.2.length d123) p116.2.2.2.length (p116.2.2.2.flatMap ePermit)]) ?_ ?_
    · have _ := trivial
      refine wp_block ?_
      refine loop_gw (fun m a u => ∃ (p125 : Int × Int × List Bool × List Bool × List (Int × Int)) (B126 : Option Addr) (d127 : Nat) (B128 : Option Addr) (d129 : Nat) (B130 : Option Addr) (d131 : Nat), m_spec_WorkRun_l1 x3 m p125 = some _ ∧ Fr a 38 [(1, .slice A3 x3.length c3), (4, .pointer (some ⟨g102, 0, none⟩)), (5, .int .i64 0), (6, .pointer (some ⟨g115, 0, none⟩)), (7, .int .i64 p125.1), (8, .int .i64 p125.2.1)] ∧ St w u [.box g115 31 #[.slice B126 p125.2.2.1.length d127, .slice B128 p125.2.2.2.1.length d129, .slice B130 p125.2.2.2.2.length d131], .box g102 31 #[.slice none 0 0, .slice none 0 0, .slice none 0 0], .row 4 1 (.slice B126 p125.2.2.1.length d127) p125.2.2.1.length (p125.2.2.1.flatMap eB), .row 4 1 (.slice B128 p125.2.2.2.1.length d129) p125.2.2.2.1.length (p125.2.2.2.1.flatMap eB), .row 56 2 (.slice B130 p125.2.2.2.2.length d131) p125.2.2.2.2.length (p125.2.2.2.2.flatMap ePermit)]) FUEL ⟨(0, 0, p105.1, p105.2.1, p105.2.2), B106, d108, B109, d111, B112, d114, hM124, hF.keep _ ⟨rfl, rfl, rfl, rfl, rfl, rfl, trivial⟩, S.sel [0, 4, 1, 2, 3] rfl rfl⟩ ?_
      clear hF S hM124; rintro m a u ⟨p125, B126, d127, B128, d129, B130, d131, hM124, hF, S⟩
      rcases m with _ | f1
      · exact none_some hM124
      rw [m_spec_WorkRun_l1.eq_2] at hM124
      refine wp_seq ?_
      refine wp_seq ?_
      refine wp_region_lit ?_
      refine op_val (v := .int .i64 p125.2.1) rfl rfl hF rfl (run_move rfl (hF.ev rfl)) ?_; clear hF; intro a hF
      refine op_val (v := .slice A3 x3.length c3) rfl rfl hF rfl (run_move rfl (hF.ev rfl)) ?_; clear hF; intro a hF
      refine op_val (v := .int .i64 (x3.length : Int)) rfl rfl hF rfl (run_lenL rfl rfl Try.underlying44 (hF.ev rfl)) ?_; clear hF; intro a hF
      refine op_val (v := .bool (ltB p125.2.1 (x3.length : Int))) rfl rfl hF rfl (run_lss (hF.ev rfl) (hF.ev rfl) rfl) ?_; clear hF; intro a hF
      refine wpList_nil ?_
      cases hc132 : (ltB p125.2.1 (x3.length : Int))
      · replace hM124 := bif_f hc132 hM124
        refine cond_f hF rfl hc132 ?_
        refine wp_exit ?_
        repeat with_reducible (first | refine then_exit ?_ | refine in_hit ?_ | refine in_miss rfl ?_)
        obtain rfl := Option.some.inj hM124
        exact ⟨(p125.1, p125.2.2.1, p125.2.2.2.1, p125.2.2.2.2), B126, d127, B128, d129, B130, d131, rfl, hF.keep _ ⟨rfl, rfl, rfl, rfl, trivial⟩, S.sel [0, 1, 2, 3, 4] rfl rfl⟩
      · replace hM124 := bif_t hc132 hM124
        refine cond_t hF rfl hc132 ?_
        refine wp_skip ?_
        refine wp_seq ?_
        refine wp_block ?_
        refine wp_seq ?_
        obtain ⟨hk133, hM124⟩ := chk_ex hM124
        replace hk133 := ixB_t hk133
        obtain ⟨p134, h134, hM124⟩ := bind_ex hM124
        refine region_gw (D := [24, 25, 26, 27, 28, 29, 23, 30, 31, 9, 10]) (Lr := [.box g115 31 #[.slice B126 p125.2.2.1.length d127, .slice B128 p125.2.2.2.1.length d129, .slice B130 p125.2.2.2.2.length d131], .box g102 31 #[.slice none 0 0, .slice none 0 0, .slice none 0 0], .row 4 1 (.slice B126 p125.2.2.1.length d127) p125.2.2.1.length (p125.2.2.1.flatMap eB), .row 4 1 (.slice B128 p125.2.2.2.1.length d129) p125.2.2.2.1.length (p125.2.2.2.1.flatMap eB), .row 56 2 (.slice B130 p125.2.2.2.2.length d131) p125.2.2.2.2.length (p125.2.2.2.2.flatMap ePermit)]) (deps := (fun | 0 => [24] | 1 => [25] | 2 => [26] | 3 => [27] | 4 => [28] | 5 => [29] | 6 => [23, 29] | 7 => [30, 29] | 8 => [31] | 9 => [9] | 10 => [9, 29] | 11 => [10] | _ => [])) (rd := (fun _ => [])) (zr := (fun _ => []))
          (φ := fun i vs => match i, vs with | 0, [v24] => v24 = .agg #[.slice B126 p125.2.2.1.length d127, .slice B128 p125.2.2.2.1.length d129, .slice B130 p125.2.2.2.2.length d131] | 1, [v25] => v25 = .slice A3 x3.length c3 | 2, [v26] => v26 = .int .i64 p125.2.1 | 3, [v27] => v27 = .pointer (some ⟨adB A3, adO A3 + p125.2.1.toNat * 3, none⟩) | 4, [v28] => v28 = .agg #[.int .i64 ((x3.getD p125.2.1.toNat ((0, 0, 0) : Int × Int × Int)).1), .int .i64 ((x3.getD p125.2.1.toNat ((0, 0, 0) : Int × Int × Int)).2.1), .int .i64 ((x3.getD p125.2.1.toNat ((0, 0, 0) : Int × Int × Int)).2.2)] | 5, [v29] => v29 = .tuple #[.agg #[.slice (slA (vtup (vtup v29 0) 0)) p134.1.length (slC (vtup (vtup v29 0) 0)), .slice (slA (vtup (vtup v29 0) 1)) p134.2.1.length (slC (vtup (vtup v29 0) 1)), .slice (slA (vtup (vtup v29 0) 2)) p134.2.2.1.length (slC (vtup (vtup v29 0) 2))], .bool p134.2.2.2] | 6, [v23, v29] => v23 = .tuple #[.agg #[.slice (slA (vtup (vtup v29 0) 0)) p134.1.length (slC (vtup (vtup v29 0) 0)), .slice (slA (vtup (vtup v29 0) 1)) p134.2.1.length (slC (vtup (vtup v29 0) 1)), .slice (slA (vtup (vtup v29 0) 2)) p134.2.2.1.length (slC (vtup (vtup v29 0) 2))], .bool p134.2.2.2] | 7, [v30, v29] => v30 = .agg #[.slice (slA (vtup (vtup v29 0) 0)) p134.1.length (slC (vtup (vtup v29 0) 0)), .slice (slA (vtup (vtup v29 0) 1)) p134.2.1.length (slC (vtup (vtup v29 0) 1)), .slice (slA (vtup (vtup v29 0) 2)) p134.2.2.1.length (slC (vtup (vtup v29 0) 2))] | 8, [v31] => v31 = .bool p134.2.2.2 | 9, [v9] => v9 = .pointer (some ⟨ptB v9, 0, none⟩) | 11, [v10] => v10 = .bool p134.2.2.2 | _, _ => True)
          (C := fun i vs => match i, vs with | 5, [v29] => [.row 4 1 (.slice (slA (vtup (vtup v29 0) 0)) p134.1.length (slC (vtup (vtup v29 0) 0))) p134.1.length (p134.1.flatMap eB), .row 4 1 (.slice (slA (vtup (vtup v29 0) 1)) p134.2.1.length (slC (vtup (vtup v29 0) 1))) p134.2.1.length (p134.2.1.flatMap eB), .row 56 2 (.slice (slA (vtup (vtup v29 0) 2)) p134.2.2.1.length (slC (vtup (vtup v29 0) 2))) p134.2.2.1.length (p134.2.2.1.flatMap ePermit)] | 9, [v9] => [.box (ptB v9) 31 #[.slice none 0 0, .slice none 0 0, .slice none 0 0]] | 10, [v9, v29] => [.box (ptB v9) 31 #[.slice (slA (vtup (vtup v29 0) 0)) p134.1.length (slC (vtup (vtup v29 0) 0)), .slice (slA (vtup (vtup v29 0) 1)) p134.2.1.length (slC (vtup (vtup v29 0) 1)), .slice (slA (vtup (vtup v29 0) 2)) p134.2.2.1.length (slC (vtup (vtup v29 0) 2))]] | _, _ => [])
          (κ := (fun | 9 => some 10 | _ => none)) (Z := (fun _ => [])) mixed hF (by kernel_rfl) S ?_ ?_
        · refine ⟨?_, ?_, ?_, ?_, ?_, ?_, ?_, ?_, ?_, ?_, ?_, ?_, trivial⟩
          · intro a u X hB hu hp hr hz hl S
            replace S : St w u ([] ++ X) := S
            exact .inl ⟨rfl, .agg #[.slice B126 p125.2.2.1.length d127, .slice B128 p125.2.2.2.1.length d129, .slice B130 p125.2.2.2.2.length d131], u, (run_loadN rfl ag31 (hF.evB hB rfl rfl) rfl ((gr_box S hl 0 rfl).cells 0 #[.slice B126 p125.2.2.1.length d127, .slice B128 p125.2.2.2.1.length d129, .slice B130 p125.2.2.2.2.length d131] rfl)), rfl, S⟩
          · intro a u X hB hu hp hr hz hl S
            replace S : St w u ([] ++ X) := S
            exact .inl ⟨rfl, .slice A3 x3.length c3, u, (run_move rfl (hF.evB hB rfl rfl)), rfl, S⟩
          · intro a u X hB hu hp hr hz hl S
            replace S : St w u ([] ++ X) := S
            exact .inl ⟨rfl, .int .i64 p125.2.1, u, (run_move rfl (hF.evB hB rfl rfl)), rfl, S⟩
          · intro a u X hB hu hp hr hz hl S
            replace S : St w u ([] ++ X) := S
            have e25 : sl a 25 = .slice A3 x3.length c3 := hp 1 rfl
            have e26 : sl a 26 = .int .i64 p125.2.1 := hp 2 rfl
            exact .inl ⟨rfl, .pointer (some ⟨adB A3, adO A3 + p125.2.1.toNat * 3, none⟩), u, (run_indexAddr (b := adB A3) (off := adO A3) rfl Try.underlying44 sz35 ((ev_sl e25).trans (congrArg (fun A => Value.slice A x3.length c3) ((S.rc0 h3.rc).rd.ad (ix_pos hk133)))) (ev_sl e26) hk133.1 hk133.2 (k' := adO A3 + p125.2.1.toNat * 3) rfl), rfl, S⟩
          · intro a u X hB hu hp hr hz hl S
            replace S : St w u ([] ++ X) := S
            have e27 : sl a 27 = .pointer (some ⟨adB A3, adO A3 + p125.2.1.toNat * 3, none⟩) := hp 3 rfl
            exact .inl ⟨rfl, .agg #[.int .i64 ((x3.getD p125.2.1.toNat ((0, 0, 0) : Int × Int × Int)).1), .int .i64 ((x3.getD p125.2.1.toNat ((0, 0, 0) : Int × Int × Int)).2.1), .int .i64 ((x3.getD p125.2.1.toNat ((0, 0, 0) : Int × Int × Int)).2.2)], u, (run_loadN (cs := #[.int .i64 ((x3.getD p125.2.1.toNat ((0, 0, 0) : Int × Int × Int)).1), .int .i64 ((x3.getD p125.2.1.toNat ((0, 0, 0) : Int × Int × Int)).2.1), .int .i64 ((x3.getD p125.2.1.toNat ((0, 0, 0) : Int × Int × Int)).2.2)]) rfl ag35 (ev_sl e27) rfl (rd_elN (l := x3) (S.rc0 h3.rc).rd rfl eWorkDeed_len ((0, 0, 0) : Int × Int × Int) (ix_ltn hk133 rfl) rfl)), rfl, S⟩
          · intro a u X hB hu hp hr hz hl S
            replace S : St w u ([] ++ X) := S
            have e24 : sl a 24 = .agg #[.slice B126 p125.2.2.1.length d127, .slice B128 p125.2.2.2.1.length d129, .slice B130 p125.2.2.2.2.length d131] := hp 0 rfl
            have e28 : sl a 28 = .agg #[.int .i64 ((x3.getD p125.2.1.toNat ((0, 0, 0) : Int × Int × Int)).1), .int .i64 ((x3.getD p125.2.1.toNat ((0, 0, 0) : Int × Int × Int)).2.1), .int .i64 ((x3.getD p125.2.1.toNat ((0, 0, 0) : Int × Int × Int)).2.2)] := hp 4 rfl
            refine .inr (.inr (.inl ⟨rfl, _, _, (run_call (vs := [.agg #[.slice B126 p125.2.2.1.length d127, .slice B128 p125.2.2.2.1.length d129, .slice B130 p125.2.2.2.2.length d131], .agg #[.int .i64 ((x3.getD p125.2.1.toNat ((0, 0, 0) : Int × Int × Int)).1), .int .i64 ((x3.getD p125.2.1.toNat ((0, 0, 0) : Int × Int × Int)).2.1), .int .i64 ((x3.getD p125.2.1.toNat ((0, 0, 0) : Int × Int × Int)).2.2)]]) rfl rfl co6 ⟨(ev_sl e24), (ev_sl e28), trivial⟩), ?_⟩))
            refine Calls.mono (c_spec_WorkDo (x0 := p125.2.2.1) (x1 := p125.2.2.2.1) (x2 := p125.2.2.2.2) (x3 := (x3.getD p125.2.1.toNat ((0, 0, 0) : Int × Int × Int)).1) (x4 := (x3.getD p125.2.1.toNat ((0, 0, 0) : Int × Int × Int)).2.1) (x5 := (x3.getD p125.2.1.toNat ((0, 0, 0) : Int × Int × Int)).2.2) ⟨(gr_rc S hl 2 rfl), rfl⟩ ⟨(gr_rc S hl 3 rfl), rfl⟩ ⟨(gr_rc S hl 4 rfl), rfl⟩ h134) ?_
            rintro e w1 ⟨B135, n136, d137, B138, n139, d140, B141, n142, d143, rfl, rfl, rfl, rfl, T⟩
            exact ⟨_, rfl, rfl, S.call3 T⟩
          · intro a u X hB hu hp hr hz hl S
            replace S : St w u ([] ++ X) := S
            have e29 : sl a 29 = .tuple #[.agg #[.slice (slA (vtup (vtup (sl a 29) 0) 0)) p134.1.length (slC (vtup (vtup (sl a 29) 0) 0)), .slice (slA (vtup (vtup (sl a 29) 0) 1)) p134.2.1.length (slC (vtup (vtup (sl a 29) 0) 1)), .slice (slA (vtup (vtup (sl a 29) 0) 2)) p134.2.2.1.length (slC (vtup (vtup (sl a 29) 0) 2))], .bool p134.2.2.2] := hp 5 rfl
            exact .inl ⟨rfl, .tuple #[.agg #[.slice (slA (vtup (vtup (sl a 29) 0) 0)) p134.1.length (slC (vtup (vtup (sl a 29) 0) 0)), .slice (slA (vtup (vtup (sl a 29) 0) 1)) p134.2.1.length (slC (vtup (vtup (sl a 29) 0) 1)), .slice (slA (vtup (vtup (sl a 29) 0) 2)) p134.2.2.1.length (slC (vtup (vtup (sl a 29) 0) 2))], .bool p134.2.2.2], u, (run_move rfl (ev_sl e29)), rfl, S⟩
          · intro a u X hB hu hp hr hz hl S
            replace S : St w u ([] ++ X) := S
            have e23 : sl a 23 = .tuple #[.agg #[.slice (slA (vtup (vtup (sl a 29) 0) 0)) p134.1.length (slC (vtup (vtup (sl a 29) 0) 0)), .slice (slA (vtup (vtup (sl a 29) 0) 1)) p134.2.1.length (slC (vtup (vtup (sl a 29) 0) 1)), .slice (slA (vtup (vtup (sl a 29) 0) 2)) p134.2.2.1.length (slC (vtup (vtup (sl a 29) 0) 2))], .bool p134.2.2.2] := hp 6 rfl
            exact .inl ⟨rfl, .agg #[.slice (slA (vtup (vtup (sl a 29) 0) 0)) p134.1.length (slC (vtup (vtup (sl a 29) 0) 0)), .slice (slA (vtup (vtup (sl a 29) 0) 1)) p134.2.1.length (slC (vtup (vtup (sl a 29) 0) 1)), .slice (slA (vtup (vtup (sl a 29) 0) 2)) p134.2.2.1.length (slC (vtup (vtup (sl a 29) 0) 2))], u, (run_extract rfl (ev_sl e23) rfl), rfl, S⟩
          · intro a u X hB hu hp hr hz hl S
            replace S : St w u ([] ++ X) := S
            have e23 : sl a 23 = .tuple #[.agg #[.slice (slA (vtup (vtup (sl a 29) 0) 0)) p134.1.length (slC (vtup (vtup (sl a 29) 0) 0)), .slice (slA (vtup (vtup (sl a 29) 0) 1)) p134.2.1.length (slC (vtup (vtup (sl a 29) 0) 1)), .slice (slA (vtup (vtup (sl a 29) 0) 2)) p134.2.2.1.length (slC (vtup (vtup (sl a 29) 0) 2))], .bool p134.2.2.2] := hp 6 rfl
            exact .inl ⟨rfl, .bool p134.2.2.2, u, (run_extract rfl (ev_sl e23) rfl), rfl, S⟩
          · intro a u X hB hu hp hr hz hl S
            replace S : St w u ([] ++ X) := S
            exact .inl ⟨rfl, _, _, (run_allocZ rfl zr31), rfl, S.alloc _ _⟩
          · intro a u X hB hu hp hr hz hl S
            replace S : St w u ([.box (ptB (sl a 9)) 31 #[.slice none 0 0, .slice none 0 0, .slice none 0 0]] ++ X) := S
            have e9 : sl a 9 = .pointer (some ⟨ptB (sl a 9), 0, none⟩) := hp 9 rfl
            have e30 : sl a 30 = .agg #[.slice (slA (vtup (vtup (sl a 29) 0) 0)) p134.1.length (slC (vtup (vtup (sl a 29) 0) 0)), .slice (slA (vtup (vtup (sl a 29) 0) 1)) p134.2.1.length (slC (vtup (vtup (sl a 29) 0) 1)), .slice (slA (vtup (vtup (sl a 29) 0) 2)) p134.2.2.1.length (slC (vtup (vtup (sl a 29) 0) 2))] := hp 7 rfl
            exact .inr (.inl ⟨rfl, _, run_store (cs' := #[.slice (slA (vtup (vtup (sl a 29) 0) 0)) p134.1.length (slC (vtup (vtup (sl a 29) 0) 0)), .slice (slA (vtup (vtup (sl a 29) 0) 1)) p134.2.1.length (slC (vtup (vtup (sl a 29) 0) 1)), .slice (slA (vtup (vtup (sl a 29) 0) 2)) p134.2.2.1.length (slC (vtup (vtup (sl a 29) 0) 2))]) rfl sz31 (ev_sl e9) (ev_sl e30) rfl rfl rfl (S.free 0 rfl) rfl rfl, trivial, S.put 0 rfl (#[.slice (slA (vtup (vtup (sl a 29) 0) 0)) p134.1.length (slC (vtup (vtup (sl a 29) 0) 0)), .slice (slA (vtup (vtup (sl a 29) 0) 1)) p134.2.1.length (slC (vtup (vtup (sl a 29) 0) 1)), .slice (slA (vtup (vtup (sl a 29) 0) 2)) p134.2.2.1.length (slC (vtup (vtup (sl a 29) 0) 2))])⟩)
          · intro a u X hB hu hp hr hz hl S
            replace S : St w u ([] ++ X) := S
            have e31 : sl a 31 = .bool p134.2.2.2 := hp 8 rfl
            exact .inl ⟨rfl, .bool p134.2.2.2, u, (run_assign rfl (ev_sl e31)), rfl, S⟩
        · intro a u hB hp S
          obtain ⟨q0, q1, q2, q3, q4, q5, q6, q7, q8, q9, q10, q11, _⟩ := hp
          have e24 : sl a 24 = .agg #[.slice B126 p125.2.2.1.length d127, .slice B128 p125.2.2.2.1.length d129, .slice B130 p125.2.2.2.2.length d131] := q0
          have e25 : sl a 25 = .slice A3 x3.length c3 := q1
          have e26 : sl a 26 = .int .i64 p125.2.1 := q2
          have e27 : sl a 27 = .pointer (some ⟨adB A3, adO A3 + p125.2.1.toNat * 3, none⟩) := q3
          have e28 : sl a 28 = .agg #[.int .i64 ((x3.getD p125.2.1.toNat ((0, 0, 0) : Int × Int × Int)).1), .int .i64 ((x3.getD p125.2.1.toNat ((0, 0, 0) : Int × Int × Int)).2.1), .int .i64 ((x3.getD p125.2.1.toNat ((0, 0, 0) : Int × Int × Int)).2.2)] := q4
          have e29 : sl a 29 = .tuple #[.agg #[.slice (slA (vtup (vtup (sl a 29) 0) 0)) p134.1.length (slC (vtup (vtup (sl a 29) 0) 0)), .slice (slA (vtup (vtup (sl a 29) 0) 1)) p134.2.1.length (slC (vtup (vtup (sl a 29) 0) 1)), .slice (slA (vtup (vtup (sl a 29) 0) 2)) p134.2.2.1.length (slC (vtup (vtup (sl a 29) 0) 2))], .bool p134.2.2.2] := q5
          have e23 : sl a 23 = .tuple #[.agg #[.slice (slA (vtup (vtup (sl a 29) 0) 0)) p134.1.length (slC (vtup (vtup (sl a 29) 0) 0)), .slice (slA (vtup (vtup (sl a 29) 0) 1)) p134.2.1.length (slC (vtup (vtup (sl a 29) 0) 1)), .slice (slA (vtup (vtup (sl a 29) 0) 2)) p134.2.2.1.length (slC (vtup (vtup (sl a 29) 0) 2))], .bool p134.2.2.2] := q6
          have e30 : sl a 30 = .agg #[.slice (slA (vtup (vtup (sl a 29) 0) 0)) p134.1.length (slC (vtup (vtup (sl a 29) 0) 0)), .slice (slA (vtup (vtup (sl a 29) 0) 1)) p134.2.1.length (slC (vtup (vtup (sl a 29) 0) 1)), .slice (slA (vtup (vtup (sl a 29) 0) 2)) p134.2.2.1.length (slC (vtup (vtup (sl a 29) 0) 2))] := q7
          have e31 : sl a 31 = .bool p134.2.2.2 := q8
          have e9 : sl a 9 = .pointer (some ⟨ptB (sl a 9), 0, none⟩) := q9
          have e10 : sl a 10 = .bool p134.2.2.2 := q11
          replace S : St w u [.row 4 1 (.slice (slA (vtup (vtup (sl a 29) 0) 0)) p134.1.length (slC (vtup (vtup (sl a 29) 0) 0))) p134.1.length (p134.1.flatMap eB), .row 4 1 (.slice (slA (vtup (vtup (sl a 29) 0) 1)) p134.2.1.length (slC (vtup (vtup (sl a 29) 0) 1))) p134.2.1.length (p134.2.1.flatMap eB), .row 56 2 (.slice (slA (vtup (vtup (sl a 29) 0) 2)) p134.2.2.1.length (slC (vtup (vtup (sl a 29) 0) 2))) p134.2.2.1.length (p134.2.2.1.flatMap ePermit), .box (ptB (sl a 9)) 31 #[.slice (slA (vtup (vtup (sl a 29) 0) 0)) p134.1.length (slC (vtup (vtup (sl a 29) 0) 0)), .slice (slA (vtup (vtup (sl a 29) 0) 1)) p134.2.1.length (slC (vtup (vtup (sl a 29) 0) 1)), .slice (slA (vtup (vtup (sl a 29) 0) 2)) p134.2.2.1.length (slC (vtup (vtup (sl a 29) 0) 2))], .box g115 31 #[.slice B126 p125.2.2.1.length d127, .slice B128 p125.2.2.2.1.length d129, .slice B130 p125.2.2.2.2.length d131], .box g102 31 #[.slice none 0 0, .slice none 0 0, .slice none 0 0], .row 4 1 (.slice B126 p125.2.2.1.length d127) p125.2.2.1.length (p125.2.2.1.flatMap eB), .row 4 1 (.slice B128 p125.2.2.2.1.length d129) p125.2.2.2.1.length (p125.2.2.2.1.flatMap eB), .row 56 2 (.slice B130 p125.2.2.2.2.length d131) p125.2.2.2.2.length (p125.2.2.2.2.flatMap ePermit)] := S
          clear q0 q1 q2 q3 q4 q5 q6 q7 q8 q9 q10 q11
          generalize slA (vtup (vtup (sl a 29) 0) 0) = B144 at *
          generalize slC (vtup (vtup (sl a 29) 0) 0) = d145 at *
          generalize slA (vtup (vtup (sl a 29) 0) 1) = B146 at *
          generalize slC (vtup (vtup (sl a 29) 0) 1) = d147 at *
          generalize slA (vtup (vtup (sl a 29) 0) 2) = B148 at *
          generalize slC (vtup (vtup (sl a 29) 0) 2) = d149 at *
          generalize ptB (sl a 9) = g150 at *
          have hF := hF.region hB [(24, .agg #[.slice B126 p125.2.2.1.length d127, .slice B128 p125.2.2.2.1.length d129, .slice B130 p125.2.2.2.2.length d131]), (25, .slice A3 x3.length c3), (26, .int .i64 p125.2.1), (27, .pointer (some ⟨adB A3, adO A3 + p125.2.1.toNat * 3, none⟩)), (28, .agg #[.int .i64 ((x3.getD p125.2.1.toNat ((0, 0, 0) : Int × Int × Int)).1), .int .i64 ((x3.getD p125.2.1.toNat ((0, 0, 0) : Int × Int × Int)).2.1), .int .i64 ((x3.getD p125.2.1.toNat ((0, 0, 0) : Int × Int × Int)).2.2)]), (29, .tuple #[.agg #[.slice B144 p134.1.length d145, .slice B146 p134.2.1.length d147, .slice B148 p134.2.2.1.length d149], .bool p134.2.2.2]), (23, .tuple #[.agg #[.slice B144 p134.1.length d145, .slice B146 p134.2.1.length d147, .slice B148 p134.2.2.1.length d149], .bool p134.2.2.2]), (30, .agg #[.slice B144 p134.1.length d145, .slice B146 p134.2.1.length d147, .slice B148 p134.2.2.1.length d149]), (31, .bool p134.2.2.2), (9, .pointer (some ⟨g150, 0, none⟩)), (10, .bool p134.2.2.2)] (allSl_mem ⟨e24, e25, e26, e27, e28, e29, e23, e30, e31, e9, e10, trivial⟩) rfl
          clear hB e24 e25 e26 e27 e28 e29 e23 e30 e31 e9 e10
          refine wp_seq ?_
          refine wp_region_lit ?_
          refine op_val (v := .bool p134.2.2.2) rfl rfl hF rfl (run_move rfl (hF.ev rfl)) ?_; clear hF; intro a hF
          refine wpList_nil ?_
          obtain ⟨o152, hM159, hM124⟩ := bind_ex hM124
          refine wp_cut (fun a u => ∃ (p151 : Int × List Bool × List Bool × List (Int × Int)) (B153 : Option Addr) (d154 : Nat) (B155 : Option Addr) (d156 : Nat) (B157 : Option Addr) (d158 : Nat), p151 = o152 ∧ Fr a 38 [(1, .slice A3 x3.length c3), (4, .pointer (some ⟨g102, 0, none⟩)), (5, .int .i64 0), (6, .pointer (some ⟨g115, 0, none⟩)), (7, .int .i64 p151.1), (8, .int .i64 p125.2.1)] ∧ St w u [.box g115 31 #[.slice B153 p151.2.1.length d154, .slice B155 p151.2.2.1.length d156, .slice B157 p151.2.2.2.length d158], .box g102 31 #[.slice none 0 0, .slice none 0 0, .slice none 0 0], .row 4 1 (.slice B153 p151.2.1.length d154) p151.2.1.length (p151.2.1.flatMap eB), .row 4 1 (.slice B155 p151.2.2.1.length d156) p151.2.2.1.length (p151.2.2.1.flatMap eB), .row 56 2 (.slice B157 p151.2.2.2.length d158) p151.2.2.2.length (p151.2.2.2.flatMap ePermit)]) ?_ ?_
          · have _ := trivial
            cases hc160 : (p134.2.2.2)
            · replace hM159 := bif_f hc160 hM159
              refine cond_f hF rfl hc160 ?_
              refine wp_skip ?_
              obtain rfl := Option.some.inj hM159
              exact ⟨(p125.1, p125.2.2.1, p125.2.2.2.1, p125.2.2.2.2), B126, d127, B128, d129, B130, d131, rfl, hF.keep _ ⟨rfl, rfl, rfl, rfl, rfl, rfl, trivial⟩, S.sel [4, 5, 6, 7, 8] rfl rfl⟩
            · replace hM159 := bif_t hc160 hM159
              refine cond_t hF rfl hc160 ?_
              refine wp_seq ?_
              refine wp_region_lit ?_
              refine op_val (v := .agg #[.slice B144 p134.1.length d145, .slice B146 p134.2.1.length d147, .slice B148 p134.2.2.1.length d149]) rfl rfl hF rfl (run_loadN rfl ag31 (hF.ev rfl) rfl ((S.free 3 rfl).cells 0 #[.slice B144 p134.1.length d145, .slice B146 p134.2.1.length d147, .slice B148 p134.2.2.1.length d149] rfl)) ?_; clear hF; intro a hF
              refine op_do rfl rfl (run_store (cs' := #[.slice B144 p134.1.length d145, .slice B146 p134.2.1.length d147, .slice B148 p134.2.2.1.length d149]) rfl sz31 (hF.ev rfl) (hF.ev rfl) rfl rfl rfl (S.free 4 rfl) rfl rfl) ?_; replace S := S.put 4 rfl (#[.slice B144 p134.1.length d145, .slice B146 p134.2.1.length d147, .slice B148 p134.2.2.1.length d149])
              generalize World.setRow _ _ _ = u at S ⊢
              refine wpList_nil ?_
              refine wp_region_lit ?_
              refine op_val (v := .int .i64 p125.1) rfl rfl hF rfl (run_move rfl (hF.ev rfl)) ?_; clear hF; intro a hF
              refine op_val (v := .int .i64 (w64 (p125.1 + 1))) rfl rfl hF rfl (run_add (z := w64 (p125.1 + 1)) (hF.ev rfl) rfl rfl rfl) ?_; clear hF; intro a hF
              refine op_val (v := .int .i64 (w64 (p125.1 + 1))) rfl rfl hF rfl (run_assign rfl (hF.ev rfl)) ?_; clear hF; intro a hF
              refine wpList_nil ?_
              obtain rfl := Option.some.inj hM159
              exact ⟨(w64 (p125.1 + 1), p134.1, p134.2.1, p134.2.2.1), B144, d145, B146, d147, B148, d149, rfl, hF.keep _ ⟨rfl, rfl, rfl, rfl, rfl, rfl, trivial⟩, S.sel [4, 5, 0, 1, 2] rfl rfl⟩
          · rintro a u ⟨p151, B153, d154, B155, d156, B157, d158, rfl, hF, S⟩
            refine wp_region_lit ?_
            refine op_val (v := .int .i64 p125.2.1) rfl rfl hF rfl (run_move rfl (hF.ev rfl)) ?_; clear hF; intro a hF
            refine op_val (v := .int .i64 (w64 (p125.2.1 + 1))) rfl rfl hF rfl (run_add (z := w64 (p125.2.1 + 1)) (hF.ev rfl) rfl rfl rfl) ?_; clear hF; intro a hF
            refine op_val (v := .int .i64 (w64 (p125.2.1 + 1))) rfl rfl hF rfl (run_assign rfl (hF.ev rfl)) ?_; clear hF; intro a hF
            refine wpList_nil ?_
            exact ⟨f1, Nat.lt_succ_self _, (p151.1, w64 (p125.2.1 + 1), p151.2.1, p151.2.2.1, p151.2.2.2), B153, d154, B155, d156, B157, d158, hM124, hF.keep _ ⟨rfl, rfl, rfl, rfl, rfl, rfl, trivial⟩, S.sel [0, 1, 2, 3, 4] rfl rfl⟩
    · rintro a u ⟨p116, B118, d119, B120, d121, B122, d123, rfl, hF, S⟩
      refine wp_seq ?_
      refine wp_region_lit ?_
      refine op_val (v := .agg #[.slice B118 p116.2.1.length d119, .slice B120 p116.2.2.1.length d121, .slice B122 p116.2.2.2.length d123]) rfl rfl hF rfl (run_loadN rfl ag31 (hF.ev rfl) rfl ((S.free 0 rfl).cells 0 #[.slice B118 p116.2.1.length d119, .slice B120 p116.2.2.1.length d121, .slice B122 p116.2.2.2.length d123] rfl)) ?_; clear hF; intro a hF
      refine op_val (v := .int .i64 p116.1) rfl rfl hF rfl (run_move rfl (hF.ev rfl)) ?_; clear hF; intro a hF
      refine op_do rfl rfl (run_store (cs' := #[.slice B118 p116.2.1.length d119, .slice B120 p116.2.2.1.length d121, .slice B122 p116.2.2.2.length d123]) rfl sz31 (hF.ev rfl) (hF.ev rfl) rfl rfl rfl (S.free 1 rfl) rfl rfl) ?_; replace S := S.put 1 rfl (#[.slice B118 p116.2.1.length d119, .slice B120 p116.2.2.1.length d121, .slice B122 p116.2.2.2.length d123])
      generalize World.setRow _ _ _ = u at S ⊢
      refine op_val (v := .int .i64 p116.1) rfl rfl hF rfl (run_assign rfl (hF.ev rfl)) ?_; clear hF; intro a hF
      refine wpList_nil ?_
      refine wp_ret ?_
      repeat with_reducible (first | refine then_ret ?_ | refine in_ret ?_ | refine in_nrm ?_)
      refine ret2_gw (.inl rfl) hF rfl (res_cell (hF.ev rfl) (res_loadN ag31 rfl (S.cells 1 rfl 0 #[.slice B118 p116.2.1.length d119, .slice B120 p116.2.2.1.length d121, .slice B122 p116.2.2.2.length d123] rfl))) (res_tmp (hF.ev rfl)) ?_
      obtain rfl := Option.some.inj hM
      exact ⟨B118, p116.2.1.length, d119, B120, p116.2.2.1.length, d121, B122, p116.2.2.2.length, d123, rfl, rfl, rfl, rfl, S.sel [2, 3, 4] rfl rfl⟩

set_option maxHeartbeats 4000000 in
theorem c_impl_WorkRun {x0 : List Bool} {x1 : List Bool} {x2 : List (Int × Int)} {x3 : List (Int × Int × Int)} {A0 : Option Addr} {n0 c0 : Nat} {A1 : Option Addr} {n1 c1 : Nat} {A2 : Option Addr} {n2 c2 : Nat} {A3 : Option Addr} {n3 c3 : Nat} {w : World} {r : List Bool × List Bool × List (Int × Int) × Int} (h0 : Rt w 1 eB A0 n0 c0 x0) (h1 : Rt w 1 eB A1 n1 c1 x1) (h2 : Rt w 2 ePermit A2 n2 c2 x2) (h3 : Rt w 3 eWorkDeed A3 n3 c3 x3) (hM : m_impl_WorkRun x0 x1 x2 x3 = some r) :
    Calls Try.prog 16 #[.agg #[.slice A0 n0 c0, .slice A1 n1 c1, .slice A2 n2 c2], .slice A3 n3 c3] w (fun e w' => ∃ (B0 : Option Addr) (N0 D0 : Nat) (B1 : Option Addr) (N1 D1 : Nat) (B2 : Option Addr) (N2 D2 : Nat), e = .returned (.tuple #[.agg #[.slice B0 N0 D0, .slice B1 N1 D1, .slice B2 N2 D2], .int .i64 r.2.2.2]) ∧ N0 = r.1.length ∧ N1 = r.2.1.length ∧ N2 = r.2.2.1.length ∧ St w w' [.row 4 1 (.slice B0 N0 D0) N0 (r.1.flatMap eB), .row 4 1 (.slice B1 N1 D1) N1 (r.2.1.flatMap eB), .row 56 2 (.slice B2 N2 D2) N2 (r.2.2.1.flatMap ePermit)]) := by
  obtain rfl := h0.len
  obtain rfl := h1.len
  obtain rfl := h2.len
  obtain rfl := h3.len
  unfold m_impl_WorkRun at hM
  refine calls_gw Try.func16 Try.ntmps16 rfl [(0, .agg #[.slice A0 x0.length c0, .slice A1 x1.length c1, .slice A2 x2.length c2]), (1, .slice A3 x3.length c3)] ⟨rfl, rfl, trivial⟩ rfl ?_
  intro a hF
  have S := St.nil w
  refine wp_seq ?_
  refine wp_region_lit ?_
  refine op_new (cs := #[.slice A0 x0.length c0, .slice A1 x1.length c1, .slice A2 x2.length c2]) rfl rfl hF rfl S (run_box rfl (hF.ev rfl) rfl) ?_; clear hF S; intro a g101 u hF S
  refine op_new (cs := #[.slice none 0 0, .slice none 0 0, .slice none 0 0]) rfl rfl hF rfl S (run_allocZ rfl zr31) ?_; clear hF S; intro a g102 u hF S
  refine op_val (v := .int .i64 0) rfl rfl hF rfl (run_assign rfl rfl) ?_; clear hF; intro a hF
  refine wpList_nil ?_
  refine wp_seq ?_
  refine wp_seq ?_
  refine wp_region_lit ?_
  refine op_val (v := .agg #[.slice A0 x0.length c0, .slice A1 x1.length c1, .slice A2 x2.length c2]) rfl rfl hF rfl (run_loadN rfl ag31 (hF.ev rfl) rfl ((S.free 1 rfl).cells 0 #[.slice A0 x0.length c0, .slice A1 x1.length c1, .slice A2 x2.length c2] rfl)) ?_; clear hF; intro a hF
  obtain ⟨p103, h103, hM⟩ := bind_ex hM
  refine op_call rfl rfl hF rfl (run_call (vs := [.agg #[.slice A0 x0.length c0, .slice A1 x1.length c1, .slice A2 x2.length c2]]) rfl rfl co28 ⟨(hF.ev rfl), trivial⟩) (c_impl_WorkValid (x0 := x0) (x1 := x1) (x2 := x2) ⟨(S.rc0 h0.rc), rfl⟩ ⟨(S.rc0 h1.rc), rfl⟩ ⟨(S.rc0 h2.rc), rfl⟩ h103) ?_
  rintro e u ⟨rfl, T⟩
  refine ⟨_, rfl, ?_⟩
  clear hF; intro a hF
  replace S := S.call0 T; clear T
  refine op_val (v := .bool (!p103)) rfl rfl hF rfl (run_not rfl (hF.ev rfl)) ?_; clear hF; intro a hF
  refine wpList_nil ?_
  cases hc104 : (p103)
  · replace hM := bif_f hc104 hM
    refine cond_t hF rfl (not_t hc104) ?_
    refine wp_seq ?_
    refine wp_region_lit ?_
    refine op_val (v := .agg #[.slice none 0 0, .slice none 0 0, .slice none 0 0]) rfl rfl hF rfl (run_build (vs := []) rfl trivial (bd31 )) ?_; clear hF; intro a hF
    refine op_do rfl rfl (run_store (cs' := #[.slice none 0 0, .slice none 0 0, .slice none 0 0]) rfl sz31 (hF.ev rfl) (hF.ev rfl) rfl rfl rfl (S.free 0 rfl) rfl rfl) ?_; replace S := S.put 0 rfl (#[.slice none 0 0, .slice none 0 0, .slice none 0 0])
    generalize World.setRow _ _ _ = u at S ⊢
    refine op_val (v := .int .i64 0) rfl rfl hF rfl (run_assign rfl rfl) ?_; clear hF; intro a hF
    refine wpList_nil ?_
    refine wp_ret ?_
    repeat with_reducible (first | refine then_ret ?_ | refine in_ret ?_ | refine in_nrm ?_)
    refine ret2_gw (.inl rfl) hF rfl (res_cell (hF.ev rfl) (res_loadN ag31 rfl (S.cells 0 rfl 0 #[.slice none 0 0, .slice none 0 0, .slice none 0 0] rfl))) (res_tmp (hF.ev rfl)) ?_
    obtain rfl := Option.some.inj hM
    replace S := S.nilrow 4 1
    replace S := S.nilrow 4 1
    replace S := S.nilrow 56 2
    exact ⟨none, 0, 0, none, 0, 0, none, 0, 0, rfl, rfl, rfl, rfl, S.sel [2, 1, 0] rfl rfl⟩
  · replace hM := bif_t hc104 hM
    refine cond_f hF rfl (not_f hc104) ?_
    refine wp_skip ?_
    refine wp_seq ?_
    refine wp_region_lit ?_
    refine op_val (v := .agg #[.slice A0 x0.length c0, .slice A1 x1.length c1, .slice A2 x2.length c2]) rfl rfl hF rfl (run_loadN rfl ag31 (hF.ev rfl) rfl ((S.free 1 rfl).cells 0 #[.slice A0 x0.length c0, .slice A1 x1.length c1, .slice A2 x2.length c2] rfl)) ?_; clear hF; intro a hF
    obtain ⟨p105, h105, hM⟩ := bind_ex hM
    refine op_call rfl rfl hF rfl (run_call (vs := [.agg #[.slice A0 x0.length c0, .slice A1 x1.length c1, .slice A2 x2.length c2]]) rfl rfl co29 ⟨(hF.ev rfl), trivial⟩) (c_impl_Work_clone (x0 := x0) (x1 := x1) (x2 := x2) ⟨(S.rc0 h0.rc), rfl⟩ ⟨(S.rc0 h1.rc), rfl⟩ ⟨(S.rc0 h2.rc), rfl⟩ h105) ?_
    rintro e u ⟨B106, n107, d108, B109, n110, d111, B112, n113, d114, rfl, rfl, rfl, rfl, T⟩
    refine ⟨_, rfl, ?_⟩
    clear hF; intro a hF
    replace S := S.call3 T; clear T
    refine op_new (cs := #[.slice none 0 0, .slice none 0 0, .slice none 0 0]) rfl rfl hF rfl S (run_allocZ rfl zr31) ?_; clear hF S; intro a g115 u hF S
    refine op_do rfl rfl (run_store (cs' := #[.slice B106 p105.1.length d108, .slice B109 p105.2.1.length d111, .slice B112 p105.2.2.length d114]) rfl sz31 (hF.ev rfl) (hF.ev rfl) rfl rfl rfl (S.free 0 rfl) rfl rfl) ?_; replace S := S.put 0 rfl (#[.slice B106 p105.1.length d108, .slice B109 p105.2.1.length d111, .slice B112 p105.2.2.length d114])
    generalize World.setRow _ _ _ = u at S ⊢
    refine op_val (v := .int .i64 0) rfl rfl hF rfl (run_assign rfl rfl) ?_; clear hF; intro a hF
    refine wpList_nil ?_
    refine wp_seq ?_
    refine wp_seq ?_
    refine wp_region_lit ?_
    refine op_val (v := .slice A3 x3.length c3) rfl rfl hF rfl (run_move rfl (hF.ev rfl)) ?_; clear hF; intro a hF
    refine op_val (v := .int .i64 (x3.length : Int)) rfl rfl hF rfl (run_lenL rfl rfl Try.underlying44 (hF.ev rfl)) ?_; clear hF; intro a hF
    refine op_val (v := .int .i64 0) rfl rfl hF rfl (run_move rfl rfl) ?_; clear hF; intro a hF
    refine wpList_nil ?_
    obtain ⟨o117, hM124, hM⟩ := bind_ex hM
    refine wp_cut (fun a u => ∃ (p116 : Int × List Bool × List Bool × List (Int × Int)) (B118 : Option Addr) (d119 : Nat) (B120 : Option Addr) (d121 : Nat) (B122 : Option Addr) (d123 : Nat), p116 = o117 ∧ Fr a 37 [(4, .pointer (some ⟨g102, 0, none⟩)), (5, .int .i64 0), (6, .pointer (some ⟨g115, 0, none⟩)), (7, .int .i64 p116.1)] ∧ St w u [.box g115 31 #[.slice B118 p116.2.1.length d119, .slice B120 p116.2.2.1.length d121, .slice B122 p116.2.2.2.length d123], .box g102 31 #[.slice none 0 0, .slice none 0 0, .slice none 0 0], .row 4 1 (.slice B118 p116.2.1.length d119) p116.2.1.length (p116.2.1.flatMap eB), .row 4 1 (.slice B120 p116.2.2.1.length d121) p116.2.2.1.length (p116.2.2.1.flatMap eB), .row 56 2 (.slice B122 p116.2.2.2.length d123) p116.2.2.2.length (p116.2.2.2.flatMap ePermit)]) ?_ ?_
    · have _ := trivial
      refine wp_block ?_
      refine loop_gw (fun m a u => ∃ (p125 : Int × Int × List Bool × List Bool × List (Int × Int)) (B126 : Option Addr) (d127 : Nat) (B128 : Option Addr) (d129 : Nat) (B130 : Option Addr) (d131 : Nat), m_impl_WorkRun_l1 x3 m p125 = some _ ∧ Fr a 37 [(4, .pointer (some ⟨g102, 0, none⟩)), (5, .int .i64 0), (6, .pointer (some ⟨g115, 0, none⟩)), (7, .int .i64 p125.1), (18, .slice A3 x3.length c3), (19, .int .i64 (x3.length : Int)), (20, .int .i64 p125.2.1)] ∧ St w u [.box g115 31 #[.slice B126 p125.2.2.1.length d127, .slice B128 p125.2.2.2.1.length d129, .slice B130 p125.2.2.2.2.length d131], .box g102 31 #[.slice none 0 0, .slice none 0 0, .slice none 0 0], .row 4 1 (.slice B126 p125.2.2.1.length d127) p125.2.2.1.length (p125.2.2.1.flatMap eB), .row 4 1 (.slice B128 p125.2.2.2.1.length d129) p125.2.2.2.1.length (p125.2.2.2.1.flatMap eB), .row 56 2 (.slice B130 p125.2.2.2.2.length d131) p125.2.2.2.2.length (p125.2.2.2.2.flatMap ePermit)]) FUEL ⟨(0, 0, p105.1, p105.2.1, p105.2.2), B106, d108, B109, d111, B112, d114, hM124, hF.keep _ ⟨rfl, rfl, rfl, rfl, rfl, rfl, rfl, trivial⟩, S.sel [0, 4, 1, 2, 3] rfl rfl⟩ ?_
      clear hF S hM124; rintro m a u ⟨p125, B126, d127, B128, d129, B130, d131, hM124, hF, S⟩
      rcases m with _ | f1
      · exact none_some hM124
      rw [m_impl_WorkRun_l1.eq_2] at hM124
      refine wp_seq ?_
      refine wp_region_lit ?_
      refine op_val (v := .bool (ltB p125.2.1 (x3.length : Int))) rfl rfl hF rfl (run_lss (hF.ev rfl) (hF.ev rfl) rfl) ?_; clear hF; intro a hF
      refine wpList_nil ?_
      refine wp_seq ?_
      cases hc132 : (ltB p125.2.1 (x3.length : Int))
      · replace hM124 := bif_f hc132 hM124
        refine cond_f hF rfl hc132 ?_
        refine wp_exit ?_
        repeat with_reducible (first | refine then_exit ?_ | refine in_hit ?_ | refine in_miss rfl ?_)
        obtain rfl := Option.some.inj hM124
        exact ⟨(p125.1, p125.2.2.1, p125.2.2.2.1, p125.2.2.2.2), B126, d127, B128, d129, B130, d131, rfl, hF.keep _ ⟨rfl, rfl, rfl, rfl, trivial⟩, S.sel [0, 1, 2, 3, 4] rfl rfl⟩
      · replace hM124 := bif_t hc132 hM124
        refine cond_t hF rfl hc132 ?_
        refine wp_skip ?_
        refine wp_seq ?_
        refine wp_block ?_
        refine wp_seq ?_
        refine wp_region_lit ?_
        obtain ⟨hk133, hM124⟩ := chk_ex hM124
        replace hk133 := ixB_t hk133
        refine op_val (v := .pointer (some ⟨adB A3, adO A3 + p125.2.1.toNat * 3, none⟩)) rfl rfl hF rfl (run_indexAddr (b := adB A3) (off := adO A3) rfl Try.underlying44 sz35 ((hF.ev rfl).trans (congrArg (fun A => Value.slice A x3.length c3) ((S.rc0 h3.rc).rd.ad (ix_pos hk133)))) (hF.ev rfl) hk133.1 hk133.2 (k' := adO A3 + p125.2.1.toNat * 3) rfl) ?_; clear hF; intro a hF
        refine op_val (v := .agg #[.int .i64 ((x3.getD p125.2.1.toNat ((0, 0, 0) : Int × Int × Int)).1), .int .i64 ((x3.getD p125.2.1.toNat ((0, 0, 0) : Int × Int × Int)).2.1), .int .i64 ((x3.getD p125.2.1.toNat ((0, 0, 0) : Int × Int × Int)).2.2)]) rfl rfl hF rfl (run_loadN (cs := #[.int .i64 ((x3.getD p125.2.1.toNat ((0, 0, 0) : Int × Int × Int)).1), .int .i64 ((x3.getD p125.2.1.toNat ((0, 0, 0) : Int × Int × Int)).2.1), .int .i64 ((x3.getD p125.2.1.toNat ((0, 0, 0) : Int × Int × Int)).2.2)]) rfl ag35 (hF.ev rfl) rfl (rd_elN (l := x3) (S.rc0 h3.rc).rd rfl eWorkDeed_len ((0, 0, 0) : Int × Int × Int) (ix_ltn hk133 rfl) rfl)) ?_; clear hF; intro a hF
        refine op_new (cs := #[.int .i64 0, .int .i64 0, .int .i64 0]) rfl rfl hF rfl S (run_allocZ rfl zr35) ?_; clear hF S; intro a g134 u hF S
        refine op_do rfl rfl (run_store (cs' := #[.int .i64 ((x3.getD p125.2.1.toNat ((0, 0, 0) : Int × Int × Int)).1), .int .i64 ((x3.getD p125.2.1.toNat ((0, 0, 0) : Int × Int × Int)).2.1), .int .i64 ((x3.getD p125.2.1.toNat ((0, 0, 0) : Int × Int × Int)).2.2)]) rfl sz35 (hF.ev rfl) (hF.ev rfl) rfl rfl rfl (S.free 0 rfl) rfl rfl) ?_; replace S := S.put 0 rfl (#[.int .i64 ((x3.getD p125.2.1.toNat ((0, 0, 0) : Int × Int × Int)).1), .int .i64 ((x3.getD p125.2.1.toNat ((0, 0, 0) : Int × Int × Int)).2.1), .int .i64 ((x3.getD p125.2.1.toNat ((0, 0, 0) : Int × Int × Int)).2.2)])
        generalize World.setRow _ _ _ = u at S ⊢
        refine wpList_nil ?_
        refine wp_seq ?_
        refine wp_region_lit ?_
        refine op_val (v := .agg #[.slice B126 p125.2.2.1.length d127, .slice B128 p125.2.2.2.1.length d129, .slice B130 p125.2.2.2.2.length d131]) rfl rfl hF rfl (run_loadN rfl ag31 (hF.ev rfl) rfl ((S.free 1 rfl).cells 0 #[.slice B126 p125.2.2.1.length d127, .slice B128 p125.2.2.2.1.length d129, .slice B130 p125.2.2.2.2.length d131] rfl)) ?_; clear hF; intro a hF
        refine op_val (v := .agg #[.int .i64 ((x3.getD p125.2.1.toNat ((0, 0, 0) : Int × Int × Int)).1), .int .i64 ((x3.getD p125.2.1.toNat ((0, 0, 0) : Int × Int × Int)).2.1), .int .i64 ((x3.getD p125.2.1.toNat ((0, 0, 0) : Int × Int × Int)).2.2)]) rfl rfl hF rfl (run_loadN rfl ag35 (hF.ev rfl) rfl ((S.free 0 rfl).cells 0 #[.int .i64 ((x3.getD p125.2.1.toNat ((0, 0, 0) : Int × Int × Int)).1), .int .i64 ((x3.getD p125.2.1.toNat ((0, 0, 0) : Int × Int × Int)).2.1), .int .i64 ((x3.getD p125.2.1.toNat ((0, 0, 0) : Int × Int × Int)).2.2)] rfl)) ?_; clear hF; intro a hF
        obtain ⟨p135, h135, hM124⟩ := bind_ex hM124
        refine op_call rfl rfl hF rfl (run_call (vs := [.agg #[.slice B126 p125.2.2.1.length d127, .slice B128 p125.2.2.2.1.length d129, .slice B130 p125.2.2.2.2.length d131], .agg #[.int .i64 ((x3.getD p125.2.1.toNat ((0, 0, 0) : Int × Int × Int)).1), .int .i64 ((x3.getD p125.2.1.toNat ((0, 0, 0) : Int × Int × Int)).2.1), .int .i64 ((x3.getD p125.2.1.toNat ((0, 0, 0) : Int × Int × Int)).2.2)]]) rfl rfl co9 ⟨(hF.ev rfl), (hF.ev rfl), trivial⟩) (c_impl_WorkDo (x0 := p125.2.2.1) (x1 := p125.2.2.2.1) (x2 := p125.2.2.2.2) (x3 := (x3.getD p125.2.1.toNat ((0, 0, 0) : Int × Int × Int)).1) (x4 := (x3.getD p125.2.1.toNat ((0, 0, 0) : Int × Int × Int)).2.1) (x5 := (x3.getD p125.2.1.toNat ((0, 0, 0) : Int × Int × Int)).2.2) ⟨(S.rc 3 rfl), rfl⟩ ⟨(S.rc 4 rfl), rfl⟩ ⟨(S.rc 5 rfl), rfl⟩ h135) ?_
        rintro e u ⟨B136, n137, d138, B139, n140, d141, B142, n143, d144, rfl, rfl, rfl, rfl, T⟩
        refine ⟨_, rfl, ?_⟩
        clear hF; intro a hF
        replace S := S.call3 T; clear T
        refine op_val (v := .tuple #[.agg #[.slice B136 p135.1.length d138, .slice B139 p135.2.1.length d141, .slice B142 p135.2.2.1.length d144], .bool p135.2.2.2]) rfl rfl hF rfl (run_move rfl (hF.ev rfl)) ?_; clear hF; intro a hF
        refine op_val (v := .agg #[.slice B136 p135.1.length d138, .slice B139 p135.2.1.length d141, .slice B142 p135.2.2.1.length d144]) rfl rfl hF rfl (run_extract rfl (hF.ev rfl) rfl) ?_; clear hF; intro a hF
        refine op_val (v := .bool p135.2.2.2) rfl rfl hF rfl (run_extract rfl (hF.ev rfl) rfl) ?_; clear hF; intro a hF
        refine op_new (cs := #[.slice none 0 0, .slice none 0 0, .slice none 0 0]) rfl rfl hF rfl S (run_allocZ rfl zr31) ?_; clear hF S; intro a g145 u hF S
        refine op_do rfl rfl (run_store (cs' := #[.slice B136 p135.1.length d138, .slice B139 p135.2.1.length d141, .slice B142 p135.2.2.1.length d144]) rfl sz31 (hF.ev rfl) (hF.ev rfl) rfl rfl rfl (S.free 0 rfl) rfl rfl) ?_; replace S := S.put 0 rfl (#[.slice B136 p135.1.length d138, .slice B139 p135.2.1.length d141, .slice B142 p135.2.2.1.length d144])
        generalize World.setRow _ _ _ = u at S ⊢
        refine op_val (v := .bool p135.2.2.2) rfl rfl hF rfl (run_assign rfl (hF.ev rfl)) ?_; clear hF; intro a hF
        refine wpList_nil ?_
        refine wp_seq ?_
        refine wp_region_lit ?_
        refine op_val (v := .bool p135.2.2.2) rfl rfl hF rfl (run_move rfl (hF.ev rfl)) ?_; clear hF; intro a hF
        refine wpList_nil ?_
        obtain ⟨o147, hM154, hM124⟩ := bind_ex hM124
        refine wp_cut (fun a u => ∃ (p146 : Int × List Bool × List Bool × List (Int × Int)) (B148 : Option Addr) (d149 : Nat) (B150 : Option Addr) (d151 : Nat) (B152 : Option Addr) (d153 : Nat), p146 = o147 ∧ Fr a 37 [(4, .pointer (some ⟨g102, 0, none⟩)), (5, .int .i64 0), (6, .pointer (some ⟨g115, 0, none⟩)), (7, .int .i64 p146.1), (18, .slice A3 x3.length c3), (19, .int .i64 (x3.length : Int)), (20, .int .i64 p125.2.1)] ∧ St w u [.box g115 31 #[.slice B148 p146.2.1.length d149, .slice B150 p146.2.2.1.length d151, .slice B152 p146.2.2.2.length d153], .box g102 31 #[.slice none 0 0, .slice none 0 0, .slice none 0 0], .row 4 1 (.slice B148 p146.2.1.length d149) p146.2.1.length (p146.2.1.flatMap eB), .row 4 1 (.slice B150 p146.2.2.1.length d151) p146.2.2.1.length (p146.2.2.1.flatMap eB), .row 56 2 (.slice B152 p146.2.2.2.length d153) p146.2.2.2.length (p146.2.2.2.flatMap ePermit)]) ?_ ?_
        · have _ := trivial
          cases hc155 : (p135.2.2.2)
          · replace hM154 := bif_f hc155 hM154
            refine cond_f hF rfl hc155 ?_
            refine wp_skip ?_
            obtain rfl := Option.some.inj hM154
            exact ⟨(p125.1, p125.2.2.1, p125.2.2.2.1, p125.2.2.2.2), B126, d127, B128, d129, B130, d131, rfl, hF.keep _ ⟨rfl, rfl, rfl, rfl, rfl, rfl, rfl, trivial⟩, S.sel [5, 6, 7, 8, 9] rfl rfl⟩
          · replace hM154 := bif_t hc155 hM154
            refine cond_t hF rfl hc155 ?_
            refine wp_seq ?_
            refine wp_region_lit ?_
            refine op_val (v := .agg #[.slice B136 p135.1.length d138, .slice B139 p135.2.1.length d141, .slice B142 p135.2.2.1.length d144]) rfl rfl hF rfl (run_loadN rfl ag31 (hF.ev rfl) rfl ((S.free 0 rfl).cells 0 #[.slice B136 p135.1.length d138, .slice B139 p135.2.1.length d141, .slice B142 p135.2.2.1.length d144] rfl)) ?_; clear hF; intro a hF
            refine op_do rfl rfl (run_store (cs' := #[.slice B136 p135.1.length d138, .slice B139 p135.2.1.length d141, .slice B142 p135.2.2.1.length d144]) rfl sz31 (hF.ev rfl) (hF.ev rfl) rfl rfl rfl (S.free 5 rfl) rfl rfl) ?_; replace S := S.put 5 rfl (#[.slice B136 p135.1.length d138, .slice B139 p135.2.1.length d141, .slice B142 p135.2.2.1.length d144])
            generalize World.setRow _ _ _ = u at S ⊢
            refine wpList_nil ?_
            refine wp_region_lit ?_
            refine op_val (v := .int .i64 p125.1) rfl rfl hF rfl (run_move rfl (hF.ev rfl)) ?_; clear hF; intro a hF
            refine op_val (v := .int .i64 (w64 (p125.1 + 1))) rfl rfl hF rfl (run_add (z := w64 (p125.1 + 1)) (hF.ev rfl) rfl rfl rfl) ?_; clear hF; intro a hF
            refine op_val (v := .int .i64 (w64 (p125.1 + 1))) rfl rfl hF rfl (run_assign rfl (hF.ev rfl)) ?_; clear hF; intro a hF
            refine wpList_nil ?_
            obtain rfl := Option.some.inj hM154
            exact ⟨(w64 (p125.1 + 1), p135.1, p135.2.1, p135.2.2.1), B136, d138, B139, d141, B142, d144, rfl, hF.keep _ ⟨rfl, rfl, rfl, rfl, rfl, rfl, rfl, trivial⟩, S.sel [5, 6, 1, 2, 3] rfl rfl⟩
        · rintro a u ⟨p146, B148, d149, B150, d151, B152, d153, rfl, hF, S⟩
          refine wp_region_lit ?_
          refine op_val (v := .int .i64 (w64 (p125.2.1 + 1))) rfl rfl hF rfl (run_add (z := w64 (p125.2.1 + 1)) (hF.ev rfl) rfl rfl rfl) ?_; clear hF; intro a hF
          refine op_val (v := .int .i64 (w64 (p125.2.1 + 1))) rfl rfl hF rfl (run_move rfl (hF.ev rfl)) ?_; clear hF; intro a hF
          refine wpList_nil ?_
          exact ⟨f1, Nat.lt_succ_self _, (p146.1, w64 (p125.2.1 + 1), p146.2.1, p146.2.2.1, p146.2.2.2), B148, d149, B150, d151, B152, d153, hM124, hF.keep _ ⟨rfl, rfl, rfl, rfl, rfl, rfl, rfl, trivial⟩, S.sel [0, 1, 2, 3, 4] rfl rfl⟩
    · rintro a u ⟨p116, B118, d119, B120, d121, B122, d123, rfl, hF, S⟩
      refine wp_seq ?_
      refine wp_region_lit ?_
      refine op_val (v := .agg #[.slice B118 p116.2.1.length d119, .slice B120 p116.2.2.1.length d121, .slice B122 p116.2.2.2.length d123]) rfl rfl hF rfl (run_loadN rfl ag31 (hF.ev rfl) rfl ((S.free 0 rfl).cells 0 #[.slice B118 p116.2.1.length d119, .slice B120 p116.2.2.1.length d121, .slice B122 p116.2.2.2.length d123] rfl)) ?_; clear hF; intro a hF
      refine op_val (v := .int .i64 p116.1) rfl rfl hF rfl (run_move rfl (hF.ev rfl)) ?_; clear hF; intro a hF
      refine op_do rfl rfl (run_store (cs' := #[.slice B118 p116.2.1.length d119, .slice B120 p116.2.2.1.length d121, .slice B122 p116.2.2.2.length d123]) rfl sz31 (hF.ev rfl) (hF.ev rfl) rfl rfl rfl (S.free 1 rfl) rfl rfl) ?_; replace S := S.put 1 rfl (#[.slice B118 p116.2.1.length d119, .slice B120 p116.2.2.1.length d121, .slice B122 p116.2.2.2.length d123])
      generalize World.setRow _ _ _ = u at S ⊢
      refine op_val (v := .int .i64 p116.1) rfl rfl hF rfl (run_assign rfl (hF.ev rfl)) ?_; clear hF; intro a hF
      refine wpList_nil ?_
      refine wp_ret ?_
      repeat with_reducible (first | refine then_ret ?_ | refine in_ret ?_ | refine in_nrm ?_)
      refine ret2_gw (.inl rfl) hF rfl (res_cell (hF.ev rfl) (res_loadN ag31 rfl (S.cells 1 rfl 0 #[.slice B118 p116.2.1.length d119, .slice B120 p116.2.2.1.length d121, .slice B122 p116.2.2.2.length d123] rfl))) (res_tmp (hF.ev rfl)) ?_
      obtain rfl := Option.some.inj hM
      exact ⟨B118, p116.2.1.length, d119, B120, p116.2.2.1.length, d121, B122, p116.2.2.2.length, d123, rfl, rfl, rfl, rfl, S.sel [2, 3, 4] rfl rfl⟩

set_option maxHeartbeats 4000000 in
theorem c_laws_eqWorkDeed {x0 : Int} {x1 : Int} {x2 : Int} {x3 : Int} {x4 : Int} {x5 : Int} {w : World} {r : Bool}  (hM : m_laws_eqWorkDeed x0 x1 x2 x3 x4 x5 = some r) :
    Calls Try.prog 39 #[.agg #[.int .i64 x0, .int .i64 x1, .int .i64 x2], .agg #[.int .i64 x3, .int .i64 x4, .int .i64 x5]] w (fun e w' => e = .returned (.bool r) ∧ St w w' []) := by
  unfold m_laws_eqWorkDeed at hM
  refine calls_gw Try.func39 Try.ntmps39 rfl [(0, .agg #[.int .i64 x0, .int .i64 x1, .int .i64 x2]), (1, .agg #[.int .i64 x3, .int .i64 x4, .int .i64 x5])] ⟨rfl, rfl, trivial⟩ rfl ?_
  intro a hF
  have S := St.nil w
  refine wp_seq ?_
  refine wp_region_lit ?_
  refine op_new (cs := #[.int .i64 x0, .int .i64 x1, .int .i64 x2]) rfl rfl hF rfl S (run_box rfl (hF.ev rfl) rfl) ?_; clear hF S; intro a g101 u hF S
  refine op_new (cs := #[.int .i64 x3, .int .i64 x4, .int .i64 x5]) rfl rfl hF rfl S (run_box rfl (hF.ev rfl) rfl) ?_; clear hF S; intro a g102 u hF S
  refine op_val (v := .bool false) rfl rfl hF rfl (run_assign rfl rfl) ?_; clear hF; intro a hF
  refine wpList_nil ?_
  refine wp_seq ?_
  refine wp_seq ?_
  refine wp_region_lit ?_
  refine op_val (v := .pointer (some ⟨g101, 0, none⟩)) rfl rfl hF rfl (run_fieldAddr rfl fl35_0 (hF.ev rfl) rfl) ?_; clear hF; intro a hF
  refine op_val (v := .int .i64 x0) rfl rfl hF rfl (run_load1 rfl one3 (hF.ev rfl) ((S.free 1 rfl).cell rfl)) ?_; clear hF; intro a hF
  refine op_val (v := .pointer (some ⟨g102, 0, none⟩)) rfl rfl hF rfl (run_fieldAddr rfl fl35_0 (hF.ev rfl) rfl) ?_; clear hF; intro a hF
  refine op_val (v := .int .i64 x3) rfl rfl hF rfl (run_load1 rfl one3 (hF.ev rfl) ((S.free 0 rfl).cell rfl)) ?_; clear hF; intro a hF
  refine op_val (v := .bool (x0 != x3)) rfl rfl hF rfl (run_neq (hF.ev rfl) (hF.ev rfl) rfl) ?_; clear hF; intro a hF
  refine wpList_nil ?_
  cases hc103 : (x0 != x3)
  · replace hM := bif_f hc103 hM
    refine cond_f hF rfl hc103 ?_
    refine wp_skip ?_
    refine wp_seq ?_
    refine wp_seq ?_
    refine wp_region_lit ?_
    refine op_val (v := .pointer (some ⟨g101, 1, none⟩)) rfl rfl hF rfl (run_fieldAddr rfl fl35_1 (hF.ev rfl) rfl) ?_; clear hF; intro a hF
    refine op_val (v := .int .i64 x1) rfl rfl hF rfl (run_load1 rfl one3 (hF.ev rfl) ((S.free 1 rfl).cell rfl)) ?_; clear hF; intro a hF
    refine op_val (v := .pointer (some ⟨g102, 1, none⟩)) rfl rfl hF rfl (run_fieldAddr rfl fl35_1 (hF.ev rfl) rfl) ?_; clear hF; intro a hF
    refine op_val (v := .int .i64 x4) rfl rfl hF rfl (run_load1 rfl one3 (hF.ev rfl) ((S.free 0 rfl).cell rfl)) ?_; clear hF; intro a hF
    refine op_val (v := .bool (x1 != x4)) rfl rfl hF rfl (run_neq (hF.ev rfl) (hF.ev rfl) rfl) ?_; clear hF; intro a hF
    refine wpList_nil ?_
    cases hc104 : (x1 != x4)
    · replace hM := bif_f hc104 hM
      refine cond_f hF rfl hc104 ?_
      refine wp_skip ?_
      refine wp_seq ?_
      refine wp_seq ?_
      refine wp_region_lit ?_
      refine op_val (v := .pointer (some ⟨g101, 2, none⟩)) rfl rfl hF rfl (run_fieldAddr rfl fl35_2 (hF.ev rfl) rfl) ?_; clear hF; intro a hF
      refine op_val (v := .int .i64 x2) rfl rfl hF rfl (run_load1 rfl one3 (hF.ev rfl) ((S.free 1 rfl).cell rfl)) ?_; clear hF; intro a hF
      refine op_val (v := .pointer (some ⟨g102, 2, none⟩)) rfl rfl hF rfl (run_fieldAddr rfl fl35_2 (hF.ev rfl) rfl) ?_; clear hF; intro a hF
      refine op_val (v := .int .i64 x5) rfl rfl hF rfl (run_load1 rfl one3 (hF.ev rfl) ((S.free 0 rfl).cell rfl)) ?_; clear hF; intro a hF
      refine op_val (v := .bool (x2 != x5)) rfl rfl hF rfl (run_neq (hF.ev rfl) (hF.ev rfl) rfl) ?_; clear hF; intro a hF
      refine wpList_nil ?_
      cases hc105 : (x2 != x5)
      · replace hM := bif_f hc105 hM
        refine cond_f hF rfl hc105 ?_
        refine wp_skip ?_
        refine wp_seq ?_
        refine wp_region_lit ?_
        refine op_val (v := .bool true) rfl rfl hF rfl (run_assign rfl rfl) ?_; clear hF; intro a hF
        refine wpList_nil ?_
        refine wp_ret ?_
        repeat with_reducible (first | refine then_ret ?_ | refine in_ret ?_ | refine in_nrm ?_)
        refine ret1_gw (.inl rfl) hF rfl (res_tmp (hF.ev rfl)) ?_
        obtain rfl := Option.some.inj hM
        exact ⟨rfl, S.sel [] rfl rfl⟩
      · replace hM := bif_t hc105 hM
        refine cond_t hF rfl hc105 ?_
        refine wp_seq ?_
        refine wp_region_lit ?_
        refine op_val (v := .bool false) rfl rfl hF rfl (run_assign rfl rfl) ?_; clear hF; intro a hF
        refine wpList_nil ?_
        refine wp_ret ?_
        repeat with_reducible (first | refine then_ret ?_ | refine in_ret ?_ | refine in_nrm ?_)
        refine ret1_gw (.inl rfl) hF rfl (res_tmp (hF.ev rfl)) ?_
        obtain rfl := Option.some.inj hM
        exact ⟨rfl, S.sel [] rfl rfl⟩
    · replace hM := bif_t hc104 hM
      refine cond_t hF rfl hc104 ?_
      refine wp_seq ?_
      refine wp_region_lit ?_
      refine op_val (v := .bool false) rfl rfl hF rfl (run_assign rfl rfl) ?_; clear hF; intro a hF
      refine wpList_nil ?_
      refine wp_ret ?_
      repeat with_reducible (first | refine then_ret ?_ | refine in_ret ?_ | refine in_nrm ?_)
      refine ret1_gw (.inl rfl) hF rfl (res_tmp (hF.ev rfl)) ?_
      obtain rfl := Option.some.inj hM
      exact ⟨rfl, S.sel [] rfl rfl⟩
  · replace hM := bif_t hc103 hM
    refine cond_t hF rfl hc103 ?_
    refine wp_seq ?_
    refine wp_region_lit ?_
    refine op_val (v := .bool false) rfl rfl hF rfl (run_assign rfl rfl) ?_; clear hF; intro a hF
    refine wpList_nil ?_
    refine wp_ret ?_
    repeat with_reducible (first | refine then_ret ?_ | refine in_ret ?_ | refine in_nrm ?_)
    refine ret1_gw (.inl rfl) hF rfl (res_tmp (hF.ev rfl)) ?_
    obtain rfl := Option.some.inj hM
    exact ⟨rfl, S.sel [] rfl rfl⟩

set_option maxHeartbeats 4000000 in
theorem c_laws_eqWorkDeedS {x0 : List (Int × Int × Int)} {x1 : List (Int × Int × Int)} {A0 : Option Addr} {n0 c0 : Nat} {A1 : Option Addr} {n1 c1 : Nat} {w : World} {r : Bool} (h0 : Rt w 3 eWorkDeed A0 n0 c0 x0) (h1 : Rt w 3 eWorkDeed A1 n1 c1 x1) (hM : m_laws_eqWorkDeedS x0 x1 = some r) :
    Calls Try.prog 17 #[.slice A0 n0 c0, .slice A1 n1 c1] w (fun e w' => e = .returned (.bool r) ∧ St w w' []) := by
  obtain rfl := h0.len
  obtain rfl := h1.len
  unfold m_laws_eqWorkDeedS at hM
  refine calls_gw Try.func17 Try.ntmps17 rfl [(0, .slice A0 x0.length c0), (1, .slice A1 x1.length c1)] ⟨rfl, rfl, trivial⟩ rfl ?_
  intro a hF
  have S := St.nil w
  refine wp_seq ?_
  refine wp_region_lit ?_
  refine op_val (v := .bool false) rfl rfl hF rfl (run_assign rfl rfl) ?_; clear hF; intro a hF
  refine wpList_nil ?_
  refine wp_seq ?_
  refine wp_seq ?_
  refine wp_region_lit ?_
  refine op_val (v := .slice A0 x0.length c0) rfl rfl hF rfl (run_move rfl (hF.ev rfl)) ?_; clear hF; intro a hF
  refine op_val (v := .int .i64 (x0.length : Int)) rfl rfl hF rfl (run_lenL rfl rfl Try.underlying44 (hF.ev rfl)) ?_; clear hF; intro a hF
  refine op_val (v := .slice A1 x1.length c1) rfl rfl hF rfl (run_move rfl (hF.ev rfl)) ?_; clear hF; intro a hF
  refine op_val (v := .int .i64 (x1.length : Int)) rfl rfl hF rfl (run_lenL rfl rfl Try.underlying44 (hF.ev rfl)) ?_; clear hF; intro a hF
  refine op_val (v := .bool ((x0.length : Int) != (x1.length : Int))) rfl rfl hF rfl (run_neq (hF.ev rfl) (hF.ev rfl) rfl) ?_; clear hF; intro a hF
  refine wpList_nil ?_
  cases hc101 : ((x0.length : Int) != (x1.length : Int))
  · replace hM := bif_f hc101 hM
    refine cond_f hF rfl hc101 ?_
    refine wp_skip ?_
    refine wp_seq ?_
    refine wp_seq ?_
    refine wp_region_lit ?_
    refine op_val (v := .int .i64 0) rfl rfl hF rfl (run_assign rfl rfl) ?_; clear hF; intro a hF
    refine wpList_nil ?_
    obtain ⟨o103, hM104, hM⟩ := bind_ex hM
    refine wp_cut (fun a u => ∃ (p102 : Unit), (Sum.inl p102) = o103 ∧ Fr a 27 [(4, .bool false)] ∧ St w u []) ?_ ?_
    · have _ := trivial
      refine wp_block ?_
      refine loop_gw (fun m a u => ∃ (p105 : Int), m_laws_eqWorkDeedS_l1 x0 x1 m p105 = some _ ∧ Fr a 27 [(0, .slice A0 x0.length c0), (1, .slice A1 x1.length c1), (4, .bool false), (5, .int .i64 p105)] ∧ St w u []) FUEL ⟨0, hM104, hF.keep _ ⟨rfl, rfl, rfl, rfl, trivial⟩, S.sel [] rfl rfl⟩ ?_
      clear hF S hM104; rintro m a u ⟨p105, hM104, hF, S⟩
      rcases m with _ | f1
      · exact none_some hM104
      rw [m_laws_eqWorkDeedS_l1.eq_2] at hM104
      refine wp_seq ?_
      refine wp_seq ?_
      refine wp_region_lit ?_
      refine op_val (v := .int .i64 p105) rfl rfl hF rfl (run_move rfl (hF.ev rfl)) ?_; clear hF; intro a hF
      refine op_val (v := .slice A0 x0.length c0) rfl rfl hF rfl (run_move rfl (hF.ev rfl)) ?_; clear hF; intro a hF
      refine op_val (v := .int .i64 (x0.length : Int)) rfl rfl hF rfl (run_lenL rfl rfl Try.underlying44 (hF.ev rfl)) ?_; clear hF; intro a hF
      refine op_val (v := .bool (ltB p105 (x0.length : Int))) rfl rfl hF rfl (run_lss (hF.ev rfl) (hF.ev rfl) rfl) ?_; clear hF; intro a hF
      refine wpList_nil ?_
      cases hc106 : (ltB p105 (x0.length : Int))
      · replace hM104 := bif_f hc106 hM104
        refine cond_f hF rfl hc106 ?_
        refine wp_exit ?_
        repeat with_reducible (first | refine then_exit ?_ | refine in_hit ?_ | refine in_miss rfl ?_)
        obtain rfl := Option.some.inj hM104
        exact ⟨(), rfl, hF.keep _ ⟨rfl, trivial⟩, S.sel [] rfl rfl⟩
      · replace hM104 := bif_t hc106 hM104
        refine cond_t hF rfl hc106 ?_
        refine wp_skip ?_
        refine wp_seq ?_
        refine wp_block ?_
        refine wp_seq ?_
        obtain ⟨hk107, hM104⟩ := chk_ex hM104
        replace hk107 := ixB_t hk107
        obtain ⟨hk108, hM104⟩ := chk_ex hM104
        replace hk108 := ixB_t hk108
        obtain ⟨p109, h109, hM104⟩ := bind_ex hM104
        refine region_gw (D := [17, 18, 19, 20, 21, 22, 23, 24, 25, 26]) (Lr := []) (deps := (fun | 0 => [17] | 1 => [18] | 2 => [19] | 3 => [20] | 4 => [21] | 5 => [22] | 6 => [23] | 7 => [24] | 8 => [25] | 9 => [26] | _ => [])) (rd := (fun _ => [])) (zr := (fun _ => []))
          (φ := fun i vs => match i, vs with | 0, [v17] => v17 = .slice A0 x0.length c0 | 1, [v18] => v18 = .int .i64 p105 | 2, [v19] => v19 = .pointer (some ⟨adB A0, adO A0 + p105.toNat * 3, none⟩) | 3, [v20] => v20 = .agg #[.int .i64 ((x0.getD p105.toNat ((0, 0, 0) : Int × Int × Int)).1), .int .i64 ((x0.getD p105.toNat ((0, 0, 0) : Int × Int × Int)).2.1), .int .i64 ((x0.getD p105.toNat ((0, 0, 0) : Int × Int × Int)).2.2)] | 4, [v21] => v21 = .slice A1 x1.length c1 | 5, [v22] => v22 = .int .i64 p105 | 6, [v23] => v23 = .pointer (some ⟨adB A1, adO A1 + p105.toNat * 3, none⟩) | 7, [v24] => v24 = .agg #[.int .i64 ((x1.getD p105.toNat ((0, 0, 0) : Int × Int × Int)).1), .int .i64 ((x1.getD p105.toNat ((0, 0, 0) : Int × Int × Int)).2.1), .int .i64 ((x1.getD p105.toNat ((0, 0, 0) : Int × Int × Int)).2.2)] | 8, [v25] => v25 = .bool p109 | 9, [v26] => v26 = .bool (!p109) | _, _ => True)
          (C := fun _ _ => [])
          (κ := (fun _ => none)) (Z := (fun _ => [])) mixed hF (by kernel_rfl) S ?_ ?_
        · refine ⟨?_, ?_, ?_, ?_, ?_, ?_, ?_, ?_, ?_, ?_, trivial⟩
          · intro a u X hB hu hp hr hz hl S
            replace S : St w u ([] ++ X) := S
            exact .inl ⟨rfl, .slice A0 x0.length c0, u, (run_move rfl (hF.evB hB rfl rfl)), rfl, S⟩
          · intro a u X hB hu hp hr hz hl S
            replace S : St w u ([] ++ X) := S
            exact .inl ⟨rfl, .int .i64 p105, u, (run_move rfl (hF.evB hB rfl rfl)), rfl, S⟩
          · intro a u X hB hu hp hr hz hl S
            replace S : St w u ([] ++ X) := S
            have e17 : sl a 17 = .slice A0 x0.length c0 := hp 0 rfl
            have e18 : sl a 18 = .int .i64 p105 := hp 1 rfl
            exact .inl ⟨rfl, .pointer (some ⟨adB A0, adO A0 + p105.toNat * 3, none⟩), u, (run_indexAddr (b := adB A0) (off := adO A0) rfl Try.underlying44 sz35 ((ev_sl e17).trans (congrArg (fun A => Value.slice A x0.length c0) ((S.rc0 h0.rc).rd.ad (ix_pos hk107)))) (ev_sl e18) hk107.1 hk107.2 (k' := adO A0 + p105.toNat * 3) rfl), rfl, S⟩
          · intro a u X hB hu hp hr hz hl S
            replace S : St w u ([] ++ X) := S
            have e19 : sl a 19 = .pointer (some ⟨adB A0, adO A0 + p105.toNat * 3, none⟩) := hp 2 rfl
            exact .inl ⟨rfl, .agg #[.int .i64 ((x0.getD p105.toNat ((0, 0, 0) : Int × Int × Int)).1), .int .i64 ((x0.getD p105.toNat ((0, 0, 0) : Int × Int × Int)).2.1), .int .i64 ((x0.getD p105.toNat ((0, 0, 0) : Int × Int × Int)).2.2)], u, (run_loadN (cs := #[.int .i64 ((x0.getD p105.toNat ((0, 0, 0) : Int × Int × Int)).1), .int .i64 ((x0.getD p105.toNat ((0, 0, 0) : Int × Int × Int)).2.1), .int .i64 ((x0.getD p105.toNat ((0, 0, 0) : Int × Int × Int)).2.2)]) rfl ag35 (ev_sl e19) rfl (rd_elN (l := x0) (S.rc0 h0.rc).rd rfl eWorkDeed_len ((0, 0, 0) : Int × Int × Int) (ix_ltn hk107 rfl) rfl)), rfl, S⟩
          · intro a u X hB hu hp hr hz hl S
            replace S : St w u ([] ++ X) := S
            exact .inl ⟨rfl, .slice A1 x1.length c1, u, (run_move rfl (hF.evB hB rfl rfl)), rfl, S⟩
          · intro a u X hB hu hp hr hz hl S
            replace S : St w u ([] ++ X) := S
            exact .inl ⟨rfl, .int .i64 p105, u, (run_move rfl (hF.evB hB rfl rfl)), rfl, S⟩
          · intro a u X hB hu hp hr hz hl S
            replace S : St w u ([] ++ X) := S
            have e21 : sl a 21 = .slice A1 x1.length c1 := hp 4 rfl
            have e22 : sl a 22 = .int .i64 p105 := hp 5 rfl
            exact .inl ⟨rfl, .pointer (some ⟨adB A1, adO A1 + p105.toNat * 3, none⟩), u, (run_indexAddr (b := adB A1) (off := adO A1) rfl Try.underlying44 sz35 ((ev_sl e21).trans (congrArg (fun A => Value.slice A x1.length c1) ((S.rc0 h1.rc).rd.ad (ix_pos hk108)))) (ev_sl e22) hk108.1 hk108.2 (k' := adO A1 + p105.toNat * 3) rfl), rfl, S⟩
          · intro a u X hB hu hp hr hz hl S
            replace S : St w u ([] ++ X) := S
            have e23 : sl a 23 = .pointer (some ⟨adB A1, adO A1 + p105.toNat * 3, none⟩) := hp 6 rfl
            exact .inl ⟨rfl, .agg #[.int .i64 ((x1.getD p105.toNat ((0, 0, 0) : Int × Int × Int)).1), .int .i64 ((x1.getD p105.toNat ((0, 0, 0) : Int × Int × Int)).2.1), .int .i64 ((x1.getD p105.toNat ((0, 0, 0) : Int × Int × Int)).2.2)], u, (run_loadN (cs := #[.int .i64 ((x1.getD p105.toNat ((0, 0, 0) : Int × Int × Int)).1), .int .i64 ((x1.getD p105.toNat ((0, 0, 0) : Int × Int × Int)).2.1), .int .i64 ((x1.getD p105.toNat ((0, 0, 0) : Int × Int × Int)).2.2)]) rfl ag35 (ev_sl e23) rfl (rd_elN (l := x1) (S.rc0 h1.rc).rd rfl eWorkDeed_len ((0, 0, 0) : Int × Int × Int) (ix_ltn hk108 rfl) rfl)), rfl, S⟩
          · intro a u X hB hu hp hr hz hl S
            replace S : St w u ([] ++ X) := S
            have e20 : sl a 20 = .agg #[.int .i64 ((x0.getD p105.toNat ((0, 0, 0) : Int × Int × Int)).1), .int .i64 ((x0.getD p105.toNat ((0, 0, 0) : Int × Int × Int)).2.1), .int .i64 ((x0.getD p105.toNat ((0, 0, 0) : Int × Int × Int)).2.2)] := hp 3 rfl
            have e24 : sl a 24 = .agg #[.int .i64 ((x1.getD p105.toNat ((0, 0, 0) : Int × Int × Int)).1), .int .i64 ((x1.getD p105.toNat ((0, 0, 0) : Int × Int × Int)).2.1), .int .i64 ((x1.getD p105.toNat ((0, 0, 0) : Int × Int × Int)).2.2)] := hp 7 rfl
            refine .inr (.inr (.inl ⟨rfl, _, _, (run_call (vs := [.agg #[.int .i64 ((x0.getD p105.toNat ((0, 0, 0) : Int × Int × Int)).1), .int .i64 ((x0.getD p105.toNat ((0, 0, 0) : Int × Int × Int)).2.1), .int .i64 ((x0.getD p105.toNat ((0, 0, 0) : Int × Int × Int)).2.2)], .agg #[.int .i64 ((x1.getD p105.toNat ((0, 0, 0) : Int × Int × Int)).1), .int .i64 ((x1.getD p105.toNat ((0, 0, 0) : Int × Int × Int)).2.1), .int .i64 ((x1.getD p105.toNat ((0, 0, 0) : Int × Int × Int)).2.2)]]) rfl rfl co39 ⟨(ev_sl e20), (ev_sl e24), trivial⟩), ?_⟩))
            refine Calls.mono (c_laws_eqWorkDeed (x0 := (x0.getD p105.toNat ((0, 0, 0) : Int × Int × Int)).1) (x1 := (x0.getD p105.toNat ((0, 0, 0) : Int × Int × Int)).2.1) (x2 := (x0.getD p105.toNat ((0, 0, 0) : Int × Int × Int)).2.2) (x3 := (x1.getD p105.toNat ((0, 0, 0) : Int × Int × Int)).1) (x4 := (x1.getD p105.toNat ((0, 0, 0) : Int × Int × Int)).2.1) (x5 := (x1.getD p105.toNat ((0, 0, 0) : Int × Int × Int)).2.2)  h109) ?_
            rintro e w1 ⟨rfl, T⟩
            exact ⟨_, rfl, rfl, S.call0 T⟩
          · intro a u X hB hu hp hr hz hl S
            replace S : St w u ([] ++ X) := S
            have e25 : sl a 25 = .bool p109 := hp 8 rfl
            exact .inl ⟨rfl, .bool (!p109), u, (run_not rfl (ev_sl e25)), rfl, S⟩
        · intro a u hB hp S
          obtain ⟨q0, q1, q2, q3, q4, q5, q6, q7, q8, q9, _⟩ := hp
          have e17 : sl a 17 = .slice A0 x0.length c0 := q0
          have e18 : sl a 18 = .int .i64 p105 := q1
          have e19 : sl a 19 = .pointer (some ⟨adB A0, adO A0 + p105.toNat * 3, none⟩) := q2
          have e20 : sl a 20 = .agg #[.int .i64 ((x0.getD p105.toNat ((0, 0, 0) : Int × Int × Int)).1), .int .i64 ((x0.getD p105.toNat ((0, 0, 0) : Int × Int × Int)).2.1), .int .i64 ((x0.getD p105.toNat ((0, 0, 0) : Int × Int × Int)).2.2)] := q3
          have e21 : sl a 21 = .slice A1 x1.length c1 := q4
          have e22 : sl a 22 = .int .i64 p105 := q5
          have e23 : sl a 23 = .pointer (some ⟨adB A1, adO A1 + p105.toNat * 3, none⟩) := q6
          have e24 : sl a 24 = .agg #[.int .i64 ((x1.getD p105.toNat ((0, 0, 0) : Int × Int × Int)).1), .int .i64 ((x1.getD p105.toNat ((0, 0, 0) : Int × Int × Int)).2.1), .int .i64 ((x1.getD p105.toNat ((0, 0, 0) : Int × Int × Int)).2.2)] := q7
          have e25 : sl a 25 = .bool p109 := q8
          have e26 : sl a 26 = .bool (!p109) := q9
          replace S : St w u [] := S
          clear q0 q1 q2 q3 q4 q5 q6 q7 q8 q9
          have hF := hF.region hB [(17, .slice A0 x0.length c0), (18, .int .i64 p105), (19, .pointer (some ⟨adB A0, adO A0 + p105.toNat * 3, none⟩)), (20, .agg #[.int .i64 ((x0.getD p105.toNat ((0, 0, 0) : Int × Int × Int)).1), .int .i64 ((x0.getD p105.toNat ((0, 0, 0) : Int × Int × Int)).2.1), .int .i64 ((x0.getD p105.toNat ((0, 0, 0) : Int × Int × Int)).2.2)]), (21, .slice A1 x1.length c1), (22, .int .i64 p105), (23, .pointer (some ⟨adB A1, adO A1 + p105.toNat * 3, none⟩)), (24, .agg #[.int .i64 ((x1.getD p105.toNat ((0, 0, 0) : Int × Int × Int)).1), .int .i64 ((x1.getD p105.toNat ((0, 0, 0) : Int × Int × Int)).2.1), .int .i64 ((x1.getD p105.toNat ((0, 0, 0) : Int × Int × Int)).2.2)]), (25, .bool p109), (26, .bool (!p109))] (allSl_mem ⟨e17, e18, e19, e20, e21, e22, e23, e24, e25, e26, trivial⟩) rfl
          clear hB e17 e18 e19 e20 e21 e22 e23 e24 e25 e26
          cases hc110 : (p109)
          · replace hM104 := bif_f hc110 hM104
            refine cond_t hF rfl (not_t hc110) ?_
            refine wp_seq ?_
            refine wp_region_lit ?_
            refine op_val (v := .bool false) rfl rfl hF rfl (run_assign rfl rfl) ?_; clear hF; intro a hF
            refine wpList_nil ?_
            refine wp_ret ?_
            repeat with_reducible (first | refine then_ret ?_ | refine in_ret ?_ | refine in_nrm ?_)
            refine ret1_gw (.inl rfl) hF rfl (res_tmp (hF.ev rfl)) ?_
            obtain rfl := Option.some.inj hM104
            obtain rfl := Option.some.inj hM
            exact ⟨rfl, S.sel [] rfl rfl⟩
          · replace hM104 := bif_t hc110 hM104
            refine cond_f hF rfl (not_f hc110) ?_
            refine wp_skip ?_
            refine wp_region_lit ?_
            refine op_val (v := .int .i64 p105) rfl rfl hF rfl (run_move rfl (hF.ev rfl)) ?_; clear hF; intro a hF
            refine op_val (v := .int .i64 (w64 (p105 + 1))) rfl rfl hF rfl (run_add (z := w64 (p105 + 1)) (hF.ev rfl) rfl rfl rfl) ?_; clear hF; intro a hF
            refine op_val (v := .int .i64 (w64 (p105 + 1))) rfl rfl hF rfl (run_assign rfl (hF.ev rfl)) ?_; clear hF; intro a hF
            refine wpList_nil ?_
            exact ⟨f1, Nat.lt_succ_self _, w64 (p105 + 1), hM104, hF.keep _ ⟨rfl, rfl, rfl, rfl, trivial⟩, S.sel [] rfl rfl⟩
    · rintro a u ⟨p102, rfl, hF, S⟩
      replace hM := elim_l hM
      refine wp_seq ?_
      refine wp_region_lit ?_
      refine op_val (v := .bool true) rfl rfl hF rfl (run_assign rfl rfl) ?_; clear hF; intro a hF
      refine wpList_nil ?_
      refine wp_ret ?_
      repeat with_reducible (first | refine then_ret ?_ | refine in_ret ?_ | refine in_nrm ?_)
      refine ret1_gw (.inl rfl) hF rfl (res_tmp (hF.ev rfl)) ?_
      obtain rfl := Option.some.inj hM
      exact ⟨rfl, S.sel [] rfl rfl⟩
  · replace hM := bif_t hc101 hM
    refine cond_t hF rfl hc101 ?_
    refine wp_seq ?_
    refine wp_region_lit ?_
    refine op_val (v := .bool false) rfl rfl hF rfl (run_assign rfl rfl) ?_; clear hF; intro a hF
    refine wpList_nil ?_
    refine wp_ret ?_
    repeat with_reducible (first | refine then_ret ?_ | refine in_ret ?_ | refine in_nrm ?_)
    refine ret1_gw (.inl rfl) hF rfl (res_tmp (hF.ev rfl)) ?_
    obtain rfl := Option.some.inj hM
    exact ⟨rfl, S.sel [] rfl rfl⟩

set_option maxHeartbeats 4000000 in
theorem c_laws_markWorkDeedS {x0 : List (Int × Int × Int)} {x1 : Int} {A0 : Option Addr} {n0 c0 : Nat} {w : World} {r : Int × List (Int × Int × Int)} {w0 : World} {X : List Asn} (h0 : n0 = x0.length) (S : St w0 w (Asn.row 35 3 (.slice A0 n0 c0) n0 (x0.flatMap eWorkDeed) :: X)) (hM : m_laws_markWorkDeedS x0 x1 = some r) :
    Calls Try.prog 18 #[.slice A0 n0 c0, .int .i64 x1] w (fun e w' => e = .returned (.int .i64 r.1) ∧ n0 = r.2.length ∧ St w0 w' (Asn.row 35 3 (.slice A0 n0 c0) n0 (r.2.flatMap eWorkDeed) :: X)) := by
  obtain rfl := h0
  unfold m_laws_markWorkDeedS at hM
  refine calls_gw Try.func18 Try.ntmps18 rfl [(0, .slice A0 x0.length c0), (1, .int .i64 x1)] ⟨rfl, rfl, trivial⟩ rfl ?_
  intro a hF
  refine wp_seq ?_
  refine wp_region_lit ?_
  refine op_val (v := .int .i64 0) rfl rfl hF rfl (run_assign rfl rfl) ?_; clear hF; intro a hF
  refine wpList_nil ?_
  refine wp_seq ?_
  refine wp_seq ?_
  refine wp_region_lit ?_
  refine op_val (v := .int .i64 0) rfl rfl hF rfl (run_assign rfl rfl) ?_; clear hF; intro a hF
  refine wpList_nil ?_
  obtain ⟨o102, hM104, hM⟩ := bind_ex hM
  refine wp_cut (fun a u => ∃ (p101 : Int × List (Int × Int × Int)), p101 = o102 ∧ x0.length = p101.2.length ∧ Fr a 34 [(1, .int .i64 p101.1), (4, .int .i64 0)] ∧ St w0 u (Asn.row 35 3 (.slice A0 x0.length c0) x0.length (p101.2.flatMap eWorkDeed) :: X)) ?_ ?_
  · have _ := trivial
    refine wp_block ?_
    refine loop_gw (fun m a u => ∃ (p105 : List (Int × Int × Int) × Int × Int), m_laws_markWorkDeedS_l1 x0 m p105 = some _ ∧ x0.length = p105.1.length ∧ Fr a 34 [(0, .slice A0 x0.length c0), (1, .int .i64 p105.2.1), (4, .int .i64 0), (5, .int .i64 p105.2.2)] ∧ St w0 u (Asn.row 35 3 (.slice A0 x0.length c0) x0.length (p105.1.flatMap eWorkDeed) :: X)) FUEL ⟨(x0, x1, 0), hM104, rfl, hF.keep _ ⟨rfl, rfl, rfl, rfl, trivial⟩, S.selT (M := [.row 35 3 (.slice A0 x0.length c0) x0.length (x0.flatMap eWorkDeed)]) 1 [0] rfl rfl rfl⟩ ?_
    clear hF S hM104; rintro m a u ⟨p105, hM104, hn106, hF, S⟩
    rcases m with _ | f1
    · exact none_some hM104
    rw [m_laws_markWorkDeedS_l1.eq_2] at hM104
    refine wp_seq ?_
    refine wp_seq ?_
    refine wp_region_lit ?_
    refine op_val (v := .int .i64 p105.2.2) rfl rfl hF rfl (run_move rfl (hF.ev rfl)) ?_; clear hF; intro a hF
    refine op_val (v := .slice A0 x0.length c0) rfl rfl hF rfl (run_move rfl (hF.ev rfl)) ?_; clear hF; intro a hF
    refine op_val (v := .int .i64 (x0.length : Int)) rfl rfl hF rfl (run_lenL rfl rfl Try.underlying44 (hF.ev rfl)) ?_; clear hF; intro a hF
    refine op_val (v := .bool (ltB p105.2.2 (x0.length : Int))) rfl rfl hF rfl (run_lss (hF.ev rfl) (hF.ev rfl) rfl) ?_; clear hF; intro a hF
    refine wpList_nil ?_
    cases hc107 : (ltB p105.2.2 (x0.length : Int))
    · replace hM104 := bif_f hc107 hM104
      refine cond_f hF rfl hc107 ?_
      refine wp_exit ?_
      repeat with_reducible (first | refine then_exit ?_ | refine in_hit ?_ | refine in_miss rfl ?_)
      obtain rfl := Option.some.inj hM104
      exact ⟨(p105.2.1, p105.1), rfl, hn106, hF.keep _ ⟨rfl, rfl, trivial⟩, S.selT (M := [.row 35 3 (.slice A0 x0.length c0) x0.length (p105.1.flatMap eWorkDeed)]) 1 [0] rfl rfl rfl⟩
    · replace hM104 := bif_t hc107 hM104
      refine cond_t hF rfl hc107 ?_
      refine wp_skip ?_
      refine wp_seq ?_
      refine wp_block ?_
      refine wp_seq ?_
      refine wp_region_lit ?_
      refine op_val (v := .slice A0 x0.length c0) rfl rfl hF rfl (run_move rfl (hF.ev rfl)) ?_; clear hF; intro a hF
      refine op_val (v := .int .i64 p105.2.2) rfl rfl hF rfl (run_move rfl (hF.ev rfl)) ?_; clear hF; intro a hF
      refine op_val (v := .int .i64 p105.2.1) rfl rfl hF rfl (run_move rfl (hF.ev rfl)) ?_; clear hF; intro a hF
      obtain ⟨hk108, hM104⟩ := chk_ex hM104
      replace hk108 := ixB_t hk108
      refine op_val (v := .pointer (some ⟨adB A0, adO A0 + p105.2.2.toNat * 3, none⟩)) rfl rfl hF rfl (run_indexAddr (b := adB A0) (off := adO A0) rfl Try.underlying44 sz35 ((hF.ev rfl).trans (congrArg (fun A => Value.slice A x0.length c0) ((S.rc 0 rfl).rd.ad (ix_pos hk108)))) (hF.ev rfl) hk108.1 hk108.2 (k' := adO A0 + p105.2.2.toNat * 3) rfl) ?_; clear hF; intro a hF
      refine op_val (v := .pointer (some ⟨adB A0, adO A0 + p105.2.2.toNat * 3, none⟩)) rfl rfl hF rfl (run_fieldAddr rfl fl35_0 (hF.ev rfl) rfl) ?_; clear hF; intro a hF
      obtain ⟨w', hrun, S'⟩ := run_storeElN (P := Try.prog) (ρ := a.eval) (y0 := (p105.2.1, (p105.1.getD p105.2.2.toNat ((0, 0, 0) : Int × Int × Int)).2.1, (p105.1.getD p105.2.2.toNat ((0, 0, 0) : Int × Int × Int)).2.2)) (off := 0) S 3 (.tmp 16) (.tmp 14) (i := 0) sz3 (hF.ev rfl) (hF.ev rfl) rfl rfl rfl rfl hn106 eWorkDeed_len ((0, 0, 0) : Int × Int × Int) (ix_ltn hk108 hn106) rfl rfl
      refine op_do rfl rfl (hrun _ rfl) ?_; clear hrun S; have S := S'; clear S'; generalize w' = u at S ⊢
      refine wpList_nil ?_
      refine wp_seq ?_
      refine wp_region_lit ?_
      refine op_val (v := .int .i64 p105.2.1) rfl rfl hF rfl (run_move rfl (hF.ev rfl)) ?_; clear hF; intro a hF
      refine op_val (v := .int .i64 (w64 (p105.2.1 + 1))) rfl rfl hF rfl (run_add (z := w64 (p105.2.1 + 1)) (hF.ev rfl) rfl rfl rfl) ?_; clear hF; intro a hF
      refine op_val (v := .int .i64 (w64 (p105.2.1 + 1))) rfl rfl hF rfl (run_assign rfl (hF.ev rfl)) ?_; clear hF; intro a hF
      refine wpList_nil ?_
      refine wp_seq ?_
      refine wp_region_lit ?_
      refine op_val (v := .slice A0 x0.length c0) rfl rfl hF rfl (run_move rfl (hF.ev rfl)) ?_; clear hF; intro a hF
      refine op_val (v := .int .i64 p105.2.2) rfl rfl hF rfl (run_move rfl (hF.ev rfl)) ?_; clear hF; intro a hF
      refine op_val (v := .int .i64 (w64 (p105.2.1 + 1))) rfl rfl hF rfl (run_move rfl (hF.ev rfl)) ?_; clear hF; intro a hF
      obtain ⟨hk109, hM104⟩ := chk_ex hM104
      replace hk109 := ixB_t hk109
      refine op_val (v := .pointer (some ⟨adB A0, adO A0 + p105.2.2.toNat * 3, none⟩)) rfl rfl hF rfl (run_indexAddr (b := adB A0) (off := adO A0) rfl Try.underlying44 sz35 ((hF.ev rfl).trans (congrArg (fun A => Value.slice A x0.length c0) ((S.rc 0 rfl).rd.ad (ix_pos hk109)))) (hF.ev rfl) hk109.1 hk109.2 (k' := adO A0 + p105.2.2.toNat * 3) rfl) ?_; clear hF; intro a hF
      refine op_val (v := .pointer (some ⟨adB A0, adO A0 + p105.2.2.toNat * 3 + 1, none⟩)) rfl rfl hF rfl (run_fieldAddr rfl fl35_1 (hF.ev rfl) rfl) ?_; clear hF; intro a hF
      obtain ⟨w', hrun, S'⟩ := run_storeEl2 (P := Try.prog) (ρ := a.eval) (l := p105.1) (y0 := (p105.2.1, (p105.1.getD p105.2.2.toNat ((0, 0, 0) : Int × Int × Int)).2.1, (p105.1.getD p105.2.2.toNat ((0, 0, 0) : Int × Int × Int)).2.2)) (y1 := (p105.2.1, w64 (p105.2.1 + 1), (p105.1.getD p105.2.2.toNat ((0, 0, 0) : Int × Int × Int)).2.2)) (off := 1) S 3 (.tmp 23) (.tmp 21) (i := 0) sz3 (hF.ev rfl) (hF.ev rfl) rfl rfl rfl rfl hn106 eWorkDeed_len (ix_ltn hk109 hn106) rfl rfl
      refine op_do rfl rfl (hrun _ rfl) ?_; clear hrun S; have S := S'; clear S'; generalize w' = u at S ⊢
      refine wpList_nil ?_
      refine wp_seq ?_
      refine wp_region_lit ?_
      refine op_val (v := .int .i64 (w64 (p105.2.1 + 1))) rfl rfl hF rfl (run_move rfl (hF.ev rfl)) ?_; clear hF; intro a hF
      refine op_val (v := .int .i64 (w64 ((w64 (p105.2.1 + 1)) + 1))) rfl rfl hF rfl (run_add (z := w64 ((w64 (p105.2.1 + 1)) + 1)) (hF.ev rfl) rfl rfl rfl) ?_; clear hF; intro a hF
      refine op_val (v := .int .i64 (w64 ((w64 (p105.2.1 + 1)) + 1))) rfl rfl hF rfl (run_assign rfl (hF.ev rfl)) ?_; clear hF; intro a hF
      refine wpList_nil ?_
      refine wp_seq ?_
      refine wp_region_lit ?_
      refine op_val (v := .slice A0 x0.length c0) rfl rfl hF rfl (run_move rfl (hF.ev rfl)) ?_; clear hF; intro a hF
      refine op_val (v := .int .i64 p105.2.2) rfl rfl hF rfl (run_move rfl (hF.ev rfl)) ?_; clear hF; intro a hF
      refine op_val (v := .int .i64 (w64 ((w64 (p105.2.1 + 1)) + 1))) rfl rfl hF rfl (run_move rfl (hF.ev rfl)) ?_; clear hF; intro a hF
      obtain ⟨hk110, hM104⟩ := chk_ex hM104
      replace hk110 := ixB_t hk110
      refine op_val (v := .pointer (some ⟨adB A0, adO A0 + p105.2.2.toNat * 3, none⟩)) rfl rfl hF rfl (run_indexAddr (b := adB A0) (off := adO A0) rfl Try.underlying44 sz35 ((hF.ev rfl).trans (congrArg (fun A => Value.slice A x0.length c0) ((S.rc 0 rfl).rd.ad (ix_pos hk110)))) (hF.ev rfl) hk110.1 hk110.2 (k' := adO A0 + p105.2.2.toNat * 3) rfl) ?_; clear hF; intro a hF
      refine op_val (v := .pointer (some ⟨adB A0, adO A0 + p105.2.2.toNat * 3 + 2, none⟩)) rfl rfl hF rfl (run_fieldAddr rfl fl35_2 (hF.ev rfl) rfl) ?_; clear hF; intro a hF
      obtain ⟨w', hrun, S'⟩ := run_storeEl2 (P := Try.prog) (ρ := a.eval) (l := p105.1) (y0 := (p105.2.1, w64 (p105.2.1 + 1), (p105.1.getD p105.2.2.toNat ((0, 0, 0) : Int × Int × Int)).2.2)) (y1 := (p105.2.1, w64 (p105.2.1 + 1), w64 ((w64 (p105.2.1 + 1)) + 1))) (off := 2) S 3 (.tmp 30) (.tmp 28) (i := 0) sz3 (hF.ev rfl) (hF.ev rfl) rfl rfl rfl rfl hn106 eWorkDeed_len (ix_ltn hk110 hn106) rfl rfl
      refine op_do rfl rfl (hrun _ rfl) ?_; clear hrun S; have S := S'; clear S'; generalize w' = u at S ⊢
      refine wpList_nil ?_
      refine wp_region_lit ?_
      refine op_val (v := .int .i64 (w64 ((w64 (p105.2.1 + 1)) + 1))) rfl rfl hF rfl (run_move rfl (hF.ev rfl)) ?_; clear hF; intro a hF
      refine op_val (v := .int .i64 (w64 ((w64 ((w64 (p105.2.1 + 1)) + 1)) + 1))) rfl rfl hF rfl (run_add (z := w64 ((w64 ((w64 (p105.2.1 + 1)) + 1)) + 1)) (hF.ev rfl) rfl rfl rfl) ?_; clear hF; intro a hF
      refine op_val (v := .int .i64 (w64 ((w64 ((w64 (p105.2.1 + 1)) + 1)) + 1))) rfl rfl hF rfl (run_assign rfl (hF.ev rfl)) ?_; clear hF; intro a hF
      refine wpList_nil ?_
      refine wp_region_lit ?_
      refine op_val (v := .int .i64 p105.2.2) rfl rfl hF rfl (run_move rfl (hF.ev rfl)) ?_; clear hF; intro a hF
      refine op_val (v := .int .i64 (w64 (p105.2.2 + 1))) rfl rfl hF rfl (run_add (z := w64 (p105.2.2 + 1)) (hF.ev rfl) rfl rfl rfl) ?_; clear hF; intro a hF
      refine op_val (v := .int .i64 (w64 (p105.2.2 + 1))) rfl rfl hF rfl (run_assign rfl (hF.ev rfl)) ?_; clear hF; intro a hF
      refine wpList_nil ?_
      exact ⟨f1, Nat.lt_succ_self _, (p105.1.set p105.2.2.toNat (p105.2.1, w64 (p105.2.1 + 1), w64 ((w64 (p105.2.1 + 1)) + 1)), w64 ((w64 ((w64 (p105.2.1 + 1)) + 1)) + 1), w64 (p105.2.2 + 1)), hM104, (len_set hn106), hF.keep _ ⟨rfl, rfl, rfl, rfl, trivial⟩, S.selT (M := [.row 35 3 (.slice A0 x0.length c0) x0.length ((p105.1.set p105.2.2.toNat (p105.2.1, w64 (p105.2.1 + 1), w64 ((w64 (p105.2.1 + 1)) + 1))).flatMap eWorkDeed)]) 1 [0] rfl rfl rfl⟩
  · rintro a u ⟨p101, rfl, hn103, hF, S⟩
    refine wp_seq ?_
    refine wp_region_lit ?_
    refine op_val (v := .int .i64 p101.1) rfl rfl hF rfl (run_move rfl (hF.ev rfl)) ?_; clear hF; intro a hF
    refine op_val (v := .int .i64 p101.1) rfl rfl hF rfl (run_assign rfl (hF.ev rfl)) ?_; clear hF; intro a hF
    refine wpList_nil ?_
    refine wp_ret ?_
    repeat with_reducible (first | refine then_ret ?_ | refine in_ret ?_ | refine in_nrm ?_)
    refine ret1_gw (.inl rfl) hF rfl (res_tmp (hF.ev rfl)) ?_
    obtain rfl := Option.some.inj hM
    exact ⟨rfl, hn103, S.selT (M := [.row 35 3 (.slice A0 x0.length c0) x0.length (p101.2.flatMap eWorkDeed)]) 1 [0] rfl rfl rfl⟩

end Go.Proofs.Ytnoeliaefhldmaa
