/- Calls return what the models say. -/
import Derived.Test.YtcmnjaccapbhfaaQSq
import Derived.Test.YtcmnjaccapbhfaaQDa2
namespace Go.Proofs.Ytcmnjaccapbhfaa
open Go.ChangeShapes Go.WideShapes Go.ChangeAt Go.RowKit
set_option linter.unusedVariables false
set_option maxHeartbeats 4000000
set_option linter.unusedSimpArgs false
theorem c_impl_WorkValid {x0 : List Bool} {x1 : List Bool} {x2 : List (Int × Int)} {A0 : Option Addr} {n0 c0 : Nat} {A1 : Option Addr} {n1 c1 : Nat} {A2 : Option Addr} {n2 c2 : Nat} {w : World} {r : Bool} (h0 : Rt w 1 eB A0 n0 c0 x0) (h1 : Rt w 1 eB A1 n1 c1 x1) (h2 : Rt w 2 ePermit A2 n2 c2 x2) (hM : m_impl_WorkValid x0 x1 x2 = some r) :
    Calls Try.prog 29 #[.agg #[.slice A0 n0 c0, .slice A1 n1 c1, .slice A2 n2 c2]] w (fun e w' => e = .returned (.bool r) ∧ St w w' []) := by
  obtain rfl := h0.len
  obtain rfl := h1.len
  obtain rfl := h2.len
  unfold m_impl_WorkValid at hM
  refine calls_gw Try.func29 Try.ntmps29 rfl [(0, .agg #[.slice A0 x0.length c0, .slice A1 x1.length c1, .slice A2 x2.length c2])] ⟨rfl, trivial⟩ rfl ?_
  intro a hF
  have S := St.nil w
  refine wsg ?_
  refine op_new (cs := #[.slice A0 x0.length c0, .slice A1 x1.length c1, .slice A2 x2.length c2]) rfl rfl hF rfl S (run_box rfl (hF.ev rfl) rfl) ?_; clear hF S; intro a g101 u hF S
  refine op_val (v := .bool false) rfl rfl hF rfl (run_assign rfl rfl) ?_;clear hF;intro a hF
  refine wn ?_
  refine ws ?_
  revert a;refine sr (ov (v := .pointer (some ⟨g101, 0, none⟩)) rfl rfl rfl (fun a hF=>run_fieldAddr rfl fl41_0 (hF.ev rfl) rfl) (ov (v := .slice A0 x0.length c0) rfl rfl rfl (fun a hF=>run_load1 rfl one26 (hF.ev rfl) ((S.free 0 rfl).cell rfl)) (ov rfl rfl rfl (fun a hF=>run_lenL rfl rfl Try.underlying26 (hF.ev rfl)) (ov (v := .bool (ltB (x0.length : Int) 1)) rfl rfl rfl (fun a hF=>run_lss (hF.ev rfl) rfl rfl) (mv rfl rfl fun a hF=>?_)))))
  refine op_gv (v := .pointer (some ⟨g101, 0, none⟩)) rfl rfl hF rfl (yf (gw_yield hF rfl rfl rfl)) (fun hg => (run_fieldAddr rfl fl41_0 (hF.ev rfl) rfl)) ?_;clear hF;intro a hF
  refine op_gv (v := .slice A0 x0.length c0) rfl rfl hF rfl (yf (gw_yield hF rfl rfl rfl)) (fun hg => (run_load1 rfl one26 ((hF.ev rfl).trans (gv_t hg)) ((S.free 0 rfl).cell rfl))) ?_;clear hF;intro a hF
  refine op_gv (v := .int .i64 (x0.length : Int)) rfl rfl hF rfl (yf (gw_yield hF rfl rfl rfl)) (fun hg => (run_lenL rfl rfl Try.underlying26 ((hF.ev rfl).trans (gv_t hg)))) ?_;clear hF;intro a hF
  refine op_gv (v := .bool (ltB 10 (x0.length : Int))) rfl rfl hF rfl (yf (gw_yield hF rfl rfl rfl)) (fun hg => (run_gtr ((hF.ev rfl).trans (gv_t hg)) rfl rfl)) ?_;clear hF;intro a hF
  revert a;refine ov (v := .bool ((ltB (x0.length : Int) 1) || (ltB 10 (x0.length : Int)))) rfl rfl rfl (fun a hF=>run_pick_or rfl (hF.ev rfl) rfl (fun hp => ((hF.ev rfl).trans (gv_t (not_t hp))))) (mv rfl rfl fun a hF=>?_)
  refine op_gv (v := .pointer (some ⟨g101, 1, none⟩)) rfl rfl hF rfl (yf (gw_yield hF rfl rfl rfl)) (fun hg => (run_fieldAddr rfl fl41_1 (hF.ev rfl) rfl)) ?_;clear hF;intro a hF
  refine op_gv (v := .slice A1 x1.length c1) rfl rfl hF rfl (yf (gw_yield hF rfl rfl rfl)) (fun hg => (run_load1 rfl one26 ((hF.ev rfl).trans (gv_t hg)) ((S.free 0 rfl).cell rfl))) ?_;clear hF;intro a hF
  refine op_gv (v := .int .i64 (x1.length : Int)) rfl rfl hF rfl (yf (gw_yield hF rfl rfl rfl)) (fun hg => (run_lenL rfl rfl Try.underlying26 ((hF.ev rfl).trans (gv_t hg)))) ?_;clear hF;intro a hF
  refine op_gv (v := .pointer (some ⟨g101, 0, none⟩)) rfl rfl hF rfl (yf (gw_yield hF rfl rfl rfl)) (fun hg => (run_fieldAddr rfl fl41_0 (hF.ev rfl) rfl)) ?_;clear hF;intro a hF
  refine op_gv (v := .slice A0 x0.length c0) rfl rfl hF rfl (yf (gw_yield hF rfl rfl rfl)) (fun hg => (run_load1 rfl one26 ((hF.ev rfl).trans (gv_t hg)) ((S.free 0 rfl).cell rfl))) ?_;clear hF;intro a hF
  refine op_gv (v := .int .i64 (x0.length : Int)) rfl rfl hF rfl (yf (gw_yield hF rfl rfl rfl)) (fun hg => (run_lenL rfl rfl Try.underlying26 ((hF.ev rfl).trans (gv_t hg)))) ?_;clear hF;intro a hF
  refine op_gv (v := .bool ((x1.length : Int) != (x0.length : Int))) rfl rfl hF rfl (yf (gw_yield hF rfl rfl rfl)) (fun hg => (run_neq ((hF.ev rfl).trans (gv_t hg)) ((hF.ev rfl).trans (gv_t hg)) rfl)) ?_;clear hF;intro a hF
  revert a;refine ov (v := .bool (((ltB (x0.length : Int) 1) || (ltB 10 (x0.length : Int))) || ((x1.length : Int) != (x0.length : Int)))) rfl rfl rfl (fun a hF=>run_pick_or rfl (hF.ev rfl) rfl (fun hp => ((hF.ev rfl).trans (gv_t (not_t hp))))) (mv rfl rfl fun a hF=>?_)
  refine op_gv (v := .pointer (some ⟨g101, 2, none⟩)) rfl rfl hF rfl (yf (gw_yield hF rfl rfl rfl)) (fun hg => (run_fieldAddr rfl fl41_2 (hF.ev rfl) rfl)) ?_;clear hF;intro a hF
  refine op_gv (v := .slice A2 x2.length c2) rfl rfl hF rfl (yf (gw_yield hF rfl rfl rfl)) (fun hg => (run_load1 rfl one39 ((hF.ev rfl).trans (gv_t hg)) ((S.free 0 rfl).cell rfl))) ?_;clear hF;intro a hF
  refine op_gv (v := .int .i64 (x2.length : Int)) rfl rfl hF rfl (yf (gw_yield hF rfl rfl rfl)) (fun hg => (run_lenL rfl rfl Try.underlying39 ((hF.ev rfl).trans (gv_t hg)))) ?_;clear hF;intro a hF
  refine op_gv (v := .bool (ltB 6 (x2.length : Int))) rfl rfl hF rfl (yf (gw_yield hF rfl rfl rfl)) (fun hg => (run_gtr ((hF.ev rfl).trans (gv_t hg)) rfl rfl)) ?_;clear hF;intro a hF
  refine op_val (v := .bool ((((ltB (x0.length : Int) 1) || (ltB 10 (x0.length : Int))) || ((x1.length : Int) != (x0.length : Int))) || (ltB 6 (x2.length : Int)))) rfl rfl hF rfl (run_pick_or rfl (hF.ev rfl) rfl (fun hp => ((hF.ev rfl).trans (gv_t (not_t hp))))) ?_;clear hF;intro a hF
  refine wn ?_
  cases hc102 : ((((ltB (x0.length : Int) 1) || (ltB 10 (x0.length : Int))) || ((x1.length : Int) != (x0.length : Int))) || (ltB 6 (x2.length : Int)))
  · replace hM := bif_f hc102 hM
    refine cond_f hF rfl hc102 ?_
    refine wp_skip ?_
    refine ws ?_
    revert a;refine sr (ov (v := .pointer (some ⟨g101, 0, none⟩)) rfl rfl rfl (fun a hF=>run_fieldAddr rfl fl41_0 (hF.ev rfl) rfl) (ov (v := .slice A0 x0.length c0) rfl rfl rfl (fun a hF=>run_load1 rfl one26 (hF.ev rfl) ((S.free 0 rfl).cell rfl)) (ov rfl rfl rfl (fun a hF=>run_lenL rfl rfl Try.underlying26 (hF.ev rfl)) (ov (v := .int .i64 0) rfl rfl rfl (fun a hF=>run_move rfl rfl) fun a hF=>wn ?_))))
    obtain ⟨o104, hM105, hM⟩ := bind_ex hM
    refine wp_cut (fun a u => ∃ (p103 : Unit), (Sum.inl p103) = o104 ∧ Fr a 97 [(1, .pointer (some ⟨g101, 0, none⟩)), (2, .bool false)] ∧ St w u [.box g101 41 #[.slice A0 x0.length c0, .slice A1 x1.length c1, .slice A2 x2.length c2]]) ?_ ?_
    · have _ := trivial
      refine wp_block ?_
      refine loop_gw (fun m a u => ∃ (p106 : Int), m_impl_WorkValid_l1 x0 x1 m p106 = some _ ∧ Fr a 97 [(1, .pointer (some ⟨g101, 0, none⟩)), (2, .bool false), (33, .int .i64 (x0.length : Int)), (34, .int .i64 p106)] ∧ St w u [.box g101 41 #[.slice A0 x0.length c0, .slice A1 x1.length c1, .slice A2 x2.length c2]]) FUEL ⟨0, hM105, hF.keep _ ⟨rfl, rfl, rfl, rfl, trivial⟩, S.sel [0] rfl rfl⟩ ?_
      clear hF S hM105; rintro m a u ⟨p106, hM105, hF, S⟩
      rcases m with _ | f1
      · exact none_some hM105
      rw [m_impl_WorkValid_l1.eq_2] at hM105
      revert a;refine sr (ov (v := .bool (ltB p106 (x0.length : Int))) rfl rfl rfl (fun a hF=>run_lss (hF.ev rfl) (hF.ev rfl) rfl) fun a hF=>wn ?_)
      refine ws ?_
      cases hc107 : (ltB p106 (x0.length : Int))
      · replace hM105 := bif_f hc107 hM105
        refine cond_f hF rfl hc107 ?_
        refine wp_exit ?_
        repeat with_reducible (first | refine then_exit ?_ | refine in_hit ?_ | refine in_miss rfl ?_)
        obtain rfl := Option.some.inj hM105
        exact ⟨(), rfl, hF.keep _ ⟨rfl, rfl, trivial⟩, S.sel [0] rfl rfl⟩
      replace hM105 := bif_t hc107 hM105
      refine cond_t hF rfl hc107 ?_
      refine wp_skip ?_
      refine ws ?_
      refine wp_block ?_
      revert a;refine sr (mv rfl rfl (ag rfl rfl fun a hF=>wn ?_))
      revert a;refine sr (ov (v := .pointer (some ⟨g101, 0, none⟩)) rfl rfl rfl (fun a hF=>run_fieldAddr rfl fl41_0 (hF.ev rfl) rfl) (ov (v := .slice A0 x0.length c0) rfl rfl rfl (fun a hF=>run_load1 rfl one26 (hF.ev rfl) ((S.free 0 rfl).cell rfl)) (mv rfl rfl fun a hF=>?_)))
      obtain ⟨hk108, hM105⟩ := chk_ex hM105
      replace hk108 := ixB_t hk108
      revert a;refine ov rfl rfl rfl (fun a hF=>run_indexAddr (b := adB A0) (off := adO A0) rfl Try.underlying26 sz4 ((hF.ev rfl).trans (congrArg (fun A => Value.slice A x0.length c0) ((S.rc0 h0.rc).rd.ad (ix_pos hk108)))) (hF.ev rfl) hk108.1 hk108.2 (k' := adO A0 + p106.toNat * 1) rfl) (ov (v := .bool (x0.getD p106.toNat false)) rfl rfl rfl (fun a hF=>run_load1 rfl one4 (hF.ev rfl) (rd_el0 (l := x0) (S.rc0 h0.rc).rd rfl eB_len false (ix_ltn hk108 rfl) rfl)) (mv rfl rfl fun a hF=>?_))
      refine op_gv (v := .pointer (some ⟨g101, 1, none⟩)) rfl rfl hF rfl (yt (gw_yield hF rfl rfl rfl)) (fun hg => (run_fieldAddr rfl fl41_1 (hF.ev rfl) rfl)) ?_;clear hF;intro a hF
      refine op_gv (v := .slice A1 x1.length c1) rfl rfl hF rfl (yt (gw_yield hF rfl rfl rfl)) (fun hg => (run_load1 rfl one26 ((hF.ev rfl).trans (gv_t hg)) ((S.free 0 rfl).cell rfl))) ?_;clear hF;intro a hF
      refine op_gv (v := .int .i64 p106) rfl rfl hF rfl (yt (gw_yield hF rfl rfl rfl)) (fun hg => (run_move rfl (hF.ev rfl))) ?_;clear hF;intro a hF
      obtain ⟨hk109, hM105⟩ := chk_ex hM105
      replace hk109 := fun hg => ixB_t (imp_t hk109 hg)
      refine op_gv (v := .pointer (some ⟨adB A1, adO A1 + p106.toNat * 1, none⟩)) rfl rfl hF rfl (yt (gw_yield hF rfl rfl rfl)) (fun hg => (run_indexAddr (b := adB A1) (off := adO A1) rfl Try.underlying26 sz4 (((hF.ev rfl).trans (gv_t hg)).trans (congrArg (fun A => Value.slice A x1.length c1) ((S.rc0 h1.rc).rd.ad (ix_pos (hk109 hg))))) ((hF.ev rfl).trans (gv_t hg)) (hk109 hg).1 (hk109 hg).2 (k' := adO A1 + p106.toNat * 1) rfl)) ?_;clear hF;intro a hF
      refine op_gv (v := .bool (x1.getD p106.toNat false)) rfl rfl hF rfl (yt (gw_yield hF rfl rfl rfl)) (fun hg => (run_load1 rfl one4 ((hF.ev rfl).trans (gv_t hg)) (rd_el0 (l := x1) (S.rc0 h1.rc).rd rfl eB_len false (ix_ltn (hk109 hg) rfl) rfl))) ?_;clear hF;intro a hF
      refine op_val (v := .bool ((x0.getD p106.toNat false) && (x1.getD p106.toNat false))) rfl rfl hF rfl (run_pick_and rfl (hF.ev rfl) (fun hp => ((hF.ev rfl).trans (gv_t hp))) rfl) ?_;clear hF;intro a hF
      refine wn ?_
      cases hc110 : ((x0.getD p106.toNat false) && (x1.getD p106.toNat false))
      · replace hM105 := bif_f hc110 hM105
        refine cond_f hF rfl hc110 ?_
        refine wp_skip ?_
        revert a;refine rl (ov (v := .int .i64 (w64 (p106 + 1))) rfl rfl rfl (fun a hF=>run_add (z := w64 (p106 + 1)) (hF.ev rfl) rfl rfl rfl) (mv rfl rfl fun a hF=>wn ?_))
        exact ⟨f1, Nat.lt_succ_self _, w64 (p106 + 1), hM105, hF.keep _ ⟨rfl, rfl, rfl, rfl, trivial⟩, S.sel [0] rfl rfl⟩
      replace hM105 := bif_t hc110 hM105
      refine cond_t hF rfl hc110 ?_
      revert a;refine sr (ov (v := .bool false) rfl rfl rfl (fun a hF=>run_assign rfl rfl) fun a hF=>wn ?_)
      refine wp_ret ?_
      repeat with_reducible first|refine tr ?_|refine ir ?_|refine nr ?_
      refine ret1_gw (.inl rfl) hF rfl (res_tmp (hF.ev rfl)) ?_
      obtain rfl := Option.some.inj hM105
      obtain rfl := Option.some.inj hM
      exact ⟨rfl, S.sel [] rfl rfl⟩
    rintro a u ⟨p103, rfl, hF, S⟩
    replace hM := elim_l hM
    refine ws ?_
    revert a;refine sr (ov (v := .pointer (some ⟨g101, 2, none⟩)) rfl rfl rfl (fun a hF=>run_fieldAddr rfl fl41_2 (hF.ev rfl) rfl) (ov (v := .slice A2 x2.length c2) rfl rfl rfl (fun a hF=>run_load1 rfl one39 (hF.ev rfl) ((S.free 0 rfl).cell rfl)) (ov rfl rfl rfl (fun a hF=>run_lenL rfl rfl Try.underlying39 (hF.ev rfl)) (ov (v := .int .i64 0) rfl rfl rfl (fun a hF=>run_move rfl rfl) fun a hF=>wn ?_))))
    obtain ⟨o112, hM113, hM⟩ := bind_ex hM
    refine wp_cut (fun a u => ∃ (p111 : Unit), (Sum.inl p111) = o112 ∧ Fr a 97 [(2, .bool false)] ∧ St w u []) ?_ ?_
    · have _ := trivial
      refine wp_block ?_
      refine loop_gw (fun m a u => ∃ (p114 : Int), m_impl_WorkValid_l2 x0 x1 x2 m p114 = some _ ∧ Fr a 97 [(1, .pointer (some ⟨g101, 0, none⟩)), (2, .bool false), (51, .slice A2 x2.length c2), (52, .int .i64 (x2.length : Int)), (53, .int .i64 p114)] ∧ St w u [.box g101 41 #[.slice A0 x0.length c0, .slice A1 x1.length c1, .slice A2 x2.length c2]]) FUEL ⟨0, hM113, hF.keep _ ⟨rfl, rfl, rfl, rfl, rfl, trivial⟩, S.sel [0] rfl rfl⟩ ?_
      clear hF S hM113; rintro m a u ⟨p114, hM113, hF, S⟩
      rcases m with _ | f2
      · exact none_some hM113
      rw [m_impl_WorkValid_l2.eq_2] at hM113
      revert a;refine sr (ov (v := .bool (ltB p114 (x2.length : Int))) rfl rfl rfl (fun a hF=>run_lss (hF.ev rfl) (hF.ev rfl) rfl) fun a hF=>wn ?_)
      refine ws ?_
      cases hc115 : (ltB p114 (x2.length : Int))
      · replace hM113 := bif_f hc115 hM113
        refine cond_f hF rfl hc115 ?_
        refine wp_exit ?_
        repeat with_reducible (first | refine then_exit ?_ | refine in_hit ?_ | refine in_miss rfl ?_)
        obtain rfl := Option.some.inj hM113
        exact ⟨(), rfl, hF.keep _ ⟨rfl, trivial⟩, S.sel [] rfl rfl⟩
      replace hM113 := bif_t hc115 hM113
      refine cond_t hF rfl hc115 ?_
      refine wp_skip ?_
      refine ws ?_
      refine wp_block ?_
      revert a;refine sr (mv rfl rfl fun a hF=>?_)
      obtain ⟨hk116, hM113⟩ := chk_ex hM113
      replace hk116 := ixB_t hk116
      revert a;refine ov rfl rfl rfl (fun a hF=>run_indexAddr (b := adB A2) (off := adO A2) rfl Try.underlying39 sz78 ((hF.ev rfl).trans (congrArg (fun A => Value.slice A x2.length c2) ((S.rc0 h2.rc).rd.ad (ix_pos hk116)))) (hF.ev rfl) hk116.1 hk116.2 (k' := adO A2 + p114.toNat * 2) rfl) (ov rfl rfl rfl (fun a hF=>run_loadN (cs := #[.int .i64 ((x2.getD p114.toNat ((0, 0) : Int × Int)).1), .int .i64 ((x2.getD p114.toNat ((0, 0) : Int × Int)).2)]) rfl ag78 (hF.ev rfl) rfl (rd_elN (l := x2) (S.rc0 h2.rc).rd rfl ePermit_len ((0, 0) : Int × Int) (ix_ltn hk116 rfl) rfl)) fun a hF=>?_)
      refine op_new (cs := #[.int .i64 0, .int .i64 0]) rfl rfl hF rfl S (run_allocZ rfl zr78) ?_; clear hF S; intro a g117 u hF S
      refine op_val (v := .int .i64 p114) rfl rfl hF rfl (run_assign rfl (hF.ev rfl)) ?_;clear hF;intro a hF
      refine op_do rfl rfl (run_store (cs' := #[.int .i64 ((x2.getD p114.toNat ((0, 0) : Int × Int)).1), .int .i64 ((x2.getD p114.toNat ((0, 0) : Int × Int)).2)]) rfl sz78 (hF.ev rfl) (hF.ev rfl) rfl rfl rfl (S.free 0 rfl) rfl rfl) ?_; replace S := S.put 0 rfl (#[.int .i64 ((x2.getD p114.toNat ((0, 0) : Int × Int)).1), .int .i64 ((x2.getD p114.toNat ((0, 0) : Int × Int)).2)])
      generalize World.setRow _ _ _ = u at S ⊢
      refine wn ?_
      refine ws ?_
      obtain ⟨hk118, hM113⟩ := chk_ex hM113
      replace hk118 := fun hg => ixB_t (imp_t hk118 hg)
      obtain ⟨hk119, hM113⟩ := chk_ex hM113
      replace hk119 := fun hg => slB_t (imp_t hk119 hg)
      obtain ⟨p120, h120, hM113⟩ := bind_ex hM113
      refine region_gw (D := [58, 59, 60, 61, 62, 63, 64, 65, 66, 67, 68, 69, 70, 71, 72, 73, 74, 75, 76, 77, 78, 79, 80, 81, 82, 83, 84, 85, 86, 87, 88, 89, 90, 91, 92, 93, 94, 95]) (Lr := [.box g117 78 #[.int .i64 ((x2.getD p114.toNat ((0, 0) : Int × Int)).1), .int .i64 ((x2.getD p114.toNat ((0, 0) : Int × Int)).2)], .box g101 41 #[.slice A0 x0.length c0, .slice A1 x1.length c1, .slice A2 x2.length c2]]) (deps := (fun | 0 => [58] | 1 => [59] | 2 => [60] | 3 => [61] | 4 => [62] | 5 => [63] | 6 => [64] | 7 => [65] | 8 => [66] | 9 => [67] | 10 => [68] | 11 => [69] | 12 => [70] | 13 => [71] | 14 => [72] | 15 => [73] | 16 => [74] | 17 => [75] | 18 => [76] | 19 => [77] | 20 => [78] | 21 => [79] | 22 => [80] | 23 => [81] | 24 => [82] | 25 => [83] | 26 => [84] | 27 => [85] | 28 => [86] | 29 => [87] | 30 => [88] | 31 => [89] | 32 => [90] | 33 => [91] | 34 => [92] | 35 => [93] | 36 => [94] | 37 => [95] | _ => [])) (rd := (fun _ => [])) (zr := (fun _ => []))
        (φ := fun i vs => match i, vs with | 0, [v58] => v58 = .pointer (some ⟨g117, 0, none⟩) | 1, [v59] => v59 = .int .i64 ((x2.getD p114.toNat ((0, 0) : Int × Int)).1) | 2, [v60] => v60 = .bool (ltB ((x2.getD p114.toNat ((0, 0) : Int × Int)).1) 0) | 3, [v61] => v61 = .bool (ltB ((x2.getD p114.toNat ((0, 0) : Int × Int)).1) 0) | 4, [v62] => v62 = gv (!(ltB ((x2.getD p114.toNat ((0, 0) : Int × Int)).1) 0)) (.pointer (some ⟨g117, 0, none⟩)) | 5, [v63] => v63 = gv (!(ltB ((x2.getD p114.toNat ((0, 0) : Int × Int)).1) 0)) (.int .i64 ((x2.getD p114.toNat ((0, 0) : Int × Int)).1)) | 6, [v64] => v64 = gv (!(ltB ((x2.getD p114.toNat ((0, 0) : Int × Int)).1) 0)) (.bool (ltB 9 ((x2.getD p114.toNat ((0, 0) : Int × Int)).1))) | 7, [v65] => v65 = .bool ((ltB ((x2.getD p114.toNat ((0, 0) : Int × Int)).1) 0) || (ltB 9 ((x2.getD p114.toNat ((0, 0) : Int × Int)).1))) | 8, [v66] => v66 = .bool ((ltB ((x2.getD p114.toNat ((0, 0) : Int × Int)).1) 0) || (ltB 9 ((x2.getD p114.toNat ((0, 0) : Int × Int)).1))) | 9, [v67] => v67 = gv (!((ltB ((x2.getD p114.toNat ((0, 0) : Int × Int)).1) 0) || (ltB 9 ((x2.getD p114.toNat ((0, 0) : Int × Int)).1)))) (.pointer (some ⟨g117, 1, none⟩)) | 10, [v68] => v68 = gv (!((ltB ((x2.getD p114.toNat ((0, 0) : Int × Int)).1) 0) || (ltB 9 ((x2.getD p114.toNat ((0, 0) : Int × Int)).1)))) (.int .i64 ((x2.getD p114.toNat ((0, 0) : Int × Int)).2)) | 11, [v69] => v69 = gv (!((ltB ((x2.getD p114.toNat ((0, 0) : Int × Int)).1) 0) || (ltB 9 ((x2.getD p114.toNat ((0, 0) : Int × Int)).1)))) (.bool (ltB ((x2.getD p114.toNat ((0, 0) : Int × Int)).2) 0)) | 12, [v70] => v70 = .bool (((ltB ((x2.getD p114.toNat ((0, 0) : Int × Int)).1) 0) || (ltB 9 ((x2.getD p114.toNat ((0, 0) : Int × Int)).1))) || (ltB ((x2.getD p114.toNat ((0, 0) : Int × Int)).2) 0)) | 13, [v71] => v71 = .bool (((ltB ((x2.getD p114.toNat ((0, 0) : Int × Int)).1) 0) || (ltB 9 ((x2.getD p114.toNat ((0, 0) : Int × Int)).1))) || (ltB ((x2.getD p114.toNat ((0, 0) : Int × Int)).2) 0)) | 14, [v72] => v72 = gv (!(((ltB ((x2.getD p114.toNat ((0, 0) : Int × Int)).1) 0) || (ltB 9 ((x2.getD p114.toNat ((0, 0) : Int × Int)).1))) || (ltB ((x2.getD p114.toNat ((0, 0) : Int × Int)).2) 0))) (.pointer (some ⟨g117, 1, none⟩)) | 15, [v73] => v73 = gv (!(((ltB ((x2.getD p114.toNat ((0, 0) : Int × Int)).1) 0) || (ltB 9 ((x2.getD p114.toNat ((0, 0) : Int × Int)).1))) || (ltB ((x2.getD p114.toNat ((0, 0) : Int × Int)).2) 0))) (.int .i64 ((x2.getD p114.toNat ((0, 0) : Int × Int)).2)) | 16, [v74] => v74 = gv (!(((ltB ((x2.getD p114.toNat ((0, 0) : Int × Int)).1) 0) || (ltB 9 ((x2.getD p114.toNat ((0, 0) : Int × Int)).1))) || (ltB ((x2.getD p114.toNat ((0, 0) : Int × Int)).2) 0))) (.pointer (some ⟨g101, 0, none⟩)) | 17, [v75] => v75 = gv (!(((ltB ((x2.getD p114.toNat ((0, 0) : Int × Int)).1) 0) || (ltB 9 ((x2.getD p114.toNat ((0, 0) : Int × Int)).1))) || (ltB ((x2.getD p114.toNat ((0, 0) : Int × Int)).2) 0))) (.slice A0 x0.length c0) | 18, [v76] => v76 = gv (!(((ltB ((x2.getD p114.toNat ((0, 0) : Int × Int)).1) 0) || (ltB 9 ((x2.getD p114.toNat ((0, 0) : Int × Int)).1))) || (ltB ((x2.getD p114.toNat ((0, 0) : Int × Int)).2) 0))) (.int .i64 (x0.length : Int)) | 19, [v77] => v77 = gv (!(((ltB ((x2.getD p114.toNat ((0, 0) : Int × Int)).1) 0) || (ltB 9 ((x2.getD p114.toNat ((0, 0) : Int × Int)).1))) || (ltB ((x2.getD p114.toNat ((0, 0) : Int × Int)).2) 0))) (.bool (leB (x0.length : Int) ((x2.getD p114.toNat ((0, 0) : Int × Int)).2))) | 20, [v78] => v78 = .bool ((((ltB ((x2.getD p114.toNat ((0, 0) : Int × Int)).1) 0) || (ltB 9 ((x2.getD p114.toNat ((0, 0) : Int × Int)).1))) || (ltB ((x2.getD p114.toNat ((0, 0) : Int × Int)).2) 0)) || (leB (x0.length : Int) ((x2.getD p114.toNat ((0, 0) : Int × Int)).2))) | 21, [v79] => v79 = .bool ((((ltB ((x2.getD p114.toNat ((0, 0) : Int × Int)).1) 0) || (ltB 9 ((x2.getD p114.toNat ((0, 0) : Int × Int)).1))) || (ltB ((x2.getD p114.toNat ((0, 0) : Int × Int)).2) 0)) || (leB (x0.length : Int) ((x2.getD p114.toNat ((0, 0) : Int × Int)).2))) | 22, [v80] => v80 = gv (!((((ltB ((x2.getD p114.toNat ((0, 0) : Int × Int)).1) 0) || (ltB 9 ((x2.getD p114.toNat ((0, 0) : Int × Int)).1))) || (ltB ((x2.getD p114.toNat ((0, 0) : Int × Int)).2) 0)) || (leB (x0.length : Int) ((x2.getD p114.toNat ((0, 0) : Int × Int)).2)))) (.pointer (some ⟨g101, 1, none⟩)) | 23, [v81] => v81 = gv (!((((ltB ((x2.getD p114.toNat ((0, 0) : Int × Int)).1) 0) || (ltB 9 ((x2.getD p114.toNat ((0, 0) : Int × Int)).1))) || (ltB ((x2.getD p114.toNat ((0, 0) : Int × Int)).2) 0)) || (leB (x0.length : Int) ((x2.getD p114.toNat ((0, 0) : Int × Int)).2)))) (.slice A1 x1.length c1) | 24, [v82] => v82 = gv (!((((ltB ((x2.getD p114.toNat ((0, 0) : Int × Int)).1) 0) || (ltB 9 ((x2.getD p114.toNat ((0, 0) : Int × Int)).1))) || (ltB ((x2.getD p114.toNat ((0, 0) : Int × Int)).2) 0)) || (leB (x0.length : Int) ((x2.getD p114.toNat ((0, 0) : Int × Int)).2)))) (.pointer (some ⟨g117, 1, none⟩)) | 25, [v83] => v83 = gv (!((((ltB ((x2.getD p114.toNat ((0, 0) : Int × Int)).1) 0) || (ltB 9 ((x2.getD p114.toNat ((0, 0) : Int × Int)).1))) || (ltB ((x2.getD p114.toNat ((0, 0) : Int × Int)).2) 0)) || (leB (x0.length : Int) ((x2.getD p114.toNat ((0, 0) : Int × Int)).2)))) (.int .i64 ((x2.getD p114.toNat ((0, 0) : Int × Int)).2)) | 26, [v84] => v84 = gv (!((((ltB ((x2.getD p114.toNat ((0, 0) : Int × Int)).1) 0) || (ltB 9 ((x2.getD p114.toNat ((0, 0) : Int × Int)).1))) || (ltB ((x2.getD p114.toNat ((0, 0) : Int × Int)).2) 0)) || (leB (x0.length : Int) ((x2.getD p114.toNat ((0, 0) : Int × Int)).2)))) (.pointer (some ⟨adB A1, adO A1 + (((x2.getD p114.toNat ((0, 0) : Int × Int)).2).toNat) * 1, none⟩)) | 27, [v85] => v85 = gv (!((((ltB ((x2.getD p114.toNat ((0, 0) : Int × Int)).1) 0) || (ltB 9 ((x2.getD p114.toNat ((0, 0) : Int × Int)).1))) || (ltB ((x2.getD p114.toNat ((0, 0) : Int × Int)).2) 0)) || (leB (x0.length : Int) ((x2.getD p114.toNat ((0, 0) : Int × Int)).2)))) (.bool (x1.getD (((x2.getD p114.toNat ((0, 0) : Int × Int)).2).toNat) false)) | 28, [v86] => v86 = gv (!((((ltB ((x2.getD p114.toNat ((0, 0) : Int × Int)).1) 0) || (ltB 9 ((x2.getD p114.toNat ((0, 0) : Int × Int)).1))) || (ltB ((x2.getD p114.toNat ((0, 0) : Int × Int)).2) 0)) || (leB (x0.length : Int) ((x2.getD p114.toNat ((0, 0) : Int × Int)).2)))) (.bool (!(x1.getD (((x2.getD p114.toNat ((0, 0) : Int × Int)).2).toNat) false))) | 29, [v87] => v87 = .bool (((((ltB ((x2.getD p114.toNat ((0, 0) : Int × Int)).1) 0) || (ltB 9 ((x2.getD p114.toNat ((0, 0) : Int × Int)).1))) || (ltB ((x2.getD p114.toNat ((0, 0) : Int × Int)).2) 0)) || (leB (x0.length : Int) ((x2.getD p114.toNat ((0, 0) : Int × Int)).2))) || (!(x1.getD (((x2.getD p114.toNat ((0, 0) : Int × Int)).2).toNat) false))) | 30, [v88] => v88 = .bool (((((ltB ((x2.getD p114.toNat ((0, 0) : Int × Int)).1) 0) || (ltB 9 ((x2.getD p114.toNat ((0, 0) : Int × Int)).1))) || (ltB ((x2.getD p114.toNat ((0, 0) : Int × Int)).2) 0)) || (leB (x0.length : Int) ((x2.getD p114.toNat ((0, 0) : Int × Int)).2))) || (!(x1.getD (((x2.getD p114.toNat ((0, 0) : Int × Int)).2).toNat) false))) | 31, [v89] => v89 = gv (!(((((ltB ((x2.getD p114.toNat ((0, 0) : Int × Int)).1) 0) || (ltB 9 ((x2.getD p114.toNat ((0, 0) : Int × Int)).1))) || (ltB ((x2.getD p114.toNat ((0, 0) : Int × Int)).2) 0)) || (leB (x0.length : Int) ((x2.getD p114.toNat ((0, 0) : Int × Int)).2))) || (!(x1.getD (((x2.getD p114.toNat ((0, 0) : Int × Int)).2).toNat) false)))) (.pointer (some ⟨g101, 2, none⟩)) | 32, [v90] => v90 = gv (!(((((ltB ((x2.getD p114.toNat ((0, 0) : Int × Int)).1) 0) || (ltB 9 ((x2.getD p114.toNat ((0, 0) : Int × Int)).1))) || (ltB ((x2.getD p114.toNat ((0, 0) : Int × Int)).2) 0)) || (leB (x0.length : Int) ((x2.getD p114.toNat ((0, 0) : Int × Int)).2))) || (!(x1.getD (((x2.getD p114.toNat ((0, 0) : Int × Int)).2).toNat) false)))) (.slice A2 x2.length c2) | 33, [v91] => v91 = gv (!(((((ltB ((x2.getD p114.toNat ((0, 0) : Int × Int)).1) 0) || (ltB 9 ((x2.getD p114.toNat ((0, 0) : Int × Int)).1))) || (ltB ((x2.getD p114.toNat ((0, 0) : Int × Int)).2) 0)) || (leB (x0.length : Int) ((x2.getD p114.toNat ((0, 0) : Int × Int)).2))) || (!(x1.getD (((x2.getD p114.toNat ((0, 0) : Int × Int)).2).toNat) false)))) (.int .i64 p114) | 34, [v92] => v92 = gv (!(((((ltB ((x2.getD p114.toNat ((0, 0) : Int × Int)).1) 0) || (ltB 9 ((x2.getD p114.toNat ((0, 0) : Int × Int)).1))) || (ltB ((x2.getD p114.toNat ((0, 0) : Int × Int)).2) 0)) || (leB (x0.length : Int) ((x2.getD p114.toNat ((0, 0) : Int × Int)).2))) || (!(x1.getD (((x2.getD p114.toNat ((0, 0) : Int × Int)).2).toNat) false)))) (.slice (subA c2 ((0 : Int).toNat) 2 A2) ((subL x2 0 p114).length) (c2 - (0 : Int).toNat)) | 35, [v93] => v93 = gv (!(((((ltB ((x2.getD p114.toNat ((0, 0) : Int × Int)).1) 0) || (ltB 9 ((x2.getD p114.toNat ((0, 0) : Int × Int)).1))) || (ltB ((x2.getD p114.toNat ((0, 0) : Int × Int)).2) 0)) || (leB (x0.length : Int) ((x2.getD p114.toNat ((0, 0) : Int × Int)).2))) || (!(x1.getD (((x2.getD p114.toNat ((0, 0) : Int × Int)).2).toNat) false)))) (.agg #[.int .i64 ((x2.getD p114.toNat ((0, 0) : Int × Int)).1), .int .i64 ((x2.getD p114.toNat ((0, 0) : Int × Int)).2)]) | 36, [v94] => v94 = gv (!(((((ltB ((x2.getD p114.toNat ((0, 0) : Int × Int)).1) 0) || (ltB 9 ((x2.getD p114.toNat ((0, 0) : Int × Int)).1))) || (ltB ((x2.getD p114.toNat ((0, 0) : Int × Int)).2) 0)) || (leB (x0.length : Int) ((x2.getD p114.toNat ((0, 0) : Int × Int)).2))) || (!(x1.getD (((x2.getD p114.toNat ((0, 0) : Int × Int)).2).toNat) false)))) (.bool p120) | 37, [v95] => v95 = .bool ((((((ltB ((x2.getD p114.toNat ((0, 0) : Int × Int)).1) 0) || (ltB 9 ((x2.getD p114.toNat ((0, 0) : Int × Int)).1))) || (ltB ((x2.getD p114.toNat ((0, 0) : Int × Int)).2) 0)) || (leB (x0.length : Int) ((x2.getD p114.toNat ((0, 0) : Int × Int)).2))) || (!(x1.getD (((x2.getD p114.toNat ((0, 0) : Int × Int)).2).toNat) false))) || p120) | _, _ => True)
        (C := fun _ _ => [])
        (κ := (fun _ => none)) (Z := (fun _ => [])) mixed hF (by kernel_rfl) S ?_ ?_
      · refine ⟨?_, ?_, ?_, ?_, ?_, ?_, ?_, ?_, ?_, ?_, ?_, ?_, ?_, ?_, ?_, ?_, ?_, ?_, ?_, ?_, ?_, ?_, ?_, ?_, ?_, ?_, ?_, ?_, ?_, ?_, ?_, ?_, ?_, ?_, ?_, ?_, ?_, ?_, trivial⟩
        · intro a u X hB hu hp hr hz hl S
          replace S : St w u ([] ++ X) := S
          exact .inl ⟨rfl, .pointer (some ⟨g117, 0, none⟩), u, (run_fieldAddr rfl fl78_0 (hF.evB hB rfl rfl) rfl), rfl, S⟩
        · intro a u X hB hu hp hr hz hl S
          replace S : St w u ([] ++ X) := S
          have e58 : sl a 58 = .pointer (some ⟨g117, 0, none⟩) := hp 0 rfl
          exact .inl ⟨rfl, .int .i64 ((x2.getD p114.toNat ((0, 0) : Int × Int)).1), u, (run_load1 rfl one3 (ev_sl e58) ((gr_box S hl 0 rfl).cell rfl)), rfl, S⟩
        · intro a u X hB hu hp hr hz hl S
          replace S : St w u ([] ++ X) := S
          have e59 : sl a 59 = .int .i64 ((x2.getD p114.toNat ((0, 0) : Int × Int)).1) := hp 1 rfl
          exact .inl ⟨rfl, .bool (ltB ((x2.getD p114.toNat ((0, 0) : Int × Int)).1) 0), u, (run_lss (ev_sl e59) (ev_const _ _) rfl), rfl, S⟩
        · intro a u X hB hu hp hr hz hl S
          replace S : St w u ([] ++ X) := S
          have e60 : sl a 60 = .bool (ltB ((x2.getD p114.toNat ((0, 0) : Int × Int)).1) 0) := hp 2 rfl
          exact .inl ⟨rfl, .bool (ltB ((x2.getD p114.toNat ((0, 0) : Int × Int)).1) 0), u, (run_move rfl (ev_sl e60)), rfl, S⟩
        · intro a u X hB hu hp hr hz hl S
          replace S : St w u ([] ++ X) := S
          have e61 : sl a 61 = .bool (ltB ((x2.getD p114.toNat ((0, 0) : Int × Int)).1) 0) := hp 3 rfl
          rcases (Bool.eq_false_or_eq_true (!(ltB ((x2.getD p114.toNat ((0, 0) : Int × Int)).1) 0))).symm with hg | hg
          · exact .inr (.inr (.inr ⟨gr_eg rfl (yf (gr_yield rfl rfl e61)) hg, (gv_f hg).symm, S⟩))
          exact .inl ⟨gr_eg rfl (yf (gr_yield rfl rfl e61)) hg, .pointer (some ⟨g117, 0, none⟩), u, (run_fieldAddr rfl fl78_0 (hF.evB hB rfl rfl) rfl), (gv_t hg).symm, S⟩
        · intro a u X hB hu hp hr hz hl S
          replace S : St w u ([] ++ X) := S
          have e61 : sl a 61 = .bool (ltB ((x2.getD p114.toNat ((0, 0) : Int × Int)).1) 0) := hp 3 rfl
          have e62 : sl a 62 = gv (!(ltB ((x2.getD p114.toNat ((0, 0) : Int × Int)).1) 0)) (.pointer (some ⟨g117, 0, none⟩)) := hp 4 rfl
          rcases (Bool.eq_false_or_eq_true (!(ltB ((x2.getD p114.toNat ((0, 0) : Int × Int)).1) 0))).symm with hg | hg
          · exact .inr (.inr (.inr ⟨gr_eg rfl (yf (gr_yield rfl rfl e61)) hg, (gv_f hg).symm, S⟩))
          exact .inl ⟨gr_eg rfl (yf (gr_yield rfl rfl e61)) hg, .int .i64 ((x2.getD p114.toNat ((0, 0) : Int × Int)).1), u, (run_load1 rfl one3 ((ev_sl e62).trans (gv_t hg)) ((gr_box S hl 0 rfl).cell rfl)), (gv_t hg).symm, S⟩
        · intro a u X hB hu hp hr hz hl S
          replace S : St w u ([] ++ X) := S
          have e61 : sl a 61 = .bool (ltB ((x2.getD p114.toNat ((0, 0) : Int × Int)).1) 0) := hp 3 rfl
          have e63 : sl a 63 = gv (!(ltB ((x2.getD p114.toNat ((0, 0) : Int × Int)).1) 0)) (.int .i64 ((x2.getD p114.toNat ((0, 0) : Int × Int)).1)) := hp 5 rfl
          rcases (Bool.eq_false_or_eq_true (!(ltB ((x2.getD p114.toNat ((0, 0) : Int × Int)).1) 0))).symm with hg | hg
          · exact .inr (.inr (.inr ⟨gr_eg rfl (yf (gr_yield rfl rfl e61)) hg, (gv_f hg).symm, S⟩))
          exact .inl ⟨gr_eg rfl (yf (gr_yield rfl rfl e61)) hg, .bool (ltB 9 ((x2.getD p114.toNat ((0, 0) : Int × Int)).1)), u, (run_gtr ((ev_sl e63).trans (gv_t hg)) (ev_const _ _) rfl), (gv_t hg).symm, S⟩
        · intro a u X hB hu hp hr hz hl S
          replace S : St w u ([] ++ X) := S
          have e61 : sl a 61 = .bool (ltB ((x2.getD p114.toNat ((0, 0) : Int × Int)).1) 0) := hp 3 rfl
          have e64 : sl a 64 = gv (!(ltB ((x2.getD p114.toNat ((0, 0) : Int × Int)).1) 0)) (.bool (ltB 9 ((x2.getD p114.toNat ((0, 0) : Int × Int)).1))) := hp 6 rfl
          exact .inl ⟨rfl, .bool ((ltB ((x2.getD p114.toNat ((0, 0) : Int × Int)).1) 0) || (ltB 9 ((x2.getD p114.toNat ((0, 0) : Int × Int)).1))), u, (run_pick_or rfl (ev_sl e61) (ev_const _ _) (fun hp => ((ev_sl e64).trans (gv_t (not_t hp))))), rfl, S⟩
        · intro a u X hB hu hp hr hz hl S
          replace S : St w u ([] ++ X) := S
          have e65 : sl a 65 = .bool ((ltB ((x2.getD p114.toNat ((0, 0) : Int × Int)).1) 0) || (ltB 9 ((x2.getD p114.toNat ((0, 0) : Int × Int)).1))) := hp 7 rfl
          exact .inl ⟨rfl, .bool ((ltB ((x2.getD p114.toNat ((0, 0) : Int × Int)).1) 0) || (ltB 9 ((x2.getD p114.toNat ((0, 0) : Int × Int)).1))), u, (run_move rfl (ev_sl e65)), rfl, S⟩
        · intro a u X hB hu hp hr hz hl S
          replace S : St w u ([] ++ X) := S
          have e66 : sl a 66 = .bool ((ltB ((x2.getD p114.toNat ((0, 0) : Int × Int)).1) 0) || (ltB 9 ((x2.getD p114.toNat ((0, 0) : Int × Int)).1))) := hp 8 rfl
          rcases (Bool.eq_false_or_eq_true (!((ltB ((x2.getD p114.toNat ((0, 0) : Int × Int)).1) 0) || (ltB 9 ((x2.getD p114.toNat ((0, 0) : Int × Int)).1))))).symm with hg | hg
          · exact .inr (.inr (.inr ⟨gr_eg rfl (yf (gr_yield rfl rfl e66)) hg, (gv_f hg).symm, S⟩))
          exact .inl ⟨gr_eg rfl (yf (gr_yield rfl rfl e66)) hg, .pointer (some ⟨g117, 1, none⟩), u, (run_fieldAddr rfl fl78_1 (hF.evB hB rfl rfl) rfl), (gv_t hg).symm, S⟩
        · intro a u X hB hu hp hr hz hl S
          replace S : St w u ([] ++ X) := S
          have e66 : sl a 66 = .bool ((ltB ((x2.getD p114.toNat ((0, 0) : Int × Int)).1) 0) || (ltB 9 ((x2.getD p114.toNat ((0, 0) : Int × Int)).1))) := hp 8 rfl
          have e67 : sl a 67 = gv (!((ltB ((x2.getD p114.toNat ((0, 0) : Int × Int)).1) 0) || (ltB 9 ((x2.getD p114.toNat ((0, 0) : Int × Int)).1)))) (.pointer (some ⟨g117, 1, none⟩)) := hp 9 rfl
          rcases (Bool.eq_false_or_eq_true (!((ltB ((x2.getD p114.toNat ((0, 0) : Int × Int)).1) 0) || (ltB 9 ((x2.getD p114.toNat ((0, 0) : Int × Int)).1))))).symm with hg | hg
          · exact .inr (.inr (.inr ⟨gr_eg rfl (yf (gr_yield rfl rfl e66)) hg, (gv_f hg).symm, S⟩))
          exact .inl ⟨gr_eg rfl (yf (gr_yield rfl rfl e66)) hg, .int .i64 ((x2.getD p114.toNat ((0, 0) : Int × Int)).2), u, (run_load1 rfl one3 ((ev_sl e67).trans (gv_t hg)) ((gr_box S hl 0 rfl).cell rfl)), (gv_t hg).symm, S⟩
        · intro a u X hB hu hp hr hz hl S
          replace S : St w u ([] ++ X) := S
          have e66 : sl a 66 = .bool ((ltB ((x2.getD p114.toNat ((0, 0) : Int × Int)).1) 0) || (ltB 9 ((x2.getD p114.toNat ((0, 0) : Int × Int)).1))) := hp 8 rfl
          have e68 : sl a 68 = gv (!((ltB ((x2.getD p114.toNat ((0, 0) : Int × Int)).1) 0) || (ltB 9 ((x2.getD p114.toNat ((0, 0) : Int × Int)).1)))) (.int .i64 ((x2.getD p114.toNat ((0, 0) : Int × Int)).2)) := hp 10 rfl
          rcases (Bool.eq_false_or_eq_true (!((ltB ((x2.getD p114.toNat ((0, 0) : Int × Int)).1) 0) || (ltB 9 ((x2.getD p114.toNat ((0, 0) : Int × Int)).1))))).symm with hg | hg
          · exact .inr (.inr (.inr ⟨gr_eg rfl (yf (gr_yield rfl rfl e66)) hg, (gv_f hg).symm, S⟩))
          exact .inl ⟨gr_eg rfl (yf (gr_yield rfl rfl e66)) hg, .bool (ltB ((x2.getD p114.toNat ((0, 0) : Int × Int)).2) 0), u, (run_lss ((ev_sl e68).trans (gv_t hg)) (ev_const _ _) rfl), (gv_t hg).symm, S⟩
        · intro a u X hB hu hp hr hz hl S
          replace S : St w u ([] ++ X) := S
          have e66 : sl a 66 = .bool ((ltB ((x2.getD p114.toNat ((0, 0) : Int × Int)).1) 0) || (ltB 9 ((x2.getD p114.toNat ((0, 0) : Int × Int)).1))) := hp 8 rfl
          have e69 : sl a 69 = gv (!((ltB ((x2.getD p114.toNat ((0, 0) : Int × Int)).1) 0) || (ltB 9 ((x2.getD p114.toNat ((0, 0) : Int × Int)).1)))) (.bool (ltB ((x2.getD p114.toNat ((0, 0) : Int × Int)).2) 0)) := hp 11 rfl
          exact .inl ⟨rfl, .bool (((ltB ((x2.getD p114.toNat ((0, 0) : Int × Int)).1) 0) || (ltB 9 ((x2.getD p114.toNat ((0, 0) : Int × Int)).1))) || (ltB ((x2.getD p114.toNat ((0, 0) : Int × Int)).2) 0)), u, (run_pick_or rfl (ev_sl e66) (ev_const _ _) (fun hp => ((ev_sl e69).trans (gv_t (not_t hp))))), rfl, S⟩
        · intro a u X hB hu hp hr hz hl S
          replace S : St w u ([] ++ X) := S
          have e70 : sl a 70 = .bool (((ltB ((x2.getD p114.toNat ((0, 0) : Int × Int)).1) 0) || (ltB 9 ((x2.getD p114.toNat ((0, 0) : Int × Int)).1))) || (ltB ((x2.getD p114.toNat ((0, 0) : Int × Int)).2) 0)) := hp 12 rfl
          exact .inl ⟨rfl, .bool (((ltB ((x2.getD p114.toNat ((0, 0) : Int × Int)).1) 0) || (ltB 9 ((x2.getD p114.toNat ((0, 0) : Int × Int)).1))) || (ltB ((x2.getD p114.toNat ((0, 0) : Int × Int)).2) 0)), u, (run_move rfl (ev_sl e70)), rfl, S⟩
        · intro a u X hB hu hp hr hz hl S
          replace S : St w u ([] ++ X) := S
          have e71 : sl a 71 = .bool (((ltB ((x2.getD p114.toNat ((0, 0) : Int × Int)).1) 0) || (ltB 9 ((x2.getD p114.toNat ((0, 0) : Int × Int)).1))) || (ltB ((x2.getD p114.toNat ((0, 0) : Int × Int)).2) 0)) := hp 13 rfl
          rcases (Bool.eq_false_or_eq_true (!(((ltB ((x2.getD p114.toNat ((0, 0) : Int × Int)).1) 0) || (ltB 9 ((x2.getD p114.toNat ((0, 0) : Int × Int)).1))) || (ltB ((x2.getD p114.toNat ((0, 0) : Int × Int)).2) 0)))).symm with hg | hg
          · exact .inr (.inr (.inr ⟨gr_eg rfl (yf (gr_yield rfl rfl e71)) hg, (gv_f hg).symm, S⟩))
          exact .inl ⟨gr_eg rfl (yf (gr_yield rfl rfl e71)) hg, .pointer (some ⟨g117, 1, none⟩), u, (run_fieldAddr rfl fl78_1 (hF.evB hB rfl rfl) rfl), (gv_t hg).symm, S⟩
        · intro a u X hB hu hp hr hz hl S
          replace S : St w u ([] ++ X) := S
          have e71 : sl a 71 = .bool (((ltB ((x2.getD p114.toNat ((0, 0) : Int × Int)).1) 0) || (ltB 9 ((x2.getD p114.toNat ((0, 0) : Int × Int)).1))) || (ltB ((x2.getD p114.toNat ((0, 0) : Int × Int)).2) 0)) := hp 13 rfl
          have e72 : sl a 72 = gv (!(((ltB ((x2.getD p114.toNat ((0, 0) : Int × Int)).1) 0) || (ltB 9 ((x2.getD p114.toNat ((0, 0) : Int × Int)).1))) || (ltB ((x2.getD p114.toNat ((0, 0) : Int × Int)).2) 0))) (.pointer (some ⟨g117, 1, none⟩)) := hp 14 rfl
          rcases (Bool.eq_false_or_eq_true (!(((ltB ((x2.getD p114.toNat ((0, 0) : Int × Int)).1) 0) || (ltB 9 ((x2.getD p114.toNat ((0, 0) : Int × Int)).1))) || (ltB ((x2.getD p114.toNat ((0, 0) : Int × Int)).2) 0)))).symm with hg | hg
          · exact .inr (.inr (.inr ⟨gr_eg rfl (yf (gr_yield rfl rfl e71)) hg, (gv_f hg).symm, S⟩))
          exact .inl ⟨gr_eg rfl (yf (gr_yield rfl rfl e71)) hg, .int .i64 ((x2.getD p114.toNat ((0, 0) : Int × Int)).2), u, (run_load1 rfl one3 ((ev_sl e72).trans (gv_t hg)) ((gr_box S hl 0 rfl).cell rfl)), (gv_t hg).symm, S⟩
        · intro a u X hB hu hp hr hz hl S
          replace S : St w u ([] ++ X) := S
          have e71 : sl a 71 = .bool (((ltB ((x2.getD p114.toNat ((0, 0) : Int × Int)).1) 0) || (ltB 9 ((x2.getD p114.toNat ((0, 0) : Int × Int)).1))) || (ltB ((x2.getD p114.toNat ((0, 0) : Int × Int)).2) 0)) := hp 13 rfl
          rcases (Bool.eq_false_or_eq_true (!(((ltB ((x2.getD p114.toNat ((0, 0) : Int × Int)).1) 0) || (ltB 9 ((x2.getD p114.toNat ((0, 0) : Int × Int)).1))) || (ltB ((x2.getD p114.toNat ((0, 0) : Int × Int)).2) 0)))).symm with hg | hg
          · exact .inr (.inr (.inr ⟨gr_eg rfl (yf (gr_yield rfl rfl e71)) hg, (gv_f hg).symm, S⟩))
          exact .inl ⟨gr_eg rfl (yf (gr_yield rfl rfl e71)) hg, .pointer (some ⟨g101, 0, none⟩), u, (run_fieldAddr rfl fl41_0 (hF.evB hB rfl rfl) rfl), (gv_t hg).symm, S⟩
        · intro a u X hB hu hp hr hz hl S
          replace S : St w u ([] ++ X) := S
          have e71 : sl a 71 = .bool (((ltB ((x2.getD p114.toNat ((0, 0) : Int × Int)).1) 0) || (ltB 9 ((x2.getD p114.toNat ((0, 0) : Int × Int)).1))) || (ltB ((x2.getD p114.toNat ((0, 0) : Int × Int)).2) 0)) := hp 13 rfl
          have e74 : sl a 74 = gv (!(((ltB ((x2.getD p114.toNat ((0, 0) : Int × Int)).1) 0) || (ltB 9 ((x2.getD p114.toNat ((0, 0) : Int × Int)).1))) || (ltB ((x2.getD p114.toNat ((0, 0) : Int × Int)).2) 0))) (.pointer (some ⟨g101, 0, none⟩)) := hp 16 rfl
          rcases (Bool.eq_false_or_eq_true (!(((ltB ((x2.getD p114.toNat ((0, 0) : Int × Int)).1) 0) || (ltB 9 ((x2.getD p114.toNat ((0, 0) : Int × Int)).1))) || (ltB ((x2.getD p114.toNat ((0, 0) : Int × Int)).2) 0)))).symm with hg | hg
          · exact .inr (.inr (.inr ⟨gr_eg rfl (yf (gr_yield rfl rfl e71)) hg, (gv_f hg).symm, S⟩))
          exact .inl ⟨gr_eg rfl (yf (gr_yield rfl rfl e71)) hg, .slice A0 x0.length c0, u, (run_load1 rfl one26 ((ev_sl e74).trans (gv_t hg)) ((gr_box S hl 1 rfl).cell rfl)), (gv_t hg).symm, S⟩
        · intro a u X hB hu hp hr hz hl S
          replace S : St w u ([] ++ X) := S
          have e71 : sl a 71 = .bool (((ltB ((x2.getD p114.toNat ((0, 0) : Int × Int)).1) 0) || (ltB 9 ((x2.getD p114.toNat ((0, 0) : Int × Int)).1))) || (ltB ((x2.getD p114.toNat ((0, 0) : Int × Int)).2) 0)) := hp 13 rfl
          have e75 : sl a 75 = gv (!(((ltB ((x2.getD p114.toNat ((0, 0) : Int × Int)).1) 0) || (ltB 9 ((x2.getD p114.toNat ((0, 0) : Int × Int)).1))) || (ltB ((x2.getD p114.toNat ((0, 0) : Int × Int)).2) 0))) (.slice A0 x0.length c0) := hp 17 rfl
          rcases (Bool.eq_false_or_eq_true (!(((ltB ((x2.getD p114.toNat ((0, 0) : Int × Int)).1) 0) || (ltB 9 ((x2.getD p114.toNat ((0, 0) : Int × Int)).1))) || (ltB ((x2.getD p114.toNat ((0, 0) : Int × Int)).2) 0)))).symm with hg | hg
          · exact .inr (.inr (.inr ⟨gr_eg rfl (yf (gr_yield rfl rfl e71)) hg, (gv_f hg).symm, S⟩))
          exact .inl ⟨gr_eg rfl (yf (gr_yield rfl rfl e71)) hg, .int .i64 (x0.length : Int), u, (run_lenL rfl rfl Try.underlying26 ((ev_sl e75).trans (gv_t hg))), (gv_t hg).symm, S⟩
        · intro a u X hB hu hp hr hz hl S
          replace S : St w u ([] ++ X) := S
          have e71 : sl a 71 = .bool (((ltB ((x2.getD p114.toNat ((0, 0) : Int × Int)).1) 0) || (ltB 9 ((x2.getD p114.toNat ((0, 0) : Int × Int)).1))) || (ltB ((x2.getD p114.toNat ((0, 0) : Int × Int)).2) 0)) := hp 13 rfl
          have e73 : sl a 73 = gv (!(((ltB ((x2.getD p114.toNat ((0, 0) : Int × Int)).1) 0) || (ltB 9 ((x2.getD p114.toNat ((0, 0) : Int × Int)).1))) || (ltB ((x2.getD p114.toNat ((0, 0) : Int × Int)).2) 0))) (.int .i64 ((x2.getD p114.toNat ((0, 0) : Int × Int)).2)) := hp 15 rfl
          have e76 : sl a 76 = gv (!(((ltB ((x2.getD p114.toNat ((0, 0) : Int × Int)).1) 0) || (ltB 9 ((x2.getD p114.toNat ((0, 0) : Int × Int)).1))) || (ltB ((x2.getD p114.toNat ((0, 0) : Int × Int)).2) 0))) (.int .i64 (x0.length : Int)) := hp 18 rfl
          rcases (Bool.eq_false_or_eq_true (!(((ltB ((x2.getD p114.toNat ((0, 0) : Int × Int)).1) 0) || (ltB 9 ((x2.getD p114.toNat ((0, 0) : Int × Int)).1))) || (ltB ((x2.getD p114.toNat ((0, 0) : Int × Int)).2) 0)))).symm with hg | hg
          · exact .inr (.inr (.inr ⟨gr_eg rfl (yf (gr_yield rfl rfl e71)) hg, (gv_f hg).symm, S⟩))
          exact .inl ⟨gr_eg rfl (yf (gr_yield rfl rfl e71)) hg, .bool (leB (x0.length : Int) ((x2.getD p114.toNat ((0, 0) : Int × Int)).2)), u, (run_geq ((ev_sl e73).trans (gv_t hg)) ((ev_sl e76).trans (gv_t hg)) rfl), (gv_t hg).symm, S⟩
        · intro a u X hB hu hp hr hz hl S
          replace S : St w u ([] ++ X) := S
          have e71 : sl a 71 = .bool (((ltB ((x2.getD p114.toNat ((0, 0) : Int × Int)).1) 0) || (ltB 9 ((x2.getD p114.toNat ((0, 0) : Int × Int)).1))) || (ltB ((x2.getD p114.toNat ((0, 0) : Int × Int)).2) 0)) := hp 13 rfl
          have e77 : sl a 77 = gv (!(((ltB ((x2.getD p114.toNat ((0, 0) : Int × Int)).1) 0) || (ltB 9 ((x2.getD p114.toNat ((0, 0) : Int × Int)).1))) || (ltB ((x2.getD p114.toNat ((0, 0) : Int × Int)).2) 0))) (.bool (leB (x0.length : Int) ((x2.getD p114.toNat ((0, 0) : Int × Int)).2))) := hp 19 rfl
          exact .inl ⟨rfl, .bool ((((ltB ((x2.getD p114.toNat ((0, 0) : Int × Int)).1) 0) || (ltB 9 ((x2.getD p114.toNat ((0, 0) : Int × Int)).1))) || (ltB ((x2.getD p114.toNat ((0, 0) : Int × Int)).2) 0)) || (leB (x0.length : Int) ((x2.getD p114.toNat ((0, 0) : Int × Int)).2))), u, (run_pick_or rfl (ev_sl e71) (ev_const _ _) (fun hp => ((ev_sl e77).trans (gv_t (not_t hp))))), rfl, S⟩
        · intro a u X hB hu hp hr hz hl S
          replace S : St w u ([] ++ X) := S
          have e78 : sl a 78 = .bool ((((ltB ((x2.getD p114.toNat ((0, 0) : Int × Int)).1) 0) || (ltB 9 ((x2.getD p114.toNat ((0, 0) : Int × Int)).1))) || (ltB ((x2.getD p114.toNat ((0, 0) : Int × Int)).2) 0)) || (leB (x0.length : Int) ((x2.getD p114.toNat ((0, 0) : Int × Int)).2))) := hp 20 rfl
          exact .inl ⟨rfl, .bool ((((ltB ((x2.getD p114.toNat ((0, 0) : Int × Int)).1) 0) || (ltB 9 ((x2.getD p114.toNat ((0, 0) : Int × Int)).1))) || (ltB ((x2.getD p114.toNat ((0, 0) : Int × Int)).2) 0)) || (leB (x0.length : Int) ((x2.getD p114.toNat ((0, 0) : Int × Int)).2))), u, (run_move rfl (ev_sl e78)), rfl, S⟩
        · intro a u X hB hu hp hr hz hl S
          replace S : St w u ([] ++ X) := S
          have e79 : sl a 79 = .bool ((((ltB ((x2.getD p114.toNat ((0, 0) : Int × Int)).1) 0) || (ltB 9 ((x2.getD p114.toNat ((0, 0) : Int × Int)).1))) || (ltB ((x2.getD p114.toNat ((0, 0) : Int × Int)).2) 0)) || (leB (x0.length : Int) ((x2.getD p114.toNat ((0, 0) : Int × Int)).2))) := hp 21 rfl
          rcases (Bool.eq_false_or_eq_true (!((((ltB ((x2.getD p114.toNat ((0, 0) : Int × Int)).1) 0) || (ltB 9 ((x2.getD p114.toNat ((0, 0) : Int × Int)).1))) || (ltB ((x2.getD p114.toNat ((0, 0) : Int × Int)).2) 0)) || (leB (x0.length : Int) ((x2.getD p114.toNat ((0, 0) : Int × Int)).2))))).symm with hg | hg
          · exact .inr (.inr (.inr ⟨gr_eg rfl (yf (gr_yield rfl rfl e79)) hg, (gv_f hg).symm, S⟩))
          exact .inl ⟨gr_eg rfl (yf (gr_yield rfl rfl e79)) hg, .pointer (some ⟨g101, 1, none⟩), u, (run_fieldAddr rfl fl41_1 (hF.evB hB rfl rfl) rfl), (gv_t hg).symm, S⟩
        · intro a u X hB hu hp hr hz hl S
          replace S : St w u ([] ++ X) := S
          have e79 : sl a 79 = .bool ((((ltB ((x2.getD p114.toNat ((0, 0) : Int × Int)).1) 0) || (ltB 9 ((x2.getD p114.toNat ((0, 0) : Int × Int)).1))) || (ltB ((x2.getD p114.toNat ((0, 0) : Int × Int)).2) 0)) || (leB (x0.length : Int) ((x2.getD p114.toNat ((0, 0) : Int × Int)).2))) := hp 21 rfl
          have e80 : sl a 80 = gv (!((((ltB ((x2.getD p114.toNat ((0, 0) : Int × Int)).1) 0) || (ltB 9 ((x2.getD p114.toNat ((0, 0) : Int × Int)).1))) || (ltB ((x2.getD p114.toNat ((0, 0) : Int × Int)).2) 0)) || (leB (x0.length : Int) ((x2.getD p114.toNat ((0, 0) : Int × Int)).2)))) (.pointer (some ⟨g101, 1, none⟩)) := hp 22 rfl
          rcases (Bool.eq_false_or_eq_true (!((((ltB ((x2.getD p114.toNat ((0, 0) : Int × Int)).1) 0) || (ltB 9 ((x2.getD p114.toNat ((0, 0) : Int × Int)).1))) || (ltB ((x2.getD p114.toNat ((0, 0) : Int × Int)).2) 0)) || (leB (x0.length : Int) ((x2.getD p114.toNat ((0, 0) : Int × Int)).2))))).symm with hg | hg
          · exact .inr (.inr (.inr ⟨gr_eg rfl (yf (gr_yield rfl rfl e79)) hg, (gv_f hg).symm, S⟩))
          exact .inl ⟨gr_eg rfl (yf (gr_yield rfl rfl e79)) hg, .slice A1 x1.length c1, u, (run_load1 rfl one26 ((ev_sl e80).trans (gv_t hg)) ((gr_box S hl 1 rfl).cell rfl)), (gv_t hg).symm, S⟩
        · intro a u X hB hu hp hr hz hl S
          replace S : St w u ([] ++ X) := S
          have e79 : sl a 79 = .bool ((((ltB ((x2.getD p114.toNat ((0, 0) : Int × Int)).1) 0) || (ltB 9 ((x2.getD p114.toNat ((0, 0) : Int × Int)).1))) || (ltB ((x2.getD p114.toNat ((0, 0) : Int × Int)).2) 0)) || (leB (x0.length : Int) ((x2.getD p114.toNat ((0, 0) : Int × Int)).2))) := hp 21 rfl
          rcases (Bool.eq_false_or_eq_true (!((((ltB ((x2.getD p114.toNat ((0, 0) : Int × Int)).1) 0) || (ltB 9 ((x2.getD p114.toNat ((0, 0) : Int × Int)).1))) || (ltB ((x2.getD p114.toNat ((0, 0) : Int × Int)).2) 0)) || (leB (x0.length : Int) ((x2.getD p114.toNat ((0, 0) : Int × Int)).2))))).symm with hg | hg
          · exact .inr (.inr (.inr ⟨gr_eg rfl (yf (gr_yield rfl rfl e79)) hg, (gv_f hg).symm, S⟩))
          exact .inl ⟨gr_eg rfl (yf (gr_yield rfl rfl e79)) hg, .pointer (some ⟨g117, 1, none⟩), u, (run_fieldAddr rfl fl78_1 (hF.evB hB rfl rfl) rfl), (gv_t hg).symm, S⟩
        · intro a u X hB hu hp hr hz hl S
          replace S : St w u ([] ++ X) := S
          have e79 : sl a 79 = .bool ((((ltB ((x2.getD p114.toNat ((0, 0) : Int × Int)).1) 0) || (ltB 9 ((x2.getD p114.toNat ((0, 0) : Int × Int)).1))) || (ltB ((x2.getD p114.toNat ((0, 0) : Int × Int)).2) 0)) || (leB (x0.length : Int) ((x2.getD p114.toNat ((0, 0) : Int × Int)).2))) := hp 21 rfl
          have e82 : sl a 82 = gv (!((((ltB ((x2.getD p114.toNat ((0, 0) : Int × Int)).1) 0) || (ltB 9 ((x2.getD p114.toNat ((0, 0) : Int × Int)).1))) || (ltB ((x2.getD p114.toNat ((0, 0) : Int × Int)).2) 0)) || (leB (x0.length : Int) ((x2.getD p114.toNat ((0, 0) : Int × Int)).2)))) (.pointer (some ⟨g117, 1, none⟩)) := hp 24 rfl
          rcases (Bool.eq_false_or_eq_true (!((((ltB ((x2.getD p114.toNat ((0, 0) : Int × Int)).1) 0) || (ltB 9 ((x2.getD p114.toNat ((0, 0) : Int × Int)).1))) || (ltB ((x2.getD p114.toNat ((0, 0) : Int × Int)).2) 0)) || (leB (x0.length : Int) ((x2.getD p114.toNat ((0, 0) : Int × Int)).2))))).symm with hg | hg
          · exact .inr (.inr (.inr ⟨gr_eg rfl (yf (gr_yield rfl rfl e79)) hg, (gv_f hg).symm, S⟩))
          exact .inl ⟨gr_eg rfl (yf (gr_yield rfl rfl e79)) hg, .int .i64 ((x2.getD p114.toNat ((0, 0) : Int × Int)).2), u, (run_load1 rfl one3 ((ev_sl e82).trans (gv_t hg)) ((gr_box S hl 0 rfl).cell rfl)), (gv_t hg).symm, S⟩
        · intro a u X hB hu hp hr hz hl S
          replace S : St w u ([] ++ X) := S
          have e79 : sl a 79 = .bool ((((ltB ((x2.getD p114.toNat ((0, 0) : Int × Int)).1) 0) || (ltB 9 ((x2.getD p114.toNat ((0, 0) : Int × Int)).1))) || (ltB ((x2.getD p114.toNat ((0, 0) : Int × Int)).2) 0)) || (leB (x0.length : Int) ((x2.getD p114.toNat ((0, 0) : Int × Int)).2))) := hp 21 rfl
          have e81 : sl a 81 = gv (!((((ltB ((x2.getD p114.toNat ((0, 0) : Int × Int)).1) 0) || (ltB 9 ((x2.getD p114.toNat ((0, 0) : Int × Int)).1))) || (ltB ((x2.getD p114.toNat ((0, 0) : Int × Int)).2) 0)) || (leB (x0.length : Int) ((x2.getD p114.toNat ((0, 0) : Int × Int)).2)))) (.slice A1 x1.length c1) := hp 23 rfl
          have e83 : sl a 83 = gv (!((((ltB ((x2.getD p114.toNat ((0, 0) : Int × Int)).1) 0) || (ltB 9 ((x2.getD p114.toNat ((0, 0) : Int × Int)).1))) || (ltB ((x2.getD p114.toNat ((0, 0) : Int × Int)).2) 0)) || (leB (x0.length : Int) ((x2.getD p114.toNat ((0, 0) : Int × Int)).2)))) (.int .i64 ((x2.getD p114.toNat ((0, 0) : Int × Int)).2)) := hp 25 rfl
          rcases (Bool.eq_false_or_eq_true (!((((ltB ((x2.getD p114.toNat ((0, 0) : Int × Int)).1) 0) || (ltB 9 ((x2.getD p114.toNat ((0, 0) : Int × Int)).1))) || (ltB ((x2.getD p114.toNat ((0, 0) : Int × Int)).2) 0)) || (leB (x0.length : Int) ((x2.getD p114.toNat ((0, 0) : Int × Int)).2))))).symm with hg | hg
          · exact .inr (.inr (.inr ⟨gr_eg rfl (yf (gr_yield rfl rfl e79)) hg, (gv_f hg).symm, S⟩))
          exact .inl ⟨gr_eg rfl (yf (gr_yield rfl rfl e79)) hg, .pointer (some ⟨adB A1, adO A1 + (((x2.getD p114.toNat ((0, 0) : Int × Int)).2).toNat) * 1, none⟩), u, (run_indexAddr (b := adB A1) (off := adO A1) rfl Try.underlying26 sz4 (((ev_sl e81).trans (gv_t hg)).trans (congrArg (fun A => Value.slice A x1.length c1) ((S.rc0 h1.rc).rd.ad (ix_pos (hk118 hg))))) ((ev_sl e83).trans (gv_t hg)) (hk118 hg).1 (hk118 hg).2 (k' := adO A1 + (((x2.getD p114.toNat ((0, 0) : Int × Int)).2).toNat) * 1) rfl), (gv_t hg).symm, S⟩
        · intro a u X hB hu hp hr hz hl S
          replace S : St w u ([] ++ X) := S
          have e79 : sl a 79 = .bool ((((ltB ((x2.getD p114.toNat ((0, 0) : Int × Int)).1) 0) || (ltB 9 ((x2.getD p114.toNat ((0, 0) : Int × Int)).1))) || (ltB ((x2.getD p114.toNat ((0, 0) : Int × Int)).2) 0)) || (leB (x0.length : Int) ((x2.getD p114.toNat ((0, 0) : Int × Int)).2))) := hp 21 rfl
          have e84 : sl a 84 = gv (!((((ltB ((x2.getD p114.toNat ((0, 0) : Int × Int)).1) 0) || (ltB 9 ((x2.getD p114.toNat ((0, 0) : Int × Int)).1))) || (ltB ((x2.getD p114.toNat ((0, 0) : Int × Int)).2) 0)) || (leB (x0.length : Int) ((x2.getD p114.toNat ((0, 0) : Int × Int)).2)))) (.pointer (some ⟨adB A1, adO A1 + (((x2.getD p114.toNat ((0, 0) : Int × Int)).2).toNat) * 1, none⟩)) := hp 26 rfl
          rcases (Bool.eq_false_or_eq_true (!((((ltB ((x2.getD p114.toNat ((0, 0) : Int × Int)).1) 0) || (ltB 9 ((x2.getD p114.toNat ((0, 0) : Int × Int)).1))) || (ltB ((x2.getD p114.toNat ((0, 0) : Int × Int)).2) 0)) || (leB (x0.length : Int) ((x2.getD p114.toNat ((0, 0) : Int × Int)).2))))).symm with hg | hg
          · exact .inr (.inr (.inr ⟨gr_eg rfl (yf (gr_yield rfl rfl e79)) hg, (gv_f hg).symm, S⟩))
          exact .inl ⟨gr_eg rfl (yf (gr_yield rfl rfl e79)) hg, .bool (x1.getD (((x2.getD p114.toNat ((0, 0) : Int × Int)).2).toNat) false), u, (run_load1 rfl one4 ((ev_sl e84).trans (gv_t hg)) (rd_el0 (l := x1) (S.rc0 h1.rc).rd rfl eB_len false (ix_ltn (hk118 hg) rfl) rfl)), (gv_t hg).symm, S⟩
        · intro a u X hB hu hp hr hz hl S
          replace S : St w u ([] ++ X) := S
          have e79 : sl a 79 = .bool ((((ltB ((x2.getD p114.toNat ((0, 0) : Int × Int)).1) 0) || (ltB 9 ((x2.getD p114.toNat ((0, 0) : Int × Int)).1))) || (ltB ((x2.getD p114.toNat ((0, 0) : Int × Int)).2) 0)) || (leB (x0.length : Int) ((x2.getD p114.toNat ((0, 0) : Int × Int)).2))) := hp 21 rfl
          have e85 : sl a 85 = gv (!((((ltB ((x2.getD p114.toNat ((0, 0) : Int × Int)).1) 0) || (ltB 9 ((x2.getD p114.toNat ((0, 0) : Int × Int)).1))) || (ltB ((x2.getD p114.toNat ((0, 0) : Int × Int)).2) 0)) || (leB (x0.length : Int) ((x2.getD p114.toNat ((0, 0) : Int × Int)).2)))) (.bool (x1.getD (((x2.getD p114.toNat ((0, 0) : Int × Int)).2).toNat) false)) := hp 27 rfl
          rcases (Bool.eq_false_or_eq_true (!((((ltB ((x2.getD p114.toNat ((0, 0) : Int × Int)).1) 0) || (ltB 9 ((x2.getD p114.toNat ((0, 0) : Int × Int)).1))) || (ltB ((x2.getD p114.toNat ((0, 0) : Int × Int)).2) 0)) || (leB (x0.length : Int) ((x2.getD p114.toNat ((0, 0) : Int × Int)).2))))).symm with hg | hg
          · exact .inr (.inr (.inr ⟨gr_eg rfl (yf (gr_yield rfl rfl e79)) hg, (gv_f hg).symm, S⟩))
          exact .inl ⟨gr_eg rfl (yf (gr_yield rfl rfl e79)) hg, .bool (!(x1.getD (((x2.getD p114.toNat ((0, 0) : Int × Int)).2).toNat) false)), u, (run_not rfl ((ev_sl e85).trans (gv_t hg))), (gv_t hg).symm, S⟩
        · intro a u X hB hu hp hr hz hl S
          replace S : St w u ([] ++ X) := S
          have e79 : sl a 79 = .bool ((((ltB ((x2.getD p114.toNat ((0, 0) : Int × Int)).1) 0) || (ltB 9 ((x2.getD p114.toNat ((0, 0) : Int × Int)).1))) || (ltB ((x2.getD p114.toNat ((0, 0) : Int × Int)).2) 0)) || (leB (x0.length : Int) ((x2.getD p114.toNat ((0, 0) : Int × Int)).2))) := hp 21 rfl
          have e86 : sl a 86 = gv (!((((ltB ((x2.getD p114.toNat ((0, 0) : Int × Int)).1) 0) || (ltB 9 ((x2.getD p114.toNat ((0, 0) : Int × Int)).1))) || (ltB ((x2.getD p114.toNat ((0, 0) : Int × Int)).2) 0)) || (leB (x0.length : Int) ((x2.getD p114.toNat ((0, 0) : Int × Int)).2)))) (.bool (!(x1.getD (((x2.getD p114.toNat ((0, 0) : Int × Int)).2).toNat) false))) := hp 28 rfl
          exact .inl ⟨rfl, .bool (((((ltB ((x2.getD p114.toNat ((0, 0) : Int × Int)).1) 0) || (ltB 9 ((x2.getD p114.toNat ((0, 0) : Int × Int)).1))) || (ltB ((x2.getD p114.toNat ((0, 0) : Int × Int)).2) 0)) || (leB (x0.length : Int) ((x2.getD p114.toNat ((0, 0) : Int × Int)).2))) || (!(x1.getD (((x2.getD p114.toNat ((0, 0) : Int × Int)).2).toNat) false))), u, (run_pick_or rfl (ev_sl e79) (ev_const _ _) (fun hp => ((ev_sl e86).trans (gv_t (not_t hp))))), rfl, S⟩
        · intro a u X hB hu hp hr hz hl S
          replace S : St w u ([] ++ X) := S
          have e87 : sl a 87 = .bool (((((ltB ((x2.getD p114.toNat ((0, 0) : Int × Int)).1) 0) || (ltB 9 ((x2.getD p114.toNat ((0, 0) : Int × Int)).1))) || (ltB ((x2.getD p114.toNat ((0, 0) : Int × Int)).2) 0)) || (leB (x0.length : Int) ((x2.getD p114.toNat ((0, 0) : Int × Int)).2))) || (!(x1.getD (((x2.getD p114.toNat ((0, 0) : Int × Int)).2).toNat) false))) := hp 29 rfl
          exact .inl ⟨rfl, .bool (((((ltB ((x2.getD p114.toNat ((0, 0) : Int × Int)).1) 0) || (ltB 9 ((x2.getD p114.toNat ((0, 0) : Int × Int)).1))) || (ltB ((x2.getD p114.toNat ((0, 0) : Int × Int)).2) 0)) || (leB (x0.length : Int) ((x2.getD p114.toNat ((0, 0) : Int × Int)).2))) || (!(x1.getD (((x2.getD p114.toNat ((0, 0) : Int × Int)).2).toNat) false))), u, (run_move rfl (ev_sl e87)), rfl, S⟩
        · intro a u X hB hu hp hr hz hl S
          replace S : St w u ([] ++ X) := S
          have e88 : sl a 88 = .bool (((((ltB ((x2.getD p114.toNat ((0, 0) : Int × Int)).1) 0) || (ltB 9 ((x2.getD p114.toNat ((0, 0) : Int × Int)).1))) || (ltB ((x2.getD p114.toNat ((0, 0) : Int × Int)).2) 0)) || (leB (x0.length : Int) ((x2.getD p114.toNat ((0, 0) : Int × Int)).2))) || (!(x1.getD (((x2.getD p114.toNat ((0, 0) : Int × Int)).2).toNat) false))) := hp 30 rfl
          rcases (Bool.eq_false_or_eq_true (!(((((ltB ((x2.getD p114.toNat ((0, 0) : Int × Int)).1) 0) || (ltB 9 ((x2.getD p114.toNat ((0, 0) : Int × Int)).1))) || (ltB ((x2.getD p114.toNat ((0, 0) : Int × Int)).2) 0)) || (leB (x0.length : Int) ((x2.getD p114.toNat ((0, 0) : Int × Int)).2))) || (!(x1.getD (((x2.getD p114.toNat ((0, 0) : Int × Int)).2).toNat) false))))).symm with hg | hg
          · exact .inr (.inr (.inr ⟨gr_eg rfl (yf (gr_yield rfl rfl e88)) hg, (gv_f hg).symm, S⟩))
          exact .inl ⟨gr_eg rfl (yf (gr_yield rfl rfl e88)) hg, .pointer (some ⟨g101, 2, none⟩), u, (run_fieldAddr rfl fl41_2 (hF.evB hB rfl rfl) rfl), (gv_t hg).symm, S⟩
        · intro a u X hB hu hp hr hz hl S
          replace S : St w u ([] ++ X) := S
          have e88 : sl a 88 = .bool (((((ltB ((x2.getD p114.toNat ((0, 0) : Int × Int)).1) 0) || (ltB 9 ((x2.getD p114.toNat ((0, 0) : Int × Int)).1))) || (ltB ((x2.getD p114.toNat ((0, 0) : Int × Int)).2) 0)) || (leB (x0.length : Int) ((x2.getD p114.toNat ((0, 0) : Int × Int)).2))) || (!(x1.getD (((x2.getD p114.toNat ((0, 0) : Int × Int)).2).toNat) false))) := hp 30 rfl
          have e89 : sl a 89 = gv (!(((((ltB ((x2.getD p114.toNat ((0, 0) : Int × Int)).1) 0) || (ltB 9 ((x2.getD p114.toNat ((0, 0) : Int × Int)).1))) || (ltB ((x2.getD p114.toNat ((0, 0) : Int × Int)).2) 0)) || (leB (x0.length : Int) ((x2.getD p114.toNat ((0, 0) : Int × Int)).2))) || (!(x1.getD (((x2.getD p114.toNat ((0, 0) : Int × Int)).2).toNat) false)))) (.pointer (some ⟨g101, 2, none⟩)) := hp 31 rfl
          rcases (Bool.eq_false_or_eq_true (!(((((ltB ((x2.getD p114.toNat ((0, 0) : Int × Int)).1) 0) || (ltB 9 ((x2.getD p114.toNat ((0, 0) : Int × Int)).1))) || (ltB ((x2.getD p114.toNat ((0, 0) : Int × Int)).2) 0)) || (leB (x0.length : Int) ((x2.getD p114.toNat ((0, 0) : Int × Int)).2))) || (!(x1.getD (((x2.getD p114.toNat ((0, 0) : Int × Int)).2).toNat) false))))).symm with hg | hg
          · exact .inr (.inr (.inr ⟨gr_eg rfl (yf (gr_yield rfl rfl e88)) hg, (gv_f hg).symm, S⟩))
          exact .inl ⟨gr_eg rfl (yf (gr_yield rfl rfl e88)) hg, .slice A2 x2.length c2, u, (run_load1 rfl one39 ((ev_sl e89).trans (gv_t hg)) ((gr_box S hl 1 rfl).cell rfl)), (gv_t hg).symm, S⟩
        · intro a u X hB hu hp hr hz hl S
          replace S : St w u ([] ++ X) := S
          have e88 : sl a 88 = .bool (((((ltB ((x2.getD p114.toNat ((0, 0) : Int × Int)).1) 0) || (ltB 9 ((x2.getD p114.toNat ((0, 0) : Int × Int)).1))) || (ltB ((x2.getD p114.toNat ((0, 0) : Int × Int)).2) 0)) || (leB (x0.length : Int) ((x2.getD p114.toNat ((0, 0) : Int × Int)).2))) || (!(x1.getD (((x2.getD p114.toNat ((0, 0) : Int × Int)).2).toNat) false))) := hp 30 rfl
          rcases (Bool.eq_false_or_eq_true (!(((((ltB ((x2.getD p114.toNat ((0, 0) : Int × Int)).1) 0) || (ltB 9 ((x2.getD p114.toNat ((0, 0) : Int × Int)).1))) || (ltB ((x2.getD p114.toNat ((0, 0) : Int × Int)).2) 0)) || (leB (x0.length : Int) ((x2.getD p114.toNat ((0, 0) : Int × Int)).2))) || (!(x1.getD (((x2.getD p114.toNat ((0, 0) : Int × Int)).2).toNat) false))))).symm with hg | hg
          · exact .inr (.inr (.inr ⟨gr_eg rfl (yf (gr_yield rfl rfl e88)) hg, (gv_f hg).symm, S⟩))
          exact .inl ⟨gr_eg rfl (yf (gr_yield rfl rfl e88)) hg, .int .i64 p114, u, (run_move rfl (hF.evB hB rfl rfl)), (gv_t hg).symm, S⟩
        · intro a u X hB hu hp hr hz hl S
          replace S : St w u ([] ++ X) := S
          have e88 : sl a 88 = .bool (((((ltB ((x2.getD p114.toNat ((0, 0) : Int × Int)).1) 0) || (ltB 9 ((x2.getD p114.toNat ((0, 0) : Int × Int)).1))) || (ltB ((x2.getD p114.toNat ((0, 0) : Int × Int)).2) 0)) || (leB (x0.length : Int) ((x2.getD p114.toNat ((0, 0) : Int × Int)).2))) || (!(x1.getD (((x2.getD p114.toNat ((0, 0) : Int × Int)).2).toNat) false))) := hp 30 rfl
          have e90 : sl a 90 = gv (!(((((ltB ((x2.getD p114.toNat ((0, 0) : Int × Int)).1) 0) || (ltB 9 ((x2.getD p114.toNat ((0, 0) : Int × Int)).1))) || (ltB ((x2.getD p114.toNat ((0, 0) : Int × Int)).2) 0)) || (leB (x0.length : Int) ((x2.getD p114.toNat ((0, 0) : Int × Int)).2))) || (!(x1.getD (((x2.getD p114.toNat ((0, 0) : Int × Int)).2).toNat) false)))) (.slice A2 x2.length c2) := hp 32 rfl
          have e91 : sl a 91 = gv (!(((((ltB ((x2.getD p114.toNat ((0, 0) : Int × Int)).1) 0) || (ltB 9 ((x2.getD p114.toNat ((0, 0) : Int × Int)).1))) || (ltB ((x2.getD p114.toNat ((0, 0) : Int × Int)).2) 0)) || (leB (x0.length : Int) ((x2.getD p114.toNat ((0, 0) : Int × Int)).2))) || (!(x1.getD (((x2.getD p114.toNat ((0, 0) : Int × Int)).2).toNat) false)))) (.int .i64 p114) := hp 33 rfl
          rcases (Bool.eq_false_or_eq_true (!(((((ltB ((x2.getD p114.toNat ((0, 0) : Int × Int)).1) 0) || (ltB 9 ((x2.getD p114.toNat ((0, 0) : Int × Int)).1))) || (ltB ((x2.getD p114.toNat ((0, 0) : Int × Int)).2) 0)) || (leB (x0.length : Int) ((x2.getD p114.toNat ((0, 0) : Int × Int)).2))) || (!(x1.getD (((x2.getD p114.toNat ((0, 0) : Int × Int)).2).toNat) false))))).symm with hg | hg
          · exact .inr (.inr (.inr ⟨gr_eg rfl (yf (gr_yield rfl rfl e88)) hg, (gv_f hg).symm, S⟩))
          exact .inl ⟨gr_eg rfl (yf (gr_yield rfl rfl e88)) hg, .slice (subA c2 ((0 : Int).toNat) 2 A2) ((subL x2 0 p114).length) (c2 - (0 : Int).toNat), u, (run_sliceH (l := x2) rfl Try.underlying39 sz78 ((ev_sl e90).trans (gv_t hg)) ((ev_sl e91).trans (gv_t hg)) (hk119 hg) rfl (S.rc0 h2.rc).cap), (gv_t hg).symm, S⟩
        · intro a u X hB hu hp hr hz hl S
          replace S : St w u ([] ++ X) := S
          have e88 : sl a 88 = .bool (((((ltB ((x2.getD p114.toNat ((0, 0) : Int × Int)).1) 0) || (ltB 9 ((x2.getD p114.toNat ((0, 0) : Int × Int)).1))) || (ltB ((x2.getD p114.toNat ((0, 0) : Int × Int)).2) 0)) || (leB (x0.length : Int) ((x2.getD p114.toNat ((0, 0) : Int × Int)).2))) || (!(x1.getD (((x2.getD p114.toNat ((0, 0) : Int × Int)).2).toNat) false))) := hp 30 rfl
          rcases (Bool.eq_false_or_eq_true (!(((((ltB ((x2.getD p114.toNat ((0, 0) : Int × Int)).1) 0) || (ltB 9 ((x2.getD p114.toNat ((0, 0) : Int × Int)).1))) || (ltB ((x2.getD p114.toNat ((0, 0) : Int × Int)).2) 0)) || (leB (x0.length : Int) ((x2.getD p114.toNat ((0, 0) : Int × Int)).2))) || (!(x1.getD (((x2.getD p114.toNat ((0, 0) : Int × Int)).2).toNat) false))))).symm with hg | hg
          · exact .inr (.inr (.inr ⟨gr_eg rfl (yf (gr_yield rfl rfl e88)) hg, (gv_f hg).symm, S⟩))
          exact .inl ⟨gr_eg rfl (yf (gr_yield rfl rfl e88)) hg, .agg #[.int .i64 ((x2.getD p114.toNat ((0, 0) : Int × Int)).1), .int .i64 ((x2.getD p114.toNat ((0, 0) : Int × Int)).2)], u, (run_loadN rfl ag78 (hF.evB hB rfl rfl) rfl ((gr_box S hl 0 rfl).cells 0 #[.int .i64 ((x2.getD p114.toNat ((0, 0) : Int × Int)).1), .int .i64 ((x2.getD p114.toNat ((0, 0) : Int × Int)).2)] rfl)), (gv_t hg).symm, S⟩
        · intro a u X hB hu hp hr hz hl S
          replace S : St w u ([] ++ X) := S
          have e88 : sl a 88 = .bool (((((ltB ((x2.getD p114.toNat ((0, 0) : Int × Int)).1) 0) || (ltB 9 ((x2.getD p114.toNat ((0, 0) : Int × Int)).1))) || (ltB ((x2.getD p114.toNat ((0, 0) : Int × Int)).2) 0)) || (leB (x0.length : Int) ((x2.getD p114.toNat ((0, 0) : Int × Int)).2))) || (!(x1.getD (((x2.getD p114.toNat ((0, 0) : Int × Int)).2).toNat) false))) := hp 30 rfl
          have e92 : sl a 92 = gv (!(((((ltB ((x2.getD p114.toNat ((0, 0) : Int × Int)).1) 0) || (ltB 9 ((x2.getD p114.toNat ((0, 0) : Int × Int)).1))) || (ltB ((x2.getD p114.toNat ((0, 0) : Int × Int)).2) 0)) || (leB (x0.length : Int) ((x2.getD p114.toNat ((0, 0) : Int × Int)).2))) || (!(x1.getD (((x2.getD p114.toNat ((0, 0) : Int × Int)).2).toNat) false)))) (.slice (subA c2 ((0 : Int).toNat) 2 A2) ((subL x2 0 p114).length) (c2 - (0 : Int).toNat)) := hp 34 rfl
          have e93 : sl a 93 = gv (!(((((ltB ((x2.getD p114.toNat ((0, 0) : Int × Int)).1) 0) || (ltB 9 ((x2.getD p114.toNat ((0, 0) : Int × Int)).1))) || (ltB ((x2.getD p114.toNat ((0, 0) : Int × Int)).2) 0)) || (leB (x0.length : Int) ((x2.getD p114.toNat ((0, 0) : Int × Int)).2))) || (!(x1.getD (((x2.getD p114.toNat ((0, 0) : Int × Int)).2).toNat) false)))) (.agg #[.int .i64 ((x2.getD p114.toNat ((0, 0) : Int × Int)).1), .int .i64 ((x2.getD p114.toNat ((0, 0) : Int × Int)).2)]) := hp 35 rfl
          rcases (Bool.eq_false_or_eq_true (!(((((ltB ((x2.getD p114.toNat ((0, 0) : Int × Int)).1) 0) || (ltB 9 ((x2.getD p114.toNat ((0, 0) : Int × Int)).1))) || (ltB ((x2.getD p114.toNat ((0, 0) : Int × Int)).2) 0)) || (leB (x0.length : Int) ((x2.getD p114.toNat ((0, 0) : Int × Int)).2))) || (!(x1.getD (((x2.getD p114.toNat ((0, 0) : Int × Int)).2).toNat) false))))).symm with hg | hg
          · exact .inr (.inr (.inr ⟨gr_eg rfl (yf (gr_yield rfl rfl e88)) hg, (gv_f hg).symm, S⟩))
          refine .inr (.inr (.inl ⟨gr_eg rfl (yf (gr_yield rfl rfl e88)) hg, _, _, (run_call (vs := [.slice (subA c2 ((0 : Int).toNat) 2 A2) ((subL x2 0 p114).length) (c2 - (0 : Int).toNat), .agg #[.int .i64 ((x2.getD p114.toNat ((0, 0) : Int × Int)).1), .int .i64 ((x2.getD p114.toNat ((0, 0) : Int × Int)).2)]]) rfl rfl co56 ⟨((ev_sl e92).trans (gv_t hg)), ((ev_sl e93).trans (gv_t hg)), trivial⟩), ?_⟩))
          refine Calls.mono (c_slices_Contains_impl_Permit_impl_Permit (x0 := subL x2 0 p114) (x1 := (x2.getD p114.toNat ((0, 0) : Int × Int)).1) (x2 := (x2.getD p114.toNat ((0, 0) : Int × Int)).2) ⟨(rc_sub ePermit_len (hk119 hg) rfl (S.rc0 h2.rc)), rfl⟩ (gb_t h120 hg)) ?_
          rintro e w1 ⟨rfl, T⟩
          exact ⟨_, rfl, (gv_t hg).symm, S.call0 T⟩
        intro a u X hB hu hp hr hz hl S
        replace S : St w u ([] ++ X) := S
        have e88 : sl a 88 = .bool (((((ltB ((x2.getD p114.toNat ((0, 0) : Int × Int)).1) 0) || (ltB 9 ((x2.getD p114.toNat ((0, 0) : Int × Int)).1))) || (ltB ((x2.getD p114.toNat ((0, 0) : Int × Int)).2) 0)) || (leB (x0.length : Int) ((x2.getD p114.toNat ((0, 0) : Int × Int)).2))) || (!(x1.getD (((x2.getD p114.toNat ((0, 0) : Int × Int)).2).toNat) false))) := hp 30 rfl
        have e94 : sl a 94 = gv (!(((((ltB ((x2.getD p114.toNat ((0, 0) : Int × Int)).1) 0) || (ltB 9 ((x2.getD p114.toNat ((0, 0) : Int × Int)).1))) || (ltB ((x2.getD p114.toNat ((0, 0) : Int × Int)).2) 0)) || (leB (x0.length : Int) ((x2.getD p114.toNat ((0, 0) : Int × Int)).2))) || (!(x1.getD (((x2.getD p114.toNat ((0, 0) : Int × Int)).2).toNat) false)))) (.bool p120) := hp 36 rfl
        exact .inl ⟨rfl, .bool ((((((ltB ((x2.getD p114.toNat ((0, 0) : Int × Int)).1) 0) || (ltB 9 ((x2.getD p114.toNat ((0, 0) : Int × Int)).1))) || (ltB ((x2.getD p114.toNat ((0, 0) : Int × Int)).2) 0)) || (leB (x0.length : Int) ((x2.getD p114.toNat ((0, 0) : Int × Int)).2))) || (!(x1.getD (((x2.getD p114.toNat ((0, 0) : Int × Int)).2).toNat) false))) || p120), u, (run_pick_or rfl (ev_sl e88) (ev_const _ _) (fun hp => ((ev_sl e94).trans (gv_t (not_t hp))))), rfl, S⟩
      intro a u hB hp S
      obtain ⟨q0, q1, q2, q3, q4, q5, q6, q7, q8, q9, q10, q11, q12, q13, q14, q15, q16, q17, q18, q19, q20, q21, q22, q23, q24, q25, q26, q27, q28, q29, q30, q31, q32, q33, q34, q35, q36, q37, -⟩ := hp
      have e58 : sl a 58 = .pointer (some ⟨g117, 0, none⟩) := q0
      have e59 : sl a 59 = .int .i64 ((x2.getD p114.toNat ((0, 0) : Int × Int)).1) := q1
      have e60 : sl a 60 = .bool (ltB ((x2.getD p114.toNat ((0, 0) : Int × Int)).1) 0) := q2
      have e61 : sl a 61 = .bool (ltB ((x2.getD p114.toNat ((0, 0) : Int × Int)).1) 0) := q3
      have e62 : sl a 62 = gv (!(ltB ((x2.getD p114.toNat ((0, 0) : Int × Int)).1) 0)) (.pointer (some ⟨g117, 0, none⟩)) := q4
      have e63 : sl a 63 = gv (!(ltB ((x2.getD p114.toNat ((0, 0) : Int × Int)).1) 0)) (.int .i64 ((x2.getD p114.toNat ((0, 0) : Int × Int)).1)) := q5
      have e64 : sl a 64 = gv (!(ltB ((x2.getD p114.toNat ((0, 0) : Int × Int)).1) 0)) (.bool (ltB 9 ((x2.getD p114.toNat ((0, 0) : Int × Int)).1))) := q6
      have e65 : sl a 65 = .bool ((ltB ((x2.getD p114.toNat ((0, 0) : Int × Int)).1) 0) || (ltB 9 ((x2.getD p114.toNat ((0, 0) : Int × Int)).1))) := q7
      have e66 : sl a 66 = .bool ((ltB ((x2.getD p114.toNat ((0, 0) : Int × Int)).1) 0) || (ltB 9 ((x2.getD p114.toNat ((0, 0) : Int × Int)).1))) := q8
      have e67 : sl a 67 = gv (!((ltB ((x2.getD p114.toNat ((0, 0) : Int × Int)).1) 0) || (ltB 9 ((x2.getD p114.toNat ((0, 0) : Int × Int)).1)))) (.pointer (some ⟨g117, 1, none⟩)) := q9
      have e68 : sl a 68 = gv (!((ltB ((x2.getD p114.toNat ((0, 0) : Int × Int)).1) 0) || (ltB 9 ((x2.getD p114.toNat ((0, 0) : Int × Int)).1)))) (.int .i64 ((x2.getD p114.toNat ((0, 0) : Int × Int)).2)) := q10
      have e69 : sl a 69 = gv (!((ltB ((x2.getD p114.toNat ((0, 0) : Int × Int)).1) 0) || (ltB 9 ((x2.getD p114.toNat ((0, 0) : Int × Int)).1)))) (.bool (ltB ((x2.getD p114.toNat ((0, 0) : Int × Int)).2) 0)) := q11
      have e70 : sl a 70 = .bool (((ltB ((x2.getD p114.toNat ((0, 0) : Int × Int)).1) 0) || (ltB 9 ((x2.getD p114.toNat ((0, 0) : Int × Int)).1))) || (ltB ((x2.getD p114.toNat ((0, 0) : Int × Int)).2) 0)) := q12
      have e71 : sl a 71 = .bool (((ltB ((x2.getD p114.toNat ((0, 0) : Int × Int)).1) 0) || (ltB 9 ((x2.getD p114.toNat ((0, 0) : Int × Int)).1))) || (ltB ((x2.getD p114.toNat ((0, 0) : Int × Int)).2) 0)) := q13
      have e72 : sl a 72 = gv (!(((ltB ((x2.getD p114.toNat ((0, 0) : Int × Int)).1) 0) || (ltB 9 ((x2.getD p114.toNat ((0, 0) : Int × Int)).1))) || (ltB ((x2.getD p114.toNat ((0, 0) : Int × Int)).2) 0))) (.pointer (some ⟨g117, 1, none⟩)) := q14
      have e73 : sl a 73 = gv (!(((ltB ((x2.getD p114.toNat ((0, 0) : Int × Int)).1) 0) || (ltB 9 ((x2.getD p114.toNat ((0, 0) : Int × Int)).1))) || (ltB ((x2.getD p114.toNat ((0, 0) : Int × Int)).2) 0))) (.int .i64 ((x2.getD p114.toNat ((0, 0) : Int × Int)).2)) := q15
      have e74 : sl a 74 = gv (!(((ltB ((x2.getD p114.toNat ((0, 0) : Int × Int)).1) 0) || (ltB 9 ((x2.getD p114.toNat ((0, 0) : Int × Int)).1))) || (ltB ((x2.getD p114.toNat ((0, 0) : Int × Int)).2) 0))) (.pointer (some ⟨g101, 0, none⟩)) := q16
      have e75 : sl a 75 = gv (!(((ltB ((x2.getD p114.toNat ((0, 0) : Int × Int)).1) 0) || (ltB 9 ((x2.getD p114.toNat ((0, 0) : Int × Int)).1))) || (ltB ((x2.getD p114.toNat ((0, 0) : Int × Int)).2) 0))) (.slice A0 x0.length c0) := q17
      have e76 : sl a 76 = gv (!(((ltB ((x2.getD p114.toNat ((0, 0) : Int × Int)).1) 0) || (ltB 9 ((x2.getD p114.toNat ((0, 0) : Int × Int)).1))) || (ltB ((x2.getD p114.toNat ((0, 0) : Int × Int)).2) 0))) (.int .i64 (x0.length : Int)) := q18
      have e77 : sl a 77 = gv (!(((ltB ((x2.getD p114.toNat ((0, 0) : Int × Int)).1) 0) || (ltB 9 ((x2.getD p114.toNat ((0, 0) : Int × Int)).1))) || (ltB ((x2.getD p114.toNat ((0, 0) : Int × Int)).2) 0))) (.bool (leB (x0.length : Int) ((x2.getD p114.toNat ((0, 0) : Int × Int)).2))) := q19
      have e78 : sl a 78 = .bool ((((ltB ((x2.getD p114.toNat ((0, 0) : Int × Int)).1) 0) || (ltB 9 ((x2.getD p114.toNat ((0, 0) : Int × Int)).1))) || (ltB ((x2.getD p114.toNat ((0, 0) : Int × Int)).2) 0)) || (leB (x0.length : Int) ((x2.getD p114.toNat ((0, 0) : Int × Int)).2))) := q20
      have e79 : sl a 79 = .bool ((((ltB ((x2.getD p114.toNat ((0, 0) : Int × Int)).1) 0) || (ltB 9 ((x2.getD p114.toNat ((0, 0) : Int × Int)).1))) || (ltB ((x2.getD p114.toNat ((0, 0) : Int × Int)).2) 0)) || (leB (x0.length : Int) ((x2.getD p114.toNat ((0, 0) : Int × Int)).2))) := q21
      have e80 : sl a 80 = gv (!((((ltB ((x2.getD p114.toNat ((0, 0) : Int × Int)).1) 0) || (ltB 9 ((x2.getD p114.toNat ((0, 0) : Int × Int)).1))) || (ltB ((x2.getD p114.toNat ((0, 0) : Int × Int)).2) 0)) || (leB (x0.length : Int) ((x2.getD p114.toNat ((0, 0) : Int × Int)).2)))) (.pointer (some ⟨g101, 1, none⟩)) := q22
      have e81 : sl a 81 = gv (!((((ltB ((x2.getD p114.toNat ((0, 0) : Int × Int)).1) 0) || (ltB 9 ((x2.getD p114.toNat ((0, 0) : Int × Int)).1))) || (ltB ((x2.getD p114.toNat ((0, 0) : Int × Int)).2) 0)) || (leB (x0.length : Int) ((x2.getD p114.toNat ((0, 0) : Int × Int)).2)))) (.slice A1 x1.length c1) := q23
      have e82 : sl a 82 = gv (!((((ltB ((x2.getD p114.toNat ((0, 0) : Int × Int)).1) 0) || (ltB 9 ((x2.getD p114.toNat ((0, 0) : Int × Int)).1))) || (ltB ((x2.getD p114.toNat ((0, 0) : Int × Int)).2) 0)) || (leB (x0.length : Int) ((x2.getD p114.toNat ((0, 0) : Int × Int)).2)))) (.pointer (some ⟨g117, 1, none⟩)) := q24
      have e83 : sl a 83 = gv (!((((ltB ((x2.getD p114.toNat ((0, 0) : Int × Int)).1) 0) || (ltB 9 ((x2.getD p114.toNat ((0, 0) : Int × Int)).1))) || (ltB ((x2.getD p114.toNat ((0, 0) : Int × Int)).2) 0)) || (leB (x0.length : Int) ((x2.getD p114.toNat ((0, 0) : Int × Int)).2)))) (.int .i64 ((x2.getD p114.toNat ((0, 0) : Int × Int)).2)) := q25
      have e84 : sl a 84 = gv (!((((ltB ((x2.getD p114.toNat ((0, 0) : Int × Int)).1) 0) || (ltB 9 ((x2.getD p114.toNat ((0, 0) : Int × Int)).1))) || (ltB ((x2.getD p114.toNat ((0, 0) : Int × Int)).2) 0)) || (leB (x0.length : Int) ((x2.getD p114.toNat ((0, 0) : Int × Int)).2)))) (.pointer (some ⟨adB A1, adO A1 + (((x2.getD p114.toNat ((0, 0) : Int × Int)).2).toNat) * 1, none⟩)) := q26
      have e85 : sl a 85 = gv (!((((ltB ((x2.getD p114.toNat ((0, 0) : Int × Int)).1) 0) || (ltB 9 ((x2.getD p114.toNat ((0, 0) : Int × Int)).1))) || (ltB ((x2.getD p114.toNat ((0, 0) : Int × Int)).2) 0)) || (leB (x0.length : Int) ((x2.getD p114.toNat ((0, 0) : Int × Int)).2)))) (.bool (x1.getD (((x2.getD p114.toNat ((0, 0) : Int × Int)).2).toNat) false)) := q27
      have e86 : sl a 86 = gv (!((((ltB ((x2.getD p114.toNat ((0, 0) : Int × Int)).1) 0) || (ltB 9 ((x2.getD p114.toNat ((0, 0) : Int × Int)).1))) || (ltB ((x2.getD p114.toNat ((0, 0) : Int × Int)).2) 0)) || (leB (x0.length : Int) ((x2.getD p114.toNat ((0, 0) : Int × Int)).2)))) (.bool (!(x1.getD (((x2.getD p114.toNat ((0, 0) : Int × Int)).2).toNat) false))) := q28
      have e87 : sl a 87 = .bool (((((ltB ((x2.getD p114.toNat ((0, 0) : Int × Int)).1) 0) || (ltB 9 ((x2.getD p114.toNat ((0, 0) : Int × Int)).1))) || (ltB ((x2.getD p114.toNat ((0, 0) : Int × Int)).2) 0)) || (leB (x0.length : Int) ((x2.getD p114.toNat ((0, 0) : Int × Int)).2))) || (!(x1.getD (((x2.getD p114.toNat ((0, 0) : Int × Int)).2).toNat) false))) := q29
      have e88 : sl a 88 = .bool (((((ltB ((x2.getD p114.toNat ((0, 0) : Int × Int)).1) 0) || (ltB 9 ((x2.getD p114.toNat ((0, 0) : Int × Int)).1))) || (ltB ((x2.getD p114.toNat ((0, 0) : Int × Int)).2) 0)) || (leB (x0.length : Int) ((x2.getD p114.toNat ((0, 0) : Int × Int)).2))) || (!(x1.getD (((x2.getD p114.toNat ((0, 0) : Int × Int)).2).toNat) false))) := q30
      have e89 : sl a 89 = gv (!(((((ltB ((x2.getD p114.toNat ((0, 0) : Int × Int)).1) 0) || (ltB 9 ((x2.getD p114.toNat ((0, 0) : Int × Int)).1))) || (ltB ((x2.getD p114.toNat ((0, 0) : Int × Int)).2) 0)) || (leB (x0.length : Int) ((x2.getD p114.toNat ((0, 0) : Int × Int)).2))) || (!(x1.getD (((x2.getD p114.toNat ((0, 0) : Int × Int)).2).toNat) false)))) (.pointer (some ⟨g101, 2, none⟩)) := q31
      have e90 : sl a 90 = gv (!(((((ltB ((x2.getD p114.toNat ((0, 0) : Int × Int)).1) 0) || (ltB 9 ((x2.getD p114.toNat ((0, 0) : Int × Int)).1))) || (ltB ((x2.getD p114.toNat ((0, 0) : Int × Int)).2) 0)) || (leB (x0.length : Int) ((x2.getD p114.toNat ((0, 0) : Int × Int)).2))) || (!(x1.getD (((x2.getD p114.toNat ((0, 0) : Int × Int)).2).toNat) false)))) (.slice A2 x2.length c2) := q32
      have e91 : sl a 91 = gv (!(((((ltB ((x2.getD p114.toNat ((0, 0) : Int × Int)).1) 0) || (ltB 9 ((x2.getD p114.toNat ((0, 0) : Int × Int)).1))) || (ltB ((x2.getD p114.toNat ((0, 0) : Int × Int)).2) 0)) || (leB (x0.length : Int) ((x2.getD p114.toNat ((0, 0) : Int × Int)).2))) || (!(x1.getD (((x2.getD p114.toNat ((0, 0) : Int × Int)).2).toNat) false)))) (.int .i64 p114) := q33
      have e92 : sl a 92 = gv (!(((((ltB ((x2.getD p114.toNat ((0, 0) : Int × Int)).1) 0) || (ltB 9 ((x2.getD p114.toNat ((0, 0) : Int × Int)).1))) || (ltB ((x2.getD p114.toNat ((0, 0) : Int × Int)).2) 0)) || (leB (x0.length : Int) ((x2.getD p114.toNat ((0, 0) : Int × Int)).2))) || (!(x1.getD (((x2.getD p114.toNat ((0, 0) : Int × Int)).2).toNat) false)))) (.slice (subA c2 ((0 : Int).toNat) 2 A2) ((subL x2 0 p114).length) (c2 - (0 : Int).toNat)) := q34
      have e93 : sl a 93 = gv (!(((((ltB ((x2.getD p114.toNat ((0, 0) : Int × Int)).1) 0) || (ltB 9 ((x2.getD p114.toNat ((0, 0) : Int × Int)).1))) || (ltB ((x2.getD p114.toNat ((0, 0) : Int × Int)).2) 0)) || (leB (x0.length : Int) ((x2.getD p114.toNat ((0, 0) : Int × Int)).2))) || (!(x1.getD (((x2.getD p114.toNat ((0, 0) : Int × Int)).2).toNat) false)))) (.agg #[.int .i64 ((x2.getD p114.toNat ((0, 0) : Int × Int)).1), .int .i64 ((x2.getD p114.toNat ((0, 0) : Int × Int)).2)]) := q35
      have e94 : sl a 94 = gv (!(((((ltB ((x2.getD p114.toNat ((0, 0) : Int × Int)).1) 0) || (ltB 9 ((x2.getD p114.toNat ((0, 0) : Int × Int)).1))) || (ltB ((x2.getD p114.toNat ((0, 0) : Int × Int)).2) 0)) || (leB (x0.length : Int) ((x2.getD p114.toNat ((0, 0) : Int × Int)).2))) || (!(x1.getD (((x2.getD p114.toNat ((0, 0) : Int × Int)).2).toNat) false)))) (.bool p120) := q36
      have e95 : sl a 95 = .bool ((((((ltB ((x2.getD p114.toNat ((0, 0) : Int × Int)).1) 0) || (ltB 9 ((x2.getD p114.toNat ((0, 0) : Int × Int)).1))) || (ltB ((x2.getD p114.toNat ((0, 0) : Int × Int)).2) 0)) || (leB (x0.length : Int) ((x2.getD p114.toNat ((0, 0) : Int × Int)).2))) || (!(x1.getD (((x2.getD p114.toNat ((0, 0) : Int × Int)).2).toNat) false))) || p120) := q37
      replace S : St w u [.box g117 78 #[.int .i64 ((x2.getD p114.toNat ((0, 0) : Int × Int)).1), .int .i64 ((x2.getD p114.toNat ((0, 0) : Int × Int)).2)], .box g101 41 #[.slice A0 x0.length c0, .slice A1 x1.length c1, .slice A2 x2.length c2]] := S
      clear q0 q1 q2 q3 q4 q5 q6 q7 q8 q9 q10 q11 q12 q13 q14 q15 q16 q17 q18 q19 q20 q21 q22 q23 q24 q25 q26 q27 q28 q29 q30 q31 q32 q33 q34 q35 q36 q37
      have hF := hF.region hB [(58, .pointer (some ⟨g117, 0, none⟩)), (59, .int .i64 ((x2.getD p114.toNat ((0, 0) : Int × Int)).1)), (60, .bool (ltB ((x2.getD p114.toNat ((0, 0) : Int × Int)).1) 0)), (61, .bool (ltB ((x2.getD p114.toNat ((0, 0) : Int × Int)).1) 0)), (62, gv (!(ltB ((x2.getD p114.toNat ((0, 0) : Int × Int)).1) 0)) (.pointer (some ⟨g117, 0, none⟩))), (63, gv (!(ltB ((x2.getD p114.toNat ((0, 0) : Int × Int)).1) 0)) (.int .i64 ((x2.getD p114.toNat ((0, 0) : Int × Int)).1))), (64, gv (!(ltB ((x2.getD p114.toNat ((0, 0) : Int × Int)).1) 0)) (.bool (ltB 9 ((x2.getD p114.toNat ((0, 0) : Int × Int)).1)))), (65, .bool ((ltB ((x2.getD p114.toNat ((0, 0) : Int × Int)).1) 0) || (ltB 9 ((x2.getD p114.toNat ((0, 0) : Int × Int)).1)))), (66, .bool ((ltB ((x2.getD p114.toNat ((0, 0) : Int × Int)).1) 0) || (ltB 9 ((x2.getD p114.toNat ((0, 0) : Int × Int)).1)))), (67, gv (!((ltB ((x2.getD p114.toNat ((0, 0) : Int × Int)).1) 0) || (ltB 9 ((x2.getD p114.toNat ((0, 0) : Int × Int)).1)))) (.pointer (some ⟨g117, 1, none⟩))), (68, gv (!((ltB ((x2.getD p114.toNat ((0, 0) : Int × Int)).1) 0) || (ltB 9 ((x2.getD p114.toNat ((0, 0) : Int × Int)).1)))) (.int .i64 ((x2.getD p114.toNat ((0, 0) : Int × Int)).2))), (69, gv (!((ltB ((x2.getD p114.toNat ((0, 0) : Int × Int)).1) 0) || (ltB 9 ((x2.getD p114.toNat ((0, 0) : Int × Int)).1)))) (.bool (ltB ((x2.getD p114.toNat ((0, 0) : Int × Int)).2) 0))), (70, .bool (((ltB ((x2.getD p114.toNat ((0, 0) : Int × Int)).1) 0) || (ltB 9 ((x2.getD p114.toNat ((0, 0) : Int × Int)).1))) || (ltB ((x2.getD p114.toNat ((0, 0) : Int × Int)).2) 0))), (71, .bool (((ltB ((x2.getD p114.toNat ((0, 0) : Int × Int)).1) 0) || (ltB 9 ((x2.getD p114.toNat ((0, 0) : Int × Int)).1))) || (ltB ((x2.getD p114.toNat ((0, 0) : Int × Int)).2) 0))), (72, gv (!(((ltB ((x2.getD p114.toNat ((0, 0) : Int × Int)).1) 0) || (ltB 9 ((x2.getD p114.toNat ((0, 0) : Int × Int)).1))) || (ltB ((x2.getD p114.toNat ((0, 0) : Int × Int)).2) 0))) (.pointer (some ⟨g117, 1, none⟩))), (73, gv (!(((ltB ((x2.getD p114.toNat ((0, 0) : Int × Int)).1) 0) || (ltB 9 ((x2.getD p114.toNat ((0, 0) : Int × Int)).1))) || (ltB ((x2.getD p114.toNat ((0, 0) : Int × Int)).2) 0))) (.int .i64 ((x2.getD p114.toNat ((0, 0) : Int × Int)).2))), (74, gv (!(((ltB ((x2.getD p114.toNat ((0, 0) : Int × Int)).1) 0) || (ltB 9 ((x2.getD p114.toNat ((0, 0) : Int × Int)).1))) || (ltB ((x2.getD p114.toNat ((0, 0) : Int × Int)).2) 0))) (.pointer (some ⟨g101, 0, none⟩))), (75, gv (!(((ltB ((x2.getD p114.toNat ((0, 0) : Int × Int)).1) 0) || (ltB 9 ((x2.getD p114.toNat ((0, 0) : Int × Int)).1))) || (ltB ((x2.getD p114.toNat ((0, 0) : Int × Int)).2) 0))) (.slice A0 x0.length c0)), (76, gv (!(((ltB ((x2.getD p114.toNat ((0, 0) : Int × Int)).1) 0) || (ltB 9 ((x2.getD p114.toNat ((0, 0) : Int × Int)).1))) || (ltB ((x2.getD p114.toNat ((0, 0) : Int × Int)).2) 0))) (.int .i64 (x0.length : Int))), (77, gv (!(((ltB ((x2.getD p114.toNat ((0, 0) : Int × Int)).1) 0) || (ltB 9 ((x2.getD p114.toNat ((0, 0) : Int × Int)).1))) || (ltB ((x2.getD p114.toNat ((0, 0) : Int × Int)).2) 0))) (.bool (leB (x0.length : Int) ((x2.getD p114.toNat ((0, 0) : Int × Int)).2)))), (78, .bool ((((ltB ((x2.getD p114.toNat ((0, 0) : Int × Int)).1) 0) || (ltB 9 ((x2.getD p114.toNat ((0, 0) : Int × Int)).1))) || (ltB ((x2.getD p114.toNat ((0, 0) : Int × Int)).2) 0)) || (leB (x0.length : Int) ((x2.getD p114.toNat ((0, 0) : Int × Int)).2)))), (79, .bool ((((ltB ((x2.getD p114.toNat ((0, 0) : Int × Int)).1) 0) || (ltB 9 ((x2.getD p114.toNat ((0, 0) : Int × Int)).1))) || (ltB ((x2.getD p114.toNat ((0, 0) : Int × Int)).2) 0)) || (leB (x0.length : Int) ((x2.getD p114.toNat ((0, 0) : Int × Int)).2)))), (80, gv (!((((ltB ((x2.getD p114.toNat ((0, 0) : Int × Int)).1) 0) || (ltB 9 ((x2.getD p114.toNat ((0, 0) : Int × Int)).1))) || (ltB ((x2.getD p114.toNat ((0, 0) : Int × Int)).2) 0)) || (leB (x0.length : Int) ((x2.getD p114.toNat ((0, 0) : Int × Int)).2)))) (.pointer (some ⟨g101, 1, none⟩))), (81, gv (!((((ltB ((x2.getD p114.toNat ((0, 0) : Int × Int)).1) 0) || (ltB 9 ((x2.getD p114.toNat ((0, 0) : Int × Int)).1))) || (ltB ((x2.getD p114.toNat ((0, 0) : Int × Int)).2) 0)) || (leB (x0.length : Int) ((x2.getD p114.toNat ((0, 0) : Int × Int)).2)))) (.slice A1 x1.length c1)), (82, gv (!((((ltB ((x2.getD p114.toNat ((0, 0) : Int × Int)).1) 0) || (ltB 9 ((x2.getD p114.toNat ((0, 0) : Int × Int)).1))) || (ltB ((x2.getD p114.toNat ((0, 0) : Int × Int)).2) 0)) || (leB (x0.length : Int) ((x2.getD p114.toNat ((0, 0) : Int × Int)).2)))) (.pointer (some ⟨g117, 1, none⟩))), (83, gv (!((((ltB ((x2.getD p114.toNat ((0, 0) : Int × Int)).1) 0) || (ltB 9 ((x2.getD p114.toNat ((0, 0) : Int × Int)).1))) || (ltB ((x2.getD p114.toNat ((0, 0) : Int × Int)).2) 0)) || (leB (x0.length : Int) ((x2.getD p114.toNat ((0, 0) : Int × Int)).2)))) (.int .i64 ((x2.getD p114.toNat ((0, 0) : Int × Int)).2))), (84, gv (!((((ltB ((x2.getD p114.toNat ((0, 0) : Int × Int)).1) 0) || (ltB 9 ((x2.getD p114.toNat ((0, 0) : Int × Int)).1))) || (ltB ((x2.getD p114.toNat ((0, 0) : Int × Int)).2) 0)) || (leB (x0.length : Int) ((x2.getD p114.toNat ((0, 0) : Int × Int)).2)))) (.pointer (some ⟨adB A1, adO A1 + (((x2.getD p114.toNat ((0, 0) : Int × Int)).2).toNat) * 1, none⟩))), (85, gv (!((((ltB ((x2.getD p114.toNat ((0, 0) : Int × Int)).1) 0) || (ltB 9 ((x2.getD p114.toNat ((0, 0) : Int × Int)).1))) || (ltB ((x2.getD p114.toNat ((0, 0) : Int × Int)).2) 0)) || (leB (x0.length : Int) ((x2.getD p114.toNat ((0, 0) : Int × Int)).2)))) (.bool (x1.getD (((x2.getD p114.toNat ((0, 0) : Int × Int)).2).toNat) false))), (86, gv (!((((ltB ((x2.getD p114.toNat ((0, 0) : Int × Int)).1) 0) || (ltB 9 ((x2.getD p114.toNat ((0, 0) : Int × Int)).1))) || (ltB ((x2.getD p114.toNat ((0, 0) : Int × Int)).2) 0)) || (leB (x0.length : Int) ((x2.getD p114.toNat ((0, 0) : Int × Int)).2)))) (.bool (!(x1.getD (((x2.getD p114.toNat ((0, 0) : Int × Int)).2).toNat) false)))), (87, .bool (((((ltB ((x2.getD p114.toNat ((0, 0) : Int × Int)).1) 0) || (ltB 9 ((x2.getD p114.toNat ((0, 0) : Int × Int)).1))) || (ltB ((x2.getD p114.toNat ((0, 0) : Int × Int)).2) 0)) || (leB (x0.length : Int) ((x2.getD p114.toNat ((0, 0) : Int × Int)).2))) || (!(x1.getD (((x2.getD p114.toNat ((0, 0) : Int × Int)).2).toNat) false)))), (88, .bool (((((ltB ((x2.getD p114.toNat ((0, 0) : Int × Int)).1) 0) || (ltB 9 ((x2.getD p114.toNat ((0, 0) : Int × Int)).1))) || (ltB ((x2.getD p114.toNat ((0, 0) : Int × Int)).2) 0)) || (leB (x0.length : Int) ((x2.getD p114.toNat ((0, 0) : Int × Int)).2))) || (!(x1.getD (((x2.getD p114.toNat ((0, 0) : Int × Int)).2).toNat) false)))), (89, gv (!(((((ltB ((x2.getD p114.toNat ((0, 0) : Int × Int)).1) 0) || (ltB 9 ((x2.getD p114.toNat ((0, 0) : Int × Int)).1))) || (ltB ((x2.getD p114.toNat ((0, 0) : Int × Int)).2) 0)) || (leB (x0.length : Int) ((x2.getD p114.toNat ((0, 0) : Int × Int)).2))) || (!(x1.getD (((x2.getD p114.toNat ((0, 0) : Int × Int)).2).toNat) false)))) (.pointer (some ⟨g101, 2, none⟩))), (90, gv (!(((((ltB ((x2.getD p114.toNat ((0, 0) : Int × Int)).1) 0) || (ltB 9 ((x2.getD p114.toNat ((0, 0) : Int × Int)).1))) || (ltB ((x2.getD p114.toNat ((0, 0) : Int × Int)).2) 0)) || (leB (x0.length : Int) ((x2.getD p114.toNat ((0, 0) : Int × Int)).2))) || (!(x1.getD (((x2.getD p114.toNat ((0, 0) : Int × Int)).2).toNat) false)))) (.slice A2 x2.length c2)), (91, gv (!(((((ltB ((x2.getD p114.toNat ((0, 0) : Int × Int)).1) 0) || (ltB 9 ((x2.getD p114.toNat ((0, 0) : Int × Int)).1))) || (ltB ((x2.getD p114.toNat ((0, 0) : Int × Int)).2) 0)) || (leB (x0.length : Int) ((x2.getD p114.toNat ((0, 0) : Int × Int)).2))) || (!(x1.getD (((x2.getD p114.toNat ((0, 0) : Int × Int)).2).toNat) false)))) (.int .i64 p114)), (92, gv (!(((((ltB ((x2.getD p114.toNat ((0, 0) : Int × Int)).1) 0) || (ltB 9 ((x2.getD p114.toNat ((0, 0) : Int × Int)).1))) || (ltB ((x2.getD p114.toNat ((0, 0) : Int × Int)).2) 0)) || (leB (x0.length : Int) ((x2.getD p114.toNat ((0, 0) : Int × Int)).2))) || (!(x1.getD (((x2.getD p114.toNat ((0, 0) : Int × Int)).2).toNat) false)))) (.slice (subA c2 ((0 : Int).toNat) 2 A2) ((subL x2 0 p114).length) (c2 - (0 : Int).toNat))), (93, gv (!(((((ltB ((x2.getD p114.toNat ((0, 0) : Int × Int)).1) 0) || (ltB 9 ((x2.getD p114.toNat ((0, 0) : Int × Int)).1))) || (ltB ((x2.getD p114.toNat ((0, 0) : Int × Int)).2) 0)) || (leB (x0.length : Int) ((x2.getD p114.toNat ((0, 0) : Int × Int)).2))) || (!(x1.getD (((x2.getD p114.toNat ((0, 0) : Int × Int)).2).toNat) false)))) (.agg #[.int .i64 ((x2.getD p114.toNat ((0, 0) : Int × Int)).1), .int .i64 ((x2.getD p114.toNat ((0, 0) : Int × Int)).2)])), (94, gv (!(((((ltB ((x2.getD p114.toNat ((0, 0) : Int × Int)).1) 0) || (ltB 9 ((x2.getD p114.toNat ((0, 0) : Int × Int)).1))) || (ltB ((x2.getD p114.toNat ((0, 0) : Int × Int)).2) 0)) || (leB (x0.length : Int) ((x2.getD p114.toNat ((0, 0) : Int × Int)).2))) || (!(x1.getD (((x2.getD p114.toNat ((0, 0) : Int × Int)).2).toNat) false)))) (.bool p120)), (95, .bool ((((((ltB ((x2.getD p114.toNat ((0, 0) : Int × Int)).1) 0) || (ltB 9 ((x2.getD p114.toNat ((0, 0) : Int × Int)).1))) || (ltB ((x2.getD p114.toNat ((0, 0) : Int × Int)).2) 0)) || (leB (x0.length : Int) ((x2.getD p114.toNat ((0, 0) : Int × Int)).2))) || (!(x1.getD (((x2.getD p114.toNat ((0, 0) : Int × Int)).2).toNat) false))) || p120))] (allSl_mem ⟨e58, e59, e60, e61, e62, e63, e64, e65, e66, e67, e68, e69, e70, e71, e72, e73, e74, e75, e76, e77, e78, e79, e80, e81, e82, e83, e84, e85, e86, e87, e88, e89, e90, e91, e92, e93, e94, e95, trivial⟩) rfl
      clear hB e58 e59 e60 e61 e62 e63 e64 e65 e66 e67 e68 e69 e70 e71 e72 e73 e74 e75 e76 e77 e78 e79 e80 e81 e82 e83 e84 e85 e86 e87 e88 e89 e90 e91 e92 e93 e94 e95
      cases hc121 : ((((((ltB ((x2.getD p114.toNat ((0, 0) : Int × Int)).1) 0) || (ltB 9 ((x2.getD p114.toNat ((0, 0) : Int × Int)).1))) || (ltB ((x2.getD p114.toNat ((0, 0) : Int × Int)).2) 0)) || (leB (x0.length : Int) ((x2.getD p114.toNat ((0, 0) : Int × Int)).2))) || (!(x1.getD (((x2.getD p114.toNat ((0, 0) : Int × Int)).2).toNat) false))) || p120)
      · replace hM113 := bif_f hc121 hM113
        refine cond_f hF rfl hc121 ?_
        refine wp_skip ?_
        revert a;refine rl (ov (v := .int .i64 (w64 (p114 + 1))) rfl rfl rfl (fun a hF=>run_add (z := w64 (p114 + 1)) (hF.ev rfl) rfl rfl rfl) (mv rfl rfl fun a hF=>wn ?_))
        exact ⟨f2, Nat.lt_succ_self _, w64 (p114 + 1), hM113, hF.keep _ ⟨rfl, rfl, rfl, rfl, rfl, trivial⟩, S.sel [1] rfl rfl⟩
      replace hM113 := bif_t hc121 hM113
      refine cond_t hF rfl hc121 ?_
      revert a;refine sr (ov (v := .bool false) rfl rfl rfl (fun a hF=>run_assign rfl rfl) fun a hF=>wn ?_)
      refine wp_ret ?_
      repeat with_reducible first|refine tr ?_|refine ir ?_|refine nr ?_
      refine ret1_gw (.inl rfl) hF rfl (res_tmp (hF.ev rfl)) ?_
      obtain rfl := Option.some.inj hM113
      obtain rfl := Option.some.inj hM
      exact ⟨rfl, S.sel [] rfl rfl⟩
    rintro a u ⟨p111, rfl, hF, S⟩
    replace hM := elim_l hM
    revert a;refine sr (ov (v := .bool true) rfl rfl rfl (fun a hF=>run_assign rfl rfl) fun a hF=>wn ?_)
    refine wp_ret ?_
    repeat with_reducible first|refine tr ?_|refine ir ?_|refine nr ?_
    refine ret1_gw (.inl rfl) hF rfl (res_tmp (hF.ev rfl)) ?_
    obtain rfl := Option.some.inj hM
    exact ⟨rfl, S.sel [] rfl rfl⟩
  replace hM := bif_t hc102 hM
  refine cond_t hF rfl hc102 ?_
  revert a;refine sr (ov (v := .bool false) rfl rfl rfl (fun a hF=>run_assign rfl rfl) fun a hF=>wn ?_)
  refine wp_ret ?_
  repeat with_reducible first|refine tr ?_|refine ir ?_|refine nr ?_
  refine ret1_gw (.inl rfl) hF rfl (res_tmp (hF.ev rfl)) ?_
  obtain rfl := Option.some.inj hM
  exact ⟨rfl, S.sel [] rfl rfl⟩
theorem c_impl_Net_hasLine {x0 : Int} {x1 : List (Int × Int × Int)} {x2 : Int} {A1 : Option Addr} {n1 c1 : Nat} {w : World} {r : Bool} (h1 : Rt w 3 eLine A1 n1 c1 x1) (hM : m_impl_Net_hasLine x0 x1 x2 = some r) :
    Calls Try.prog 30 #[.agg #[.int .i64 x0, .slice A1 n1 c1], .int .i64 x2] w (fun e w' => e = .returned (.bool r) ∧ St w w' []) := by
  obtain rfl := h1.len
  unfold m_impl_Net_hasLine at hM
  refine calls_gw Try.func30 Try.ntmps30 rfl [(0, .agg #[.int .i64 x0, .slice A1 x1.length c1]), (1, .int .i64 x2)] ⟨rfl, rfl, trivial⟩ rfl ?_
  intro a hF
  have S := St.nil w
  refine wsg ?_
  refine op_new (cs := #[.int .i64 x0, .slice A1 x1.length c1]) rfl rfl hF rfl S (run_box rfl (hF.ev rfl) rfl) ?_; clear hF S; intro a g101 u hF S
  refine op_val (v := .bool false) rfl rfl hF rfl (run_assign rfl rfl) ?_;clear hF;intro a hF
  refine wn ?_
  revert a;refine sr (mv rfl rfl (ov (v := .bool (leB 0 x2)) rfl rfl rfl (fun a hF=>run_geq (hF.ev rfl) rfl rfl) (mv rfl rfl fun a hF=>?_)))
  refine op_gv (v := .int .i64 x2) rfl rfl hF rfl (yt (gw_yield hF rfl rfl rfl)) (fun hg => (run_move rfl (hF.ev rfl))) ?_;clear hF;intro a hF
  refine op_gv (v := .pointer (some ⟨g101, 1, none⟩)) rfl rfl hF rfl (yt (gw_yield hF rfl rfl rfl)) (fun hg => (run_fieldAddr rfl fl37_1 (hF.ev rfl) rfl)) ?_;clear hF;intro a hF
  refine op_gv (v := .slice A1 x1.length c1) rfl rfl hF rfl (yt (gw_yield hF rfl rfl rfl)) (fun hg => (run_load1 rfl one35 ((hF.ev rfl).trans (gv_t hg)) ((S.free 0 rfl).cell rfl))) ?_;clear hF;intro a hF
  refine op_gv (v := .int .i64 (x1.length : Int)) rfl rfl hF rfl (yt (gw_yield hF rfl rfl rfl)) (fun hg => (run_lenL rfl rfl Try.underlying35 ((hF.ev rfl).trans (gv_t hg)))) ?_;clear hF;intro a hF
  refine op_gv (v := .bool (ltB x2 (x1.length : Int))) rfl rfl hF rfl (yt (gw_yield hF rfl rfl rfl)) (fun hg => (run_lss ((hF.ev rfl).trans (gv_t hg)) ((hF.ev rfl).trans (gv_t hg)) rfl)) ?_;clear hF;intro a hF
  revert a;refine ov (v := .bool ((leB 0 x2) && (ltB x2 (x1.length : Int)))) rfl rfl rfl (fun a hF=>run_pick_and rfl (hF.ev rfl) (fun hp => ((hF.ev rfl).trans (gv_t hp))) rfl) (ag rfl rfl fun a hF=>wn ?_)
  refine wp_ret ?_
  repeat with_reducible first|refine tr ?_|refine ir ?_|refine nr ?_
  refine ret1_gw (.inl rfl) hF rfl (res_tmp (hF.ev rfl)) ?_
  obtain rfl := Option.some.inj hM
  exact ⟨rfl, S.sel [] rfl rfl⟩
theorem c_impl_StateValid {x0 : Int} {x1 : List (Int × Int × Int)} {x2 : List Bool} {A1 : Option Addr} {n1 c1 : Nat} {A2 : Option Addr} {n2 c2 : Nat} {w : World} {r : Bool} (h1 : Rt w 3 eLine A1 n1 c1 x1) (h2 : Rt w 1 eB A2 n2 c2 x2) (hM : m_impl_StateValid x0 x1 x2 = some r) :
    Calls Try.prog 82 #[.agg #[.int .i64 x0, .slice A1 n1 c1], .slice A2 n2 c2] w (fun e w' => e = .returned (.bool r) ∧ St w w' []) := by
  obtain rfl := h1.len
  obtain rfl := h2.len
  unfold m_impl_StateValid at hM
  refine calls_gw Try.func82 Try.ntmps82 rfl [(0, .agg #[.int .i64 x0, .slice A1 x1.length c1]), (1, .slice A2 x2.length c2)] ⟨rfl, rfl, trivial⟩ rfl ?_
  intro a hF
  have S := St.nil w
  refine wsg ?_
  refine op_new (cs := #[.int .i64 x0, .slice A1 x1.length c1]) rfl rfl hF rfl S (run_box rfl (hF.ev rfl) rfl) ?_; clear hF S; intro a g101 u hF S
  refine op_val (v := .bool false) rfl rfl hF rfl (run_assign rfl rfl) ?_;clear hF;intro a hF
  refine wn ?_
  revert a;refine sr (ov rfl rfl rfl (fun a hF=>run_loadN rfl ag37 (hF.ev rfl) rfl ((S.free 0 rfl).cells 0 #[.int .i64 x0, .slice A1 x1.length c1] rfl)) fun a hF=>?_)
  obtain ⟨p102, h102, hM⟩ := bind_ex hM
  refine op_call rfl rfl hF rfl (run_call (vs := [.agg #[.int .i64 x0, .slice A1 x1.length c1]]) rfl rfl co54 ⟨(hF.ev rfl), trivial⟩) (c_impl_NetValid (x0 := x0) (x1 := x1) ⟨(S.rc0 h1.rc), rfl⟩ h102) ?_
  rintro e u ⟨rfl, T⟩
  refine ⟨_, rfl, ?_⟩
  clear hF; intro a hF
  replace S := S.call0 T; clear T
  refine op_val (v := .bool p102) rfl rfl hF rfl (run_move rfl (hF.ev rfl)) ?_;clear hF;intro a hF
  refine op_gv (v := .slice A2 x2.length c2) rfl rfl hF rfl (yt (gw_yield hF rfl rfl rfl)) (fun hg => (run_move rfl (hF.ev rfl))) ?_;clear hF;intro a hF
  refine op_gv (v := .int .i64 (x2.length : Int)) rfl rfl hF rfl (yt (gw_yield hF rfl rfl rfl)) (fun hg => (run_lenL rfl rfl Try.underlying26 ((hF.ev rfl).trans (gv_t hg)))) ?_;clear hF;intro a hF
  refine op_gv (v := .pointer (some ⟨g101, 1, none⟩)) rfl rfl hF rfl (yt (gw_yield hF rfl rfl rfl)) (fun hg => (run_fieldAddr rfl fl37_1 (hF.ev rfl) rfl)) ?_;clear hF;intro a hF
  refine op_gv (v := .slice A1 x1.length c1) rfl rfl hF rfl (yt (gw_yield hF rfl rfl rfl)) (fun hg => (run_load1 rfl one35 ((hF.ev rfl).trans (gv_t hg)) ((S.free 0 rfl).cell rfl))) ?_;clear hF;intro a hF
  refine op_gv (v := .int .i64 (x1.length : Int)) rfl rfl hF rfl (yt (gw_yield hF rfl rfl rfl)) (fun hg => (run_lenL rfl rfl Try.underlying35 ((hF.ev rfl).trans (gv_t hg)))) ?_;clear hF;intro a hF
  refine op_gv (v := .bool ((x2.length : Int) == (x1.length : Int))) rfl rfl hF rfl (yt (gw_yield hF rfl rfl rfl)) (fun hg => (run_eql ((hF.ev rfl).trans (gv_t hg)) ((hF.ev rfl).trans (gv_t hg)) rfl)) ?_;clear hF;intro a hF
  revert a;refine ov (v := .bool (p102 && ((x2.length : Int) == (x1.length : Int)))) rfl rfl rfl (fun a hF=>run_pick_and rfl (hF.ev rfl) (fun hp => ((hF.ev rfl).trans (gv_t hp))) rfl) (ag rfl rfl fun a hF=>wn ?_)
  refine wp_ret ?_
  repeat with_reducible first|refine tr ?_|refine ir ?_|refine nr ?_
  refine ret1_gw (.inl rfl) hF rfl (res_tmp (hF.ev rfl)) ?_
  obtain rfl := Option.some.inj hM
  exact ⟨rfl, S.sel [] rfl rfl⟩
theorem c_impl_fedValid {x0 : Int} {x1 : List (Int × Int × Int)} {x2 : List Bool} {x3 : List (Int × Int)} {A1 : Option Addr} {n1 c1 : Nat} {A2 : Option Addr} {n2 c2 : Nat} {A3 : Option Addr} {n3 c3 : Nat} {w : World} {r : Bool} (h1 : Rt w 3 eLine A1 n1 c1 x1) (h2 : Rt w 1 eB A2 n2 c2 x2) (h3 : Rt w 2 eBus A3 n3 c3 x3) (hM : m_impl_fedValid x0 x1 x2 x3 = some r) :
    Calls Try.prog 63 #[.agg #[.int .i64 x0, .slice A1 n1 c1], .slice A2 n2 c2, .slice A3 n3 c3] w (fun e w' => e = .returned (.bool r) ∧ St w w' []) := by
  obtain rfl := h1.len
  obtain rfl := h2.len
  obtain rfl := h3.len
  unfold m_impl_fedValid at hM
  refine calls_gw Try.func63 Try.ntmps63 rfl [(0, .agg #[.int .i64 x0, .slice A1 x1.length c1]), (1, .slice A2 x2.length c2), (2, .slice A3 x3.length c3)] ⟨rfl, rfl, rfl, trivial⟩ rfl ?_
  intro a hF
  have S := St.nil w
  refine wsg ?_
  refine op_new (cs := #[.int .i64 x0, .slice A1 x1.length c1]) rfl rfl hF rfl S (run_box rfl (hF.ev rfl) rfl) ?_; clear hF S; intro a g101 u hF S
  refine op_val (v := .bool false) rfl rfl hF rfl (run_assign rfl rfl) ?_;clear hF;intro a hF
  refine wn ?_
  revert a;refine sr (ov rfl rfl rfl (fun a hF=>run_loadN rfl ag37 (hF.ev rfl) rfl ((S.free 0 rfl).cells 0 #[.int .i64 x0, .slice A1 x1.length c1] rfl)) (mv rfl rfl fun a hF=>?_))
  obtain ⟨p102, h102, hM⟩ := bind_ex hM
  refine op_call rfl rfl hF rfl (run_call (vs := [.agg #[.int .i64 x0, .slice A1 x1.length c1], .slice A2 x2.length c2]) rfl rfl co82 ⟨(hF.ev rfl), (hF.ev rfl), trivial⟩) (c_impl_StateValid (x0 := x0) (x1 := x1) (x2 := x2) ⟨(S.rc0 h1.rc), rfl⟩ ⟨(S.rc0 h2.rc), rfl⟩ h102) ?_
  rintro e u ⟨rfl, T⟩
  refine ⟨_, rfl, ?_⟩
  clear hF; intro a hF
  replace S := S.call0 T; clear T
  refine op_val (v := .bool p102) rfl rfl hF rfl (run_move rfl (hF.ev rfl)) ?_;clear hF;intro a hF
  refine op_gv (v := .agg #[.int .i64 x0, .slice A1 x1.length c1]) rfl rfl hF rfl (yt (gw_yield hF rfl rfl rfl)) (fun hg => (run_loadN rfl ag37 (hF.ev rfl) rfl ((S.free 0 rfl).cells 0 #[.int .i64 x0, .slice A1 x1.length c1] rfl))) ?_;clear hF;intro a hF
  refine op_gv (v := .slice A3 x3.length c3) rfl rfl hF rfl (yt (gw_yield hF rfl rfl rfl)) (fun hg => (run_move rfl (hF.ev rfl))) ?_;clear hF;intro a hF
  obtain ⟨p103, h103, hM⟩ := bind_ex hM
  refine op_gcall (v := .bool p103) rfl rfl hF rfl S (yt (gw_yield hF rfl rfl rfl)) (fun hg => (run_call (vs := [.agg #[.int .i64 x0, .slice A1 x1.length c1], .slice A3 x3.length c3]) rfl rfl co28 ⟨((hF.ev rfl).trans (gv_t hg)), ((hF.ev rfl).trans (gv_t hg)), trivial⟩)) (fun hg => c_impl_BusesValid (x0 := x0) (x1 := x1) (x2 := x3) ⟨(S.rc0 h1.rc), rfl⟩ ⟨(S.rc0 h3.rc), rfl⟩ (gb_t h103 hg)) ?_; clear hF S; intro a u hF S
  revert a;refine ov (v := .bool (p102 && p103)) rfl rfl rfl (fun a hF=>run_pick_and rfl (hF.ev rfl) (fun hp => ((hF.ev rfl).trans (gv_t hp))) rfl) (ag rfl rfl fun a hF=>wn ?_)
  refine wp_ret ?_
  repeat with_reducible first|refine tr ?_|refine ir ?_|refine nr ?_
  refine ret1_gw (.inl rfl) hF rfl (res_tmp (hF.ev rfl)) ?_
  obtain rfl := Option.some.inj hM
  exact ⟨rfl, S.sel [] rfl rfl⟩
theorem c_impl_newUnion {x0 : Int} {w : World} {r : List Int}  (hM : m_impl_newUnion x0 = some r) :
    Calls Try.prog 83 #[.int .i64 x0] w (fun e w' => ∃ (B0 : Option Addr) (N0 D0 : Nat), e = .returned (.slice B0 N0 D0) ∧ N0 = r.length ∧ St w w' [.row 3 1 (.slice B0 N0 D0) N0 (r.flatMap eI)]) := by
  unfold m_impl_newUnion at hM
  refine calls_gw Try.func83 Try.ntmps83 rfl [(0, .int .i64 x0)] ⟨rfl, trivial⟩ rfl ?_
  intro a hF
  have S := St.nil w
  revert a;refine sr (ov (v := .slice none 0 0) rfl rfl rfl (fun a hF=>run_assign rfl rfl) fun a hF=>wn ?_)
  revert a;refine sr (mv rfl rfl fun a hF=>?_)
  obtain ⟨hk102, hM⟩ := chk_ex hM
  replace hk102 := mkB_t hk102
  refine op_newrowL (m := x0.toNat) (ls := List.replicate x0.toNat (0 : Int)) (e := eI) rfl rfl hF rfl S (run_makeL rfl (hF.ev rfl) (hF.ev rfl) Try.underlying97 inf3 eI_len rfl (by decide) hk102) List.length_replicate eI_len (by rw [List.length_replicate]; omega) ?_; clear hF S; intro a g101 u hF S
  refine op_val (v := .slice (some ⟨g101, 0, none⟩) x0.toNat x0.toNat) rfl rfl hF rfl (run_assign rfl (hF.ev rfl)) ?_;clear hF;intro a hF
  refine wn ?_
  refine ws ?_
  revert a;refine sr (mv rfl rfl (ov rfl rfl rfl (fun a hF=>run_lenL rfl rfl Try.underlying97 (hF.ev rfl)) (ov (v := .int .i64 0) rfl rfl rfl (fun a hF=>run_move rfl rfl) fun a hF=>wn ?_)))
  obtain ⟨o104, hM106, hM⟩ := bind_ex hM
  refine wp_cut (fun a u => ∃ (p103 : List Int), p103 = o104 ∧ x0.toNat = p103.length ∧ Fr a 18 [(2, .slice none 0 0), (3, .slice (some ⟨g101, 0, none⟩) x0.toNat x0.toNat)] ∧ St w u [.row 3 1 (.slice (some ⟨g101, 0, none⟩) x0.toNat x0.toNat) x0.toNat (p103.flatMap eI)]) ?_ ?_
  · have _ := trivial
    refine wp_block ?_
    refine loop_gw (fun m a u => ∃ (p107 : List Int × Int), m_impl_newUnion_l1 x0 m p107 = some _ ∧ x0.toNat = p107.1.length ∧ Fr a 18 [(2, .slice none 0 0), (3, .slice (some ⟨g101, 0, none⟩) x0.toNat x0.toNat), (8, .int .i64 (x0.toNat : Int)), (9, .int .i64 p107.2)] ∧ St w u [.row 3 1 (.slice (some ⟨g101, 0, none⟩) x0.toNat x0.toNat) x0.toNat (p107.1.flatMap eI)]) FUEL ⟨(List.replicate x0.toNat (0 : Int), 0), hM106, List.length_replicate.symm, hF.keep _ ⟨rfl, rfl, rfl, rfl, trivial⟩, S.sel [0] rfl rfl⟩ ?_
    clear hF S hM106; rintro m a u ⟨p107, hM106, hn108, hF, S⟩
    rcases m with _ | f1
    · exact none_some hM106
    rw [m_impl_newUnion_l1.eq_2] at hM106
    revert a;refine sr (ov (v := .bool (ltB p107.2 (x0.toNat : Int))) rfl rfl rfl (fun a hF=>run_lss (hF.ev rfl) (hF.ev rfl) rfl) fun a hF=>wn ?_)
    refine ws ?_
    cases hc109 : (ltB p107.2 (x0.toNat : Int))
    · replace hM106 := bif_f hc109 hM106
      refine cond_f hF rfl hc109 ?_
      refine wp_exit ?_
      repeat with_reducible (first | refine then_exit ?_ | refine in_hit ?_ | refine in_miss rfl ?_)
      obtain rfl := Option.some.inj hM106
      exact ⟨p107.1, rfl, hn108, hF.keep _ ⟨rfl, rfl, trivial⟩, S.sel [0] rfl rfl⟩
    replace hM106 := bif_t hc109 hM106
    refine cond_t hF rfl hc109 ?_
    refine wp_skip ?_
    refine ws ?_
    refine wp_block ?_
    revert a;refine sr (mv rfl rfl (ag rfl rfl fun a hF=>wn ?_))
    revert a;refine rl (mv rfl rfl (mv rfl rfl (mv rfl rfl fun a hF=>?_)))
    obtain ⟨hk110, hM106⟩ := chk_ex hM106
    replace hk110 := ixB_t hk110
    refine op_val (v := .pointer (some ⟨adB (some ⟨g101, 0, none⟩), adO (some ⟨g101, 0, none⟩) + p107.2.toNat * 1, none⟩)) rfl rfl hF rfl (run_indexAddr (b := adB (some ⟨g101, 0, none⟩)) (off := adO (some ⟨g101, 0, none⟩)) rfl Try.underlying97 sz3 ((hF.ev rfl).trans (congrArg (fun A => Value.slice A x0.toNat x0.toNat) ((S.rc 0 rfl).rd.ad (ix_pos hk110)))) (hF.ev rfl) hk110.1 hk110.2 (k' := adO (some ⟨g101, 0, none⟩) + p107.2.toNat * 1) rfl) ?_;clear hF;intro a hF
    obtain ⟨w', hrun, S'⟩ := run_storeElN (P := Try.prog) (ρ := a.eval) (y0 := p107.2) (off := 0) S 3 (.tmp 15) (.tmp 14) (i := 0) sz3 (hF.ev rfl) (hF.ev rfl) rfl rfl rfl rfl hn108 eI_len (0 : Int) (ix_ltn hk110 hn108) rfl rfl
    refine op_do rfl rfl (hrun _ rfl) ?_; clear hrun S; have S := S'; clear S'; generalize w' = u at S ⊢
    refine wn ?_
    revert a;refine rl (ov (v := .int .i64 (w64 (p107.2 + 1))) rfl rfl rfl (fun a hF=>run_add (z := w64 (p107.2 + 1)) (hF.ev rfl) rfl rfl rfl) (mv rfl rfl fun a hF=>wn ?_))
    exact ⟨f1, Nat.lt_succ_self _, (p107.1.set p107.2.toNat p107.2, w64 (p107.2 + 1)), hM106, (len_set hn108), hF.keep _ ⟨rfl, rfl, rfl, rfl, trivial⟩, S.sel [0] rfl rfl⟩
  rintro a u ⟨p103, rfl, hn105, hF, S⟩
  revert a;refine sr (mv rfl rfl (ag rfl rfl fun a hF=>wn ?_))
  refine wp_ret ?_
  repeat with_reducible first|refine tr ?_|refine ir ?_|refine nr ?_
  refine ret1_gw (.inl rfl) hF rfl (res_tmp (hF.ev rfl)) ?_
  obtain rfl := Option.some.inj hM
  exact ⟨(some ⟨g101, 0, none⟩), x0.toNat, x0.toNat, rfl, hn105, S.sel [0] rfl rfl⟩
theorem c_impl_union_find {x0 : List Int} {x1 : Int} {A0 : Option Addr} {n0 c0 : Nat} {w : World} {r : Int × List Int} {w0 : World} {X : List Asn} (h0 : n0 = x0.length) (S : St w0 w (Asn.row 3 1 (.slice A0 n0 c0) n0 (x0.flatMap eI) :: X)) (hM : m_impl_union_find x0 x1 = some r) :
    Calls Try.prog 66 #[.slice A0 n0 c0, .int .i64 x1] w (fun e w' => e = .returned (.int .i64 r.1) ∧ n0 = r.2.length ∧ St w0 w' (Asn.row 3 1 (.slice A0 n0 c0) n0 (r.2.flatMap eI) :: X)) := by
  obtain rfl := h0
  unfold m_impl_union_find at hM
  refine calls_gw Try.func66 Try.ntmps66 rfl [(0, .slice A0 x0.length c0), (1, .int .i64 x1)] ⟨rfl, rfl, trivial⟩ rfl ?_
  intro a hF
  revert a;refine sr (ov (v := .int .i64 0) rfl rfl rfl (fun a hF=>run_assign rfl rfl) fun a hF=>wn ?_)
  refine ws ?_
  obtain ⟨o102, hM104, hM⟩ := bind_ex hM
  refine wp_cut (fun a u => ∃ (p101 : Int × List Int), p101 = o102 ∧ x0.length = p101.2.length ∧ Fr a 26 [(1, .int .i64 p101.1), (4, .int .i64 0)] ∧ St w0 u (Asn.row 3 1 (.slice A0 x0.length c0) x0.length (p101.2.flatMap eI) :: X)) ?_ ?_
  · have _ := trivial
    refine wp_block ?_
    refine loop_gw (fun m a u => ∃ (p105 : List Int × Int), m_impl_union_find_l1 x0 m p105 = some _ ∧ x0.length = p105.1.length ∧ Fr a 26 [(0, .slice A0 x0.length c0), (1, .int .i64 p105.2), (4, .int .i64 0)] ∧ St w0 u (Asn.row 3 1 (.slice A0 x0.length c0) x0.length (p105.1.flatMap eI) :: X)) FUEL ⟨(x0, x1), hM104, rfl, hF.keep _ ⟨rfl, rfl, rfl, trivial⟩, S.selT (M := [.row 3 1 (.slice A0 x0.length c0) x0.length (x0.flatMap eI)]) 1 [0] rfl rfl rfl⟩ ?_
    clear hF S hM104; rintro m a u ⟨p105, hM104, hn106, hF, S⟩
    rcases m with _ | f1
    · exact none_some hM104
    rw [m_impl_union_find_l1.eq_2] at hM104
    refine ws ?_
    revert a;refine sr (mv rfl rfl (mv rfl rfl fun a hF=>?_))
    obtain ⟨hk107, hM104⟩ := chk_ex hM104
    replace hk107 := ixB_t hk107
    revert a;refine ov rfl rfl rfl (fun a hF=>run_indexAddr (b := adB A0) (off := adO A0) rfl Try.underlying97 sz3 ((hF.ev rfl).trans (congrArg (fun A => Value.slice A x0.length c0) ((S.rc 0 rfl).rd.ad (ix_pos hk107)))) (hF.ev rfl) hk107.1 hk107.2 (k' := adO A0 + p105.2.toNat * 1) rfl) (ov (v := .int .i64 (p105.1.getD p105.2.toNat (0 : Int))) rfl rfl rfl (fun a hF=>run_load1 rfl one3 (hF.ev rfl) (rd_el0 (l := p105.1) (S.rc 0 rfl).rd hn106 eI_len (0 : Int) (ix_ltn hk107 hn106) rfl)) (mv rfl rfl (ov (v := .bool ((p105.1.getD p105.2.toNat (0 : Int)) != p105.2)) rfl rfl rfl (fun a hF=>run_neq (hF.ev rfl) (hF.ev rfl) rfl) fun a hF=>wn ?_)))
    cases hc108 : ((p105.1.getD p105.2.toNat (0 : Int)) != p105.2)
    · replace hM104 := bif_f hc108 hM104
      refine cond_f hF rfl hc108 ?_
      refine wp_exit ?_
      repeat with_reducible (first | refine then_exit ?_ | refine in_hit ?_ | refine in_miss rfl ?_)
      obtain rfl := Option.some.inj hM104
      exact ⟨(p105.2, p105.1), rfl, hn106, hF.keep _ ⟨rfl, rfl, trivial⟩, S.selT (M := [.row 3 1 (.slice A0 x0.length c0) x0.length (p105.1.flatMap eI)]) 1 [0] rfl rfl rfl⟩
    replace hM104 := bif_t hc108 hM104
    refine cond_t hF rfl hc108 ?_
    refine wp_skip ?_
    refine wp_block ?_
    revert a;refine sr (mv rfl rfl (mv rfl rfl (mv rfl rfl (mv rfl rfl (mv rfl rfl fun a hF=>?_)))))
    obtain ⟨hk109, hM104⟩ := chk_ex hM104
    replace hk109 := ixB_t hk109
    revert a;refine ov rfl rfl rfl (fun a hF=>run_indexAddr (b := adB A0) (off := adO A0) rfl Try.underlying97 sz3 ((hF.ev rfl).trans (congrArg (fun A => Value.slice A x0.length c0) ((S.rc 0 rfl).rd.ad (ix_pos hk109)))) (hF.ev rfl) hk109.1 hk109.2 (k' := adO A0 + p105.2.toNat * 1) rfl) (ov (v := .int .i64 (p105.1.getD p105.2.toNat (0 : Int))) rfl rfl rfl (fun a hF=>run_load1 rfl one3 (hF.ev rfl) (rd_el0 (l := p105.1) (S.rc 0 rfl).rd hn106 eI_len (0 : Int) (ix_ltn hk109 hn106) rfl)) fun a hF=>?_)
    obtain ⟨hk110, hM104⟩ := chk_ex hM104
    replace hk110 := ixB_t hk110
    revert a;refine ov rfl rfl rfl (fun a hF=>run_indexAddr (b := adB A0) (off := adO A0) rfl Try.underlying97 sz3 ((hF.ev rfl).trans (congrArg (fun A => Value.slice A x0.length c0) ((S.rc 0 rfl).rd.ad (ix_pos hk110)))) (hF.ev rfl) hk110.1 hk110.2 (k' := adO A0 + ((p105.1.getD p105.2.toNat (0 : Int)).toNat) * 1) rfl) (ov (v := .int .i64 (p105.1.getD ((p105.1.getD p105.2.toNat (0 : Int)).toNat) (0 : Int))) rfl rfl rfl (fun a hF=>run_load1 rfl one3 (hF.ev rfl) (rd_el0 (l := p105.1) (S.rc 0 rfl).rd hn106 eI_len (0 : Int) (ix_ltn hk110 hn106) rfl)) fun a hF=>?_)
    obtain ⟨hk111, hM104⟩ := chk_ex hM104
    replace hk111 := ixB_t hk111
    refine op_val (v := .pointer (some ⟨adB A0, adO A0 + p105.2.toNat * 1, none⟩)) rfl rfl hF rfl (run_indexAddr (b := adB A0) (off := adO A0) rfl Try.underlying97 sz3 ((hF.ev rfl).trans (congrArg (fun A => Value.slice A x0.length c0) ((S.rc 0 rfl).rd.ad (ix_pos hk111)))) (hF.ev rfl) hk111.1 hk111.2 (k' := adO A0 + p105.2.toNat * 1) rfl) ?_;clear hF;intro a hF
    obtain ⟨w', hrun, S'⟩ := run_storeElN (P := Try.prog) (ρ := a.eval) (y0 := (p105.1.getD ((p105.1.getD p105.2.toNat (0 : Int)).toNat) (0 : Int))) (off := 0) S 3 (.tmp 20) (.tmp 19) (i := 0) sz3 (hF.ev rfl) (hF.ev rfl) rfl rfl rfl rfl hn106 eI_len (0 : Int) (ix_ltn hk111 hn106) rfl rfl
    refine op_do rfl rfl (hrun _ rfl) ?_; clear hrun S; have S := S'; clear S'; generalize w' = u at S ⊢
    refine wn ?_
    revert a;refine rl (mv rfl rfl (mv rfl rfl fun a hF=>?_))
    obtain ⟨hk112, hM104⟩ := chk_ex hM104
    replace hk112 := ixB_t hk112
    revert a;refine ov rfl rfl rfl (fun a hF=>run_indexAddr (b := adB A0) (off := adO A0) rfl Try.underlying97 sz3 ((hF.ev rfl).trans (congrArg (fun A => Value.slice A x0.length c0) ((S.rc 0 rfl).rd.ad (ix_pos hk112)))) (hF.ev rfl) hk112.1 hk112.2 (k' := adO A0 + p105.2.toNat * 1) rfl) (ov (v := .int .i64 ((p105.1.set p105.2.toNat (p105.1.getD ((p105.1.getD p105.2.toNat (0 : Int)).toNat) (0 : Int))).getD p105.2.toNat (0 : Int))) rfl rfl rfl (fun a hF=>run_load1 rfl one3 (hF.ev rfl) (rd_el0 (l := p105.1.set p105.2.toNat (p105.1.getD ((p105.1.getD p105.2.toNat (0 : Int)).toNat) (0 : Int))) (S.rc 0 rfl).rd (len_set hn106) eI_len (0 : Int) (ix_ltn hk112 (len_set hn106)) rfl)) (ag rfl rfl fun a hF=>wn ?_))
    exact ⟨f1, Nat.lt_succ_self _, (p105.1.set p105.2.toNat (p105.1.getD ((p105.1.getD p105.2.toNat (0 : Int)).toNat) (0 : Int)), ((p105.1.set p105.2.toNat (p105.1.getD ((p105.1.getD p105.2.toNat (0 : Int)).toNat) (0 : Int))).getD p105.2.toNat (0 : Int))), hM104, (len_set hn106), hF.keep _ ⟨rfl, rfl, rfl, trivial⟩, S.selT (M := [.row 3 1 (.slice A0 x0.length c0) x0.length ((p105.1.set p105.2.toNat (p105.1.getD ((p105.1.getD p105.2.toNat (0 : Int)).toNat) (0 : Int))).flatMap eI)]) 1 [0] rfl rfl rfl⟩
  rintro a u ⟨p101, rfl, hn103, hF, S⟩
  revert a;refine sr (mv rfl rfl (ag rfl rfl fun a hF=>wn ?_))
  refine wp_ret ?_
  repeat with_reducible first|refine tr ?_|refine ir ?_|refine nr ?_
  refine ret1_gw (.inl rfl) hF rfl (res_tmp (hF.ev rfl)) ?_
  obtain rfl := Option.some.inj hM
  exact ⟨rfl, hn103, S.selT (M := [.row 3 1 (.slice A0 x0.length c0) x0.length (p101.2.flatMap eI)]) 1 [0] rfl rfl rfl⟩
theorem c_impl_union_same {x0 : List Int} {x1 : Int} {x2 : Int} {A0 : Option Addr} {n0 c0 : Nat} {w : World} {r : Bool × List Int} {w0 : World} {X : List Asn} (h0 : n0 = x0.length) (S : St w0 w (Asn.row 3 1 (.slice A0 n0 c0) n0 (x0.flatMap eI) :: X)) (hM : m_impl_union_same x0 x1 x2 = some r) :
    Calls Try.prog 87 #[.slice A0 n0 c0, .int .i64 x1, .int .i64 x2] w (fun e w' => e = .returned (.bool r.1) ∧ n0 = r.2.length ∧ St w0 w' (Asn.row 3 1 (.slice A0 n0 c0) n0 (r.2.flatMap eI) :: X)) := by
  obtain rfl := h0
  unfold m_impl_union_same at hM
  refine calls_gw Try.func87 Try.ntmps87 rfl [(0, .slice A0 x0.length c0), (1, .int .i64 x1), (2, .int .i64 x2)] ⟨rfl, rfl, rfl, trivial⟩ rfl ?_
  intro a hF
  revert a;refine sr (ov (v := .bool false) rfl rfl rfl (fun a hF=>run_assign rfl rfl) fun a hF=>wn ?_)
  revert a;refine sr (mv rfl rfl (mv rfl rfl fun a hF=>?_))
  obtain ⟨p101, h101, hM⟩ := bind_ex hM
  refine op_call rfl rfl hF rfl (run_call (vs := [.slice A0 x0.length c0, .int .i64 x1]) rfl rfl co66 ⟨(hF.ev rfl), (hF.ev rfl), trivial⟩) (c_impl_union_find (x0 := x0) (x1 := x1) rfl (show St w0 _ (Asn.row 3 1 (.slice A0 x0.length c0) x0.length (x0.flatMap eI) :: X) from S.selT (M := [.row 3 1 (.slice A0 x0.length c0) x0.length (x0.flatMap eI)]) 1 [0] rfl rfl rfl) h101) ?_
  rintro e u ⟨rfl, hn102, T⟩
  refine ⟨_, rfl, ?_⟩
  clear hF; intro a hF
  clear S; have S := T; clear T
  revert a;refine mv rfl rfl (mv rfl rfl fun a hF=>?_)
  obtain ⟨p103, h103, hM⟩ := bind_ex hM
  refine op_call rfl rfl hF rfl (run_call (vs := [.slice A0 x0.length c0, .int .i64 x2]) rfl rfl co66 ⟨(hF.ev rfl), (hF.ev rfl), trivial⟩) (c_impl_union_find (x0 := p101.2) (x1 := x2) hn102 (show St w0 _ (Asn.row 3 1 (.slice A0 x0.length c0) x0.length (p101.2.flatMap eI) :: X) from S.selT (M := [.row 3 1 (.slice A0 x0.length c0) x0.length (p101.2.flatMap eI)]) 1 [0] rfl rfl rfl) h103) ?_
  rintro e u ⟨rfl, hn104, T⟩
  refine ⟨_, rfl, ?_⟩
  clear hF; intro a hF
  clear S; have S := T; clear T
  revert a;refine ov (v := .bool (p101.1 == p103.1)) rfl rfl rfl (fun a hF=>run_eql (hF.ev rfl) (hF.ev rfl) rfl) (ag rfl rfl fun a hF=>wn ?_)
  refine wp_ret ?_
  repeat with_reducible first|refine tr ?_|refine ir ?_|refine nr ?_
  refine ret1_gw (.inl rfl) hF rfl (res_tmp (hF.ev rfl)) ?_
  obtain rfl := Option.some.inj hM
  exact ⟨rfl, hn104, S.selT (M := [.row 3 1 (.slice A0 x0.length c0) x0.length (p103.2.flatMap eI)]) 1 [0] rfl rfl rfl⟩
theorem c_impl_union_join {x0 : List Int} {x1 : Int} {x2 : Int} {A0 : Option Addr} {n0 c0 : Nat} {w : World} {r : List Int} {w0 : World} {X : List Asn} (h0 : n0 = x0.length) (S : St w0 w (Asn.row 3 1 (.slice A0 n0 c0) n0 (x0.flatMap eI) :: X)) (hM : m_impl_union_join x0 x1 x2 = some r) :
    Calls Try.prog 84 #[.slice A0 n0 c0, .int .i64 x1, .int .i64 x2] w (fun e w' => e = .returned (.tuple #[]) ∧ n0 = r.length ∧ St w0 w' (Asn.row 3 1 (.slice A0 n0 c0) n0 (r.flatMap eI) :: X)) := by
  obtain rfl := h0
  unfold m_impl_union_join at hM
  refine calls_gw Try.func84 Try.ntmps84 rfl [(0, .slice A0 x0.length c0), (1, .int .i64 x1), (2, .int .i64 x2)] ⟨rfl, rfl, rfl, trivial⟩ rfl ?_
  intro a hF
  revert a;refine sr (mv rfl rfl (mv rfl rfl fun a hF=>?_))
  obtain ⟨p101, h101, hM⟩ := bind_ex hM
  refine op_call rfl rfl hF rfl (run_call (vs := [.slice A0 x0.length c0, .int .i64 x1]) rfl rfl co66 ⟨(hF.ev rfl), (hF.ev rfl), trivial⟩) (c_impl_union_find (x0 := x0) (x1 := x1) rfl (show St w0 _ (Asn.row 3 1 (.slice A0 x0.length c0) x0.length (x0.flatMap eI) :: X) from S.selT (M := [.row 3 1 (.slice A0 x0.length c0) x0.length (x0.flatMap eI)]) 1 [0] rfl rfl rfl) h101) ?_
  rintro e u ⟨rfl, hn102, T⟩
  refine ⟨_, rfl, ?_⟩
  clear hF; intro a hF
  clear S; have S := T; clear T
  revert a;refine mv rfl rfl (mv rfl rfl fun a hF=>?_)
  obtain ⟨p103, h103, hM⟩ := bind_ex hM
  refine op_call rfl rfl hF rfl (run_call (vs := [.slice A0 x0.length c0, .int .i64 x2]) rfl rfl co66 ⟨(hF.ev rfl), (hF.ev rfl), trivial⟩) (c_impl_union_find (x0 := p101.2) (x1 := x2) hn102 (show St w0 _ (Asn.row 3 1 (.slice A0 x0.length c0) x0.length (p101.2.flatMap eI) :: X) from S.selT (M := [.row 3 1 (.slice A0 x0.length c0) x0.length (p101.2.flatMap eI)]) 1 [0] rfl rfl rfl) h103) ?_
  rintro e u ⟨rfl, hn104, T⟩
  refine ⟨_, rfl, ?_⟩
  clear hF; intro a hF
  clear S; have S := T; clear T
  revert a;refine ag rfl rfl (ag rfl rfl fun a hF=>wn ?_)
  revert a;refine rl (mv rfl rfl (mv rfl rfl (mv rfl rfl (ov (v := .int .i64 (max p101.1 p103.1)) rfl rfl rfl (fun a hF=>run_max rfl (hF.ev rfl) (hF.ev rfl)) (mv rfl rfl (mv rfl rfl (ov (v := .int .i64 (min p101.1 p103.1)) rfl rfl rfl (fun a hF=>run_min rfl (hF.ev rfl) (hF.ev rfl)) fun a hF=>?_)))))))
  obtain ⟨hk105, hM⟩ := chk_ex hM
  replace hk105 := ixB_t hk105
  refine op_val (v := .pointer (some ⟨adB A0, adO A0 + ((max p101.1 p103.1).toNat) * 1, none⟩)) rfl rfl hF rfl (run_indexAddr (b := adB A0) (off := adO A0) rfl Try.underlying97 sz3 ((hF.ev rfl).trans (congrArg (fun A => Value.slice A x0.length c0) ((S.rc 0 rfl).rd.ad (ix_pos hk105)))) (hF.ev rfl) hk105.1 hk105.2 (k' := adO A0 + ((max p101.1 p103.1).toNat) * 1) rfl) ?_;clear hF;intro a hF
  obtain ⟨w', hrun, S'⟩ := run_storeElN (P := Try.prog) (ρ := a.eval) (y0 := min p101.1 p103.1) (off := 0) S 3 (.tmp 19) (.tmp 18) (i := 0) sz3 (hF.ev rfl) (hF.ev rfl) rfl rfl rfl rfl hn104 eI_len (0 : Int) (ix_ltn hk105 hn104) rfl rfl
  refine op_do rfl rfl (hrun _ rfl) ?_; clear hrun S; have S := S'; clear S'; generalize w' = u at S ⊢
  refine wn ?_
  repeat with_reducible first|refine tr ?_|refine ir ?_|refine nr ?_
  refine ret0_gw (.inr rfl) hF rfl  ?_
  obtain rfl := Option.some.inj hM
  exact ⟨rfl, (len_set hn104), S.selT (M := [.row 3 1 (.slice A0 x0.length c0) x0.length ((p103.2.set ((max p101.1 p103.1).toNat) (min p101.1 p103.1)).flatMap eI)]) 1 [0] rfl rfl rfl⟩
theorem c_impl_hasCycle {x0 : Int} {x1 : List (Int × Int × Int)} {x2 : List Bool} {A1 : Option Addr} {n1 c1 : Nat} {A2 : Option Addr} {n2 c2 : Nat} {w : World} {r : Bool} (h1 : Rt w 3 eLine A1 n1 c1 x1) (h2 : Rt w 1 eB A2 n2 c2 x2) (hM : m_impl_hasCycle x0 x1 x2 = some r) :
    Calls Try.prog 78 #[.agg #[.int .i64 x0, .slice A1 n1 c1], .slice A2 n2 c2] w (fun e w' => e = .returned (.bool r) ∧ St w w' []) := by
  obtain rfl := h1.len
  obtain rfl := h2.len
  unfold m_impl_hasCycle at hM
  refine calls_gw Try.func78 Try.ntmps78 rfl [(0, .agg #[.int .i64 x0, .slice A1 x1.length c1]), (1, .slice A2 x2.length c2)] ⟨rfl, rfl, trivial⟩ rfl ?_
  intro a hF
  have S := St.nil w
  refine wsg ?_
  refine op_new (cs := #[.int .i64 x0, .slice A1 x1.length c1]) rfl rfl hF rfl S (run_box rfl (hF.ev rfl) rfl) ?_; clear hF S; intro a g101 u hF S
  refine op_val (v := .bool false) rfl rfl hF rfl (run_assign rfl rfl) ?_;clear hF;intro a hF
  refine wn ?_
  revert a;refine sr (ov (v := .pointer (some ⟨g101, 0, none⟩)) rfl rfl rfl (fun a hF=>run_fieldAddr rfl fl37_0 (hF.ev rfl) rfl) (ov (v := .int .i64 x0) rfl rfl rfl (fun a hF=>run_load1 rfl one3 (hF.ev rfl) ((S.free 0 rfl).cell rfl)) fun a hF=>?_))
  obtain ⟨p102, h102, hM⟩ := bind_ex hM
  refine op_call rfl rfl hF rfl (run_call (vs := [.int .i64 x0]) rfl rfl co83 ⟨(hF.ev rfl), trivial⟩) (c_impl_newUnion (x0 := x0)  h102) ?_
  rintro e u ⟨B103, n104, d105, rfl, rfl, T⟩
  refine ⟨_, rfl, ?_⟩
  clear hF; intro a hF
  replace S := S.call1 T; clear T
  refine op_val (v := .slice B103 p102.length d105) rfl rfl hF rfl (run_assign rfl (hF.ev rfl)) ?_;clear hF;intro a hF
  refine wn ?_
  refine ws ?_
  revert a;refine sr (ov (v := .pointer (some ⟨g101, 1, none⟩)) rfl rfl rfl (fun a hF=>run_fieldAddr rfl fl37_1 (hF.ev rfl) rfl) (ov (v := .slice A1 x1.length c1) rfl rfl rfl (fun a hF=>run_load1 rfl one35 (hF.ev rfl) ((S.free 1 rfl).cell rfl)) (ov rfl rfl rfl (fun a hF=>run_lenL rfl rfl Try.underlying35 (hF.ev rfl)) (ov (v := .int .i64 0) rfl rfl rfl (fun a hF=>run_move rfl rfl) fun a hF=>wn ?_))))
  obtain ⟨o107, hM108, hM⟩ := bind_ex hM
  refine wp_cut (fun a u => ∃ (p106 : Unit), (Sum.inl p106) = o107 ∧ Fr a 36 [(4, .bool false)] ∧ St w u []) ?_ ?_
  · have _ := trivial
    refine wp_block ?_
    refine loop_gw (fun m a u => ∃ (p109 : List Int × Int), m_impl_hasCycle_l1 x1 x2 m p109 = some _ ∧ p102.length = p109.1.length ∧ Fr a 36 [(1, .slice A2 x2.length c2), (4, .bool false), (5, .slice B103 p102.length d105), (12, .slice A1 x1.length c1), (13, .int .i64 (x1.length : Int)), (14, .int .i64 p109.2)] ∧ St w u [.row 3 1 (.slice B103 p102.length d105) p102.length (p109.1.flatMap eI)]) FUEL ⟨(p102, 0), hM108, rfl, hF.keep _ ⟨rfl, rfl, rfl, rfl, rfl, rfl, trivial⟩, S.sel [0] rfl rfl⟩ ?_
    clear hF S hM108; rintro m a u ⟨p109, hM108, hn110, hF, S⟩
    rcases m with _ | f1
    · exact none_some hM108
    rw [m_impl_hasCycle_l1.eq_2] at hM108
    revert a;refine sr (ov (v := .bool (ltB p109.2 (x1.length : Int))) rfl rfl rfl (fun a hF=>run_lss (hF.ev rfl) (hF.ev rfl) rfl) fun a hF=>wn ?_)
    refine ws ?_
    cases hc111 : (ltB p109.2 (x1.length : Int))
    · replace hM108 := bif_f hc111 hM108
      refine cond_f hF rfl hc111 ?_
      refine wp_exit ?_
      repeat with_reducible (first | refine then_exit ?_ | refine in_hit ?_ | refine in_miss rfl ?_)
      obtain rfl := Option.some.inj hM108
      exact ⟨(), rfl, hF.keep _ ⟨rfl, trivial⟩, S.sel [] rfl rfl⟩
    replace hM108 := bif_t hc111 hM108
    refine cond_t hF rfl hc111 ?_
    refine wp_skip ?_
    refine ws ?_
    refine wp_block ?_
    revert a;refine sr (mv rfl rfl fun a hF=>?_)
    obtain ⟨hk112, hM108⟩ := chk_ex hM108
    replace hk112 := ixB_t hk112
    revert a;refine ov rfl rfl rfl (fun a hF=>run_indexAddr (b := adB A1) (off := adO A1) rfl Try.underlying35 sz107 ((hF.ev rfl).trans (congrArg (fun A => Value.slice A x1.length c1) ((S.rc0 h1.rc).rd.ad (ix_pos hk112)))) (hF.ev rfl) hk112.1 hk112.2 (k' := adO A1 + p109.2.toNat * 3) rfl) (ov rfl rfl rfl (fun a hF=>run_loadN (cs := #[.int .i64 ((x1.getD p109.2.toNat ((0, 0, 0) : Int × Int × Int)).1), .int .i64 ((x1.getD p109.2.toNat ((0, 0, 0) : Int × Int × Int)).2.1), .int .i64 ((x1.getD p109.2.toNat ((0, 0, 0) : Int × Int × Int)).2.2)]) rfl ag107 (hF.ev rfl) rfl (rd_elN (l := x1) (S.rc0 h1.rc).rd rfl eLine_len ((0, 0, 0) : Int × Int × Int) (ix_ltn hk112 rfl) rfl)) fun a hF=>?_)
    refine op_new (cs := #[.int .i64 0, .int .i64 0, .int .i64 0]) rfl rfl hF rfl S (run_allocZ rfl zr107) ?_; clear hF S; intro a g113 u hF S
    refine op_val (v := .int .i64 p109.2) rfl rfl hF rfl (run_assign rfl (hF.ev rfl)) ?_;clear hF;intro a hF
    refine op_do rfl rfl (run_store (cs' := #[.int .i64 ((x1.getD p109.2.toNat ((0, 0, 0) : Int × Int × Int)).1), .int .i64 ((x1.getD p109.2.toNat ((0, 0, 0) : Int × Int × Int)).2.1), .int .i64 ((x1.getD p109.2.toNat ((0, 0, 0) : Int × Int × Int)).2.2)]) rfl sz107 (hF.ev rfl) (hF.ev rfl) rfl rfl rfl (S.free 0 rfl) rfl rfl) ?_; replace S := S.put 0 rfl (#[.int .i64 ((x1.getD p109.2.toNat ((0, 0, 0) : Int × Int × Int)).1), .int .i64 ((x1.getD p109.2.toNat ((0, 0, 0) : Int × Int × Int)).2.1), .int .i64 ((x1.getD p109.2.toNat ((0, 0, 0) : Int × Int × Int)).2.2)])
    generalize World.setRow _ _ _ = u at S ⊢
    refine wn ?_
    revert a;refine sr (mv rfl rfl (mv rfl rfl fun a hF=>?_))
    obtain ⟨hk114, hM108⟩ := chk_ex hM108
    replace hk114 := ixB_t hk114
    revert a;refine ov rfl rfl rfl (fun a hF=>run_indexAddr (b := adB A2) (off := adO A2) rfl Try.underlying26 sz4 ((hF.ev rfl).trans (congrArg (fun A => Value.slice A x2.length c2) ((S.rc0 h2.rc).rd.ad (ix_pos hk114)))) (hF.ev rfl) hk114.1 hk114.2 (k' := adO A2 + p109.2.toNat * 1) rfl) (ov (v := .bool (x2.getD p109.2.toNat false)) rfl rfl rfl (fun a hF=>run_load1 rfl one4 (hF.ev rfl) (rd_el0 (l := x2) (S.rc0 h2.rc).rd rfl eB_len false (ix_ltn hk114 rfl) rfl)) fun a hF=>wn ?_)
    obtain ⟨o116, hM118, hM108⟩ := bind_ex hM108
    refine wp_cut (fun a u => ∃ (p115 : List Int), (Sum.inl p115) = o116 ∧ p102.length = p115.length ∧ Fr a 36 [(1, .slice A2 x2.length c2), (4, .bool false), (5, .slice B103 p102.length d105), (12, .slice A1 x1.length c1), (13, .int .i64 (x1.length : Int)), (14, .int .i64 p109.2)] ∧ St w u [.row 3 1 (.slice B103 p102.length d105) p102.length (p115.flatMap eI)]) ?_ ?_
    · have _ := trivial
      cases hc119 : (x2.getD p109.2.toNat false)
      · replace hM118 := bif_f hc119 hM118
        refine cond_f hF rfl hc119 ?_
        refine wp_skip ?_
        obtain rfl := Option.some.inj hM118
        exact ⟨p109.1, rfl, hn110, hF.keep _ ⟨rfl, rfl, rfl, rfl, rfl, rfl, trivial⟩, S.sel [1] rfl rfl⟩
      replace hM118 := bif_t hc119 hM118
      refine cond_t hF rfl hc119 ?_
      refine ws ?_
      revert a;refine sr (mv rfl rfl (ov (v := .pointer (some ⟨g113, 0, none⟩)) rfl rfl rfl (fun a hF=>run_fieldAddr rfl fl107_0 (hF.ev rfl) rfl) (ov (v := .int .i64 ((x1.getD p109.2.toNat ((0, 0, 0) : Int × Int × Int)).1)) rfl rfl rfl (fun a hF=>run_load1 rfl one3 (hF.ev rfl) ((S.free 0 rfl).cell rfl)) (ov (v := .pointer (some ⟨g113, 1, none⟩)) rfl rfl rfl (fun a hF=>run_fieldAddr rfl fl107_1 (hF.ev rfl) rfl) (ov (v := .int .i64 ((x1.getD p109.2.toNat ((0, 0, 0) : Int × Int × Int)).2.1)) rfl rfl rfl (fun a hF=>run_load1 rfl one3 (hF.ev rfl) ((S.free 0 rfl).cell rfl)) fun a hF=>?_)))))
      obtain ⟨p120, h120, hM118⟩ := bind_ex hM118
      refine op_call rfl rfl hF rfl (run_call (vs := [.slice B103 p102.length d105, .int .i64 ((x1.getD p109.2.toNat ((0, 0, 0) : Int × Int × Int)).1), .int .i64 ((x1.getD p109.2.toNat ((0, 0, 0) : Int × Int × Int)).2.1)]) rfl rfl co87 ⟨(hF.ev rfl), (hF.ev rfl), (hF.ev rfl), trivial⟩) (c_impl_union_same (x0 := p109.1) (x1 := (x1.getD p109.2.toNat ((0, 0, 0) : Int × Int × Int)).1) (x2 := (x1.getD p109.2.toNat ((0, 0, 0) : Int × Int × Int)).2.1) hn110 (show St w _ [.row 3 1 (.slice B103 p102.length d105) p102.length (p109.1.flatMap eI), .box g113 107 #[.int .i64 ((x1.getD p109.2.toNat ((0, 0, 0) : Int × Int × Int)).1), .int .i64 ((x1.getD p109.2.toNat ((0, 0, 0) : Int × Int × Int)).2.1), .int .i64 ((x1.getD p109.2.toNat ((0, 0, 0) : Int × Int × Int)).2.2)]] from S.sel [1, 0] rfl rfl) h120) ?_
      rintro e u ⟨rfl, hn121, T⟩
      refine ⟨_, rfl, ?_⟩
      clear hF; intro a hF
      clear S; have S := T; clear T
      refine wn ?_
      cases hc122 : (p120.1)
      · replace hM118 := bif_f hc122 hM118
        refine cond_f hF rfl hc122 ?_
        refine wp_skip ?_
        revert a;refine rl (mv rfl rfl (ov (v := .pointer (some ⟨g113, 0, none⟩)) rfl rfl rfl (fun a hF=>run_fieldAddr rfl fl107_0 (hF.ev rfl) rfl) (ov (v := .int .i64 ((x1.getD p109.2.toNat ((0, 0, 0) : Int × Int × Int)).1)) rfl rfl rfl (fun a hF=>run_load1 rfl one3 (hF.ev rfl) ((S.free 1 rfl).cell rfl)) (ov (v := .pointer (some ⟨g113, 1, none⟩)) rfl rfl rfl (fun a hF=>run_fieldAddr rfl fl107_1 (hF.ev rfl) rfl) (ov (v := .int .i64 ((x1.getD p109.2.toNat ((0, 0, 0) : Int × Int × Int)).2.1)) rfl rfl rfl (fun a hF=>run_load1 rfl one3 (hF.ev rfl) ((S.free 1 rfl).cell rfl)) fun a hF=>?_)))))
        obtain ⟨p123, h123, hM118⟩ := bind_ex hM118
        refine op_call rfl rfl hF rfl (run_call (vs := [.slice B103 p102.length d105, .int .i64 ((x1.getD p109.2.toNat ((0, 0, 0) : Int × Int × Int)).1), .int .i64 ((x1.getD p109.2.toNat ((0, 0, 0) : Int × Int × Int)).2.1)]) rfl rfl co84 ⟨(hF.ev rfl), (hF.ev rfl), (hF.ev rfl), trivial⟩) (c_impl_union_join (x0 := p120.2) (x1 := (x1.getD p109.2.toNat ((0, 0, 0) : Int × Int × Int)).1) (x2 := (x1.getD p109.2.toNat ((0, 0, 0) : Int × Int × Int)).2.1) hn121 (show St w _ [.row 3 1 (.slice B103 p102.length d105) p102.length (p120.2.flatMap eI), .box g113 107 #[.int .i64 ((x1.getD p109.2.toNat ((0, 0, 0) : Int × Int × Int)).1), .int .i64 ((x1.getD p109.2.toNat ((0, 0, 0) : Int × Int × Int)).2.1), .int .i64 ((x1.getD p109.2.toNat ((0, 0, 0) : Int × Int × Int)).2.2)]] from S.sel [0, 1] rfl rfl) h123) ?_
        rintro e u ⟨rfl, hn124, T⟩
        refine ⟨_, rfl, ?_⟩
        clear hF; intro a hF
        clear S; have S := T; clear T
        refine wn ?_
        obtain rfl := Option.some.inj hM118
        exact ⟨p123, rfl, hn124, hF.keep _ ⟨rfl, rfl, rfl, rfl, rfl, rfl, trivial⟩, S.sel [0] rfl rfl⟩
      replace hM118 := bif_t hc122 hM118
      refine cond_t hF rfl hc122 ?_
      revert a;refine sr (ov (v := .bool true) rfl rfl rfl (fun a hF=>run_assign rfl rfl) fun a hF=>wn ?_)
      refine wp_ret ?_
      repeat with_reducible first|refine tr ?_|refine ir ?_|refine nr ?_
      refine ret1_gw (.inl rfl) hF rfl (res_tmp (hF.ev rfl)) ?_
      obtain rfl := Option.some.inj hM118
      obtain rfl := Option.some.inj hM108
      obtain rfl := Option.some.inj hM
      exact ⟨rfl, S.sel [] rfl rfl⟩
    rintro a u ⟨p115, rfl, hn117, hF, S⟩
    replace hM108 := elim_l hM108
    revert a;refine rl (ov (v := .int .i64 (w64 (p109.2 + 1))) rfl rfl rfl (fun a hF=>run_add (z := w64 (p109.2 + 1)) (hF.ev rfl) rfl rfl rfl) (mv rfl rfl fun a hF=>wn ?_))
    exact ⟨f1, Nat.lt_succ_self _, (p115, w64 (p109.2 + 1)), hM108, hn117, hF.keep _ ⟨rfl, rfl, rfl, rfl, rfl, rfl, trivial⟩, S.sel [0] rfl rfl⟩
  rintro a u ⟨p106, rfl, hF, S⟩
  replace hM := elim_l hM
  revert a;refine sr (ov (v := .bool false) rfl rfl rfl (fun a hF=>run_assign rfl rfl) fun a hF=>wn ?_)
  refine wp_ret ?_
  repeat with_reducible first|refine tr ?_|refine ir ?_|refine nr ?_
  refine ret1_gw (.inl rfl) hF rfl (res_tmp (hF.ev rfl)) ?_
  obtain rfl := Option.some.inj hM
  exact ⟨rfl, S.sel [] rfl rfl⟩
theorem c_impl_Line_other {x0 : Int} {x1 : Int} {x2 : Int} {x3 : Int} {w : World} {r : Int}  (hM : m_impl_Line_other x0 x1 x2 x3 = some r) :
    Calls Try.prog 88 #[.agg #[.int .i64 x0, .int .i64 x1, .int .i64 x2], .int .i64 x3] w (fun e w' => e = .returned (.int .i64 r) ∧ St w w' []) := by
  unfold m_impl_Line_other at hM
  refine calls_gw Try.func88 Try.ntmps88 rfl [(0, .agg #[.int .i64 x0, .int .i64 x1, .int .i64 x2]), (1, .int .i64 x3)] ⟨rfl, rfl, trivial⟩ rfl ?_
  intro a hF
  have S := St.nil w
  refine wsg ?_
  refine op_new (cs := #[.int .i64 x0, .int .i64 x1, .int .i64 x2]) rfl rfl hF rfl S (run_box rfl (hF.ev rfl) rfl) ?_; clear hF S; intro a g101 u hF S
  refine op_val (v := .int .i64 0) rfl rfl hF rfl (run_assign rfl rfl) ?_;clear hF;intro a hF
  refine wn ?_
  refine ws ?_
  revert a;refine sr (mv rfl rfl fun a hF=>wn ?_)
  refine wp_block ?_
  revert a;refine sr (ov (v := .pointer (some ⟨g101, 0, none⟩)) rfl rfl rfl (fun a hF=>run_fieldAddr rfl fl107_0 (hF.ev rfl) rfl) (ov (v := .int .i64 x0) rfl rfl rfl (fun a hF=>run_load1 rfl one3 (hF.ev rfl) ((S.free 0 rfl).cell rfl)) (ov (v := .bool (x3 == x0)) rfl rfl rfl (fun a hF=>run_eql (hF.ev rfl) (hF.ev rfl) rfl) (ag rfl rfl fun a hF=>wn ?_))))
  cases hc102 : (x3 == x0)
  · replace hM := bif_f hc102 hM
    refine cond_f hF rfl hc102 ?_
    revert a;refine sr (ov (v := .pointer (some ⟨g101, 1, none⟩)) rfl rfl rfl (fun a hF=>run_fieldAddr rfl fl107_1 (hF.ev rfl) rfl) (ov (v := .int .i64 x1) rfl rfl rfl (fun a hF=>run_load1 rfl one3 (hF.ev rfl) ((S.free 0 rfl).cell rfl)) (ov (v := .bool (x3 == x1)) rfl rfl rfl (fun a hF=>run_eql (hF.ev rfl) (hF.ev rfl) rfl) (ag rfl rfl fun a hF=>wn ?_))))
    cases hc103 : (x3 == x1)
    · replace hM := bif_f hc103 hM
      refine cond_f hF rfl hc103 ?_
      refine wp_skip ?_
      revert a;refine sr (ov (v := .int .i64 (-1)) rfl rfl rfl (fun a hF=>run_assign rfl rfl) fun a hF=>wn ?_)
      refine wp_ret ?_
      repeat with_reducible first|refine tr ?_|refine ir ?_|refine nr ?_
      refine ret1_gw (.inl rfl) hF rfl (res_tmp (hF.ev rfl)) ?_
      obtain rfl := Option.some.inj hM
      exact ⟨rfl, S.sel [] rfl rfl⟩
    replace hM := bif_t hc103 hM
    refine cond_t hF rfl hc103 ?_
    revert a;refine sr (ov (v := .pointer (some ⟨g101, 0, none⟩)) rfl rfl rfl (fun a hF=>run_fieldAddr rfl fl107_0 (hF.ev rfl) rfl) (ov (v := .int .i64 x0) rfl rfl rfl (fun a hF=>run_load1 rfl one3 (hF.ev rfl) ((S.free 0 rfl).cell rfl)) (ag rfl rfl fun a hF=>wn ?_)))
    refine wp_ret ?_
    repeat with_reducible first|refine tr ?_|refine ir ?_|refine nr ?_
    refine ret1_gw (.inl rfl) hF rfl (res_tmp (hF.ev rfl)) ?_
    obtain rfl := Option.some.inj hM
    exact ⟨rfl, S.sel [] rfl rfl⟩
  replace hM := bif_t hc102 hM
  refine cond_t hF rfl hc102 ?_
  revert a;refine sr (ov (v := .pointer (some ⟨g101, 1, none⟩)) rfl rfl rfl (fun a hF=>run_fieldAddr rfl fl107_1 (hF.ev rfl) rfl) (ov (v := .int .i64 x1) rfl rfl rfl (fun a hF=>run_load1 rfl one3 (hF.ev rfl) ((S.free 0 rfl).cell rfl)) (ag rfl rfl fun a hF=>wn ?_)))
  refine wp_ret ?_
  repeat with_reducible first|refine tr ?_|refine ir ?_|refine nr ?_
  refine ret1_gw (.inl rfl) hF rfl (res_tmp (hF.ev rfl)) ?_
  obtain rfl := Option.some.inj hM
  exact ⟨rfl, S.sel [] rfl rfl⟩
theorem c_impl_tree_search {x0 : Int} {x1 : List (Int × Int × Int)} {x2 : List Int} {x3 : List Int} {x4 : List Int} {x5 : List Bool} {x6 : Int} {A1 : Option Addr} {n1 c1 : Nat} {Y1 : Asn} {A2 : Option Addr} {n2 c2 : Nat} {A3 : Option Addr} {n3 c3 : Nat} {A4 : Option Addr} {n4 c4 : Nat} {g0 : Nat} {A5 : Option Addr} {n5 c5 : Nat} {w : World} {r : Int × List Int × List Int × List Int} {w0 : World} {X : List Asn} (h1 : n1 = x1.length) (hY1 : ∀ u, Y1.holds u → Rc u 3 A1 n1 c1 (x1.flatMap eLine)) (h2 : n2 = x2.length) (h3 : n3 = x3.length) (h4 : n4 = x4.length) (h5 : Rt w0 1 eB A5 n5 c5 x5) (S : St w0 w (Asn.box g0 89 #[.int .i64 x0, .slice A1 n1 c1, .slice A2 n2 c2, .slice A3 n3 c3, .slice A4 n4 c4] :: Y1 :: Asn.row 3 1 (.slice A2 n2 c2) n2 (x2.flatMap eI) :: Asn.row 3 1 (.slice A3 n3 c3) n3 (x3.flatMap eI) :: Asn.row 3 1 (.slice A4 n4 c4) n4 (x4.flatMap eI) :: X)) (hM : m_impl_tree_search x0 x1 x2 x3 x4 x5 x6 = some r) :
    Calls Try.prog 79 #[.pointer (some ⟨g0, 0, none⟩), .slice A5 n5 c5, .int .i64 x6] w (fun e w' => ∃ (B0 : Option Addr) (N0 D0 : Nat) (B1 : Option Addr) (N1 D1 : Nat) (B2 : Option Addr) (N2 D2 : Nat), e = .returned (.tuple #[]) ∧ N0 = r.2.1.length ∧ N1 = r.2.2.1.length ∧ N2 = r.2.2.2.length ∧ St w0 w' (Asn.box g0 89 #[.int .i64 r.1, .slice A1 n1 c1, .slice B0 N0 D0, .slice B1 N1 D1, .slice B2 N2 D2] :: Asn.row 3 1 (.slice B0 N0 D0) N0 (r.2.1.flatMap eI) :: Asn.row 3 1 (.slice B1 N1 D1) N1 (r.2.2.1.flatMap eI) :: Asn.row 3 1 (.slice B2 N2 D2) N2 (r.2.2.2.flatMap eI) :: Y1 :: X)) := by
  obtain rfl := h1
  obtain rfl := h2
  obtain rfl := h3
  obtain rfl := h4
  obtain rfl := h5.len
  unfold m_impl_tree_search at hM
  refine calls_gw Try.func79 Try.ntmps79 rfl [(0, .pointer (some ⟨g0, 0, none⟩)), (1, .slice A5 x5.length c5), (2, .int .i64 x6)] ⟨rfl, rfl, rfl, trivial⟩ rfl ?_
  intro a hF
  revert a;refine sr (mv rfl rfl (ov (v := .pointer (some ⟨g0, 0, none⟩)) rfl rfl rfl (fun a hF=>run_nilCheck rfl (hF.ev rfl)) (ov (v := .pointer (some ⟨g0, 4, none⟩)) rfl rfl rfl (fun a hF=>run_fieldAddr rfl fl89_3 (hF.ev rfl) rfl) (ov (v := .slice A4 x4.length c4) rfl rfl rfl (fun a hF=>run_load1 rfl one30 (hF.ev rfl) ((S.free 0 rfl).cell rfl)) (ov rfl rfl rfl (fun a hF=>run_lenL rfl rfl Try.underlying30 (hF.ev rfl)) (ag rfl rfl fun a hF=>wn ?_))))))
  revert a;refine sr (mv rfl rfl (mv rfl rfl (ov (v := .pointer (some ⟨g0, 0, none⟩)) rfl rfl rfl (fun a hF=>run_nilCheck rfl (hF.ev rfl)) (ov (v := .pointer (some ⟨g0, 4, none⟩)) rfl rfl rfl (fun a hF=>run_fieldAddr rfl fl89_3 (hF.ev rfl) rfl) (ov (v := .slice A4 x4.length c4) rfl rfl rfl (fun a hF=>run_load1 rfl one30 (hF.ev rfl) ((S.free 0 rfl).cell rfl)) (mv rfl rfl fun a hF=>?_))))))
  refine op_newrowL (ls := (([x6] : List Int) : List Int)) (e := eI) rfl rfl hF rfl S (run_buildS (vs := [(0, .int .i64 x6)]) rfl ⟨⟨rfl, (hF.ev rfl)⟩, trivial⟩ (bs30_1_0 rfl)) rfl eI_len (Nat.le_of_ble_eq_true rfl) ?_; clear hF S; intro a g101 u hF S
  obtain ⟨hk104, hM⟩ := chk_ex hM
  replace hk104 := apB_t hk104
  refine op_appendL (lx := x4) (ly := ([x6] : List Int)) rfl rfl hF rfl S rfl (hF.ev rfl) (hF.ev rfl) (i := 5) rfl rfl Try.underlying30 inf3 rfl (by decide) (S.rc 0 rfl).rd rfl eI_one hk104 (by decide) ?_; clear hF S; intro a B102 d103 u hF S
  revert a;refine ov (v := .pointer (some ⟨g0, 0, none⟩)) rfl rfl rfl (fun a hF=>run_nilCheck rfl (hF.ev rfl)) (ov (v := .pointer (some ⟨g0, 4, none⟩)) rfl rfl rfl (fun a hF=>run_fieldAddr rfl fl89_3 (hF.ev rfl) rfl) fun a hF=>?_)
  refine op_do rfl rfl (run_store (cs' := #[.int .i64 x0, .slice A1 x1.length c1, .slice A2 x2.length c2, .slice A3 x3.length c3, .slice B102 ((x4 ++ ([x6] : List Int)).length) d103]) rfl sz30 (hF.ev rfl) (hF.ev rfl) rfl rfl rfl (S.free 1 rfl) rfl rfl) ?_; replace S := S.put 1 rfl (#[.int .i64 x0, .slice A1 x1.length c1, .slice A2 x2.length c2, .slice A3 x3.length c3, .slice B102 ((x4 ++ ([x6] : List Int)).length) d103])
  generalize World.setRow _ _ _ = u at S ⊢
  refine wn ?_
  obtain ⟨o106, hM111, hM⟩ := bind_ex hM
  refine wp_cut (fun a u => ∃ (p105 : List Int × List Int × List Int) (B109 : Option Addr) (d110 : Nat), p105 = o106 ∧ x2.length = p105.1.length ∧ x3.length = p105.2.1.length ∧ Fr a 99 [] ∧ St w0 u (Asn.box g0 89 #[.int .i64 x0, .slice A1 x1.length c1, .slice A2 x2.length c2, .slice A3 x3.length c3, .slice B109 p105.2.2.length d110] :: Y1 :: Asn.row 3 1 (.slice A2 x2.length c2) x2.length (p105.1.flatMap eI) :: Asn.row 3 1 (.slice A3 x3.length c3) x3.length (p105.2.1.flatMap eI) :: Asn.row 3 1 (.slice B109 p105.2.2.length d110) p105.2.2.length (p105.2.2.flatMap eI) :: X)) ?_ ?_
  · have _ := trivial
    refine wp_block ?_
    refine loop_gw (fun m a u => ∃ (p112 : Int × List Int × List Int × List Int) (B115 : Option Addr) (d116 : Nat), m_impl_tree_search_l1 x1 x2 x3 x5 x6 m p112 = some _ ∧ x2.length = p112.2.1.length ∧ x3.length = p112.2.2.1.length ∧ Fr a 99 [(0, .pointer (some ⟨g0, 0, none⟩)), (1, .slice A5 x5.length c5), (2, .int .i64 x6), (6, .int .i64 p112.1)] ∧ St w0 u (Asn.box g0 89 #[.int .i64 x0, .slice A1 x1.length c1, .slice A2 x2.length c2, .slice A3 x3.length c3, .slice B115 p112.2.2.2.length d116] :: Y1 :: Asn.row 3 1 (.slice A2 x2.length c2) x2.length (p112.2.1.flatMap eI) :: Asn.row 3 1 (.slice A3 x3.length c3) x3.length (p112.2.2.1.flatMap eI) :: Asn.row 3 1 (.slice B115 p112.2.2.2.length d116) p112.2.2.2.length (p112.2.2.2.flatMap eI) :: X)) FUEL ⟨((x4.length : Int), x2, x3, x4 ++ ([x6] : List Int)), B102, d103, hM111, rfl, rfl, hF.keep _ ⟨rfl, rfl, rfl, rfl, trivial⟩, S.selT (M := [.box g0 89 #[.int .i64 x0, .slice A1 x1.length c1, .slice A2 x2.length c2, .slice A3 x3.length c3, .slice B102 ((x4 ++ ([x6] : List Int)).length) d103], Y1, .row 3 1 (.slice A2 x2.length c2) x2.length (x2.flatMap eI), .row 3 1 (.slice A3 x3.length c3) x3.length (x3.flatMap eI), .row 3 1 (.slice B102 ((x4 ++ ([x6] : List Int)).length) d103) ((x4 ++ ([x6] : List Int)).length) ((x4 ++ ([x6] : List Int)).flatMap eI)]) 6 [1, 2, 3, 4, 5] rfl rfl rfl⟩ ?_
    clear hF S hM111; rintro m a u ⟨p112, B115, d116, hM111, hn113, hn114, hF, S⟩
    rcases m with _ | f1
    · exact none_some hM111
    rw [m_impl_tree_search_l1.eq_2] at hM111
    refine ws ?_
    revert a;refine sr (mv rfl rfl (mv rfl rfl (ov (v := .pointer (some ⟨g0, 0, none⟩)) rfl rfl rfl (fun a hF=>run_nilCheck rfl (hF.ev rfl)) (ov (v := .pointer (some ⟨g0, 4, none⟩)) rfl rfl rfl (fun a hF=>run_fieldAddr rfl fl89_3 (hF.ev rfl) rfl) (ov (v := .slice B115 p112.2.2.2.length d116) rfl rfl rfl (fun a hF=>run_load1 rfl one30 (hF.ev rfl) ((S.free 0 rfl).cell rfl)) (ov rfl rfl rfl (fun a hF=>run_lenL rfl rfl Try.underlying30 (hF.ev rfl)) (ov (v := .bool (ltB p112.1 (p112.2.2.2.length : Int))) rfl rfl rfl (fun a hF=>run_lss (hF.ev rfl) (hF.ev rfl) rfl) fun a hF=>wn ?_)))))))
    cases hc117 : (ltB p112.1 (p112.2.2.2.length : Int))
    · replace hM111 := bif_f hc117 hM111
      refine cond_f hF rfl hc117 ?_
      refine wp_exit ?_
      repeat with_reducible (first | refine then_exit ?_ | refine in_hit ?_ | refine in_miss rfl ?_)
      obtain rfl := Option.some.inj hM111
      exact ⟨(p112.2.1, p112.2.2.1, p112.2.2.2), B115, d116, rfl, hn113, hn114, hF.keep _ trivial, S.selT (M := [.box g0 89 #[.int .i64 x0, .slice A1 x1.length c1, .slice A2 x2.length c2, .slice A3 x3.length c3, .slice B115 p112.2.2.2.length d116], Y1, .row 3 1 (.slice A2 x2.length c2) x2.length (p112.2.1.flatMap eI), .row 3 1 (.slice A3 x3.length c3) x3.length (p112.2.2.1.flatMap eI), .row 3 1 (.slice B115 p112.2.2.2.length d116) p112.2.2.2.length (p112.2.2.2.flatMap eI)]) 5 [0, 1, 2, 3, 4] rfl rfl rfl⟩
    replace hM111 := bif_t hc117 hM111
    refine cond_t hF rfl hc117 ?_
    refine wp_skip ?_
    refine ws ?_
    refine wp_block ?_
    revert a;refine sr (mv rfl rfl (ov (v := .pointer (some ⟨g0, 0, none⟩)) rfl rfl rfl (fun a hF=>run_nilCheck rfl (hF.ev rfl)) (ov (v := .pointer (some ⟨g0, 4, none⟩)) rfl rfl rfl (fun a hF=>run_fieldAddr rfl fl89_3 (hF.ev rfl) rfl) (ov (v := .slice B115 p112.2.2.2.length d116) rfl rfl rfl (fun a hF=>run_load1 rfl one30 (hF.ev rfl) ((S.free 0 rfl).cell rfl)) (mv rfl rfl fun a hF=>?_)))))
    obtain ⟨hk118, hM111⟩ := chk_ex hM111
    replace hk118 := ixB_t hk118
    revert a;refine ov rfl rfl rfl (fun a hF=>run_indexAddr (b := adB B115) (off := adO B115) rfl Try.underlying30 sz3 ((hF.ev rfl).trans (congrArg (fun A => Value.slice A p112.2.2.2.length d116) ((S.rc 4 rfl).rd.ad (ix_pos hk118)))) (hF.ev rfl) hk118.1 hk118.2 (k' := adO B115 + p112.1.toNat * 1) rfl) (ov (v := .int .i64 (p112.2.2.2.getD p112.1.toNat (0 : Int))) rfl rfl rfl (fun a hF=>run_load1 rfl one3 (hF.ev rfl) (rd_el0 (l := p112.2.2.2) (S.rc 4 rfl).rd rfl eI_len (0 : Int) (ix_ltn hk118 rfl) rfl)) (ag rfl rfl fun a hF=>wn ?_))
    revert a;refine sr (mv rfl rfl (ov (v := .pointer (some ⟨g0, 0, none⟩)) rfl rfl rfl (fun a hF=>run_nilCheck rfl (hF.ev rfl)) (ov (v := .pointer (some ⟨g0, 0, none⟩)) rfl rfl rfl (fun a hF=>run_fieldAddr rfl fl89_0 (hF.ev rfl) rfl) (ov (v := .pointer (some ⟨g0, 1, none⟩)) rfl rfl rfl (fun a hF=>run_fieldAddr rfl fl37_1 (hF.ev rfl) rfl) (ov (v := .slice A1 x1.length c1) rfl rfl rfl (fun a hF=>run_load1 rfl one35 (hF.ev rfl) ((S.free 0 rfl).cell rfl)) (ov rfl rfl rfl (fun a hF=>run_lenL rfl rfl Try.underlying35 (hF.ev rfl)) (ov (v := .int .i64 0) rfl rfl rfl (fun a hF=>run_move rfl rfl) fun a hF=>wn ?_)))))))
    obtain ⟨o120, hM125, hM111⟩ := bind_ex hM111
    refine wp_cut (fun a u => ∃ (p119 : List Int × List Int × List Int) (B123 : Option Addr) (d124 : Nat), p119 = o120 ∧ x2.length = p119.1.length ∧ x3.length = p119.2.1.length ∧ Fr a 99 [(0, .pointer (some ⟨g0, 0, none⟩)), (1, .slice A5 x5.length c5), (2, .int .i64 x6), (6, .int .i64 p112.1)] ∧ St w0 u (Asn.box g0 89 #[.int .i64 x0, .slice A1 x1.length c1, .slice A2 x2.length c2, .slice A3 x3.length c3, .slice B123 p119.2.2.length d124] :: Y1 :: Asn.row 3 1 (.slice A2 x2.length c2) x2.length (p119.1.flatMap eI) :: Asn.row 3 1 (.slice A3 x3.length c3) x3.length (p119.2.1.flatMap eI) :: Asn.row 3 1 (.slice B123 p119.2.2.length d124) p119.2.2.length (p119.2.2.flatMap eI) :: X)) ?_ ?_
    · have _ := trivial
      refine wp_block ?_
      refine loop_gw (fun m a u => ∃ (p126 : Int × List Int × List Int × List Int) (B129 : Option Addr) (d130 : Nat), m_impl_tree_search_l2 x1 x2 x3 x5 x6 p112 m p126 = some _ ∧ x2.length = p126.2.1.length ∧ x3.length = p126.2.2.1.length ∧ Fr a 99 [(0, .pointer (some ⟨g0, 0, none⟩)), (1, .slice A5 x5.length c5), (2, .int .i64 x6), (6, .int .i64 p112.1), (7, .int .i64 (p112.2.2.2.getD p112.1.toNat (0 : Int))), (46, .slice A1 x1.length c1), (47, .int .i64 (x1.length : Int)), (48, .int .i64 p126.1)] ∧ St w0 u (Asn.box g0 89 #[.int .i64 x0, .slice A1 x1.length c1, .slice A2 x2.length c2, .slice A3 x3.length c3, .slice B129 p126.2.2.2.length d130] :: Y1 :: Asn.row 3 1 (.slice A2 x2.length c2) x2.length (p126.2.1.flatMap eI) :: Asn.row 3 1 (.slice A3 x3.length c3) x3.length (p126.2.2.1.flatMap eI) :: Asn.row 3 1 (.slice B129 p126.2.2.2.length d130) p126.2.2.2.length (p126.2.2.2.flatMap eI) :: X)) FUEL ⟨(0, p112.2.1, p112.2.2.1, p112.2.2.2), B115, d116, hM125, hn113, hn114, hF.keep _ ⟨rfl, rfl, rfl, rfl, rfl, rfl, rfl, rfl, trivial⟩, S.selT (M := [.box g0 89 #[.int .i64 x0, .slice A1 x1.length c1, .slice A2 x2.length c2, .slice A3 x3.length c3, .slice B115 p112.2.2.2.length d116], Y1, .row 3 1 (.slice A2 x2.length c2) x2.length (p112.2.1.flatMap eI), .row 3 1 (.slice A3 x3.length c3) x3.length (p112.2.2.1.flatMap eI), .row 3 1 (.slice B115 p112.2.2.2.length d116) p112.2.2.2.length (p112.2.2.2.flatMap eI)]) 5 [0, 1, 2, 3, 4] rfl rfl rfl⟩ ?_
      clear hF S hM125; rintro m a u ⟨p126, B129, d130, hM125, hn127, hn128, hF, S⟩
      rcases m with _ | f2
      · exact none_some hM125
      rw [m_impl_tree_search_l2.eq_2] at hM125
      revert a;refine sr (ov (v := .bool (ltB p126.1 (x1.length : Int))) rfl rfl rfl (fun a hF=>run_lss (hF.ev rfl) (hF.ev rfl) rfl) fun a hF=>wn ?_)
      refine ws ?_
      cases hc131 : (ltB p126.1 (x1.length : Int))
      · replace hM125 := bif_f hc131 hM125
        refine cond_f hF rfl hc131 ?_
        refine wp_exit ?_
        repeat with_reducible (first | refine then_exit ?_ | refine in_hit ?_ | refine in_miss rfl ?_)
        obtain rfl := Option.some.inj hM125
        exact ⟨(p126.2.1, p126.2.2.1, p126.2.2.2), B129, d130, rfl, hn127, hn128, hF.keep _ ⟨rfl, rfl, rfl, rfl, trivial⟩, S.selT (M := [.box g0 89 #[.int .i64 x0, .slice A1 x1.length c1, .slice A2 x2.length c2, .slice A3 x3.length c3, .slice B129 p126.2.2.2.length d130], Y1, .row 3 1 (.slice A2 x2.length c2) x2.length (p126.2.1.flatMap eI), .row 3 1 (.slice A3 x3.length c3) x3.length (p126.2.2.1.flatMap eI), .row 3 1 (.slice B129 p126.2.2.2.length d130) p126.2.2.2.length (p126.2.2.2.flatMap eI)]) 5 [0, 1, 2, 3, 4] rfl rfl rfl⟩
      replace hM125 := bif_t hc131 hM125
      refine cond_t hF rfl hc131 ?_
      refine wp_skip ?_
      refine ws ?_
      refine wp_block ?_
      revert a;refine sr (mv rfl rfl fun a hF=>?_)
      obtain ⟨hk132, hM125⟩ := chk_ex hM125
      replace hk132 := ixB_t hk132
      revert a;refine ov rfl rfl rfl (fun a hF=>run_indexAddr (b := adB A1) (off := adO A1) rfl Try.underlying35 sz107 ((hF.ev rfl).trans (congrArg (fun A => Value.slice A x1.length c1) ((hY1 _ (S.get (i := 1) rfl)).rd.ad (ix_pos hk132)))) (hF.ev rfl) hk132.1 hk132.2 (k' := adO A1 + p126.1.toNat * 3) rfl) (ov rfl rfl rfl (fun a hF=>run_loadN (cs := #[.int .i64 ((x1.getD p126.1.toNat ((0, 0, 0) : Int × Int × Int)).1), .int .i64 ((x1.getD p126.1.toNat ((0, 0, 0) : Int × Int × Int)).2.1), .int .i64 ((x1.getD p126.1.toNat ((0, 0, 0) : Int × Int × Int)).2.2)]) rfl ag107 (hF.ev rfl) rfl (rd_elN (l := x1) (hY1 _ (S.get (i := 1) rfl)).rd rfl eLine_len ((0, 0, 0) : Int × Int × Int) (ix_ltn hk132 rfl) rfl)) fun a hF=>?_)
      refine op_new (cs := #[.int .i64 0, .int .i64 0, .int .i64 0]) rfl rfl hF rfl S (run_allocZ rfl zr107) ?_; clear hF S; intro a g133 u hF S
      refine op_val (v := .int .i64 p126.1) rfl rfl hF rfl (run_assign rfl (hF.ev rfl)) ?_;clear hF;intro a hF
      refine op_do rfl rfl (run_store (cs' := #[.int .i64 ((x1.getD p126.1.toNat ((0, 0, 0) : Int × Int × Int)).1), .int .i64 ((x1.getD p126.1.toNat ((0, 0, 0) : Int × Int × Int)).2.1), .int .i64 ((x1.getD p126.1.toNat ((0, 0, 0) : Int × Int × Int)).2.2)]) rfl sz107 (hF.ev rfl) (hF.ev rfl) rfl rfl rfl (S.free 0 rfl) rfl rfl) ?_; replace S := S.put 0 rfl (#[.int .i64 ((x1.getD p126.1.toNat ((0, 0, 0) : Int × Int × Int)).1), .int .i64 ((x1.getD p126.1.toNat ((0, 0, 0) : Int × Int × Int)).2.1), .int .i64 ((x1.getD p126.1.toNat ((0, 0, 0) : Int × Int × Int)).2.2)])
      generalize World.setRow _ _ _ = u at S ⊢
      refine wn ?_
      revert a;refine sr (ov rfl rfl rfl (fun a hF=>run_loadN rfl ag107 (hF.ev rfl) rfl ((S.free 0 rfl).cells 0 #[.int .i64 ((x1.getD p126.1.toNat ((0, 0, 0) : Int × Int × Int)).1), .int .i64 ((x1.getD p126.1.toNat ((0, 0, 0) : Int × Int × Int)).2.1), .int .i64 ((x1.getD p126.1.toNat ((0, 0, 0) : Int × Int × Int)).2.2)] rfl)) (mv rfl rfl fun a hF=>?_))
      obtain ⟨p134, h134, hM125⟩ := bind_ex hM125
      refine op_call rfl rfl hF rfl (run_call (vs := [.agg #[.int .i64 ((x1.getD p126.1.toNat ((0, 0, 0) : Int × Int × Int)).1), .int .i64 ((x1.getD p126.1.toNat ((0, 0, 0) : Int × Int × Int)).2.1), .int .i64 ((x1.getD p126.1.toNat ((0, 0, 0) : Int × Int × Int)).2.2)], .int .i64 (p112.2.2.2.getD p112.1.toNat (0 : Int))]) rfl rfl co88 ⟨(hF.ev rfl), (hF.ev rfl), trivial⟩) (c_impl_Line_other (x0 := (x1.getD p126.1.toNat ((0, 0, 0) : Int × Int × Int)).1) (x1 := (x1.getD p126.1.toNat ((0, 0, 0) : Int × Int × Int)).2.1) (x2 := (x1.getD p126.1.toNat ((0, 0, 0) : Int × Int × Int)).2.2) (x3 := (p112.2.2.2.getD p112.1.toNat (0 : Int)))  h134) ?_
      rintro e u ⟨rfl, T⟩
      refine ⟨_, rfl, ?_⟩
      clear hF; intro a hF
      replace S := S.call0 T; clear T
      refine op_val (v := .int .i64 p134) rfl rfl hF rfl (run_assign rfl (hF.ev rfl)) ?_;clear hF;intro a hF
      refine wn ?_
      revert a;refine sr (mv rfl rfl (mv rfl rfl fun a hF=>?_))
      obtain ⟨hk135, hM125⟩ := chk_ex hM125
      replace hk135 := ixB_t hk135
      revert a;refine ov rfl rfl rfl (fun a hF=>run_indexAddr (b := adB A5) (off := adO A5) rfl Try.underlying26 sz4 ((hF.ev rfl).trans (congrArg (fun A => Value.slice A x5.length c5) ((S.rc0 h5.rc).rd.ad (ix_pos hk135)))) (hF.ev rfl) hk135.1 hk135.2 (k' := adO A5 + p126.1.toNat * 1) rfl) (ov (v := .bool (x5.getD p126.1.toNat false)) rfl rfl rfl (fun a hF=>run_load1 rfl one4 (hF.ev rfl) (rd_el0 (l := x5) (S.rc0 h5.rc).rd rfl eB_len false (ix_ltn hk135 rfl) rfl)) (mv rfl rfl fun a hF=>?_))
      refine op_gv (v := .int .i64 p134) rfl rfl hF rfl (yt (gw_yield hF rfl rfl rfl)) (fun hg => (run_move rfl (hF.ev rfl))) ?_;clear hF;intro a hF
      refine op_gv (v := .bool (leB 0 p134)) rfl rfl hF rfl (yt (gw_yield hF rfl rfl rfl)) (fun hg => (run_geq ((hF.ev rfl).trans (gv_t hg)) rfl rfl)) ?_;clear hF;intro a hF
      revert a;refine ov (v := .bool ((x5.getD p126.1.toNat false) && (leB 0 p134))) rfl rfl rfl (fun a hF=>run_pick_and rfl (hF.ev rfl) (fun hp => ((hF.ev rfl).trans (gv_t hp))) rfl) (mv rfl rfl fun a hF=>?_)
      refine op_gv (v := .pointer (some ⟨g0, 0, none⟩)) rfl rfl hF rfl (yt (gw_yield hF rfl rfl rfl)) (fun hg => (run_move rfl (hF.ev rfl))) ?_;clear hF;intro a hF
      refine op_gv (v := .pointer (some ⟨g0, 0, none⟩)) rfl rfl hF rfl (yt (gw_yield hF rfl rfl rfl)) (fun hg => (run_nilCheck rfl ((hF.ev rfl).trans (gv_t hg)))) ?_;clear hF;intro a hF
      refine op_gv (v := .pointer (some ⟨g0, 2, none⟩)) rfl rfl hF rfl (yt (gw_yield hF rfl rfl rfl)) (fun hg => (run_fieldAddr rfl fl89_1 ((hF.ev rfl).trans (gv_t hg)) rfl)) ?_;clear hF;intro a hF
      refine op_gv (v := .slice A2 x2.length c2) rfl rfl hF rfl (yt (gw_yield hF rfl rfl rfl)) (fun hg => (run_load1 rfl one30 ((hF.ev rfl).trans (gv_t hg)) ((S.free 1 rfl).cell rfl))) ?_;clear hF;intro a hF
      refine op_gv (v := .int .i64 p134) rfl rfl hF rfl (yt (gw_yield hF rfl rfl rfl)) (fun hg => (run_move rfl (hF.ev rfl))) ?_;clear hF;intro a hF
      obtain ⟨hk136, hM125⟩ := chk_ex hM125
      replace hk136 := fun hg => ixB_t (imp_t hk136 hg)
      refine op_gv (v := .pointer (some ⟨adB A2, adO A2 + p134.toNat * 1, none⟩)) rfl rfl hF rfl (yt (gw_yield hF rfl rfl rfl)) (fun hg => (run_indexAddr (b := adB A2) (off := adO A2) rfl Try.underlying30 sz3 (((hF.ev rfl).trans (gv_t hg)).trans (congrArg (fun A => Value.slice A x2.length c2) ((S.rc 3 rfl).rd.ad (ix_pos (hk136 hg))))) ((hF.ev rfl).trans (gv_t hg)) (hk136 hg).1 (hk136 hg).2 (k' := adO A2 + p134.toNat * 1) rfl)) ?_;clear hF;intro a hF
      refine op_gv (v := .int .i64 (p126.2.1.getD p134.toNat (0 : Int))) rfl rfl hF rfl (yt (gw_yield hF rfl rfl rfl)) (fun hg => (run_load1 rfl one3 ((hF.ev rfl).trans (gv_t hg)) (rd_el0 (l := p126.2.1) (S.rc 3 rfl).rd hn127 eI_len (0 : Int) (ix_ltn (hk136 hg) hn127) rfl))) ?_;clear hF;intro a hF
      refine op_gv (v := .bool (ltB (p126.2.1.getD p134.toNat (0 : Int)) 0)) rfl rfl hF rfl (yt (gw_yield hF rfl rfl rfl)) (fun hg => (run_lss ((hF.ev rfl).trans (gv_t hg)) rfl rfl)) ?_;clear hF;intro a hF
      refine op_val (v := .bool (((x5.getD p126.1.toNat false) && (leB 0 p134)) && (ltB (p126.2.1.getD p134.toNat (0 : Int)) 0))) rfl rfl hF rfl (run_pick_and rfl (hF.ev rfl) (fun hp => ((hF.ev rfl).trans (gv_t hp))) rfl) ?_;clear hF;intro a hF
      refine wn ?_
      obtain ⟨o138, hM143, hM125⟩ := bind_ex hM125
      refine wp_cut (fun a u => ∃ (p137 : List Int × List Int × List Int) (B141 : Option Addr) (d142 : Nat), p137 = o138 ∧ x2.length = p137.1.length ∧ x3.length = p137.2.1.length ∧ Fr a 99 [(0, .pointer (some ⟨g0, 0, none⟩)), (1, .slice A5 x5.length c5), (2, .int .i64 x6), (6, .int .i64 p112.1), (7, .int .i64 (p112.2.2.2.getD p112.1.toNat (0 : Int))), (46, .slice A1 x1.length c1), (47, .int .i64 (x1.length : Int)), (48, .int .i64 p126.1)] ∧ St w0 u (Asn.box g0 89 #[.int .i64 x0, .slice A1 x1.length c1, .slice A2 x2.length c2, .slice A3 x3.length c3, .slice B141 p137.2.2.length d142] :: Y1 :: Asn.row 3 1 (.slice A2 x2.length c2) x2.length (p137.1.flatMap eI) :: Asn.row 3 1 (.slice A3 x3.length c3) x3.length (p137.2.1.flatMap eI) :: Asn.row 3 1 (.slice B141 p137.2.2.length d142) p137.2.2.length (p137.2.2.flatMap eI) :: X)) ?_ ?_
      · have _ := trivial
        cases hc144 : (((x5.getD p126.1.toNat false) && (leB 0 p134)) && (ltB (p126.2.1.getD p134.toNat (0 : Int)) 0))
        · replace hM143 := bif_f hc144 hM143
          refine cond_f hF rfl hc144 ?_
          refine wp_skip ?_
          obtain rfl := Option.some.inj hM143
          exact ⟨(p126.2.1, p126.2.2.1, p126.2.2.2), B129, d130, rfl, hn127, hn128, hF.keep _ ⟨rfl, rfl, rfl, rfl, rfl, rfl, rfl, rfl, trivial⟩, S.selT (M := [.box g0 89 #[.int .i64 x0, .slice A1 x1.length c1, .slice A2 x2.length c2, .slice A3 x3.length c3, .slice B129 p126.2.2.2.length d130], Y1, .row 3 1 (.slice A2 x2.length c2) x2.length (p126.2.1.flatMap eI), .row 3 1 (.slice A3 x3.length c3) x3.length (p126.2.2.1.flatMap eI), .row 3 1 (.slice B129 p126.2.2.2.length d130) p126.2.2.2.length (p126.2.2.2.flatMap eI)]) 6 [1, 2, 3, 4, 5] rfl rfl rfl⟩
        replace hM143 := bif_t hc144 hM143
        refine cond_t hF rfl hc144 ?_
        refine ws ?_
        obtain ⟨hk145, hM143⟩ := chk_ex hM143
        replace hk145 := ixB_t hk145
        obtain ⟨hk146, hM143⟩ := chk_ex hM143
        replace hk146 := ixB_t hk146
        refine region_gw (D := [74, 75, 76, 77, 78, 79, 80, 81, 82, 83, 84, 85, 86, 87]) (Lr := (Asn.box g133 107 #[.int .i64 ((x1.getD p126.1.toNat ((0, 0, 0) : Int × Int × Int)).1), .int .i64 ((x1.getD p126.1.toNat ((0, 0, 0) : Int × Int × Int)).2.1), .int .i64 ((x1.getD p126.1.toNat ((0, 0, 0) : Int × Int × Int)).2.2)] :: Asn.box g0 89 #[.int .i64 x0, .slice A1 x1.length c1, .slice A2 x2.length c2, .slice A3 x3.length c3, .slice B129 p126.2.2.2.length d130] :: Y1 :: Asn.row 3 1 (.slice B129 p126.2.2.2.length d130) p126.2.2.2.length (p126.2.2.2.flatMap eI) :: X)) (deps := (fun | 0 => [74] | 1 => [75] | 2 => [76] | 3 => [77] | 4 => [78] | 5 => [79] | 6 => [80] | 7 => [81] | 8 => [82] | 9 => [83] | 10 => [84] | 11 => [85] | 12 => [86] | 13 => [86] | 14 => [87] | 15 => [87] | _ => [])) (rd := (fun _ => [])) (zr := (fun | 12 => [13] | 14 => [15] | _ => []))
          (φ := fun i vs => match i, vs with | 0, [v74] => v74 = .pointer (some ⟨g0, 0, none⟩) | 1, [v75] => v75 = .pointer (some ⟨g0, 0, none⟩) | 2, [v76] => v76 = .pointer (some ⟨g0, 2, none⟩) | 3, [v77] => v77 = .slice A2 x2.length c2 | 4, [v78] => v78 = .int .i64 p134 | 5, [v79] => v79 = .pointer (some ⟨g0, 0, none⟩) | 6, [v80] => v80 = .pointer (some ⟨g0, 0, none⟩) | 7, [v81] => v81 = .pointer (some ⟨g0, 3, none⟩) | 8, [v82] => v82 = .slice A3 x3.length c3 | 9, [v83] => v83 = .int .i64 p134 | 10, [v84] => v84 = .int .i64 x6 | 11, [v85] => v85 = .int .i64 p126.1 | 12, [v86] => v86 = .pointer (some ⟨adB A2, adO A2 + p134.toNat * 1, none⟩) | 14, [v87] => v87 = .pointer (some ⟨adB A3, adO A3 + p134.toNat * 1, none⟩) | _, _ => True)
          (C := fun i vs => match i, vs with | 13, [v86] => [.row 3 1 (.slice A2 x2.length c2) x2.length ((p126.2.1.set p134.toNat x6).flatMap eI)] | 15, [v87] => [.row 3 1 (.slice A3 x3.length c3) x3.length ((p126.2.2.1.set p134.toNat p126.1).flatMap eI)] | _, _ => [])
          (κ := (fun _ => none)) (Z := (fun | 13 => [.row 3 1 (.slice A2 x2.length c2) x2.length (p126.2.1.flatMap eI)] | 15 => [.row 3 1 (.slice A3 x3.length c3) x3.length (p126.2.2.1.flatMap eI)] | _ => [])) mixed hF (by kernel_rfl) (show St w0 _ (Asn.row 3 1 (.slice A2 x2.length c2) x2.length (p126.2.1.flatMap eI) :: Asn.row 3 1 (.slice A3 x3.length c3) x3.length (p126.2.2.1.flatMap eI) :: Asn.box g133 107 #[.int .i64 ((x1.getD p126.1.toNat ((0, 0, 0) : Int × Int × Int)).1), .int .i64 ((x1.getD p126.1.toNat ((0, 0, 0) : Int × Int × Int)).2.1), .int .i64 ((x1.getD p126.1.toNat ((0, 0, 0) : Int × Int × Int)).2.2)] :: Asn.box g0 89 #[.int .i64 x0, .slice A1 x1.length c1, .slice A2 x2.length c2, .slice A3 x3.length c3, .slice B129 p126.2.2.2.length d130] :: Y1 :: Asn.row 3 1 (.slice B129 p126.2.2.2.length d130) p126.2.2.2.length (p126.2.2.2.flatMap eI) :: X) from S.selT (M := [.row 3 1 (.slice A2 x2.length c2) x2.length (p126.2.1.flatMap eI), .row 3 1 (.slice A3 x3.length c3) x3.length (p126.2.2.1.flatMap eI), .box g133 107 #[.int .i64 ((x1.getD p126.1.toNat ((0, 0, 0) : Int × Int × Int)).1), .int .i64 ((x1.getD p126.1.toNat ((0, 0, 0) : Int × Int × Int)).2.1), .int .i64 ((x1.getD p126.1.toNat ((0, 0, 0) : Int × Int × Int)).2.2)], .box g0 89 #[.int .i64 x0, .slice A1 x1.length c1, .slice A2 x2.length c2, .slice A3 x3.length c3, .slice B129 p126.2.2.2.length d130], Y1, .row 3 1 (.slice B129 p126.2.2.2.length d130) p126.2.2.2.length (p126.2.2.2.flatMap eI)]) 6 [3, 4, 0, 1, 2, 5] rfl rfl rfl) ?_ ?_
        · refine ⟨?_, ?_, ?_, ?_, ?_, ?_, ?_, ?_, ?_, ?_, ?_, ?_, ?_, ?_, ?_, ?_, trivial⟩
          · intro a u X' hB hu hp hr hz hl S
            replace S : St w0 u ([] ++ X') := S
            exact .inl ⟨rfl, .pointer (some ⟨g0, 0, none⟩), u, (run_move rfl (hF.evB hB rfl rfl)), rfl, S⟩
          · intro a u X' hB hu hp hr hz hl S
            replace S : St w0 u ([] ++ X') := S
            have e74 : sl a 74 = .pointer (some ⟨g0, 0, none⟩) := hp 0 rfl
            exact .inl ⟨rfl, .pointer (some ⟨g0, 0, none⟩), u, (run_nilCheck rfl (ev_sl e74)), rfl, S⟩
          · intro a u X' hB hu hp hr hz hl S
            replace S : St w0 u ([] ++ X') := S
            have e75 : sl a 75 = .pointer (some ⟨g0, 0, none⟩) := hp 1 rfl
            exact .inl ⟨rfl, .pointer (some ⟨g0, 2, none⟩), u, (run_fieldAddr rfl fl89_1 (ev_sl e75) rfl), rfl, S⟩
          · intro a u X' hB hu hp hr hz hl S
            replace S : St w0 u ([] ++ X') := S
            have e76 : sl a 76 = .pointer (some ⟨g0, 2, none⟩) := hp 2 rfl
            exact .inl ⟨rfl, .slice A2 x2.length c2, u, (run_load1 rfl one30 (ev_sl e76) ((gr_box S hl 1 rfl).cell rfl)), rfl, S⟩
          · intro a u X' hB hu hp hr hz hl S
            replace S : St w0 u ([] ++ X') := S
            exact .inl ⟨rfl, .int .i64 p134, u, (run_move rfl (hF.evB hB rfl rfl)), rfl, S⟩
          · intro a u X' hB hu hp hr hz hl S
            replace S : St w0 u ([] ++ X') := S
            exact .inl ⟨rfl, .pointer (some ⟨g0, 0, none⟩), u, (run_move rfl (hF.evB hB rfl rfl)), rfl, S⟩
          · intro a u X' hB hu hp hr hz hl S
            replace S : St w0 u ([] ++ X') := S
            have e79 : sl a 79 = .pointer (some ⟨g0, 0, none⟩) := hp 5 rfl
            exact .inl ⟨rfl, .pointer (some ⟨g0, 0, none⟩), u, (run_nilCheck rfl (ev_sl e79)), rfl, S⟩
          · intro a u X' hB hu hp hr hz hl S
            replace S : St w0 u ([] ++ X') := S
            have e80 : sl a 80 = .pointer (some ⟨g0, 0, none⟩) := hp 6 rfl
            exact .inl ⟨rfl, .pointer (some ⟨g0, 3, none⟩), u, (run_fieldAddr rfl fl89_2 (ev_sl e80) rfl), rfl, S⟩
          · intro a u X' hB hu hp hr hz hl S
            replace S : St w0 u ([] ++ X') := S
            have e81 : sl a 81 = .pointer (some ⟨g0, 3, none⟩) := hp 7 rfl
            exact .inl ⟨rfl, .slice A3 x3.length c3, u, (run_load1 rfl one30 (ev_sl e81) ((gr_box S hl 1 rfl).cell rfl)), rfl, S⟩
          · intro a u X' hB hu hp hr hz hl S
            replace S : St w0 u ([] ++ X') := S
            exact .inl ⟨rfl, .int .i64 p134, u, (run_move rfl (hF.evB hB rfl rfl)), rfl, S⟩
          · intro a u X' hB hu hp hr hz hl S
            replace S : St w0 u ([] ++ X') := S
            exact .inl ⟨rfl, .int .i64 x6, u, (run_move rfl (hF.evB hB rfl rfl)), rfl, S⟩
          · intro a u X' hB hu hp hr hz hl S
            replace S : St w0 u ([] ++ X') := S
            exact .inl ⟨rfl, .int .i64 p126.1, u, (run_move rfl (hF.evB hB rfl rfl)), rfl, S⟩
          · intro a u X' hB hu hp hr hz hl S
            replace S : St w0 u ([] ++ X') := S
            have e77 : sl a 77 = .slice A2 x2.length c2 := hp 3 rfl
            have e78 : sl a 78 = .int .i64 p134 := hp 4 rfl
            exact .inl ⟨rfl, .pointer (some ⟨adB A2, adO A2 + p134.toNat * 1, none⟩), u, (run_indexAddr (b := adB A2) (off := adO A2) rfl Try.underlying30 sz3 ((ev_sl e77).trans (congrArg (fun A => Value.slice A x2.length c2) ((own_rc (show Ow _ _ _ _ _ _ from S.mem (List.mem_append_right _ (hz 13 (List.mem_of_getElem? (i := 0) rfl) _ (List.mem_of_getElem? (i := 0) rfl))))).rd.ad (ix_pos hk145)))) (ev_sl e78) hk145.1 hk145.2 (k' := adO A2 + p134.toNat * 1) rfl), rfl, S⟩
          · intro a u X' hB hu hp hr hz hl S
            replace S : St w0 u ([.row 3 1 (.slice A2 x2.length c2) x2.length (p126.2.1.flatMap eI)] ++ X') := S
            have e84 : sl a 84 = .int .i64 x6 := hp 10 rfl
            have e86 : sl a 86 = .pointer (some ⟨adB A2, adO A2 + p134.toNat * 1, none⟩) := hp 12 rfl
            obtain ⟨w', hrun, S'⟩ := run_storeElN (P := Try.prog) (ρ := a.eval) (y0 := x6) (off := 0) S 3 (.tmp 86) (.tmp 84) (i := 0) sz3 (ev_sl e86) (ev_sl e84) rfl rfl rfl rfl hn127 eI_len (0 : Int) (ix_ltn hk145 hn127) rfl rfl
            exact .inr (.inl ⟨rfl, w', hrun _ rfl, trivial, S'⟩)
          · intro a u X' hB hu hp hr hz hl S
            replace S : St w0 u ([] ++ X') := S
            have e82 : sl a 82 = .slice A3 x3.length c3 := hp 8 rfl
            have e83 : sl a 83 = .int .i64 p134 := hp 9 rfl
            exact .inl ⟨rfl, .pointer (some ⟨adB A3, adO A3 + p134.toNat * 1, none⟩), u, (run_indexAddr (b := adB A3) (off := adO A3) rfl Try.underlying30 sz3 ((ev_sl e82).trans (congrArg (fun A => Value.slice A x3.length c3) ((own_rc (show Ow _ _ _ _ _ _ from S.mem (List.mem_append_right _ (hz 15 (List.mem_of_getElem? (i := 0) rfl) _ (List.mem_of_getElem? (i := 0) rfl))))).rd.ad (ix_pos hk146)))) (ev_sl e83) hk146.1 hk146.2 (k' := adO A3 + p134.toNat * 1) rfl), rfl, S⟩
          intro a u X' hB hu hp hr hz hl S
          replace S : St w0 u ([.row 3 1 (.slice A3 x3.length c3) x3.length (p126.2.2.1.flatMap eI)] ++ X') := S
          have e85 : sl a 85 = .int .i64 p126.1 := hp 11 rfl
          have e87 : sl a 87 = .pointer (some ⟨adB A3, adO A3 + p134.toNat * 1, none⟩) := hp 14 rfl
          obtain ⟨w', hrun, S'⟩ := run_storeElN (P := Try.prog) (ρ := a.eval) (y0 := p126.1) (off := 0) S 3 (.tmp 87) (.tmp 85) (i := 0) sz3 (ev_sl e87) (ev_sl e85) rfl rfl rfl rfl hn128 eI_len (0 : Int) (ix_ltn hk146 hn128) rfl rfl
          exact .inr (.inl ⟨rfl, w', hrun _ rfl, trivial, S'⟩)
        intro a u hB hp S
        obtain ⟨q0, q1, q2, q3, q4, q5, q6, q7, q8, q9, q10, q11, q12, q13, q14, q15, -⟩ := hp
        have e74 : sl a 74 = .pointer (some ⟨g0, 0, none⟩) := q0
        have e75 : sl a 75 = .pointer (some ⟨g0, 0, none⟩) := q1
        have e76 : sl a 76 = .pointer (some ⟨g0, 2, none⟩) := q2
        have e77 : sl a 77 = .slice A2 x2.length c2 := q3
        have e78 : sl a 78 = .int .i64 p134 := q4
        have e79 : sl a 79 = .pointer (some ⟨g0, 0, none⟩) := q5
        have e80 : sl a 80 = .pointer (some ⟨g0, 0, none⟩) := q6
        have e81 : sl a 81 = .pointer (some ⟨g0, 3, none⟩) := q7
        have e82 : sl a 82 = .slice A3 x3.length c3 := q8
        have e83 : sl a 83 = .int .i64 p134 := q9
        have e84 : sl a 84 = .int .i64 x6 := q10
        have e85 : sl a 85 = .int .i64 p126.1 := q11
        have e86 : sl a 86 = .pointer (some ⟨adB A2, adO A2 + p134.toNat * 1, none⟩) := q12
        have e87 : sl a 87 = .pointer (some ⟨adB A3, adO A3 + p134.toNat * 1, none⟩) := q14
        replace S : St w0 u (Asn.row 3 1 (.slice A2 x2.length c2) x2.length ((p126.2.1.set p134.toNat x6).flatMap eI) :: Asn.row 3 1 (.slice A3 x3.length c3) x3.length ((p126.2.2.1.set p134.toNat p126.1).flatMap eI) :: Asn.box g133 107 #[.int .i64 ((x1.getD p126.1.toNat ((0, 0, 0) : Int × Int × Int)).1), .int .i64 ((x1.getD p126.1.toNat ((0, 0, 0) : Int × Int × Int)).2.1), .int .i64 ((x1.getD p126.1.toNat ((0, 0, 0) : Int × Int × Int)).2.2)] :: Asn.box g0 89 #[.int .i64 x0, .slice A1 x1.length c1, .slice A2 x2.length c2, .slice A3 x3.length c3, .slice B129 p126.2.2.2.length d130] :: Y1 :: Asn.row 3 1 (.slice B129 p126.2.2.2.length d130) p126.2.2.2.length (p126.2.2.2.flatMap eI) :: X) := S
        clear q0 q1 q2 q3 q4 q5 q6 q7 q8 q9 q10 q11 q12 q13 q14 q15
        have hF := hF.region hB [(74, .pointer (some ⟨g0, 0, none⟩)), (75, .pointer (some ⟨g0, 0, none⟩)), (76, .pointer (some ⟨g0, 2, none⟩)), (77, .slice A2 x2.length c2), (78, .int .i64 p134), (79, .pointer (some ⟨g0, 0, none⟩)), (80, .pointer (some ⟨g0, 0, none⟩)), (81, .pointer (some ⟨g0, 3, none⟩)), (82, .slice A3 x3.length c3), (83, .int .i64 p134), (84, .int .i64 x6), (85, .int .i64 p126.1), (86, .pointer (some ⟨adB A2, adO A2 + p134.toNat * 1, none⟩)), (87, .pointer (some ⟨adB A3, adO A3 + p134.toNat * 1, none⟩))] (allSl_mem ⟨e74, e75, e76, e77, e78, e79, e80, e81, e82, e83, e84, e85, e86, e87, trivial⟩) rfl
        clear hB e74 e75 e76 e77 e78 e79 e80 e81 e82 e83 e84 e85 e86 e87
        revert a;refine rl (mv rfl rfl (mv rfl rfl (ov (v := .pointer (some ⟨g0, 0, none⟩)) rfl rfl rfl (fun a hF=>run_nilCheck rfl (hF.ev rfl)) (ov (v := .pointer (some ⟨g0, 4, none⟩)) rfl rfl rfl (fun a hF=>run_fieldAddr rfl fl89_3 (hF.ev rfl) rfl) (ov (v := .slice B129 p126.2.2.2.length d130) rfl rfl rfl (fun a hF=>run_load1 rfl one30 (hF.ev rfl) ((S.free 3 rfl).cell rfl)) (mv rfl rfl fun a hF=>?_))))))
        refine op_newrowL (ls := (([p134] : List Int) : List Int)) (e := eI) rfl rfl hF rfl S (run_buildS (vs := [(0, .int .i64 p134)]) rfl ⟨⟨rfl, (hF.ev rfl)⟩, trivial⟩ (bs30_1_0 rfl)) rfl eI_len (Nat.le_of_ble_eq_true rfl) ?_; clear hF S; intro a g147 u hF S
        obtain ⟨hk150, hM143⟩ := chk_ex hM143
        replace hk150 := apB_t hk150
        refine op_appendL (lx := p126.2.2.2) (ly := ([p134] : List Int)) rfl rfl hF rfl S rfl (hF.ev rfl) (hF.ev rfl) (i := 6) rfl rfl Try.underlying30 inf3 rfl (by decide) (S.rc 0 rfl).rd rfl eI_one hk150 (by decide) ?_; clear hF S; intro a B148 d149 u hF S
        revert a;refine ov (v := .pointer (some ⟨g0, 0, none⟩)) rfl rfl rfl (fun a hF=>run_nilCheck rfl (hF.ev rfl)) (ov (v := .pointer (some ⟨g0, 4, none⟩)) rfl rfl rfl (fun a hF=>run_fieldAddr rfl fl89_3 (hF.ev rfl) rfl) fun a hF=>?_)
        refine op_do rfl rfl (run_store (cs' := #[.int .i64 x0, .slice A1 x1.length c1, .slice A2 x2.length c2, .slice A3 x3.length c3, .slice B148 ((p126.2.2.2 ++ ([p134] : List Int)).length) d149]) rfl sz30 (hF.ev rfl) (hF.ev rfl) rfl rfl rfl (S.free 4 rfl) rfl rfl) ?_; replace S := S.put 4 rfl (#[.int .i64 x0, .slice A1 x1.length c1, .slice A2 x2.length c2, .slice A3 x3.length c3, .slice B148 ((p126.2.2.2 ++ ([p134] : List Int)).length) d149])
        generalize World.setRow _ _ _ = u at S ⊢
        refine wn ?_
        obtain rfl := Option.some.inj hM143
        exact ⟨(p126.2.1.set p134.toNat x6, p126.2.2.1.set p134.toNat p126.1, p126.2.2.2 ++ ([p134] : List Int)), B148, d149, rfl, (len_set hn127), (len_set hn128), hF.keep _ ⟨rfl, rfl, rfl, rfl, rfl, rfl, rfl, rfl, trivial⟩, S.selT (M := [.box g0 89 #[.int .i64 x0, .slice A1 x1.length c1, .slice A2 x2.length c2, .slice A3 x3.length c3, .slice B148 ((p126.2.2.2 ++ ([p134] : List Int)).length) d149], Y1, .row 3 1 (.slice A2 x2.length c2) x2.length ((p126.2.1.set p134.toNat x6).flatMap eI), .row 3 1 (.slice A3 x3.length c3) x3.length ((p126.2.2.1.set p134.toNat p126.1).flatMap eI), .row 3 1 (.slice B148 ((p126.2.2.2 ++ ([p134] : List Int)).length) d149) ((p126.2.2.2 ++ ([p134] : List Int)).length) ((p126.2.2.2 ++ ([p134] : List Int)).flatMap eI)]) 7 [4, 5, 1, 2, 6] rfl rfl rfl⟩
      rintro a u ⟨p137, B141, d142, rfl, hn139, hn140, hF, S⟩
      revert a;refine rl (ov (v := .int .i64 (w64 (p126.1 + 1))) rfl rfl rfl (fun a hF=>run_add (z := w64 (p126.1 + 1)) (hF.ev rfl) rfl rfl rfl) (mv rfl rfl fun a hF=>wn ?_))
      exact ⟨f2, Nat.lt_succ_self _, (w64 (p126.1 + 1), p137.1, p137.2.1, p137.2.2), B141, d142, hM125, hn139, hn140, hF.keep _ ⟨rfl, rfl, rfl, rfl, rfl, rfl, rfl, rfl, trivial⟩, S.selT (M := [.box g0 89 #[.int .i64 x0, .slice A1 x1.length c1, .slice A2 x2.length c2, .slice A3 x3.length c3, .slice B141 p137.2.2.length d142], Y1, .row 3 1 (.slice A2 x2.length c2) x2.length (p137.1.flatMap eI), .row 3 1 (.slice A3 x3.length c3) x3.length (p137.2.1.flatMap eI), .row 3 1 (.slice B141 p137.2.2.length d142) p137.2.2.length (p137.2.2.flatMap eI)]) 5 [0, 1, 2, 3, 4] rfl rfl rfl⟩
    rintro a u ⟨p119, B123, d124, rfl, hn121, hn122, hF, S⟩
    revert a;refine rl (mv rfl rfl (ov (v := .int .i64 (w64 (p112.1 + 1))) rfl rfl rfl (fun a hF=>run_add (z := w64 (p112.1 + 1)) (hF.ev rfl) rfl rfl rfl) (ag rfl rfl fun a hF=>wn ?_)))
    exact ⟨f1, Nat.lt_succ_self _, (w64 (p112.1 + 1), p119.1, p119.2.1, p119.2.2), B123, d124, hM111, hn121, hn122, hF.keep _ ⟨rfl, rfl, rfl, rfl, trivial⟩, S.selT (M := [.box g0 89 #[.int .i64 x0, .slice A1 x1.length c1, .slice A2 x2.length c2, .slice A3 x3.length c3, .slice B123 p119.2.2.length d124], Y1, .row 3 1 (.slice A2 x2.length c2) x2.length (p119.1.flatMap eI), .row 3 1 (.slice A3 x3.length c3) x3.length (p119.2.1.flatMap eI), .row 3 1 (.slice B123 p119.2.2.length d124) p119.2.2.length (p119.2.2.flatMap eI)]) 5 [0, 1, 2, 3, 4] rfl rfl rfl⟩
  rintro a u ⟨p105, B109, d110, rfl, hn107, hn108, hF, S⟩
  repeat with_reducible first|refine tr ?_|refine ir ?_|refine nr ?_
  refine ret0_gw (.inr rfl) hF rfl  ?_
  obtain rfl := Option.some.inj hM
  exact ⟨A2, x2.length, c2, A3, x3.length, c3, B109, p105.2.2.length, d110, rfl, hn107, hn108, rfl, S.selT (M := [.box g0 89 #[.int .i64 x0, .slice A1 x1.length c1, .slice A2 x2.length c2, .slice A3 x3.length c3, .slice B109 p105.2.2.length d110], .row 3 1 (.slice A2 x2.length c2) x2.length (p105.1.flatMap eI), .row 3 1 (.slice A3 x3.length c3) x3.length (p105.2.1.flatMap eI), .row 3 1 (.slice B109 p105.2.2.length d110) p105.2.2.length (p105.2.2.flatMap eI), Y1]) 5 [0, 2, 3, 4, 1] rfl rfl rfl⟩
theorem c_impl_treeOf {x0 : Int} {x1 : List (Int × Int × Int)} {x2 : List Bool} {x3 : List (Int × Int)} {A1 : Option Addr} {n1 c1 : Nat} {A2 : Option Addr} {n2 c2 : Nat} {A3 : Option Addr} {n3 c3 : Nat} {w : World} {r : Int × Bool × List Int × List Int × List Int × Bool} (h1 : Rt w 3 eLine A1 n1 c1 x1) (h2 : Rt w 1 eB A2 n2 c2 x2) (h3 : Rt w 2 eBus A3 n3 c3 x3) (hM : m_impl_treeOf x0 x1 x2 x3 = some r) :
    Calls Try.prog 57 #[.agg #[.int .i64 x0, .slice A1 n1 c1], .slice A2 n2 c2, .slice A3 n3 c3] w (fun e w' => ∃ (B0 : Option Addr) (N0 D0 : Nat) (B1 : Option Addr) (N1 D1 : Nat) (B2 : Option Addr) (N2 D2 : Nat), e = .returned (.tuple #[.agg #[.int .i64 r.1, .slice (ifA r.2.1 A1) (ifN r.2.1 n1) (ifN r.2.1 c1), .slice B0 N0 D0, .slice B1 N1 D1, .slice B2 N2 D2], .bool r.2.2.2.2.2]) ∧ N0 = r.2.2.1.length ∧ N1 = r.2.2.2.1.length ∧ N2 = r.2.2.2.2.1.length ∧ St w w' [.row 3 1 (.slice B0 N0 D0) N0 (r.2.2.1.flatMap eI), .row 3 1 (.slice B1 N1 D1) N1 (r.2.2.2.1.flatMap eI), .row 3 1 (.slice B2 N2 D2) N2 (r.2.2.2.2.1.flatMap eI)]) := by
  obtain rfl := h1.len
  obtain rfl := h2.len
  obtain rfl := h3.len
  unfold m_impl_treeOf at hM
  refine calls_gw Try.func57 Try.ntmps57 rfl [(0, .agg #[.int .i64 x0, .slice A1 x1.length c1]), (1, .slice A2 x2.length c2), (2, .slice A3 x3.length c3)] ⟨rfl, rfl, rfl, trivial⟩ rfl ?_
  intro a hF
  have S := St.nil w
  refine wsg ?_
  refine op_new (cs := #[.int .i64 x0, .slice A1 x1.length c1]) rfl rfl hF rfl S (run_box rfl (hF.ev rfl) rfl) ?_; clear hF S; intro a g101 u hF S
  refine op_new (cs := #[.int .i64 0, .slice none 0 0, .slice none 0 0, .slice none 0 0, .slice none 0 0]) rfl rfl hF rfl S (run_allocZ rfl zr89) ?_; clear hF S; intro a g102 u hF S
  refine op_val (v := .bool false) rfl rfl hF rfl (run_assign rfl rfl) ?_;clear hF;intro a hF
  refine wn ?_
  refine ws ?_
  revert a;refine sr (ov rfl rfl rfl (fun a hF=>run_loadN rfl ag37 (hF.ev rfl) rfl ((S.free 1 rfl).cells 0 #[.int .i64 x0, .slice A1 x1.length c1] rfl)) (mv rfl rfl (mv rfl rfl fun a hF=>?_)))
  obtain ⟨p103, h103, hM⟩ := bind_ex hM
  refine op_call rfl rfl hF rfl (run_call (vs := [.agg #[.int .i64 x0, .slice A1 x1.length c1], .slice A2 x2.length c2, .slice A3 x3.length c3]) rfl rfl co63 ⟨(hF.ev rfl), (hF.ev rfl), (hF.ev rfl), trivial⟩) (c_impl_fedValid (x0 := x0) (x1 := x1) (x2 := x2) (x3 := x3) ⟨(S.rc0 h1.rc), rfl⟩ ⟨(S.rc0 h2.rc), rfl⟩ ⟨(S.rc0 h3.rc), rfl⟩ h103) ?_
  rintro e u ⟨rfl, T⟩
  refine ⟨_, rfl, ?_⟩
  clear hF; intro a hF
  replace S := S.call0 T; clear T
  revert a;refine ov (v := .bool (!p103)) rfl rfl rfl (fun a hF=>run_not rfl (hF.ev rfl)) (mv rfl rfl fun a hF=>?_)
  refine op_gv (v := .agg #[.int .i64 x0, .slice A1 x1.length c1]) rfl rfl hF rfl (yf (gw_yield hF rfl rfl rfl)) (fun hg => (run_loadN rfl ag37 (hF.ev rfl) rfl ((S.free 1 rfl).cells 0 #[.int .i64 x0, .slice A1 x1.length c1] rfl))) ?_;clear hF;intro a hF
  refine op_gv (v := .slice A2 x2.length c2) rfl rfl hF rfl (yf (gw_yield hF rfl rfl rfl)) (fun hg => (run_move rfl (hF.ev rfl))) ?_;clear hF;intro a hF
  obtain ⟨p104, h104, hM⟩ := bind_ex hM
  refine op_gcall (v := .bool p104) rfl rfl hF rfl S (yf (gw_yield hF rfl rfl rfl)) (fun hg => (run_call (vs := [.agg #[.int .i64 x0, .slice A1 x1.length c1], .slice A2 x2.length c2]) rfl rfl co78 ⟨((hF.ev rfl).trans (gv_t hg)), ((hF.ev rfl).trans (gv_t hg)), trivial⟩)) (fun hg => c_impl_hasCycle (x0 := x0) (x1 := x1) (x2 := x2) ⟨(S.rc0 h1.rc), rfl⟩ ⟨(S.rc0 h2.rc), rfl⟩ (gb_t h104 hg)) ?_; clear hF S; intro a u hF S
  refine op_val (v := .bool ((!p103) || p104)) rfl rfl hF rfl (run_pick_or rfl (hF.ev rfl) rfl (fun hp => ((hF.ev rfl).trans (gv_t (not_t hp))))) ?_;clear hF;intro a hF
  refine wn ?_
  cases hc105 : ((!p103) || p104)
  · replace hM := bif_f hc105 hM
    refine cond_f hF rfl hc105 ?_
    refine wp_skip ?_
    refine ws ?_
    obtain ⟨hk106, hM⟩ := chk_ex hM
    replace hk106 := mkB_t hk106
    obtain ⟨hk107, hM⟩ := chk_ex hM
    replace hk107 := mkB_t hk107
    refine region_gw (D := [23, 24, 25, 26, 27, 28, 29, 30, 8]) (Lr := [.box g102 89 #[.int .i64 0, .slice none 0 0, .slice none 0 0, .slice none 0 0, .slice none 0 0], .box g101 37 #[.int .i64 x0, .slice A1 x1.length c1]]) (deps := (fun | 0 => [23] | 1 => [24] | 2 => [25] | 3 => [26] | 4 => [27] | 5 => [28] | 6 => [29] | 7 => [30, 26, 29] | 8 => [8] | 9 => [8, 26, 29] | _ => [])) (rd := (fun _ => [])) (zr := (fun _ => []))
      (φ := fun i vs => match i, vs with | 0, [v23] => v23 = .agg #[.int .i64 x0, .slice A1 x1.length c1] | 1, [v24] => v24 = .pointer (some ⟨g101, 0, none⟩) | 2, [v25] => v25 = .int .i64 x0 | 3, [v26] => v26 = .slice (slA v26) x0.toNat x0.toNat | 4, [v27] => v27 = .pointer (some ⟨g101, 0, none⟩) | 5, [v28] => v28 = .int .i64 x0 | 6, [v29] => v29 = .slice (slA v29) x0.toNat x0.toNat | 7, [v30, v26, v29] => v30 = .agg #[.int .i64 x0, .slice A1 x1.length c1, .slice (slA v26) x0.toNat x0.toNat, .slice (slA v29) x0.toNat x0.toNat, .slice none 0 0] | 8, [v8] => v8 = .pointer (some ⟨ptB v8, 0, none⟩) | _, _ => True)
      (C := fun i vs => match i, vs with | 3, [v26] => [.row 3 1 (.slice (slA v26) x0.toNat x0.toNat) x0.toNat ((List.replicate x0.toNat (0 : Int)).flatMap eI)] | 6, [v29] => [.row 3 1 (.slice (slA v29) x0.toNat x0.toNat) x0.toNat ((List.replicate x0.toNat (0 : Int)).flatMap eI)] | 8, [v8] => [.box (ptB v8) 89 #[.int .i64 0, .slice none 0 0, .slice none 0 0, .slice none 0 0, .slice none 0 0]] | 9, [v8, v26, v29] => [.box (ptB v8) 89 #[.int .i64 x0, .slice A1 x1.length c1, .slice (slA v26) x0.toNat x0.toNat, .slice (slA v29) x0.toNat x0.toNat, .slice none 0 0]] | _, _ => [])
      (κ := (fun | 8 => some 9 | _ => none)) (Z := (fun _ => [])) mixed hF (by kernel_rfl) S ?_ ?_
    · refine ⟨?_, ?_, ?_, ?_, ?_, ?_, ?_, ?_, ?_, ?_, trivial⟩
      · intro a u X hB hu hp hr hz hl S
        replace S : St w u ([] ++ X) := S
        exact .inl ⟨rfl, .agg #[.int .i64 x0, .slice A1 x1.length c1], u, (run_loadN rfl ag37 (hF.evB hB rfl rfl) rfl ((gr_box S hl 1 rfl).cells 0 #[.int .i64 x0, .slice A1 x1.length c1] rfl)), rfl, S⟩
      · intro a u X hB hu hp hr hz hl S
        replace S : St w u ([] ++ X) := S
        exact .inl ⟨rfl, .pointer (some ⟨g101, 0, none⟩), u, (run_fieldAddr rfl fl37_0 (hF.evB hB rfl rfl) rfl), rfl, S⟩
      · intro a u X hB hu hp hr hz hl S
        replace S : St w u ([] ++ X) := S
        have e24 : sl a 24 = .pointer (some ⟨g101, 0, none⟩) := hp 1 rfl
        exact .inl ⟨rfl, .int .i64 x0, u, (run_load1 rfl one3 (ev_sl e24) ((gr_box S hl 1 rfl).cell rfl)), rfl, S⟩
      · intro a u X hB hu hp hr hz hl S
        replace S : St w u ([] ++ X) := S
        have e25 : sl a 25 = .int .i64 x0 := hp 2 rfl
        exact .inl ⟨rfl, _, _, run_makeL (e := eI) rfl (ev_sl e25) (ev_sl e25) Try.underlying30 inf3 eI_len rfl (by decide) hk106, rfl, S.newrowL (e := eI) List.length_replicate eI_len (by rw [List.length_replicate]; omega)⟩
      · intro a u X hB hu hp hr hz hl S
        replace S : St w u ([] ++ X) := S
        exact .inl ⟨rfl, .pointer (some ⟨g101, 0, none⟩), u, (run_fieldAddr rfl fl37_0 (hF.evB hB rfl rfl) rfl), rfl, S⟩
      · intro a u X hB hu hp hr hz hl S
        replace S : St w u ([] ++ X) := S
        have e27 : sl a 27 = .pointer (some ⟨g101, 0, none⟩) := hp 4 rfl
        exact .inl ⟨rfl, .int .i64 x0, u, (run_load1 rfl one3 (ev_sl e27) ((gr_box S hl 1 rfl).cell rfl)), rfl, S⟩
      · intro a u X hB hu hp hr hz hl S
        replace S : St w u ([] ++ X) := S
        have e28 : sl a 28 = .int .i64 x0 := hp 5 rfl
        exact .inl ⟨rfl, _, _, run_makeL (e := eI) rfl (ev_sl e28) (ev_sl e28) Try.underlying30 inf3 eI_len rfl (by decide) hk107, rfl, S.newrowL (e := eI) List.length_replicate eI_len (by rw [List.length_replicate]; omega)⟩
      · intro a u X hB hu hp hr hz hl S
        replace S : St w u ([] ++ X) := S
        have e23 : sl a 23 = .agg #[.int .i64 x0, .slice A1 x1.length c1] := hp 0 rfl
        have e26 : sl a 26 = .slice (slA (sl a 26)) x0.toNat x0.toNat := hp 3 rfl
        have e29 : sl a 29 = .slice (slA (sl a 29)) x0.toNat x0.toNat := hp 6 rfl
        exact .inl ⟨rfl, .agg #[.int .i64 x0, .slice A1 x1.length c1, .slice (slA (sl a 26)) x0.toNat x0.toNat, .slice (slA (sl a 29)) x0.toNat x0.toNat, .slice none 0 0], u, (run_build (vs := [(0, .agg #[.int .i64 x0, .slice A1 x1.length c1]), (1, .slice (slA (sl a 26)) x0.toNat x0.toNat), (2, .slice (slA (sl a 29)) x0.toNat x0.toNat)]) rfl ⟨⟨rfl, (ev_sl e23)⟩, ⟨rfl, (ev_sl e26)⟩, ⟨rfl, (ev_sl e29)⟩, trivial⟩ (bd89_0x2_1_2 rfl rfl)), rfl, S⟩
      · intro a u X hB hu hp hr hz hl S
        replace S : St w u ([] ++ X) := S
        exact .inl ⟨rfl, _, _, (run_allocZ rfl zr89), rfl, S.alloc _ _⟩
      intro a u X hB hu hp hr hz hl S
      replace S : St w u ([.box (ptB (sl a 8)) 89 #[.int .i64 0, .slice none 0 0, .slice none 0 0, .slice none 0 0, .slice none 0 0]] ++ X) := S
      have e8 : sl a 8 = .pointer (some ⟨ptB (sl a 8), 0, none⟩) := hp 8 rfl
      have e30 : sl a 30 = .agg #[.int .i64 x0, .slice A1 x1.length c1, .slice (slA (sl a 26)) x0.toNat x0.toNat, .slice (slA (sl a 29)) x0.toNat x0.toNat, .slice none 0 0] := hp 7 rfl
      exact .inr (.inl ⟨rfl, _, run_store (cs' := #[.int .i64 x0, .slice A1 x1.length c1, .slice (slA (sl a 26)) x0.toNat x0.toNat, .slice (slA (sl a 29)) x0.toNat x0.toNat, .slice none 0 0]) rfl sz89 (ev_sl e8) (ev_sl e30) rfl rfl rfl (S.free 0 rfl) rfl rfl, trivial, S.put 0 rfl (#[.int .i64 x0, .slice A1 x1.length c1, .slice (slA (sl a 26)) x0.toNat x0.toNat, .slice (slA (sl a 29)) x0.toNat x0.toNat, .slice none 0 0])⟩)
    intro a u hB hp S
    obtain ⟨q0, q1, q2, q3, q4, q5, q6, q7, q8, q9, -⟩ := hp
    have e23 : sl a 23 = .agg #[.int .i64 x0, .slice A1 x1.length c1] := q0
    have e24 : sl a 24 = .pointer (some ⟨g101, 0, none⟩) := q1
    have e25 : sl a 25 = .int .i64 x0 := q2
    have e26 : sl a 26 = .slice (slA (sl a 26)) x0.toNat x0.toNat := q3
    have e27 : sl a 27 = .pointer (some ⟨g101, 0, none⟩) := q4
    have e28 : sl a 28 = .int .i64 x0 := q5
    have e29 : sl a 29 = .slice (slA (sl a 29)) x0.toNat x0.toNat := q6
    have e30 : sl a 30 = .agg #[.int .i64 x0, .slice A1 x1.length c1, .slice (slA (sl a 26)) x0.toNat x0.toNat, .slice (slA (sl a 29)) x0.toNat x0.toNat, .slice none 0 0] := q7
    have e8 : sl a 8 = .pointer (some ⟨ptB (sl a 8), 0, none⟩) := q8
    replace S : St w u [.row 3 1 (.slice (slA (sl a 26)) x0.toNat x0.toNat) x0.toNat ((List.replicate x0.toNat (0 : Int)).flatMap eI), .row 3 1 (.slice (slA (sl a 29)) x0.toNat x0.toNat) x0.toNat ((List.replicate x0.toNat (0 : Int)).flatMap eI), .box (ptB (sl a 8)) 89 #[.int .i64 x0, .slice A1 x1.length c1, .slice (slA (sl a 26)) x0.toNat x0.toNat, .slice (slA (sl a 29)) x0.toNat x0.toNat, .slice none 0 0], .box g102 89 #[.int .i64 0, .slice none 0 0, .slice none 0 0, .slice none 0 0, .slice none 0 0], .box g101 37 #[.int .i64 x0, .slice A1 x1.length c1]] := S
    clear q0 q1 q2 q3 q4 q5 q6 q7 q8 q9
    generalize slA (sl a 26) = B108 at *
    generalize slA (sl a 29) = B109 at *
    generalize ptB (sl a 8) = g110 at *
    have hF := hF.region hB [(23, .agg #[.int .i64 x0, .slice A1 x1.length c1]), (24, .pointer (some ⟨g101, 0, none⟩)), (25, .int .i64 x0), (26, .slice B108 x0.toNat x0.toNat), (27, .pointer (some ⟨g101, 0, none⟩)), (28, .int .i64 x0), (29, .slice B109 x0.toNat x0.toNat), (30, .agg #[.int .i64 x0, .slice A1 x1.length c1, .slice B108 x0.toNat x0.toNat, .slice B109 x0.toNat x0.toNat, .slice none 0 0]), (8, .pointer (some ⟨g110, 0, none⟩))] (allSl_mem ⟨e23, e24, e25, e26, e27, e28, e29, e30, e8, trivial⟩) rfl
    clear hB e23 e24 e25 e26 e27 e28 e29 e30 e8
    refine ws ?_
    revert a;refine sr (ov (v := .pointer (some ⟨g101, 0, none⟩)) rfl rfl rfl (fun a hF=>run_fieldAddr rfl fl37_0 (hF.ev rfl) rfl) (ov (v := .int .i64 x0) rfl rfl rfl (fun a hF=>run_load1 rfl one3 (hF.ev rfl) ((S.free 4 rfl).cell rfl)) (ov (v := .int .i64 0) rfl rfl rfl (fun a hF=>run_move rfl rfl) fun a hF=>wn ?_)))
    obtain ⟨o112, hM115, hM⟩ := bind_ex hM
    refine wp_cut (fun a u => ∃ (p111 : List Int × List Int), p111 = o112 ∧ x0.toNat = p111.1.length ∧ x0.toNat = p111.2.length ∧ Fr a 72 [(1, .slice A2 x2.length c2), (2, .slice A3 x3.length c3), (6, .pointer (some ⟨g102, 0, none⟩)), (7, .bool false), (8, .pointer (some ⟨g110, 0, none⟩))] ∧ St w u [.box g110 89 #[.int .i64 x0, .slice A1 x1.length c1, .slice B108 x0.toNat x0.toNat, .slice B109 x0.toNat x0.toNat, .slice none 0 0], .box g102 89 #[.int .i64 0, .slice none 0 0, .slice none 0 0, .slice none 0 0, .slice none 0 0], .row 3 1 (.slice B108 x0.toNat x0.toNat) x0.toNat (p111.1.flatMap eI), .row 3 1 (.slice B109 x0.toNat x0.toNat) x0.toNat (p111.2.flatMap eI)]) ?_ ?_
    · have _ := trivial
      refine wp_block ?_
      refine loop_gw (fun m a u => ∃ (p116 : Int × List Int × List Int), m_impl_treeOf_l1 x0 m p116 = some _ ∧ x0.toNat = p116.2.1.length ∧ x0.toNat = p116.2.2.length ∧ Fr a 72 [(1, .slice A2 x2.length c2), (2, .slice A3 x3.length c3), (6, .pointer (some ⟨g102, 0, none⟩)), (7, .bool false), (8, .pointer (some ⟨g110, 0, none⟩)), (32, .int .i64 x0), (33, .int .i64 p116.1)] ∧ St w u [.box g110 89 #[.int .i64 x0, .slice A1 x1.length c1, .slice B108 x0.toNat x0.toNat, .slice B109 x0.toNat x0.toNat, .slice none 0 0], .box g102 89 #[.int .i64 0, .slice none 0 0, .slice none 0 0, .slice none 0 0, .slice none 0 0], .row 3 1 (.slice B108 x0.toNat x0.toNat) x0.toNat (p116.2.1.flatMap eI), .row 3 1 (.slice B109 x0.toNat x0.toNat) x0.toNat (p116.2.2.flatMap eI)]) FUEL ⟨(0, List.replicate x0.toNat (0 : Int), List.replicate x0.toNat (0 : Int)), hM115, List.length_replicate.symm, List.length_replicate.symm, hF.keep _ ⟨rfl, rfl, rfl, rfl, rfl, rfl, rfl, trivial⟩, S.sel [2, 3, 0, 1] rfl rfl⟩ ?_
      clear hF S hM115; rintro m a u ⟨p116, hM115, hn117, hn118, hF, S⟩
      rcases m with _ | f1
      · exact none_some hM115
      rw [m_impl_treeOf_l1.eq_2] at hM115
      revert a;refine sr (ov (v := .bool (ltB p116.1 x0)) rfl rfl rfl (fun a hF=>run_lss (hF.ev rfl) (hF.ev rfl) rfl) fun a hF=>wn ?_)
      refine ws ?_
      cases hc119 : (ltB p116.1 x0)
      · replace hM115 := bif_f hc119 hM115
        refine cond_f hF rfl hc119 ?_
        refine wp_exit ?_
        repeat with_reducible (first | refine then_exit ?_ | refine in_hit ?_ | refine in_miss rfl ?_)
        obtain rfl := Option.some.inj hM115
        exact ⟨(p116.2.1, p116.2.2), rfl, hn117, hn118, hF.keep _ ⟨rfl, rfl, rfl, rfl, rfl, trivial⟩, S.sel [0, 1, 2, 3] rfl rfl⟩
      replace hM115 := bif_t hc119 hM115
      refine cond_t hF rfl hc119 ?_
      refine wp_skip ?_
      refine ws ?_
      refine wp_block ?_
      revert a;refine sr (mv rfl rfl (ag rfl rfl fun a hF=>wn ?_))
      revert a;refine rl (ov (v := .pointer (some ⟨g110, 2, none⟩)) rfl rfl rfl (fun a hF=>run_fieldAddr rfl fl89_1 (hF.ev rfl) rfl) (ov (v := .slice B108 x0.toNat x0.toNat) rfl rfl rfl (fun a hF=>run_load1 rfl one30 (hF.ev rfl) ((S.free 0 rfl).cell rfl)) (mv rfl rfl (ov (v := .pointer (some ⟨g110, 3, none⟩)) rfl rfl rfl (fun a hF=>run_fieldAddr rfl fl89_2 (hF.ev rfl) rfl) (ov (v := .slice B109 x0.toNat x0.toNat) rfl rfl rfl (fun a hF=>run_load1 rfl one30 (hF.ev rfl) ((S.free 0 rfl).cell rfl)) (mv rfl rfl fun a hF=>?_))))))
      obtain ⟨hk120, hM115⟩ := chk_ex hM115
      replace hk120 := ixB_t hk120
      refine op_val (v := .pointer (some ⟨adB B108, adO B108 + p116.1.toNat * 1, none⟩)) rfl rfl hF rfl (run_indexAddr (b := adB B108) (off := adO B108) rfl Try.underlying30 sz3 ((hF.ev rfl).trans (congrArg (fun A => Value.slice A x0.toNat x0.toNat) ((S.rc 2 rfl).rd.ad (ix_pos hk120)))) (hF.ev rfl) hk120.1 hk120.2 (k' := adO B108 + p116.1.toNat * 1) rfl) ?_;clear hF;intro a hF
      obtain ⟨w', hrun, S'⟩ := run_storeElN (P := Try.prog) (ρ := a.eval) (y0 := -1) (off := 0) S 3 (.tmp 42) (.const (.int .i64 (-1))) (i := 2) sz3 (hF.ev rfl) rfl rfl rfl rfl rfl hn117 eI_len (0 : Int) (ix_ltn hk120 hn117) rfl rfl
      refine op_do rfl rfl (hrun _ rfl) ?_; clear hrun S; have S := S'; clear S'; generalize w' = u at S ⊢
      obtain ⟨hk121, hM115⟩ := chk_ex hM115
      replace hk121 := ixB_t hk121
      refine op_val (v := .pointer (some ⟨adB B109, adO B109 + p116.1.toNat * 1, none⟩)) rfl rfl hF rfl (run_indexAddr (b := adB B109) (off := adO B109) rfl Try.underlying30 sz3 ((hF.ev rfl).trans (congrArg (fun A => Value.slice A x0.toNat x0.toNat) ((S.rc 3 rfl).rd.ad (ix_pos hk121)))) (hF.ev rfl) hk121.1 hk121.2 (k' := adO B109 + p116.1.toNat * 1) rfl) ?_;clear hF;intro a hF
      obtain ⟨w', hrun, S'⟩ := run_storeElN (P := Try.prog) (ρ := a.eval) (y0 := -1) (off := 0) S 3 (.tmp 43) (.const (.int .i64 (-1))) (i := 3) sz3 (hF.ev rfl) rfl rfl rfl rfl rfl hn118 eI_len (0 : Int) (ix_ltn hk121 hn118) rfl rfl
      refine op_do rfl rfl (hrun _ rfl) ?_; clear hrun S; have S := S'; clear S'; generalize w' = u at S ⊢
      refine wn ?_
      revert a;refine rl (ov (v := .int .i64 (w64 (p116.1 + 1))) rfl rfl rfl (fun a hF=>run_add (z := w64 (p116.1 + 1)) (hF.ev rfl) rfl rfl rfl) (mv rfl rfl fun a hF=>wn ?_))
      exact ⟨f1, Nat.lt_succ_self _, (w64 (p116.1 + 1), p116.2.1.set p116.1.toNat (-1), p116.2.2.set p116.1.toNat (-1)), hM115, (len_set hn117), (len_set hn118), hF.keep _ ⟨rfl, rfl, rfl, rfl, rfl, rfl, rfl, trivial⟩, S.sel [0, 1, 2, 3] rfl rfl⟩
    rintro a u ⟨p111, rfl, hn113, hn114, hF, S⟩
    refine ws ?_
    revert a;refine sr (mv rfl rfl (ov rfl rfl rfl (fun a hF=>run_lenL rfl rfl Try.underlying38 (hF.ev rfl)) (ov (v := .int .i64 0) rfl rfl rfl (fun a hF=>run_move rfl rfl) fun a hF=>wn ?_)))
    obtain ⟨o123, hM130, hM⟩ := bind_ex hM
    refine wp_cut (fun a u => ∃ (p122 : Int × List Int × List Int × List Int) (B124 : Option Addr) (d125 : Nat) (B126 : Option Addr) (d127 : Nat) (B128 : Option Addr) (d129 : Nat), (Sum.inl p122) = o123 ∧ Fr a 72 [(6, .pointer (some ⟨g102, 0, none⟩)), (7, .bool false), (8, .pointer (some ⟨g110, 0, none⟩))] ∧ St w u [.box g110 89 #[.int .i64 p122.1, .slice A1 x1.length c1, .slice B124 p122.2.1.length d125, .slice B126 p122.2.2.1.length d127, .slice B128 p122.2.2.2.length d129], .box g102 89 #[.int .i64 0, .slice none 0 0, .slice none 0 0, .slice none 0 0, .slice none 0 0], .row 3 1 (.slice B124 p122.2.1.length d125) p122.2.1.length (p122.2.1.flatMap eI), .row 3 1 (.slice B126 p122.2.2.1.length d127) p122.2.2.1.length (p122.2.2.1.flatMap eI), .row 3 1 (.slice B128 p122.2.2.2.length d129) p122.2.2.2.length (p122.2.2.2.flatMap eI)]) ?_ ?_
    · have _ := trivial
      refine wp_block ?_
      try rw [show x0.toNat = p111.1.length from hn113] at hF
      try rw [show x0.toNat = p111.2.length from hn114] at hF
      replace S := S.nilrow 3 1
      have er0 : x0.toNat = p111.1.length := hn113
      have er1 : x0.toNat = p111.2.length := hn114
      replace S := S.cast (L' := [.row 3 1 (.slice none 0 0) 0 (([] : List Int).flatMap eI), .box g110 89 #[.int .i64 x0, .slice A1 x1.length c1, .slice B108 p111.1.length p111.1.length, .slice B109 p111.2.length p111.2.length, .slice none 0 0], .box g102 89 #[.int .i64 0, .slice none 0 0, .slice none 0 0, .slice none 0 0, .slice none 0 0], .row 3 1 (.slice B108 p111.1.length p111.1.length) p111.1.length (p111.1.flatMap eI), .row 3 1 (.slice B109 p111.2.length p111.2.length) p111.2.length (p111.2.flatMap eI)]) (by simp only [← er0, ← er1] <;> rfl)
      refine loop_gw (fun m a u => ∃ (p131 : Int × Int × List Int × List Int × List Int) (B132 : Option Addr) (d133 : Nat) (B134 : Option Addr) (d135 : Nat) (B136 : Option Addr) (d137 : Nat), m_impl_treeOf_l2 x1 x2 x3 m p131 = some _ ∧ Fr a 72 [(1, .slice A2 x2.length c2), (6, .pointer (some ⟨g102, 0, none⟩)), (7, .bool false), (8, .pointer (some ⟨g110, 0, none⟩)), (45, .slice A3 x3.length c3), (46, .int .i64 (x3.length : Int)), (47, .int .i64 p131.1)] ∧ St w u [.box g110 89 #[.int .i64 p131.2.1, .slice A1 x1.length c1, .slice B132 p131.2.2.1.length d133, .slice B134 p131.2.2.2.1.length d135, .slice B136 p131.2.2.2.2.length d137], .box g102 89 #[.int .i64 0, .slice none 0 0, .slice none 0 0, .slice none 0 0, .slice none 0 0], .row 3 1 (.slice B132 p131.2.2.1.length d133) p131.2.2.1.length (p131.2.2.1.flatMap eI), .row 3 1 (.slice B134 p131.2.2.2.1.length d135) p131.2.2.2.1.length (p131.2.2.2.1.flatMap eI), .row 3 1 (.slice B136 p131.2.2.2.2.length d137) p131.2.2.2.2.length (p131.2.2.2.2.flatMap eI)]) FUEL ⟨(0, x0, p111.1, p111.2, ([] : List Int)), B108, p111.1.length, B109, p111.2.length, none, 0, hM130, hF.keep _ ⟨rfl, rfl, rfl, rfl, rfl, rfl, rfl, trivial⟩, S.sel [1, 2, 3, 4, 0] rfl rfl⟩ ?_
      clear hF S hM130; rintro m a u ⟨p131, B132, d133, B134, d135, B136, d137, hM130, hF, S⟩
      rcases m with _ | f2
      · exact none_some hM130
      rw [m_impl_treeOf_l2.eq_2] at hM130
      revert a;refine sr (ov (v := .bool (ltB p131.1 (x3.length : Int))) rfl rfl rfl (fun a hF=>run_lss (hF.ev rfl) (hF.ev rfl) rfl) fun a hF=>wn ?_)
      refine ws ?_
      cases hc138 : (ltB p131.1 (x3.length : Int))
      · replace hM130 := bif_f hc138 hM130
        refine cond_f hF rfl hc138 ?_
        refine wp_exit ?_
        repeat with_reducible (first | refine then_exit ?_ | refine in_hit ?_ | refine in_miss rfl ?_)
        obtain rfl := Option.some.inj hM130
        exact ⟨(p131.2.1, p131.2.2.1, p131.2.2.2.1, p131.2.2.2.2), B132, d133, B134, d135, B136, d137, rfl, hF.keep _ ⟨rfl, rfl, rfl, trivial⟩, S.sel [0, 1, 2, 3, 4] rfl rfl⟩
      replace hM130 := bif_t hc138 hM130
      refine cond_t hF rfl hc138 ?_
      refine wp_skip ?_
      refine ws ?_
      obtain ⟨o140, hM147, hM130⟩ := bind_ex hM130
      refine wp_cut (fun a u => ∃ (p139 : Int × List Int × List Int × List Int) (B141 : Option Addr) (d142 : Nat) (B143 : Option Addr) (d144 : Nat) (B145 : Option Addr) (d146 : Nat), (Sum.inl p139) = o140 ∧ Fr a 72 [(1, .slice A2 x2.length c2), (6, .pointer (some ⟨g102, 0, none⟩)), (7, .bool false), (8, .pointer (some ⟨g110, 0, none⟩)), (45, .slice A3 x3.length c3), (46, .int .i64 (x3.length : Int)), (47, .int .i64 p131.1)] ∧ St w u [.box g110 89 #[.int .i64 p139.1, .slice A1 x1.length c1, .slice B141 p139.2.1.length d142, .slice B143 p139.2.2.1.length d144, .slice B145 p139.2.2.2.length d146], .box g102 89 #[.int .i64 0, .slice none 0 0, .slice none 0 0, .slice none 0 0, .slice none 0 0], .row 3 1 (.slice B141 p139.2.1.length d142) p139.2.1.length (p139.2.1.flatMap eI), .row 3 1 (.slice B143 p139.2.2.1.length d144) p139.2.2.1.length (p139.2.2.1.flatMap eI), .row 3 1 (.slice B145 p139.2.2.2.length d146) p139.2.2.2.length (p139.2.2.2.flatMap eI)]) ?_ ?_
      · have _ := trivial
        refine wp_block ?_
        revert a;refine sr (mv rfl rfl fun a hF=>?_)
        obtain ⟨hk148, hM147⟩ := chk_ex hM147
        replace hk148 := ixB_t hk148
        revert a;refine ov rfl rfl rfl (fun a hF=>run_indexAddr (b := adB A3) (off := adO A3) rfl Try.underlying38 sz69 ((hF.ev rfl).trans (congrArg (fun A => Value.slice A x3.length c3) ((S.rc0 h3.rc).rd.ad (ix_pos hk148)))) (hF.ev rfl) hk148.1 hk148.2 (k' := adO A3 + p131.1.toNat * 2) rfl) (ov rfl rfl rfl (fun a hF=>run_loadN (cs := #[.int .i64 ((x3.getD p131.1.toNat ((0, 0) : Int × Int)).1), .int .i64 ((x3.getD p131.1.toNat ((0, 0) : Int × Int)).2)]) rfl ag69 (hF.ev rfl) rfl (rd_elN (l := x3) (S.rc0 h3.rc).rd rfl eBus_len ((0, 0) : Int × Int) (ix_ltn hk148 rfl) rfl)) fun a hF=>?_)
        refine op_new (cs := #[.int .i64 0, .int .i64 0]) rfl rfl hF rfl S (run_allocZ rfl zr69) ?_; clear hF S; intro a g149 u hF S
        refine op_val (v := .int .i64 p131.1) rfl rfl hF rfl (run_assign rfl (hF.ev rfl)) ?_;clear hF;intro a hF
        refine op_do rfl rfl (run_store (cs' := #[.int .i64 ((x3.getD p131.1.toNat ((0, 0) : Int × Int)).1), .int .i64 ((x3.getD p131.1.toNat ((0, 0) : Int × Int)).2)]) rfl sz69 (hF.ev rfl) (hF.ev rfl) rfl rfl rfl (S.free 0 rfl) rfl rfl) ?_; replace S := S.put 0 rfl (#[.int .i64 ((x3.getD p131.1.toNat ((0, 0) : Int × Int)).1), .int .i64 ((x3.getD p131.1.toNat ((0, 0) : Int × Int)).2)])
        generalize World.setRow _ _ _ = u at S ⊢
        refine wn ?_
        refine ws ?_
        revert a;refine sr (ov (v := .pointer (some ⟨g149, 0, none⟩)) rfl rfl rfl (fun a hF=>run_fieldAddr rfl fl69_0 (hF.ev rfl) rfl) (ov (v := .int .i64 ((x3.getD p131.1.toNat ((0, 0) : Int × Int)).1)) rfl rfl rfl (fun a hF=>run_load1 rfl one3 (hF.ev rfl) ((S.free 0 rfl).cell rfl)) (ov (v := .bool (((x3.getD p131.1.toNat ((0, 0) : Int × Int)).1) == 0)) rfl rfl rfl (fun a hF=>run_eql (hF.ev rfl) rfl rfl) fun a hF=>wn ?_)))
        cases hc150 : (((x3.getD p131.1.toNat ((0, 0) : Int × Int)).1) == 0)
        · replace hM147 := bif_f hc150 hM147
          refine cond_f hF rfl hc150 ?_
          refine wp_skip ?_
          refine ws ?_
          revert a;refine sr (ov (v := .pointer (some ⟨g110, 2, none⟩)) rfl rfl rfl (fun a hF=>run_fieldAddr rfl fl89_1 (hF.ev rfl) rfl) (ov (v := .slice B132 p131.2.2.1.length d133) rfl rfl rfl (fun a hF=>run_load1 rfl one30 (hF.ev rfl) ((S.free 1 rfl).cell rfl)) (mv rfl rfl fun a hF=>?_)))
          obtain ⟨hk151, hM147⟩ := chk_ex hM147
          replace hk151 := ixB_t hk151
          revert a;refine ov rfl rfl rfl (fun a hF=>run_indexAddr (b := adB B132) (off := adO B132) rfl Try.underlying30 sz3 ((hF.ev rfl).trans (congrArg (fun A => Value.slice A p131.2.2.1.length d133) ((S.rc 3 rfl).rd.ad (ix_pos hk151)))) (hF.ev rfl) hk151.1 hk151.2 (k' := adO B132 + p131.1.toNat * 1) rfl) (ov (v := .int .i64 (p131.2.2.1.getD p131.1.toNat (0 : Int))) rfl rfl rfl (fun a hF=>run_load1 rfl one3 (hF.ev rfl) (rd_el0 (l := p131.2.2.1) (S.rc 3 rfl).rd rfl eI_len (0 : Int) (ix_ltn hk151 rfl) rfl)) (ov (v := .bool (leB 0 (p131.2.2.1.getD p131.1.toNat (0 : Int)))) rfl rfl rfl (fun a hF=>run_geq (hF.ev rfl) rfl rfl) fun a hF=>wn ?_))
          cases hc152 : (leB 0 (p131.2.2.1.getD p131.1.toNat (0 : Int)))
          · replace hM147 := bif_f hc152 hM147
            refine cond_f hF rfl hc152 ?_
            refine wp_skip ?_
            revert a;refine sr (ov (v := .pointer (some ⟨g110, 2, none⟩)) rfl rfl rfl (fun a hF=>run_fieldAddr rfl fl89_1 (hF.ev rfl) rfl) (ov (v := .slice B132 p131.2.2.1.length d133) rfl rfl rfl (fun a hF=>run_load1 rfl one30 (hF.ev rfl) ((S.free 1 rfl).cell rfl)) (mv rfl rfl (mv rfl rfl fun a hF=>?_))))
            obtain ⟨hk153, hM147⟩ := chk_ex hM147
            replace hk153 := ixB_t hk153
            refine op_val (v := .pointer (some ⟨adB B132, adO B132 + p131.1.toNat * 1, none⟩)) rfl rfl hF rfl (run_indexAddr (b := adB B132) (off := adO B132) rfl Try.underlying30 sz3 ((hF.ev rfl).trans (congrArg (fun A => Value.slice A p131.2.2.1.length d133) ((S.rc 3 rfl).rd.ad (ix_pos hk153)))) (hF.ev rfl) hk153.1 hk153.2 (k' := adO B132 + p131.1.toNat * 1) rfl) ?_;clear hF;intro a hF
            obtain ⟨w', hrun, S'⟩ := run_storeElN (P := Try.prog) (ρ := a.eval) (y0 := p131.1) (off := 0) S 3 (.tmp 66) (.tmp 65) (i := 3) sz3 (hF.ev rfl) (hF.ev rfl) rfl rfl rfl rfl rfl eI_len (0 : Int) (ix_ltn hk153 rfl) rfl rfl
            refine op_do rfl rfl (hrun _ rfl) ?_; clear hrun S; have S := S'; clear S'; generalize w' = u at S ⊢
            refine wn ?_
            revert a;refine rl (mv rfl rfl (mv rfl rfl fun a hF=>?_))
            replace S := S.addold h1.rc (by decide)
            obtain ⟨p154, h154, hM147⟩ := bind_ex hM147
            refine op_call rfl rfl hF rfl (run_call (vs := [.pointer (some ⟨g110, 0, none⟩), .slice A2 x2.length c2, .int .i64 p131.1]) rfl rfl co79 ⟨(hF.ev rfl), (hF.ev rfl), (hF.ev rfl), trivial⟩) (c_impl_tree_search (x0 := p131.2.1) (x1 := x1) (Y1 := .old w.heap.size 3 (.slice A1 x1.length c1) x1.length (x1.flatMap eLine)) (x2 := p131.2.2.1.set p131.1.toNat p131.1) (x3 := p131.2.2.2.1) (x4 := p131.2.2.2.2) (x5 := x2) (x6 := p131.1) rfl (fun u h => (old_rc h)) (len_set rfl) rfl rfl ⟨h2.rc, rfl⟩ (show St w _ [.box g110 89 #[.int .i64 p131.2.1, .slice A1 x1.length c1, .slice B132 p131.2.2.1.length d133, .slice B134 p131.2.2.2.1.length d135, .slice B136 p131.2.2.2.2.length d137], .old w.heap.size 3 (.slice A1 x1.length c1) x1.length (x1.flatMap eLine), .row 3 1 (.slice B132 p131.2.2.1.length d133) p131.2.2.1.length ((p131.2.2.1.set p131.1.toNat p131.1).flatMap eI), .row 3 1 (.slice B134 p131.2.2.2.1.length d135) p131.2.2.2.1.length (p131.2.2.2.1.flatMap eI), .row 3 1 (.slice B136 p131.2.2.2.2.length d137) p131.2.2.2.2.length (p131.2.2.2.2.flatMap eI), .box g149 69 #[.int .i64 ((x3.getD p131.1.toNat ((0, 0) : Int × Int)).1), .int .i64 ((x3.getD p131.1.toNat ((0, 0) : Int × Int)).2)], .box g102 89 #[.int .i64 0, .slice none 0 0, .slice none 0 0, .slice none 0 0, .slice none 0 0]] from S.sel [2, 0, 4, 5, 6, 1, 3] rfl rfl) h154) ?_
            rintro e u ⟨B155, n156, d157, B158, n159, d160, B161, n162, d163, rfl, rfl, rfl, rfl, T⟩
            refine ⟨_, rfl, ?_⟩
            clear hF; intro a hF
            clear S; have S := T; clear T
            refine wn ?_
            obtain rfl := Option.some.inj hM147
            exact ⟨(p154.1, p154.2.1, p154.2.2.1, p154.2.2.2), B155, d157, B158, d160, B161, d163, rfl, hF.keep _ ⟨rfl, rfl, rfl, rfl, rfl, rfl, rfl, trivial⟩, S.sel [0, 6, 1, 2, 3] rfl rfl⟩
          replace hM147 := bif_t hc152 hM147
          refine cond_t hF rfl hc152 ?_
          revert a;refine sr (ov (v := .agg #[.int .i64 0, .slice none 0 0, .slice none 0 0, .slice none 0 0, .slice none 0 0]) rfl rfl rfl (fun a hF=>run_build (vs := []) rfl trivial (bd89 )) fun a hF=>?_)
          refine op_do rfl rfl (run_store (cs' := #[.int .i64 0, .slice none 0 0, .slice none 0 0, .slice none 0 0, .slice none 0 0]) rfl sz89 (hF.ev rfl) (hF.ev rfl) rfl rfl rfl (S.free 2 rfl) rfl rfl) ?_; replace S := S.put 2 rfl (#[.int .i64 0, .slice none 0 0, .slice none 0 0, .slice none 0 0, .slice none 0 0])
          generalize World.setRow _ _ _ = u at S ⊢
          refine op_val (v := .bool false) rfl rfl hF rfl (run_assign rfl rfl) ?_;clear hF;intro a hF
          refine wn ?_
          refine wp_ret ?_
          repeat with_reducible first|refine tr ?_|refine ir ?_|refine nr ?_
          refine ret2_gw (.inl rfl) hF rfl (res_cell (hF.ev rfl) (res_loadN ag89 rfl (S.cells 2 rfl 0 #[.int .i64 0, .slice none 0 0, .slice none 0 0, .slice none 0 0, .slice none 0 0] rfl))) (res_tmp (hF.ev rfl)) ?_
          obtain rfl := Option.some.inj hM147
          obtain rfl := Option.some.inj hM130
          obtain rfl := Option.some.inj hM
          replace S := S.nilrow 3 1
          replace S := S.nilrow 3 1
          replace S := S.nilrow 3 1
          exact ⟨none, 0, 0, none, 0, 0, none, 0, 0, rfl, rfl, rfl, rfl, S.sel [2, 1, 0] rfl rfl⟩
        replace hM147 := bif_t hc150 hM147
        refine cond_t hF rfl hc150 ?_
        refine wp_exit ?_
        repeat with_reducible (first | refine then_exit ?_ | refine in_hit ?_ | refine in_miss rfl ?_)
        obtain rfl := Option.some.inj hM147
        exact ⟨(p131.2.1, p131.2.2.1, p131.2.2.2.1, p131.2.2.2.2), B132, d133, B134, d135, B136, d137, rfl, hF.keep _ ⟨rfl, rfl, rfl, rfl, rfl, rfl, rfl, trivial⟩, S.sel [1, 2, 3, 4, 5] rfl rfl⟩
      rintro a u ⟨p139, B141, d142, B143, d144, B145, d146, rfl, hF, S⟩
      replace hM130 := elim_l hM130
      revert a;refine rl (ov (v := .int .i64 (w64 (p131.1 + 1))) rfl rfl rfl (fun a hF=>run_add (z := w64 (p131.1 + 1)) (hF.ev rfl) rfl rfl rfl) (mv rfl rfl fun a hF=>wn ?_))
      exact ⟨f2, Nat.lt_succ_self _, (w64 (p131.1 + 1), p139.1, p139.2.1, p139.2.2.1, p139.2.2.2), B141, d142, B143, d144, B145, d146, hM130, hF.keep _ ⟨rfl, rfl, rfl, rfl, rfl, rfl, rfl, trivial⟩, S.sel [0, 1, 2, 3, 4] rfl rfl⟩
    rintro a u ⟨p122, B124, d125, B126, d127, B128, d129, rfl, hF, S⟩
    replace hM := elim_l hM
    revert a;refine sr (ov rfl rfl rfl (fun a hF=>run_loadN rfl ag89 (hF.ev rfl) rfl ((S.free 0 rfl).cells 0 #[.int .i64 p122.1, .slice A1 x1.length c1, .slice B124 p122.2.1.length d125, .slice B126 p122.2.2.1.length d127, .slice B128 p122.2.2.2.length d129] rfl)) fun a hF=>?_)
    refine op_do rfl rfl (run_store (cs' := #[.int .i64 p122.1, .slice A1 x1.length c1, .slice B124 p122.2.1.length d125, .slice B126 p122.2.2.1.length d127, .slice B128 p122.2.2.2.length d129]) rfl sz89 (hF.ev rfl) (hF.ev rfl) rfl rfl rfl (S.free 1 rfl) rfl rfl) ?_; replace S := S.put 1 rfl (#[.int .i64 p122.1, .slice A1 x1.length c1, .slice B124 p122.2.1.length d125, .slice B126 p122.2.2.1.length d127, .slice B128 p122.2.2.2.length d129])
    generalize World.setRow _ _ _ = u at S ⊢
    refine op_val (v := .bool true) rfl rfl hF rfl (run_assign rfl rfl) ?_;clear hF;intro a hF
    refine wn ?_
    refine wp_ret ?_
    repeat with_reducible first|refine tr ?_|refine ir ?_|refine nr ?_
    refine ret2_gw (.inl rfl) hF rfl (res_cell (hF.ev rfl) (res_loadN ag89 rfl (S.cells 1 rfl 0 #[.int .i64 p122.1, .slice A1 x1.length c1, .slice B124 p122.2.1.length d125, .slice B126 p122.2.2.1.length d127, .slice B128 p122.2.2.2.length d129] rfl))) (res_tmp (hF.ev rfl)) ?_
    obtain rfl := Option.some.inj hM
    exact ⟨B124, p122.2.1.length, d125, B126, p122.2.2.1.length, d127, B128, p122.2.2.2.length, d129, rfl, rfl, rfl, rfl, S.sel [2, 3, 4] rfl rfl⟩
  replace hM := bif_t hc105 hM
  refine cond_t hF rfl hc105 ?_
  revert a;refine sr (ov (v := .agg #[.int .i64 0, .slice none 0 0, .slice none 0 0, .slice none 0 0, .slice none 0 0]) rfl rfl rfl (fun a hF=>run_build (vs := []) rfl trivial (bd89 )) fun a hF=>?_)
  refine op_do rfl rfl (run_store (cs' := #[.int .i64 0, .slice none 0 0, .slice none 0 0, .slice none 0 0, .slice none 0 0]) rfl sz89 (hF.ev rfl) (hF.ev rfl) rfl rfl rfl (S.free 0 rfl) rfl rfl) ?_; replace S := S.put 0 rfl (#[.int .i64 0, .slice none 0 0, .slice none 0 0, .slice none 0 0, .slice none 0 0])
  generalize World.setRow _ _ _ = u at S ⊢
  refine op_val (v := .bool false) rfl rfl hF rfl (run_assign rfl rfl) ?_;clear hF;intro a hF
  refine wn ?_
  refine wp_ret ?_
  repeat with_reducible first|refine tr ?_|refine ir ?_|refine nr ?_
  refine ret2_gw (.inl rfl) hF rfl (res_cell (hF.ev rfl) (res_loadN ag89 rfl (S.cells 0 rfl 0 #[.int .i64 0, .slice none 0 0, .slice none 0 0, .slice none 0 0, .slice none 0 0] rfl))) (res_tmp (hF.ev rfl)) ?_
  obtain rfl := Option.some.inj hM
  replace S := S.nilrow 3 1
  replace S := S.nilrow 3 1
  replace S := S.nilrow 3 1
  exact ⟨none, 0, 0, none, 0, 0, none, 0, 0, rfl, rfl, rfl, rfl, S.sel [2, 1, 0] rfl rfl⟩
theorem c_impl_Radial {x0 : Int} {x1 : List (Int × Int × Int)} {x2 : List Bool} {x3 : List (Int × Int)} {A1 : Option Addr} {n1 c1 : Nat} {A2 : Option Addr} {n2 c2 : Nat} {A3 : Option Addr} {n3 c3 : Nat} {w : World} {r : Bool} (h1 : Rt w 3 eLine A1 n1 c1 x1) (h2 : Rt w 1 eB A2 n2 c2 x2) (h3 : Rt w 2 eBus A3 n3 c3 x3) (hM : m_impl_Radial x0 x1 x2 x3 = some r) :
    Calls Try.prog 31 #[.agg #[.int .i64 x0, .slice A1 n1 c1], .slice A2 n2 c2, .slice A3 n3 c3] w (fun e w' => e = .returned (.bool r) ∧ St w w' []) := by
  obtain rfl := h1.len
  obtain rfl := h2.len
  obtain rfl := h3.len
  unfold m_impl_Radial at hM
  refine calls_gw Try.func31 Try.ntmps31 rfl [(0, .agg #[.int .i64 x0, .slice A1 x1.length c1]), (1, .slice A2 x2.length c2), (2, .slice A3 x3.length c3)] ⟨rfl, rfl, rfl, trivial⟩ rfl ?_
  intro a hF
  have S := St.nil w
  refine wsg ?_
  refine op_new (cs := #[.int .i64 x0, .slice A1 x1.length c1]) rfl rfl hF rfl S (run_box rfl (hF.ev rfl) rfl) ?_; clear hF S; intro a g101 u hF S
  refine op_val (v := .bool false) rfl rfl hF rfl (run_assign rfl rfl) ?_;clear hF;intro a hF
  refine wn ?_
  revert a;refine sr (ov rfl rfl rfl (fun a hF=>run_loadN rfl ag37 (hF.ev rfl) rfl ((S.free 0 rfl).cells 0 #[.int .i64 x0, .slice A1 x1.length c1] rfl)) (mv rfl rfl (mv rfl rfl fun a hF=>?_)))
  obtain ⟨p102, h102, hM⟩ := bind_ex hM
  refine op_call rfl rfl hF rfl (run_call (vs := [.agg #[.int .i64 x0, .slice A1 x1.length c1], .slice A2 x2.length c2, .slice A3 x3.length c3]) rfl rfl co57 ⟨(hF.ev rfl), (hF.ev rfl), (hF.ev rfl), trivial⟩) (c_impl_treeOf (x0 := x0) (x1 := x1) (x2 := x2) (x3 := x3) ⟨(S.rc0 h1.rc), rfl⟩ ⟨(S.rc0 h2.rc), rfl⟩ ⟨(S.rc0 h3.rc), rfl⟩ h102) ?_
  rintro e u ⟨B103, n104, d105, B106, n107, d108, B109, n110, d111, rfl, rfl, rfl, rfl, T⟩
  refine ⟨_, rfl, ?_⟩
  clear hF; intro a hF
  replace S := S.call3 T; clear T
  revert a;refine mv rfl rfl (ov (v := .agg #[.int .i64 p102.1, .slice (ifA p102.2.1 A1) (ifN p102.2.1 x1.length) (ifN p102.2.1 c1), .slice B103 p102.2.2.1.length d105, .slice B106 p102.2.2.2.1.length d108, .slice B109 p102.2.2.2.2.1.length d111]) rfl rfl rfl (fun a hF=>run_extract rfl (hF.ev rfl) rfl) (ov (v := .bool p102.2.2.2.2.2) rfl rfl rfl (fun a hF=>run_extract rfl (hF.ev rfl) rfl) fun a hF=>?_))
  refine op_new (cs := #[.int .i64 0, .slice none 0 0, .slice none 0 0, .slice none 0 0, .slice none 0 0]) rfl rfl hF rfl S (run_allocZ rfl zr89) ?_; clear hF S; intro a g112 u hF S
  refine op_do rfl rfl (run_store (cs' := #[.int .i64 p102.1, .slice (ifA p102.2.1 A1) (ifN p102.2.1 x1.length) (ifN p102.2.1 c1), .slice B103 p102.2.2.1.length d105, .slice B106 p102.2.2.2.1.length d108, .slice B109 p102.2.2.2.2.1.length d111]) rfl sz89 (hF.ev rfl) (hF.ev rfl) rfl rfl rfl (S.free 0 rfl) rfl rfl) ?_; replace S := S.put 0 rfl (#[.int .i64 p102.1, .slice (ifA p102.2.1 A1) (ifN p102.2.1 x1.length) (ifN p102.2.1 c1), .slice B103 p102.2.2.1.length d105, .slice B106 p102.2.2.2.1.length d108, .slice B109 p102.2.2.2.2.1.length d111])
  generalize World.setRow _ _ _ = u at S ⊢
  refine op_val (v := .bool p102.2.2.2.2.2) rfl rfl hF rfl (run_assign rfl (hF.ev rfl)) ?_;clear hF;intro a hF
  refine wn ?_
  revert a;refine sr (mv rfl rfl (ag rfl rfl fun a hF=>wn ?_))
  refine wp_ret ?_
  repeat with_reducible first|refine tr ?_|refine ir ?_|refine nr ?_
  refine ret1_gw (.inl rfl) hF rfl (res_tmp (hF.ev rfl)) ?_
  obtain rfl := Option.some.inj hM
  exact ⟨rfl, S.sel [] rfl rfl⟩
end Go.Proofs.Ytcmnjaccapbhfaa
