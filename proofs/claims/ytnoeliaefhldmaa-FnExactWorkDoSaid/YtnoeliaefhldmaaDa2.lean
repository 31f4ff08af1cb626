/- Calls return what the models say. -/
import Derived.Test.YtnoeliaefhldmaaDa1
namespace Go.Proofs.Ytnoeliaefhldmaa
open Go.ChangeShapes Go.WideShapes Go.ChangeAt Go.RowKit
set_option linter.unusedVariables false
set_option linter.unusedSimpArgs false

set_option maxHeartbeats 4000000 in
theorem c_impl_WorkValid {x0 : List Bool} {x1 : List Bool} {x2 : List (Int × Int)} {A0 : Option Addr} {n0 c0 : Nat} {A1 : Option Addr} {n1 c1 : Nat} {A2 : Option Addr} {n2 c2 : Nat} {w : World} {r : Bool} (h0 : Rt w 1 eB A0 n0 c0 x0) (h1 : Rt w 1 eB A1 n1 c1 x1) (h2 : Rt w 2 ePermit A2 n2 c2 x2) (hM : m_impl_WorkValid x0 x1 x2 = some r) :
    Calls Try.prog 28 #[.agg #[.slice A0 n0 c0, .slice A1 n1 c1, .slice A2 n2 c2]] w (fun e w' => e = .returned (.bool r) ∧ St w w' []) := by
  obtain rfl := h0.len
  obtain rfl := h1.len
  obtain rfl := h2.len
  unfold m_impl_WorkValid at hM
  refine calls_gw Try.func28 Try.ntmps28 rfl [(0, .agg #[.slice A0 x0.length c0, .slice A1 x1.length c1, .slice A2 x2.length c2])] ⟨rfl, trivial⟩ rfl ?_
  intro a hF
  have S := St.nil w
  refine wp_seq ?_
  refine wp_region_lit ?_
  refine op_new (cs := #[.slice A0 x0.length c0, .slice A1 x1.length c1, .slice A2 x2.length c2]) rfl rfl hF rfl S (run_box rfl (hF.ev rfl) rfl) ?_; clear hF S; intro a g101 u hF S
  refine op_val (v := .bool false) rfl rfl hF rfl (run_assign rfl rfl) ?_; clear hF; intro a hF
  refine wpList_nil ?_
  refine wp_seq ?_
  refine wp_seq ?_
  refine wp_region_lit ?_
  refine op_val (v := .pointer (some ⟨g101, 0, none⟩)) rfl rfl hF rfl (run_fieldAddr rfl fl31_0 (hF.ev rfl) rfl) ?_; clear hF; intro a hF
  refine op_val (v := .slice A0 x0.length c0) rfl rfl hF rfl (run_load1 rfl one22 (hF.ev rfl) ((S.free 0 rfl).cell rfl)) ?_; clear hF; intro a hF
  refine op_val (v := .int .i64 (x0.length : Int)) rfl rfl hF rfl (run_lenL rfl rfl Try.underlying22 (hF.ev rfl)) ?_; clear hF; intro a hF
  refine op_val (v := .bool (ltB (x0.length : Int) 1)) rfl rfl hF rfl (run_lss (hF.ev rfl) rfl rfl) ?_; clear hF; intro a hF
  refine op_val (v := .bool (ltB (x0.length : Int) 1)) rfl rfl hF rfl (run_move rfl (hF.ev rfl)) ?_; clear hF; intro a hF
  refine op_gv (v := .pointer (some ⟨g101, 0, none⟩)) rfl rfl hF rfl (yf (gw_yield hF rfl rfl rfl)) (fun hg => (run_fieldAddr rfl fl31_0 (hF.ev rfl) rfl)) ?_; clear hF; intro a hF
  refine op_gv (v := .slice A0 x0.length c0) rfl rfl hF rfl (yf (gw_yield hF rfl rfl rfl)) (fun hg => (run_load1 rfl one22 ((hF.ev rfl).trans (gv_t hg)) ((S.free 0 rfl).cell rfl))) ?_; clear hF; intro a hF
  refine op_gv (v := .int .i64 (x0.length : Int)) rfl rfl hF rfl (yf (gw_yield hF rfl rfl rfl)) (fun hg => (run_lenL rfl rfl Try.underlying22 ((hF.ev rfl).trans (gv_t hg)))) ?_; clear hF; intro a hF
  refine op_gv (v := .bool (ltB 10 (x0.length : Int))) rfl rfl hF rfl (yf (gw_yield hF rfl rfl rfl)) (fun hg => (run_gtr ((hF.ev rfl).trans (gv_t hg)) rfl rfl)) ?_; clear hF; intro a hF
  refine op_val (v := .bool ((ltB (x0.length : Int) 1) || (ltB 10 (x0.length : Int)))) rfl rfl hF rfl (run_pick_or rfl (hF.ev rfl) rfl (fun hp => ((hF.ev rfl).trans (gv_t (not_t hp))))) ?_; clear hF; intro a hF
  refine op_val (v := .bool ((ltB (x0.length : Int) 1) || (ltB 10 (x0.length : Int)))) rfl rfl hF rfl (run_move rfl (hF.ev rfl)) ?_; clear hF; intro a hF
  refine op_gv (v := .pointer (some ⟨g101, 1, none⟩)) rfl rfl hF rfl (yf (gw_yield hF rfl rfl rfl)) (fun hg => (run_fieldAddr rfl fl31_1 (hF.ev rfl) rfl)) ?_; clear hF; intro a hF
  refine op_gv (v := .slice A1 x1.length c1) rfl rfl hF rfl (yf (gw_yield hF rfl rfl rfl)) (fun hg => (run_load1 rfl one22 ((hF.ev rfl).trans (gv_t hg)) ((S.free 0 rfl).cell rfl))) ?_; clear hF; intro a hF
  refine op_gv (v := .int .i64 (x1.length : Int)) rfl rfl hF rfl (yf (gw_yield hF rfl rfl rfl)) (fun hg => (run_lenL rfl rfl Try.underlying22 ((hF.ev rfl).trans (gv_t hg)))) ?_; clear hF; intro a hF
  refine op_gv (v := .pointer (some ⟨g101, 0, none⟩)) rfl rfl hF rfl (yf (gw_yield hF rfl rfl rfl)) (fun hg => (run_fieldAddr rfl fl31_0 (hF.ev rfl) rfl)) ?_; clear hF; intro a hF
  refine op_gv (v := .slice A0 x0.length c0) rfl rfl hF rfl (yf (gw_yield hF rfl rfl rfl)) (fun hg => (run_load1 rfl one22 ((hF.ev rfl).trans (gv_t hg)) ((S.free 0 rfl).cell rfl))) ?_; clear hF; intro a hF
  refine op_gv (v := .int .i64 (x0.length : Int)) rfl rfl hF rfl (yf (gw_yield hF rfl rfl rfl)) (fun hg => (run_lenL rfl rfl Try.underlying22 ((hF.ev rfl).trans (gv_t hg)))) ?_; clear hF; intro a hF
  refine op_gv (v := .bool ((x1.length : Int) != (x0.length : Int))) rfl rfl hF rfl (yf (gw_yield hF rfl rfl rfl)) (fun hg => (run_neq ((hF.ev rfl).trans (gv_t hg)) ((hF.ev rfl).trans (gv_t hg)) rfl)) ?_; clear hF; intro a hF
  refine op_val (v := .bool (((ltB (x0.length : Int) 1) || (ltB 10 (x0.length : Int))) || ((x1.length : Int) != (x0.length : Int)))) rfl rfl hF rfl (run_pick_or rfl (hF.ev rfl) rfl (fun hp => ((hF.ev rfl).trans (gv_t (not_t hp))))) ?_; clear hF; intro a hF
  refine op_val (v := .bool (((ltB (x0.length : Int) 1) || (ltB 10 (x0.length : Int))) || ((x1.length : Int) != (x0.length : Int)))) rfl rfl hF rfl (run_move rfl (hF.ev rfl)) ?_; clear hF; intro a hF
  refine op_gv (v := .pointer (some ⟨g101, 2, none⟩)) rfl rfl hF rfl (yf (gw_yield hF rfl rfl rfl)) (fun hg => (run_fieldAddr rfl fl31_2 (hF.ev rfl) rfl)) ?_; clear hF; intro a hF
  refine op_gv (v := .slice A2 x2.length c2) rfl rfl hF rfl (yf (gw_yield hF rfl rfl rfl)) (fun hg => (run_load1 rfl one29 ((hF.ev rfl).trans (gv_t hg)) ((S.free 0 rfl).cell rfl))) ?_; clear hF; intro a hF
  refine op_gv (v := .int .i64 (x2.length : Int)) rfl rfl hF rfl (yf (gw_yield hF rfl rfl rfl)) (fun hg => (run_lenL rfl rfl Try.underlying29 ((hF.ev rfl).trans (gv_t hg)))) ?_; clear hF; intro a hF
  refine op_gv (v := .bool (ltB 6 (x2.length : Int))) rfl rfl hF rfl (yf (gw_yield hF rfl rfl rfl)) (fun hg => (run_gtr ((hF.ev rfl).trans (gv_t hg)) rfl rfl)) ?_; clear hF; intro a hF
  refine op_val (v := .bool ((((ltB (x0.length : Int) 1) || (ltB 10 (x0.length : Int))) || ((x1.length : Int) != (x0.length : Int))) || (ltB 6 (x2.length : Int)))) rfl rfl hF rfl (run_pick_or rfl (hF.ev rfl) rfl (fun hp => ((hF.ev rfl).trans (gv_t (not_t hp))))) ?_; clear hF; intro a hF
  refine wpList_nil ?_
  cases hc102 : ((((ltB (x0.length : Int) 1) || (ltB 10 (x0.length : Int))) || ((x1.length : Int) != (x0.length : Int))) || (ltB 6 (x2.length : Int)))
  · replace hM := bif_f hc102 hM
    refine cond_f hF rfl hc102 ?_
    refine wp_skip ?_
    refine wp_seq ?_
    refine wp_seq ?_
    refine wp_region_lit ?_
    refine op_val (v := .pointer (some ⟨g101, 0, none⟩)) rfl rfl hF rfl (run_fieldAddr rfl fl31_0 (hF.ev rfl) rfl) ?_; clear hF; intro a hF
    refine op_val (v := .slice A0 x0.length c0) rfl rfl hF rfl (run_load1 rfl one22 (hF.ev rfl) ((S.free 0 rfl).cell rfl)) ?_; clear hF; intro a hF
    refine op_val (v := .int .i64 (x0.length : Int)) rfl rfl hF rfl (run_lenL rfl rfl Try.underlying22 (hF.ev rfl)) ?_; clear hF; intro a hF
    refine op_val (v := .int .i64 0) rfl rfl hF rfl (run_move rfl rfl) ?_; clear hF; intro a hF
    refine wpList_nil ?_
    obtain ⟨o104, hM105, hM⟩ := bind_ex hM
    refine wp_cut (fun a u => ∃ (p103 : Unit), (Sum.inl p103) = o104 ∧ Fr a 97 [(1, .pointer (some ⟨g101, 0, none⟩)), (2, .bool false)] ∧ St w u [.box g101 31 #[.slice A0 x0.length c0, .slice A1 x1.length c1, .slice A2 x2.length c2]]) ?_ ?_
    · have _ := trivial
      refine wp_block ?_
      refine loop_gw (fun m a u => ∃ (p106 : Int), m_impl_WorkValid_l1 x0 x1 m p106 = some _ ∧ Fr a 97 [(1, .pointer (some ⟨g101, 0, none⟩)), (2, .bool false), (33, .int .i64 (x0.length : Int)), (34, .int .i64 p106)] ∧ St w u [.box g101 31 #[.slice A0 x0.length c0, .slice A1 x1.length c1, .slice A2 x2.length c2]]) FUEL ⟨0, hM105, hF.keep _ ⟨rfl, rfl, rfl, rfl, trivial⟩, S.sel [0] rfl rfl⟩ ?_
      clear hF S hM105; rintro m a u ⟨p106, hM105, hF, S⟩
      rcases m with _ | f1
      · exact none_some hM105
      rw [m_impl_WorkValid_l1.eq_2] at hM105
      refine wp_seq ?_
      refine wp_region_lit ?_
      refine op_val (v := .bool (ltB p106 (x0.length : Int))) rfl rfl hF rfl (run_lss (hF.ev rfl) (hF.ev rfl) rfl) ?_; clear hF; intro a hF
      refine wpList_nil ?_
      refine wp_seq ?_
      cases hc107 : (ltB p106 (x0.length : Int))
      · replace hM105 := bif_f hc107 hM105
        refine cond_f hF rfl hc107 ?_
        refine wp_exit ?_
        repeat with_reducible (first | refine then_exit ?_ | refine in_hit ?_ | refine in_miss rfl ?_)
        obtain rfl := Option.some.inj hM105
        exact ⟨(), rfl, hF.keep _ ⟨rfl, rfl, trivial⟩, S.sel [0] rfl rfl⟩
      · replace hM105 := bif_t hc107 hM105
        refine cond_t hF rfl hc107 ?_
        refine wp_skip ?_
        refine wp_seq ?_
        refine wp_block ?_
        refine wp_seq ?_
        refine wp_region_lit ?_
        refine op_val (v := .int .i64 p106) rfl rfl hF rfl (run_move rfl (hF.ev rfl)) ?_; clear hF; intro a hF
        refine op_val (v := .int .i64 p106) rfl rfl hF rfl (run_assign rfl (hF.ev rfl)) ?_; clear hF; intro a hF
        refine wpList_nil ?_
        refine wp_seq ?_
        refine wp_region_lit ?_
        refine op_val (v := .pointer (some ⟨g101, 0, none⟩)) rfl rfl hF rfl (run_fieldAddr rfl fl31_0 (hF.ev rfl) rfl) ?_; clear hF; intro a hF
        refine op_val (v := .slice A0 x0.length c0) rfl rfl hF rfl (run_load1 rfl one22 (hF.ev rfl) ((S.free 0 rfl).cell rfl)) ?_; clear hF; intro a hF
        refine op_val (v := .int .i64 p106) rfl rfl hF rfl (run_move rfl (hF.ev rfl)) ?_; clear hF; intro a hF
        obtain ⟨hk108, hM105⟩ := chk_ex hM105
        replace hk108 := ixB_t hk108
        refine op_val (v := .pointer (some ⟨adB A0, adO A0 + p106.toNat * 1, none⟩)) rfl rfl hF rfl (run_indexAddr (b := adB A0) (off := adO A0) rfl Try.underlying22 sz4 ((hF.ev rfl).trans (congrArg (fun A => Value.slice A x0.length c0) ((S.rc0 h0.rc).rd.ad (ix_pos hk108)))) (hF.ev rfl) hk108.1 hk108.2 (k' := adO A0 + p106.toNat * 1) rfl) ?_; clear hF; intro a hF
        refine op_val (v := .bool (x0.getD p106.toNat false)) rfl rfl hF rfl (run_load1 rfl one4 (hF.ev rfl) (rd_el0 (l := x0) (S.rc0 h0.rc).rd rfl eB_len false (ix_ltn hk108 rfl) rfl)) ?_; clear hF; intro a hF
        refine op_val (v := .bool (x0.getD p106.toNat false)) rfl rfl hF rfl (run_move rfl (hF.ev rfl)) ?_; clear hF; intro a hF
        refine op_gv (v := .pointer (some ⟨g101, 1, none⟩)) rfl rfl hF rfl (yt (gw_yield hF rfl rfl rfl)) (fun hg => (run_fieldAddr rfl fl31_1 (hF.ev rfl) rfl)) ?_; clear hF; intro a hF
        refine op_gv (v := .slice A1 x1.length c1) rfl rfl hF rfl (yt (gw_yield hF rfl rfl rfl)) (fun hg => (run_load1 rfl one22 ((hF.ev rfl).trans (gv_t hg)) ((S.free 0 rfl).cell rfl))) ?_; clear hF; intro a hF
        refine op_gv (v := .int .i64 p106) rfl rfl hF rfl (yt (gw_yield hF rfl rfl rfl)) (fun hg => (run_move rfl (hF.ev rfl))) ?_; clear hF; intro a hF
        obtain ⟨hk109, hM105⟩ := chk_ex hM105
        replace hk109 := fun hg => ixB_t (imp_t hk109 hg)
        refine op_gv (v := .pointer (some ⟨adB A1, adO A1 + p106.toNat * 1, none⟩)) rfl rfl hF rfl (yt (gw_yield hF rfl rfl rfl)) (fun hg => (run_indexAddr (b := adB A1) (off := adO A1) rfl Try.underlying22 sz4 (((hF.ev rfl).trans (gv_t hg)).trans (congrArg (fun A => Value.slice A x1.length c1) ((S.rc0 h1.rc).rd.ad (ix_pos (hk109 hg))))) ((hF.ev rfl).trans (gv_t hg)) (hk109 hg).1 (hk109 hg).2 (k' := adO A1 + p106.toNat * 1) rfl)) ?_; clear hF; intro a hF
        refine op_gv (v := .bool (x1.getD p106.toNat false)) rfl rfl hF rfl (yt (gw_yield hF rfl rfl rfl)) (fun hg => (run_load1 rfl one4 ((hF.ev rfl).trans (gv_t hg)) (rd_el0 (l := x1) (S.rc0 h1.rc).rd rfl eB_len false (ix_ltn (hk109 hg) rfl) rfl))) ?_; clear hF; intro a hF
        refine op_val (v := .bool ((x0.getD p106.toNat false) && (x1.getD p106.toNat false))) rfl rfl hF rfl (run_pick_and rfl (hF.ev rfl) (fun hp => ((hF.ev rfl).trans (gv_t hp))) rfl) ?_; clear hF; intro a hF
        refine wpList_nil ?_
        cases hc110 : ((x0.getD p106.toNat false) && (x1.getD p106.toNat false))
        · replace hM105 := bif_f hc110 hM105
          refine cond_f hF rfl hc110 ?_
          refine wp_skip ?_
          refine wp_region_lit ?_
          refine op_val (v := .int .i64 (w64 (p106 + 1))) rfl rfl hF rfl (run_add (z := w64 (p106 + 1)) (hF.ev rfl) rfl rfl rfl) ?_; clear hF; intro a hF
          refine op_val (v := .int .i64 (w64 (p106 + 1))) rfl rfl hF rfl (run_move rfl (hF.ev rfl)) ?_; clear hF; intro a hF
          refine wpList_nil ?_
          exact ⟨f1, Nat.lt_succ_self _, w64 (p106 + 1), hM105, hF.keep _ ⟨rfl, rfl, rfl, rfl, trivial⟩, S.sel [0] rfl rfl⟩
        · replace hM105 := bif_t hc110 hM105
          refine cond_t hF rfl hc110 ?_
          refine wp_seq ?_
          refine wp_region_lit ?_
          refine op_val (v := .bool false) rfl rfl hF rfl (run_assign rfl rfl) ?_; clear hF; intro a hF
          refine wpList_nil ?_
          refine wp_ret ?_
          repeat with_reducible (first | refine then_ret ?_ | refine in_ret ?_ | refine in_nrm ?_)
          refine ret1_gw (.inl rfl) hF rfl (res_tmp (hF.ev rfl)) ?_
          obtain rfl := Option.some.inj hM105
          obtain rfl := Option.some.inj hM
          exact ⟨rfl, S.sel [] rfl rfl⟩
    · rintro a u ⟨p103, rfl, hF, S⟩
      replace hM := elim_l hM
      refine wp_seq ?_
      refine wp_seq ?_
      refine wp_region_lit ?_
      refine op_val (v := .pointer (some ⟨g101, 2, none⟩)) rfl rfl hF rfl (run_fieldAddr rfl fl31_2 (hF.ev rfl) rfl) ?_; clear hF; intro a hF
      refine op_val (v := .slice A2 x2.length c2) rfl rfl hF rfl (run_load1 rfl one29 (hF.ev rfl) ((S.free 0 rfl).cell rfl)) ?_; clear hF; intro a hF
      refine op_val (v := .int .i64 (x2.length : Int)) rfl rfl hF rfl (run_lenL rfl rfl Try.underlying29 (hF.ev rfl)) ?_; clear hF; intro a hF
      refine op_val (v := .int .i64 0) rfl rfl hF rfl (run_move rfl rfl) ?_; clear hF; intro a hF
      refine wpList_nil ?_
      obtain ⟨o112, hM113, hM⟩ := bind_ex hM
      refine wp_cut (fun a u => ∃ (p111 : Unit), (Sum.inl p111) = o112 ∧ Fr a 97 [(2, .bool false)] ∧ St w u []) ?_ ?_
      · have _ := trivial
        refine wp_block ?_
        refine loop_gw (fun m a u => ∃ (p114 : Int), m_impl_WorkValid_l2 x0 x1 x2 m p114 = some _ ∧ Fr a 97 [(1, .pointer (some ⟨g101, 0, none⟩)), (2, .bool false), (51, .slice A2 x2.length c2), (52, .int .i64 (x2.length : Int)), (53, .int .i64 p114)] ∧ St w u [.box g101 31 #[.slice A0 x0.length c0, .slice A1 x1.length c1, .slice A2 x2.length c2]]) FUEL ⟨0, hM113, hF.keep _ ⟨rfl, rfl, rfl, rfl, rfl, trivial⟩, S.sel [0] rfl rfl⟩ ?_
        clear hF S hM113; rintro m a u ⟨p114, hM113, hF, S⟩
        rcases m with _ | f2
        · exact none_some hM113
        rw [m_impl_WorkValid_l2.eq_2] at hM113
        refine wp_seq ?_
        refine wp_region_lit ?_
        refine op_val (v := .bool (ltB p114 (x2.length : Int))) rfl rfl hF rfl (run_lss (hF.ev rfl) (hF.ev rfl) rfl) ?_; clear hF; intro a hF
        refine wpList_nil ?_
        refine wp_seq ?_
        cases hc115 : (ltB p114 (x2.length : Int))
        · replace hM113 := bif_f hc115 hM113
          refine cond_f hF rfl hc115 ?_
          refine wp_exit ?_
          repeat with_reducible (first | refine then_exit ?_ | refine in_hit ?_ | refine in_miss rfl ?_)
          obtain rfl := Option.some.inj hM113
          exact ⟨(), rfl, hF.keep _ ⟨rfl, trivial⟩, S.sel [] rfl rfl⟩
        · replace hM113 := bif_t hc115 hM113
          refine cond_t hF rfl hc115 ?_
          refine wp_skip ?_
          refine wp_seq ?_
          refine wp_block ?_
          refine wp_seq ?_
          refine wp_region_lit ?_
          refine op_val (v := .int .i64 p114) rfl rfl hF rfl (run_move rfl (hF.ev rfl)) ?_; clear hF; intro a hF
          obtain ⟨hk116, hM113⟩ := chk_ex hM113
          replace hk116 := ixB_t hk116
          refine op_val (v := .pointer (some ⟨adB A2, adO A2 + p114.toNat * 2, none⟩)) rfl rfl hF rfl (run_indexAddr (b := adB A2) (off := adO A2) rfl Try.underlying29 sz56 ((hF.ev rfl).trans (congrArg (fun A => Value.slice A x2.length c2) ((S.rc0 h2.rc).rd.ad (ix_pos hk116)))) (hF.ev rfl) hk116.1 hk116.2 (k' := adO A2 + p114.toNat * 2) rfl) ?_; clear hF; intro a hF
          refine op_val (v := .agg #[.int .i64 ((x2.getD p114.toNat ((0, 0) : Int × Int)).1), .int .i64 ((x2.getD p114.toNat ((0, 0) : Int × Int)).2)]) rfl rfl hF rfl (run_loadN (cs := #[.int .i64 ((x2.getD p114.toNat ((0, 0) : Int × Int)).1), .int .i64 ((x2.getD p114.toNat ((0, 0) : Int × Int)).2)]) rfl ag56 (hF.ev rfl) rfl (rd_elN (l := x2) (S.rc0 h2.rc).rd rfl ePermit_len ((0, 0) : Int × Int) (ix_ltn hk116 rfl) rfl)) ?_; clear hF; intro a hF
          refine op_new (cs := #[.int .i64 0, .int .i64 0]) rfl rfl hF rfl S (run_allocZ rfl zr56) ?_; clear hF S; intro a g117 u hF S
          refine op_val (v := .int .i64 p114) rfl rfl hF rfl (run_assign rfl (hF.ev rfl)) ?_; clear hF; intro a hF
          refine op_do rfl rfl (run_store (cs' := #[.int .i64 ((x2.getD p114.toNat ((0, 0) : Int × Int)).1), .int .i64 ((x2.getD p114.toNat ((0, 0) : Int × Int)).2)]) rfl sz56 (hF.ev rfl) (hF.ev rfl) rfl rfl rfl (S.free 0 rfl) rfl rfl) ?_; replace S := S.put 0 rfl (#[.int .i64 ((x2.getD p114.toNat ((0, 0) : Int × Int)).1), .int .i64 ((x2.getD p114.toNat ((0, 0) : Int × Int)).2)])
          generalize World.setRow _ _ _ = u at S ⊢
          refine wpList_nil ?_
          refine wp_seq ?_
          obtain ⟨hk118, hM113⟩ := chk_ex hM113
          replace hk118 := fun hg => ixB_t (imp_t hk118 hg)
          obtain ⟨hk119, hM113⟩ := chk_ex hM113
          replace hk119 := fun hg => slB_t (imp_t hk119 hg)
          obtain ⟨p120, h120, hM113⟩ := bind_ex hM113
          refine region_gw (D := [58, 59, 60, 61, 62, 63, 64, 65, 66, 67, 68, 69, 70, 71, 72, 73, 74, 75, 76, 77, 78, 79, 80, 81, 82, 83, 84, 85, 86, 87, 88, 89, 90, 91, 92, 93, 94, 95]) (Lr := [.box g117 56 #[.int .i64 ((x2.getD p114.toNat ((0, 0) : Int × Int)).1), .int .i64 ((x2.getD p114.toNat ((0, 0) : Int × Int)).2)], .box g101 31 #[.slice A0 x0.length c0, .slice A1 x1.length c1, .slice A2 x2.length c2]]) (deps := (fun | 0 => [58] | 1 => [59] | 2 => [60] | 3 => [61] | 4 => [62] | 5 => [63] | 6 => [64] | 7 => [65] | 8 => [66] | 9 => [67] | 10 => [68] | 11 => [69] | 12 => [70] | 13 => [71] | 14 => [72] | 15 => [73] | 16 => [74] | 17 => [75] | 18 => [76] | 19 => [77] | 20 => [78] | 21 => [79] | 22 => [80] | 23 => [81] | 24 => [82] | 25 => [83] | 26 => [84] | 27 => [85] | 28 => [86] | 29 => [87] | 30 => [88] | 31 => [89] | 32 => [90] | 33 => [91] | 34 => [92] | 35 => [93] | 36 => [94] | 37 => [95] | _ => [])) (rd := (fun _ => [])) (zr := (fun _ => []))
            (φ := fun i vs => match i, vs with | 0, [v58] => v58 = .pointer (some ⟨g117, 0, none⟩) | 1, [v59] => v59 = .int .i64 ((x2.getD p114.toNat ((0, 0) : Int × Int)).1) | 2, [v60] => v60 = .bool (ltB ((x2.getD p114.toNat ((0, 0) : Int × Int)).1) 0) | 3, [v61] => v61 = .bool (ltB ((x2.getD p114.toNat ((0, 0) : Int × Int)).1) 0) | 4, [v62] => v62 = gv (!(ltB ((x2.getD p114.toNat ((0, 0) : Int × Int)).1) 0)) (.pointer (some ⟨g117, 0, none⟩)) | 5, [v63] => v63 = gv (!(ltB ((x2.getD p114.toNat ((0, 0) : Int × Int)).1) 0)) (.int .i64 ((x2.getD p114.toNat ((0, 0) : Int × Int)).1)) | 6, [v64] => v64 = gv (!(ltB ((x2.getD p114.toNat ((0, 0) : Int × Int)).1) 0)) (.bool (ltB 9 ((x2.getD p114.toNat ((0, 0) : Int × Int)).1))) | 7, [v65] => v65 = .bool ((ltB ((x2.getD p114.toNat ((0, 0) : Int × Int)).1) 0) || (ltB 9 ((x2.getD p114.toNat ((0, 0) : Int × Int)).1))) | 8, [v66] => v66 = .bool ((ltB ((x2.getD p114.toNat ((0, 0) : Int × Int)).1) 0) || (ltB 9 ((x2.getD p114.toNat ((0, 0) : Int × Int)).1))) | 9, [v67] => v67 = gv (!((ltB ((x2.getD p114.toNat ((0, 0) : Int × Int)).1) 0) || (ltB 9 ((x2.getD p114.toNat ((0, 0) : Int × Int)).1)))) (.pointer (some ⟨g117, 1, none⟩)) | 10, [v68] => v68 = gv (!((ltB ((x2.getD p114.toNat ((0, 0) : Int × Int)).1) 0) || (ltB 9 ((x2.getD p114.toNat ((0, 0) : Int × Int)).1)))) (.int .i64 ((x2.getD p114.toNat ((0, 0) : Int × Int)).2)) | 11, [v69] => v69 = gv (!((ltB ((x2.getD p114.toNat ((0, 0) : Int × Int)).1) 0) || (ltB 9 ((x2.getD p114.toNat ((0, 0) : Int × Int)).1)))) (.bool (ltB ((x2.getD p114.toNat ((0, 0) : Int × Int)).2) 0)) | 12, [v70] => v70 = .bool (((ltB ((x2.getD p114.toNat ((0, 0) : Int × Int)).1) 0) || (ltB 9 ((x2.getD p114.toNat ((0, 0) : Int × Int)).1))) || (ltB ((x2.getD p114.toNat ((0, 0) : Int × Int)).2) 0)) | 13, [v71] => v71 = .bool (((ltB ((x2.getD p114.toNat ((0, 0) : Int × Int)).1) 0) || (ltB 9 ((x2.getD p114.toNat ((0, 0) : Int × Int)).1))) || (ltB ((x2.getD p114.toNat ((0, 0) : Int × Int)).2) 0)) | 14, [v72] => v72 = gv (!(((ltB ((x2.getD p114.toNat ((0, 0) : Int × Int)).1) 0) || (ltB 9 ((x2.getD p114.toNat ((0, 0) : Int × Int)).1))) || (ltB ((x2.getD p114.toNat ((0, 0) : Int × Int)).2) 0))) (.pointer (some ⟨g117, 1, none⟩)) | 15, [v73] => v73 = gv (!(((ltB ((x2.getD p114.toNat ((0, 0) : Int × Int)).1) 0) || (ltB 9 ((x2.getD p114.toNat ((0, 0) : Int × Int)).1))) || (ltB ((x2.getD p114.toNat ((0, 0) : Int × Int)).2) 0))) (.int .i64 ((x2.getD p114.toNat ((0, 0) : Int × Int)).2)) | 16, [v74] => v74 = gv (!(((ltB ((x2.getD p114.toNat ((0, 0) : Int × Int)).1) 0) || (ltB 9 ((x2.getD p114.toNat ((0, 0) : Int × Int)).1))) || (ltB ((x2.getD p114.toNat ((0, 0) : Int × Int)).2) 0))) (.pointer (some ⟨g101, 0, none⟩)) | 17, [v75] => v75 = gv (!(((ltB ((x2.getD p114.toNat ((0, 0) : Int × Int)).1) 0) || (ltB 9 ((x2.getD p114.toNat ((0, 0) : Int × Int)).1))) || (ltB ((x2.getD p114.toNat ((0, 0) : Int × Int)).2) 0))) (.slice A0 x0.length c0) | 18, [v76] => v76 = gv (!(((ltB ((x2.getD p114.toNat ((0, 0) : Int × Int)).1) 0) || (ltB 9 ((x2.getD p114.toNat ((0, 0) : Int × Int)).1))) || (ltB ((x2.getD p114.toNat ((0, 0) : Int × Int)).2) 0))) (.int .i64 (x0.length : Int)) | 19, [v77] => v77 = gv (!(((ltB ((x2.getD p114.toNat ((0, 0) : Int × Int)).1) 0) || (ltB 9 ((x2.getD p114.toNat ((0, 0) : Int × Int)).1))) || (ltB ((x2.getD p114.toNat ((0, 0) : Int × Int)).2) 0))) (.bool (leB (x0.length : Int) ((x2.getD p114.toNat ((0, 0) : Int × Int)).2))) | 20, [v78] => v78 = .bool ((((ltB ((x2.getD p114.toNat ((0, 0) : Int × Int)).1) 0) || (ltB 9 ((x2.getD p114.toNat ((0, 0) : Int × Int)).1))) || (ltB ((x2.getD p114.toNat ((0, 0) : Int × Int)).2) 0)) || (leB (x0.length : Int) ((x2.getD p114.toNat ((0, 0) : Int × Int)).2))) | 21, [v79] => v79 = .bool ((((ltB ((x2.getD p114.toNat ((0, 0) : Int × Int)).1) 0) || (ltB 9 ((x2.getD p114.toNat ((0, 0) : Int × Int)).1))) || (ltB ((x2.getD p114.toNat ((0, 0) : Int × Int)).2) 0)) || (leB (x0.length : Int) ((x2.getD p114.toNat ((0, 0) : Int × Int)).2))) | 22, [v80] => v80 = gv (!((((ltB ((x2.getD p114.toNat ((0, 0) : Int × Int)).1) 0) || (ltB 9 ((x2.getD p114.toNat ((0, 0) : Int × Int)).1))) || (ltB ((x2.getD p114.toNat ((0, 0) : Int × Int)).2) 0)) || (leB (x0.length : Int) ((x2.getD p114.toNat ((0, 0) : Int × Int)).2)))) (.pointer (some ⟨g101, 1, none⟩)) | 23, [v81] => v81 = gv (!((((ltB ((x2.getD p114.toNat ((0, 0) : Int × Int)).1) 0) || (ltB 9 ((x2.getD p114.toNat ((0, 0) : Int × Int)).1))) || (ltB ((x2.getD p114.toNat ((0, 0) : Int × Int)).2) 0)) || (leB (x0.length : Int) ((x2.getD p114.toNat ((0, 0) : Int × Int)).2)))) (.slice A1 x1.length c1) | 24, [v82] => v82 = gv (!((((ltB ((x2.getD p114.toNat ((0, 0) : Int × Int)).1) 0) || (ltB 9 ((x2.getD p114.toNat ((0, 0) : Int × Int)).1))) || (ltB ((x2.getD p114.toNat ((0, 0) : Int × Int)).2) 0)) || (leB (x0.length : Int) ((x2.getD p114.toNat ((0, 0) : Int × Int)).2)))) (.pointer (some ⟨g117, 1, none⟩)) | 25, [v83] => v83 = gv (!((((ltB ((x2.getD p114.toNat ((0, 0) : Int × Int)).1) 0) || (ltB 9 ((x2.getD p114.toNat ((0, 0) : Int × Int)).1))) || (ltB ((x2.getD p114.toNat ((0, 0) : Int × Int)).2) 0)) || (leB (x0.length : Int) ((x2.getD p114.toNat ((0, 0) : Int × Int)).2)))) (.int .i64 ((x2.getD p114.toNat ((0, 0) : Int × Int)).2)) | 26, [v84] => v84 = gv (!((((ltB ((x2.getD p114.toNat ((0, 0) : Int × Int)).1) 0) || (ltB 9 ((x2.getD p114.toNat ((0, 0) : Int × Int)).1))) || (ltB ((x2.getD p114.toNat ((0, 0) : Int × Int)).2) 0)) || (leB (x0.length : Int) ((x2.getD p114.toNat ((0, 0) : Int × Int)).2)))) (.pointer (some ⟨adB A1, adO A1 + (((x2.getD p114.toNat ((0, 0) : Int × Int)).2).toNat) * 1, none⟩)) | 27, [v85] => v85 = gv (!((((ltB ((x2.getD p114.toNat ((0, 0) : Int × Int)).1) 0) || (ltB 9 ((x2.getD p114.toNat ((0, 0) : Int × Int)).1))) || (ltB ((x2.getD p114.toNat ((0, 0) : Int × Int)).2) 0)) || (leB (x0.length : Int) ((x2.getD p114.toNat ((0, 0) : Int × Int)).2)))) (.bool (x1.getD (((x2.getD p114.toNat ((0, 0) : Int × Int)).2).toNat) false)) | 28, [v86] => v86 = gv (!((((ltB ((x2.getD p114.toNat ((0, 0) : Int × Int)).1) 0) || (ltB 9 ((x2.getD p114.toNat ((0, 0) : Int × Int)).1))) || (ltB ((x2.getD p114.toNat ((0, 0) : Int × Int)).2) 0)) || (leB (x0.length : Int) ((x2.getD p114.toNat ((0, 0) : Int × Int)).2)))) (.bool (!(x1.getD (((x2.getD p114.toNat ((0, 0) : Int × Int)).2).toNat) false))) | 29, [v87] => v87 = .bool (((((ltB ((x2.getD p114.toNat ((0, 0) : Int × Int)).1) 0) || (ltB 9 ((x2.getD p114.toNat ((0, 0) : Int × Int)).1))) || (ltB ((x2.getD p114.toNat ((0, 0) : Int × Int)).2) 0)) || (leB (x0.length : Int) ((x2.getD p114.toNat ((0, 0) : Int × Int)).2))) || (!(x1.getD (((x2.getD p114.toNat ((0, 0) : Int × Int)).2).toNat) false))) | 30, [v88] => v88 = .bool (((((ltB ((x2.getD p114.toNat ((0, 0) : Int × Int)).1) 0) || (ltB 9 ((x2.getD p114.toNat ((0, 0) : Int × Int)).1))) || (ltB ((x2.getD p114.toNat ((0, 0) : Int × Int)).2) 0)) || (leB (x0.length : Int) ((x2.getD p114.toNat ((0, 0) : Int × Int)).2))) || (!(x1.getD (((x2.getD p114.toNat ((0, 0) : Int × Int)).2).toNat) false))) | 31, [v89] => v89 = gv (!(((((ltB ((x2.getD p114.toNat ((0, 0) : Int × Int)).1) 0) || (ltB 9 ((x2.getD p114.toNat ((0, 0) : Int × Int)).1))) || (ltB ((x2.getD p114.toNat ((0, 0) : Int × Int)).2) 0)) || (leB (x0.length : Int) ((x2.getD p114.toNat ((0, 0) : Int × Int)).2))) || (!(x1.getD (((x2.getD p114.toNat ((0, 0) : Int × Int)).2).toNat) false)))) (.pointer (some ⟨g101, 2, none⟩)) | 32, [v90] => v90 = gv (!(((((ltB ((x2.getD p114.toNat ((0, 0) : Int × Int)).1) 0) || (ltB 9 ((x2.getD p114.toNat ((0, 0) : Int × Int)).1))) || (ltB ((x2.getD p114.toNat ((0, 0) : Int × Int)).2) 0)) || (leB (x0.length : Int) ((x2.getD p114.toNat ((0, 0) : Int × Int)).2))) || (!(x1.getD (((x2.getD p114.toNat ((0, 0) : Int × Int)).2).toNat) false)))) (.slice A2 x2.length c2) | 33, [v91] => v91 = gv (!(((((ltB ((x2.getD p114.toNat ((0, 0) : Int × Int)).1) 0) || (ltB 9 ((x2.getD p114.toNat ((0, 0) : Int × Int)).1))) || (ltB ((x2.getD p114.toNat ((0, 0) : Int × Int)).2) 0)) || (leB (x0.length : Int) ((x2.getD p114.toNat ((0, 0) : Int × Int)).2))) || (!(x1.getD (((x2.getD p114.toNat ((0, 0) : Int × Int)).2).toNat) false)))) (.int .i64 p114) | 34, [v92] => v92 = gv (!(((((ltB ((x2.getD p114.toNat ((0, 0) : Int × Int)).1) 0) || (ltB 9 ((x2.getD p114.toNat ((0, 0) : Int × Int)).1))) || (ltB ((x2.getD p114.toNat ((0, 0) : Int × Int)).2) 0)) || (leB (x0.length : Int) ((x2.getD p114.toNat ((0, 0) : Int × Int)).2))) || (!(x1.getD (((x2.getD p114.toNat ((0, 0) : Int × Int)).2).toNat) false)))) (.slice (subA c2 ((0 : Int).toNat) 2 A2) ((subL x2 0 p114).length) (c2 - (0 : Int).toNat)) | 35, [v93] => v93 = gv (!(((((ltB ((x2.getD p114.toNat ((0, 0) : Int × Int)).1) 0) || (ltB 9 ((x2.getD p114.toNat ((0, 0) : Int × Int)).1))) || (ltB ((x2.getD p114.toNat ((0, 0) : Int × Int)).2) 0)) || (leB (x0.length : Int) ((x2.getD p114.toNat ((0, 0) : Int × Int)).2))) || (!(x1.getD (((x2.getD p114.toNat ((0, 0) : Int × Int)).2).toNat) false)))) (.agg #[.int .i64 ((x2.getD p114.toNat ((0, 0) : Int × Int)).1), .int .i64 ((x2.getD p114.toNat ((0, 0) : Int × Int)).2)]) | 36, [v94] => v94 = gv (!(((((ltB ((x2.getD p114.toNat ((0, 0) : Int × Int)).1) 0) || (ltB 9 ((x2.getD p114.toNat ((0, 0) : Int × Int)).1))) || (ltB ((x2.getD p114.toNat ((0, 0) : Int × Int)).2) 0)) || (leB (x0.length : Int) ((x2.getD p114.toNat ((0, 0) : Int × Int)).2))) || (!(x1.getD (((x2.getD p114.toNat ((0, 0) : Int × Int)).2).toNat) false)))) (.bool p120) | 37, [v95] => v95 = .bool ((((((ltB ((x2.getD p114.toNat ((0, 0) : Int × Int)).1) 0) || (ltB 9 ((x2.getD p114.toNat ((0, 0) : Int × Int)).1))) || (ltB ((x2.getD p114.toNat ((0, 0) : Int × Int)).2) 0)) || (leB (x0.length : Int) ((x2.getD p114.toNat ((0, 0) : Int × Int)).2))) || (!(x1.getD (((x2.getD p114.toNat ((0, 0) : Int × Int)).2).toNat) false))) || p120) | _, _ => True)
            (C := fun _ _ => [])
            (κ := (fun _ => none)) (Z := (fun _ => [])) mixed hF (by kernel_rfl) S ?_ ?_
          · refine ⟨?_, ?_, ?_, ?_, ?_, ?_, ?_, ?_, ?_, ?_, ?_, ?_, ?_, ?_, ?_, ?_, ?_, ?_, ?_, ?_, ?_, ?_, ?_, ?_, ?_, ?_, ?_, ?_, ?_, ?_, ?_, ?_, ?_, ?_, ?_, ?_, ?_, ?_, trivial⟩
            · intro a u X hB hu hp hr hz hl S
              replace S : St w u ([] ++ X) := S
              exact .inl ⟨rfl, .pointer (some ⟨g117, 0, none⟩), u, (run_fieldAddr rfl fl56_0 (hF.evB hB rfl rfl) rfl), rfl, S⟩
            · intro a u X hB hu hp hr hz hl S
              replace S : St w u ([] ++ X) := S
              have e58 : sl a 58 = .pointer (some ⟨g117, 0, none⟩) := hp 0 rfl
              exact .inl ⟨rfl, .int .i64 ((x2.getD p114.toNat ((0, 0) : Int × Int)).1), u, (run_load1 rfl one3 (ev_sl e58) ((gr_box S hl 0 rfl).cell rfl)), rfl, S⟩
            · intro a u X hB hu hp hr hz hl S
              replace S : St w u ([] ++ X) := S
              have e59 : sl a 59 = .int .i64 ((x2.getD p114.toNat ((0, 0) : Int × Int)).1) := hp 1 rfl
              exact .inl ⟨rfl, .bool (ltB ((x2.getD p114.toNat ((0, 0) : Int × Int)).1) 0), u, (run_lss (ev_sl e59) (ev_const _ _) rfl), rfl, S⟩
            · intro a u X hB hu hp hr hz hl S
              replace S : St w u ([] ++ X) := S
              have e60 : sl a 60 = .bool (ltB ((x2.getD p114.toNat ((0, 0) : Int × Int)).1) 0) := hp 2 rfl
              exact .inl ⟨rfl, .bool (ltB ((x2.getD p114.toNat ((0, 0) : Int × Int)).1) 0), u, (run_move rfl (ev_sl e60)), rfl, S⟩
            · intro a u X hB hu hp hr hz hl S
              replace S : St w u ([] ++ X) := S
              have e61 : sl a 61 = .bool (ltB ((x2.getD p114.toNat ((0, 0) : Int × Int)).1) 0) := hp 3 rfl
              rcases (Bool.eq_false_or_eq_true (!(ltB ((x2.getD p114.toNat ((0, 0) : Int × Int)).1) 0))).symm with hg | hg
              · exact .inr (.inr (.inr ⟨gr_eg rfl (yf (gr_yield rfl rfl e61)) hg, (gv_f hg).symm, S⟩))
              · exact .inl ⟨gr_eg rfl (yf (gr_yield rfl rfl e61)) hg, .pointer (some ⟨g117, 0, none⟩), u, (run_fieldAddr rfl fl56_0 (hF.evB hB rfl rfl) rfl), (gv_t hg).symm, S⟩
            · intro a u X hB hu hp hr hz hl S
              replace S : St w u ([] ++ X) := S
              have e61 : sl a 61 = .bool (ltB ((x2.getD p114.toNat ((0, 0) : Int × Int)).1) 0) := hp 3 rfl
              have e62 : sl a 62 = gv (!(ltB ((x2.getD p114.toNat ((0, 0) : Int × Int)).1) 0)) (.pointer (some ⟨g117, 0, none⟩)) := hp 4 rfl
              rcases (Bool.eq_false_or_eq_true (!(ltB ((x2.getD p114.toNat ((0, 0) : Int × Int)).1) 0))).symm with hg | hg
              · exact .inr (.inr (.inr ⟨gr_eg rfl (yf (gr_yield rfl rfl e61)) hg, (gv_f hg).symm, S⟩))
              · exact .inl ⟨gr_eg rfl (yf (gr_yield rfl rfl e61)) hg, .int .i64 ((x2.getD p114.toNat ((0, 0) : Int × Int)).1), u, (run_load1 rfl one3 ((ev_sl e62).trans (gv_t hg)) ((gr_box S hl 0 rfl).cell rfl)), (gv_t hg).symm, S⟩
            · intro a u X hB hu hp hr hz hl S
              replace S : St w u ([] ++ X) := S
              have e61 : sl a 61 = .bool (ltB ((x2.getD p114.toNat ((0, 0) : Int × Int)).1) 0) := hp 3 rfl
              have e63 : sl a 63 = gv (!(ltB ((x2.getD p114.toNat ((0, 0) : Int × Int)).1) 0)) (.int .i64 ((x2.getD p114.toNat ((0, 0) : Int × Int)).1)) := hp 5 rfl
              rcases (Bool.eq_false_or_eq_true (!(ltB ((x2.getD p114.toNat ((0, 0) : Int × Int)).1) 0))).symm with hg | hg
              · exact .inr (.inr (.inr ⟨gr_eg rfl (yf (gr_yield rfl rfl e61)) hg, (gv_f hg).symm, S⟩))
              · exact .inl ⟨gr_eg rfl (yf (gr_yield rfl rfl e61)) hg, .bool (ltB 9 ((x2.getD p114.toNat ((0, 0) : Int × Int)).1)), u, (run_gtr ((ev_sl e63).trans (gv_t hg)) (ev_const _ _) rfl), (gv_t hg).symm, S⟩
            · intro a u X hB hu hp hr hz hl S
              replace S : St w u ([] ++ X) := S
              have e61 : sl a 61 = .bool (ltB ((x2.getD p114.toNat ((0, 0) : Int × Int)).1) 0) := hp 3 rfl
              have e64 : sl a 64 = gv (!(ltB ((x2.getD p114.toNat ((0, 0) : Int × Int)).1) 0)) (.bool (ltB 9 ((x2.getD p114.toNat ((0, 0) : Int × Int)).1))) := hp 6 rfl
              exact .inl ⟨rfl, .bool ((ltB ((x2.getD p114.toNat ((0, 0) : Int × Int)).1) 0) || (ltB 9 ((x2.getD p114.toNat ((0, 0) : Int × Int)).1))), u, (run_pick_or rfl (ev_sl e61) (ev_const _ _) (fun hp => ((ev_sl e64).trans (gv_t (not_t hp))))), rfl, S⟩
            · intro a u X hB hu hp hr hz hl S
              replace S : St w u ([] ++ X) := S
              have e65 : sl a 65 = .bool ((ltB ((x2.getD p114.toNat ((0, 0) : Int × Int)).1) 0) || (ltB 9 ((x2.getD p114.toNat ((0, 0) : Int × Int)).1))) := hp 7 rfl
              exact .inl ⟨rfl, .bool ((ltB ((x2.getD p114.toNat ((0, 0) : Int × Int)).1) 0) || (ltB 9 ((x2.getD p114.toNat ((0, 0) : Int × Int)).1))), u, (run_move rfl (ev_sl e65)), rfl, S⟩
            · intro a u X hB hu hp hr hz hl S
              replace S : St w u ([] ++ X) := S
              have e66 : sl a 66 = .bool ((ltB ((x2.getD p114.toNat ((0, 0) : Int × Int)).1) 0) || (ltB 9 ((x2.getD p114.toNat ((0, 0) : Int × Int)).1))) := hp 8 rfl
              rcases (Bool.eq_false_or_eq_true (!((ltB ((x2.getD p114.toNat ((0, 0) : Int × Int)).1) 0) || (ltB 9 ((x2.getD p114.toNat ((0, 0) : Int × Int)).1))))).symm with hg | hg
              · exact .inr (.inr (.inr ⟨gr_eg rfl (yf (gr_yield rfl rfl e66)) hg, (gv_f hg).symm, S⟩))
              · exact .inl ⟨gr_eg rfl (yf (gr_yield rfl rfl e66)) hg, .pointer (some ⟨g117, 1, none⟩), u, (run_fieldAddr rfl fl56_1 (hF.evB hB rfl rfl) rfl), (gv_t hg).symm, S⟩
            · intro a u X hB hu hp hr hz hl S
              replace S : St w u ([] ++ X) := S
              have e66 : sl a 66 = .bool ((ltB ((x2.getD p114.toNat ((0, 0) : Int × Int)).1) 0) || (ltB 9 ((x2.getD p114.toNat ((0, 0) : Int × Int)).1))) := hp 8 rfl
              have e67 : sl a 67 = gv (!((ltB ((x2.getD p114.toNat ((0, 0) : Int × Int)).1) 0) || (ltB 9 ((x2.getD p114.toNat ((0, 0) : Int × Int)).1)))) (.pointer (some ⟨g117, 1, none⟩)) := hp 9 rfl
              rcases (Bool.eq_false_or_eq_true (!((ltB ((x2.getD p114.toNat ((0, 0) : Int × Int)).1) 0) || (ltB 9 ((x2.getD p114.toNat ((0, 0) : Int × Int)).1))))).symm with hg | hg
              · exact .inr (.inr (.inr ⟨gr_eg rfl (yf (gr_yield rfl rfl e66)) hg, (gv_f hg).symm, S⟩))
              · exact .inl ⟨gr_eg rfl (yf (gr_yield rfl rfl e66)) hg, .int .i64 ((x2.getD p114.toNat ((0, 0) : Int × Int)).2), u, (run_load1 rfl one3 ((ev_sl e67).trans (gv_t hg)) ((gr_box S hl 0 rfl).cell rfl)), (gv_t hg).symm, S⟩
            · intro a u X hB hu hp hr hz hl S
              replace S : St w u ([] ++ X) := S
              have e66 : sl a 66 = .bool ((ltB ((x2.getD p114.toNat ((0, 0) : Int × Int)).1) 0) || (ltB 9 ((x2.getD p114.toNat ((0, 0) : Int × Int)).1))) := hp 8 rfl
              have e68 : sl a 68 = gv (!((ltB ((x2.getD p114.toNat ((0, 0) : Int × Int)).1) 0) || (ltB 9 ((x2.getD p114.toNat ((0, 0) : Int × Int)).1)))) (.int .i64 ((x2.getD p114.toNat ((0, 0) : Int × Int)).2)) := hp 10 rfl
              rcases (Bool.eq_false_or_eq_true (!((ltB ((x2.getD p114.toNat ((0, 0) : Int × Int)).1) 0) || (ltB 9 ((x2.getD p114.toNat ((0, 0) : Int × Int)).1))))).symm with hg | hg
              · exact .inr (.inr (.inr ⟨gr_eg rfl (yf (gr_yield rfl rfl e66)) hg, (gv_f hg).symm, S⟩))
              · exact .inl ⟨gr_eg rfl (yf (gr_yield rfl rfl e66)) hg, .bool (ltB ((x2.getD p114.toNat ((0, 0) : Int × Int)).2) 0), u, (run_lss ((ev_sl e68).trans (gv_t hg)) (ev_const _ _) rfl), (gv_t hg).symm, S⟩
            · intro a u X hB hu hp hr hz hl S
              replace S : St w u ([] ++ X) := S
              have e66 : sl a 66 = .bool ((ltB ((x2.getD p114.toNat ((0, 0) : Int × Int)).1) 0) || (ltB 9 ((x2.getD p114.toNat ((0, 0) : Int × Int)).1))) := hp 8 rfl
              have e69 : sl a 69 = gv (!((ltB ((x2.getD p114.toNat ((0, 0) : Int × Int)).1) 0) || (ltB 9 ((x2.getD p114.toNat ((0, 0) : Int × Int)).1)))) (.bool (ltB ((x2.getD p114.toNat ((0, 0) : Int × Int)).2) 0)) := hp 11 rfl
              exact .inl ⟨rfl, .bool (((ltB ((x2.getD p114.toNat ((0, 0) : Int × Int)).1) 0) || (ltB 9 ((x2.getD p114.toNat ((0, 0) : Int × Int)).1))) || (ltB ((x2.getD p114.toNat ((0, 0) : Int × Int)).2) 0)), u, (run_pick_or rfl (ev_sl e66) (ev_const _ _) (fun hp => ((ev_sl e69).trans (gv_t (not_t hp))))), rfl, S⟩
            · intro a u X hB hu hp hr hz hl S
              replace S : St w u ([] ++ X) := S
              have e70 : sl a 70 = .bool (((ltB ((x2.getD p114.toNat ((0, 0) : Int × Int)).1) 0) || (ltB 9 ((x2.getD p114.toNat ((0, 0) : Int × Int)).1))) || (ltB ((x2.getD p114.toNat ((0, 0) : Int × Int)).2) 0)) := hp 12 rfl
              exact .inl ⟨rfl, .bool (((ltB ((x2.getD p114.toNat ((0, 0) : Int × Int)).1) 0) || (ltB 9 ((x2.getD p114.toNat ((0, 0) : Int × Int)).1))) || (ltB ((x2.getD p114.toNat ((0, 0) : Int × Int)).2) 0)), u, (run_move rfl (ev_sl e70)), rfl, S⟩
            · intro a u X hB hu hp hr hz hl S
              replace S : St w u ([] ++ X) := S
              have e71 : sl a 71 = .bool (((ltB ((x2.getD p114.toNat ((0, 0) : Int × Int)).1) 0) || (ltB 9 ((x2.getD p114.toNat ((0, 0) : Int × Int)).1))) || (ltB ((x2.getD p114.toNat ((0, 0) : Int × Int)).2) 0)) := hp 13 rfl
              rcases (Bool.eq_false_or_eq_true (!(((ltB ((x2.getD p114.toNat ((0, 0) : Int × Int)).1) 0) || (ltB 9 ((x2.getD p114.toNat ((0, 0) : Int × Int)).1))) || (ltB ((x2.getD p114.toNat ((0, 0) : Int × Int)).2) 0)))).symm with hg | hg
              · exact .inr (.inr (.inr ⟨gr_eg rfl (yf (gr_yield rfl rfl e71)) hg, (gv_f hg).symm, S⟩))
              · exact .inl ⟨gr_eg rfl (yf (gr_yield rfl rfl e71)) hg, .pointer (some ⟨g117, 1, none⟩), u, (run_fieldAddr rfl fl56_1 (hF.evB hB rfl rfl) rfl), (gv_t hg).symm, S⟩
            · intro a u X hB hu hp hr hz hl S
              replace S : St w u ([] ++ X) := S
              have e71 : sl a 71 = .bool (((ltB ((x2.getD p114.toNat ((0, 0) : Int × Int)).1) 0) || (ltB 9 ((x2.getD p114.toNat ((0, 0) : Int × Int)).1))) || (ltB ((x2.getD p114.toNat ((0, 0) : Int × Int)).2) 0)) := hp 13 rfl
              have e72 : sl a 72 = gv (!(((ltB ((x2.getD p114.toNat ((0, 0) : Int × Int)).1) 0) || (ltB 9 ((x2.getD p114.toNat ((0, 0) : Int × Int)).1))) || (ltB ((x2.getD p114.toNat ((0, 0) : Int × Int)).2) 0))) (.pointer (some ⟨g117, 1, none⟩)) := hp 14 rfl
              rcases (Bool.eq_false_or_eq_true (!(((ltB ((x2.getD p114.toNat ((0, 0) : Int × Int)).1) 0) || (ltB 9 ((x2.getD p114.toNat ((0, 0) : Int × Int)).1))) || (ltB ((x2.getD p114.toNat ((0, 0) : Int × Int)).2) 0)))).symm with hg | hg
              · exact .inr (.inr (.inr ⟨gr_eg rfl (yf (gr_yield rfl rfl e71)) hg, (gv_f hg).symm, S⟩))
              · exact .inl ⟨gr_eg rfl (yf (gr_yield rfl rfl e71)) hg, .int .i64 ((x2.getD p114.toNat ((0, 0) : Int × Int)).2), u, (run_load1 rfl one3 ((ev_sl e72).trans (gv_t hg)) ((gr_box S hl 0 rfl).cell rfl)), (gv_t hg).symm, S⟩
            · intro a u X hB hu hp hr hz hl S
              replace S : St w u ([] ++ X) := S
              have e71 : sl a 71 = .bool (((ltB ((x2.getD p114.toNat ((0, 0) : Int × Int)).1) 0) || (ltB 9 ((x2.getD p114.toNat ((0, 0) : Int × Int)).1))) || (ltB ((x2.getD p114.toNat ((0, 0) : Int × Int)).2) 0)) := hp 13 rfl
              rcases (Bool.eq_false_or_eq_true (!(((ltB ((x2.getD p114.toNat ((0, 0) : Int × Int)).1) 0) || (ltB 9 ((x2.getD p114.toNat ((0, 0) : Int × Int)).1))) || (ltB ((x2.getD p114.toNat ((0, 0) : Int × Int)).2) 0)))).symm with hg | hg
              · exact .inr (.inr (.inr ⟨gr_eg rfl (yf (gr_yield rfl rfl e71)) hg, (gv_f hg).symm, S⟩))
              · exact .inl ⟨gr_eg rfl (yf (gr_yield rfl rfl e71)) hg, .pointer (some ⟨g101, 0, none⟩), u, (run_fieldAddr rfl fl31_0 (hF.evB hB rfl rfl) rfl), (gv_t hg).symm, S⟩
            · intro a u X hB hu hp hr hz hl S
              replace S : St w u ([] ++ X) := S
              have e71 : sl a 71 = .bool (((ltB ((x2.getD p114.toNat ((0, 0) : Int × Int)).1) 0) || (ltB 9 ((x2.getD p114.toNat ((0, 0) : Int × Int)).1))) || (ltB ((x2.getD p114.toNat ((0, 0) : Int × Int)).2) 0)) := hp 13 rfl
              have e74 : sl a 74 = gv (!(((ltB ((x2.getD p114.toNat ((0, 0) : Int × Int)).1) 0) || (ltB 9 ((x2.getD p114.toNat ((0, 0) : Int × Int)).1))) || (ltB ((x2.getD p114.toNat ((0, 0) : Int × Int)).2) 0))) (.pointer (some ⟨g101, 0, none⟩)) := hp 16 rfl
              rcases (Bool.eq_false_or_eq_true (!(((ltB ((x2.getD p114.toNat ((0, 0) : Int × Int)).1) 0) || (ltB 9 ((x2.getD p114.toNat ((0, 0) : Int × Int)).1))) || (ltB ((x2.getD p114.toNat ((0, 0) : Int × Int)).2) 0)))).symm with hg | hg
              · exact .inr (.inr (.inr ⟨gr_eg rfl (yf (gr_yield rfl rfl e71)) hg, (gv_f hg).symm, S⟩))
              · exact .inl ⟨gr_eg rfl (yf (gr_yield rfl rfl e71)) hg, .slice A0 x0.length c0, u, (run_load1 rfl one22 ((ev_sl e74).trans (gv_t hg)) ((gr_box S hl 1 rfl).cell rfl)), (gv_t hg).symm, S⟩
            · intro a u X hB hu hp hr hz hl S
              replace S : St w u ([] ++ X) := S
              have e71 : sl a 71 = .bool (((ltB ((x2.getD p114.toNat ((0, 0) : Int × Int)).1) 0) || (ltB 9 ((x2.getD p114.toNat ((0, 0) : Int × Int)).1))) || (ltB ((x2.getD p114.toNat ((0, 0) : Int × Int)).2) 0)) := hp 13 rfl
              have e75 : sl a 75 = gv (!(((ltB ((x2.getD p114.toNat ((0, 0) : Int × Int)).1) 0) || (ltB 9 ((x2.getD p114.toNat ((0, 0) : Int × Int)).1))) || (ltB ((x2.getD p114.toNat ((0, 0) : Int × Int)).2) 0))) (.slice A0 x0.length c0) := hp 17 rfl
              rcases (Bool.eq_false_or_eq_true (!(((ltB ((x2.getD p114.toNat ((0, 0) : Int × Int)).1) 0) || (ltB 9 ((x2.getD p114.toNat ((0, 0) : Int × Int)).1))) || (ltB ((x2.getD p114.toNat ((0, 0) : Int × Int)).2) 0)))).symm with hg | hg
              · exact .inr (.inr (.inr ⟨gr_eg rfl (yf (gr_yield rfl rfl e71)) hg, (gv_f hg).symm, S⟩))
              · exact .inl ⟨gr_eg rfl (yf (gr_yield rfl rfl e71)) hg, .int .i64 (x0.length : Int), u, (run_lenL rfl rfl Try.underlying22 ((ev_sl e75).trans (gv_t hg))), (gv_t hg).symm, S⟩
            · intro a u X hB hu hp hr hz hl S
              replace S : St w u ([] ++ X) := S
              have e71 : sl a 71 = .bool (((ltB ((x2.getD p114.toNat ((0, 0) : Int × Int)).1) 0) || (ltB 9 ((x2.getD p114.toNat ((0, 0) : Int × Int)).1))) || (ltB ((x2.getD p114.toNat ((0, 0) : Int × Int)).2) 0)) := hp 13 rfl
              have e73 : sl a 73 = gv (!(((ltB ((x2.getD p114.toNat ((0, 0) : Int × Int)).1) 0) || (ltB 9 ((x2.getD p114.toNat ((0, 0) : Int × Int)).1))) || (ltB ((x2.getD p114.toNat ((0, 0) : Int × Int)).2) 0))) (.int .i64 ((x2.getD p114.toNat ((0, 0) : Int × Int)).2)) := hp 15 rfl
              have e76 : sl a 76 = gv (!(((ltB ((x2.getD p114.toNat ((0, 0) : Int × Int)).1) 0) || (ltB 9 ((x2.getD p114.toNat ((0, 0) : Int × Int)).1))) || (ltB ((x2.getD p114.toNat ((0, 0) : Int × Int)).2) 0))) (.int .i64 (x0.length : Int)) := hp 18 rfl
              rcases (Bool.eq_false_or_eq_true (!(((ltB ((x2.getD p114.toNat ((0, 0) : Int × Int)).1) 0) || (ltB 9 ((x2.getD p114.toNat ((0, 0) : Int × Int)).1))) || (ltB ((x2.getD p114.toNat ((0, 0) : Int × Int)).2) 0)))).symm with hg | hg
              · exact .inr (.inr (.inr ⟨gr_eg rfl (yf (gr_yield rfl rfl e71)) hg, (gv_f hg).symm, S⟩))
              · exact .inl ⟨gr_eg rfl (yf (gr_yield rfl rfl e71)) hg, .bool (leB (x0.length : Int) ((x2.getD p114.toNat ((0, 0) : Int × Int)).2)), u, (run_geq ((ev_sl e73).trans (gv_t hg)) ((ev_sl e76).trans (gv_t hg)) rfl), (gv_t hg).symm, S⟩
            · intro a u X hB hu hp hr hz hl S
              replace S : St w u ([] ++ X) := S
              have e71 : sl a 71 = .bool (((ltB ((x2.getD p114.toNat ((0, 0) : Int × Int)).1) 0) || (ltB 9 ((x2.getD p114.toNat ((0, 0) : Int × Int)).1))) || (ltB ((x2.getD p114.toNat ((0, 0) : Int × Int)).2) 0)) := hp 13 rfl
              have e77 : sl a 77 = gv (!(((ltB ((x2.getD p114.toNat ((0, 0) : Int × Int)).1) 0) || (ltB 9 ((x2.getD p114.toNat ((0, 0) : Int × Int)).1))) || (ltB ((x2.getD p114.toNat ((0, 0) : Int × Int)).2) 0))) (.bool (leB (x0.length : Int) ((x2.getD p114.toNat ((0, 0) : Int × Int)).2))) := hp 19 rfl
              exact .inl ⟨rfl, .bool ((((ltB ((x2.getD p114.toNat ((0, 0) : Int × Int)).1) 0) || (ltB 9 ((x2.getD p114.toNat ((0, 0) : Int × Int)).1))) || (ltB ((x2.getD p114.toNat ((0, 0) : Int × Int)).2) 0)) || (leB (x0.length : Int) ((x2.getD p114.toNat ((0, 0) : Int × Int)).2))), u, (run_pick_or rfl (ev_sl e71) (ev_const _ _) (fun hp => ((ev_sl e77).trans (gv_t (not_t hp))))), rfl, S⟩
            · intro a u X hB hu hp hr hz hl S
              replace S : St w u ([] ++ X) := S
              have e78 : sl a 78 = .bool ((((ltB ((x2.getD p114.toNat ((0, 0) : Int × Int)).1) 0) || (ltB 9 ((x2.getD p114.toNat ((0, 0) : Int × Int)).1))) || (ltB ((x2.getD p114.toNat ((0, 0) : Int × Int)).2) 0)) || (leB (x0.length : Int) ((x2.getD p114.toNat ((0, 0) : Int × Int)).2))) := hp 20 rfl
              exact .inl ⟨rfl, .bool ((((ltB ((x2.getD p114.toNat ((0, 0) : Int × Int)).1) 0) || (ltB 9 ((x2.getD p114.toNat ((0, 0) : Int × Int)).1))) || (ltB ((x2.getD p114.toNat ((0, 0) : Int × Int)).2) 0)) || (leB (x0.length : Int) ((x2.getD p114.toNat ((0, 0) : Int × Int)).2))), u, (run_move rfl (ev_sl e78)), rfl, S⟩
            · intro a u X hB hu hp hr hz hl S
              replace S : St w u ([] ++ X) := S
              have e79 : sl a 79 = .bool ((((ltB ((x2.getD p114.toNat ((0, 0) : Int × Int)).1) 0) || (ltB 9 ((x2.getD p114.toNat ((0, 0) : Int × Int)).1))) || (ltB ((x2.getD p114.toNat ((0, 0) : Int × Int)).2) 0)) || (leB (x0.length : Int) ((x2.getD p114.toNat ((0, 0) : Int × Int)).2))) := hp 21 rfl
              rcases (Bool.eq_false_or_eq_true (!((((ltB ((x2.getD p114.toNat ((0, 0) : Int × Int)).1) 0) || (ltB 9 ((x2.getD p114.toNat ((0, 0) : Int × Int)).1))) || (ltB ((x2.getD p114.toNat ((0, 0) : Int × Int)).2) 0)) || (leB (x0.length : Int) ((x2.getD p114.toNat ((0, 0) : Int × Int)).2))))).symm with hg | hg
              · exact .inr (.inr (.inr ⟨gr_eg rfl (yf (gr_yield rfl rfl e79)) hg, (gv_f hg).symm, S⟩))
              · exact .inl ⟨gr_eg rfl (yf (gr_yield rfl rfl e79)) hg, .pointer (some ⟨g101, 1, none⟩), u, (run_fieldAddr rfl fl31_1 (hF.evB hB rfl rfl) rfl), (gv_t hg).symm, S⟩
            · intro a u X hB hu hp hr hz hl S
              replace S : St w u ([] ++ X) := S
              have e79 : sl a 79 = .bool ((((ltB ((x2.getD p114.toNat ((0, 0) : Int × Int)).1) 0) || (ltB 9 ((x2.getD p114.toNat ((0, 0) : Int × Int)).1))) || (ltB ((x2.getD p114.toNat ((0, 0) : Int × Int)).2) 0)) || (leB (x0.length : Int) ((x2.getD p114.toNat ((0, 0) : Int × Int)).2))) := hp 21 rfl
              have e80 : sl a 80 = gv (!((((ltB ((x2.getD p114.toNat ((0, 0) : Int × Int)).1) 0) || (ltB 9 ((x2.getD p114.toNat ((0, 0) : Int × Int)).1))) || (ltB ((x2.getD p114.toNat ((0, 0) : Int × Int)).2) 0)) || (leB (x0.length : Int) ((x2.getD p114.toNat ((0, 0) : Int × Int)).2)))) (.pointer (some ⟨g101, 1, none⟩)) := hp 22 rfl
              rcases (Bool.eq_false_or_eq_true (!((((ltB ((x2.getD p114.toNat ((0, 0) : Int × Int)).1) 0) || (ltB 9 ((x2.getD p114.toNat ((0, 0) : Int × Int)).1))) || (ltB ((x2.getD p114.toNat ((0, 0) : Int × Int)).2) 0)) || (leB (x0.length : Int) ((x2.getD p114.toNat ((0, 0) : Int × Int)).2))))).symm with hg | hg
              · exact .inr (.inr (.inr ⟨gr_eg rfl (yf (gr_yield rfl rfl e79)) hg, (gv_f hg).symm, S⟩))
              · exact .inl ⟨gr_eg rfl (yf (gr_yield rfl rfl e79)) hg, .slice A1 x1.length c1, u, (run_load1 rfl one22 ((ev_sl e80).trans (gv_t hg)) ((gr_box S hl 1 rfl).cell rfl)), (gv_t hg).symm, S⟩
            · intro a u X hB hu hp hr hz hl S
              replace S : St w u ([] ++ X) := S
              have e79 : sl a 79 = .bool ((((ltB ((x2.getD p114.toNat ((0, 0) : Int × Int)).1) 0) || (ltB 9 ((x2.getD p114.toNat ((0, 0) : Int × Int)).1))) || (ltB ((x2.getD p114.toNat ((0, 0) : Int × Int)).2) 0)) || (leB (x0.length : Int) ((x2.getD p114.toNat ((0, 0) : Int × Int)).2))) := hp 21 rfl
              rcases (Bool.eq_false_or_eq_true (!((((ltB ((x2.getD p114.toNat ((0, 0) : Int × Int)).1) 0) || (ltB 9 ((x2.getD p114.toNat ((0, 0) : Int × Int)).1))) || (ltB ((x2.getD p114.toNat ((0, 0) : Int × Int)).2) 0)) || (leB (x0.length : Int) ((x2.getD p114.toNat ((0, 0) : Int × Int)).2))))).symm with hg | hg
              · exact .inr (.inr (.inr ⟨gr_eg rfl (yf (gr_yield rfl rfl e79)) hg, (gv_f hg).symm, S⟩))
              · exact .inl ⟨gr_eg rfl (yf (gr_yield rfl rfl e79)) hg, .pointer (some ⟨g117, 1, none⟩), u, (run_fieldAddr rfl fl56_1 (hF.evB hB rfl rfl) rfl), (gv_t hg).symm, S⟩
            · intro a u X hB hu hp hr hz hl S
              replace S : St w u ([] ++ X) := S
              have e79 : sl a 79 = .bool ((((ltB ((x2.getD p114.toNat ((0, 0) : Int × Int)).1) 0) || (ltB 9 ((x2.getD p114.toNat ((0, 0) : Int × Int)).1))) || (ltB ((x2.getD p114.toNat ((0, 0) : Int × Int)).2) 0)) || (leB (x0.length : Int) ((x2.getD p114.toNat ((0, 0) : Int × Int)).2))) := hp 21 rfl
              have e82 : sl a 82 = gv (!((((ltB ((x2.getD p114.toNat ((0, 0) : Int × Int)).1) 0) || (ltB 9 ((x2.getD p114.toNat ((0, 0) : Int × Int)).1))) || (ltB ((x2.getD p114.toNat ((0, 0) : Int × Int)).2) 0)) || (leB (x0.length : Int) ((x2.getD p114.toNat ((0, 0) : Int × Int)).2)))) (.pointer (some ⟨g117, 1, none⟩)) := hp 24 rfl
              rcases (Bool.eq_false_or_eq_true (!((((ltB ((x2.getD p114.toNat ((0, 0) : Int × Int)).1) 0) || (ltB 9 ((x2.getD p114.toNat ((0, 0) : Int × Int)).1))) || (ltB ((x2.getD p114.toNat ((0, 0) : Int × Int)).2) 0)) || (leB (x0.length : Int) ((x2.getD p114.toNat ((0, 0) : Int × Int)).2))))).symm with hg | hg
              · exact .inr (.inr (.inr ⟨gr_eg rfl (yf (gr_yield rfl rfl e79)) hg, (gv_f hg).symm, S⟩))
              · exact .inl ⟨gr_eg rfl (yf (gr_yield rfl rfl e79)) hg, .int .i64 ((x2.getD p114.toNat ((0, 0) : Int × Int)).2), u, (run_load1 rfl one3 ((ev_sl e82).trans (gv_t hg)) ((gr_box S hl 0 rfl).cell rfl)), (gv_t hg).symm, S⟩
            · intro a u X hB hu hp hr hz hl S
              replace S : St w u ([] ++ X) := S
              have e79 : sl a 79 = .bool ((((ltB ((x2.getD p114.toNat ((0, 0) : Int × Int)).1) 0) || (ltB 9 ((x2.getD p114.toNat ((0, 0) : Int × Int)).1))) || (ltB ((x2.getD p114.toNat ((0, 0) : Int × Int)).2) 0)) || (leB (x0.length : Int) ((x2.getD p114.toNat ((0, 0) : Int × Int)).2))) := hp 21 rfl
              have e81 : sl a 81 = gv (!((((ltB ((x2.getD p114.toNat ((0, 0) : Int × Int)).1) 0) || (ltB 9 ((x2.getD p114.toNat ((0, 0) : Int × Int)).1))) || (ltB ((x2.getD p114.toNat ((0, 0) : Int × Int)).2) 0)) || (leB (x0.length : Int) ((x2.getD p114.toNat ((0, 0) : Int × Int)).2)))) (.slice A1 x1.length c1) := hp 23 rfl
              have e83 : sl a 83 = gv (!((((ltB ((x2.getD p114.toNat ((0, 0) : Int × Int)).1) 0) || (ltB 9 ((x2.getD p114.toNat ((0, 0) : Int × Int)).1))) || (ltB ((x2.getD p114.toNat ((0, 0) : Int × Int)).2) 0)) || (leB (x0.length : Int) ((x2.getD p114.toNat ((0, 0) : Int × Int)).2)))) (.int .i64 ((x2.getD p114.toNat ((0, 0) : Int × Int)).2)) := hp 25 rfl
              rcases (Bool.eq_false_or_eq_true (!((((ltB ((x2.getD p114.toNat ((0, 0) : Int × Int)).1) 0) || (ltB 9 ((x2.getD p114.toNat ((0, 0) : Int × Int)).1))) || (ltB ((x2.getD p114.toNat ((0, 0) : Int × Int)).2) 0)) || (leB (x0.length : Int) ((x2.getD p114.toNat ((0, 0) : Int × Int)).2))))).symm with hg | hg
              · exact .inr (.inr (.inr ⟨gr_eg rfl (yf (gr_yield rfl rfl e79)) hg, (gv_f hg).symm, S⟩))
              · exact .inl ⟨gr_eg rfl (yf (gr_yield rfl rfl e79)) hg, .pointer (some ⟨adB A1, adO A1 + (((x2.getD p114.toNat ((0, 0) : Int × Int)).2).toNat) * 1, none⟩), u, (run_indexAddr (b := adB A1) (off := adO A1) rfl Try.underlying22 sz4 (((ev_sl e81).trans (gv_t hg)).trans (congrArg (fun A => Value.slice A x1.length c1) ((S.rc0 h1.rc).rd.ad (ix_pos (hk118 hg))))) ((ev_sl e83).trans (gv_t hg)) (hk118 hg).1 (hk118 hg).2 (k' := adO A1 + (((x2.getD p114.toNat ((0, 0) : Int × Int)).2).toNat) * 1) rfl), (gv_t hg).symm, S⟩
            · intro a u X hB hu hp hr hz hl S
              replace S : St w u ([] ++ X) := S
              have e79 : sl a 79 = .bool ((((ltB ((x2.getD p114.toNat ((0, 0) : Int × Int)).1) 0) || (ltB 9 ((x2.getD p114.toNat ((0, 0) : Int × Int)).1))) || (ltB ((x2.getD p114.toNat ((0, 0) : Int × Int)).2) 0)) || (leB (x0.length : Int) ((x2.getD p114.toNat ((0, 0) : Int × Int)).2))) := hp 21 rfl
              have e84 : sl a 84 = gv (!((((ltB ((x2.getD p114.toNat ((0, 0) : Int × Int)).1) 0) || (ltB 9 ((x2.getD p114.toNat ((0, 0) : Int × Int)).1))) || (ltB ((x2.getD p114.toNat ((0, 0) : Int × Int)).2) 0)) || (leB (x0.length : Int) ((x2.getD p114.toNat ((0, 0) : Int × Int)).2)))) (.pointer (some ⟨adB A1, adO A1 + (((x2.getD p114.toNat ((0, 0) : Int × Int)).2).toNat) * 1, none⟩)) := hp 26 rfl
              rcases (Bool.eq_false_or_eq_true (!((((ltB ((x2.getD p114.toNat ((0, 0) : Int × Int)).1) 0) || (ltB 9 ((x2.getD p114.toNat ((0, 0) : Int × Int)).1))) || (ltB ((x2.getD p114.toNat ((0, 0) : Int × Int)).2) 0)) || (leB (x0.length : Int) ((x2.getD p114.toNat ((0, 0) : Int × Int)).2))))).symm with hg | hg
              · exact .inr (.inr (.inr ⟨gr_eg rfl (yf (gr_yield rfl rfl e79)) hg, (gv_f hg).symm, S⟩))
              · exact .inl ⟨gr_eg rfl (yf (gr_yield rfl rfl e79)) hg, .bool (x1.getD (((x2.getD p114.toNat ((0, 0) : Int × Int)).2).toNat) false), u, (run_load1 rfl one4 ((ev_sl e84).trans (gv_t hg)) (rd_el0 (l := x1) (S.rc0 h1.rc).rd rfl eB_len false (ix_ltn (hk118 hg) rfl) rfl)), (gv_t hg).symm, S⟩
            · intro a u X hB hu hp hr hz hl S
              replace S : St w u ([] ++ X) := S
              have e79 : sl a 79 = .bool ((((ltB ((x2.getD p114.toNat ((0, 0) : Int × Int)).1) 0) || (ltB 9 ((x2.getD p114.toNat ((0, 0) : Int × Int)).1))) || (ltB ((x2.getD p114.toNat ((0, 0) : Int × Int)).2) 0)) || (leB (x0.length : Int) ((x2.getD p114.toNat ((0, 0) : Int × Int)).2))) := hp 21 rfl
              have e85 : sl a 85 = gv (!((((ltB ((x2.getD p114.toNat ((0, 0) : Int × Int)).1) 0) || (ltB 9 ((x2.getD p114.toNat ((0, 0) : Int × Int)).1))) || (ltB ((x2.getD p114.toNat ((0, 0) : Int × Int)).2) 0)) || (leB (x0.length : Int) ((x2.getD p114.toNat ((0, 0) : Int × Int)).2)))) (.bool (x1.getD (((x2.getD p114.toNat ((0, 0) : Int × Int)).2).toNat) false)) := hp 27 rfl
              rcases (Bool.eq_false_or_eq_true (!((((ltB ((x2.getD p114.toNat ((0, 0) : Int × Int)).1) 0) || (ltB 9 ((x2.getD p114.toNat ((0, 0) : Int × Int)).1))) || (ltB ((x2.getD p114.toNat ((0, 0) : Int × Int)).2) 0)) || (leB (x0.length : Int) ((x2.getD p114.toNat ((0, 0) : Int × Int)).2))))).symm with hg | hg
              · exact .inr (.inr (.inr ⟨gr_eg rfl (yf (gr_yield rfl rfl e79)) hg, (gv_f hg).symm, S⟩))
              · exact .inl ⟨gr_eg rfl (yf (gr_yield rfl rfl e79)) hg, .bool (!(x1.getD (((x2.getD p114.toNat ((0, 0) : Int × Int)).2).toNat) false)), u, (run_not rfl ((ev_sl e85).trans (gv_t hg))), (gv_t hg).symm, S⟩
            · intro a u X hB hu hp hr hz hl S
              replace S : St w u ([] ++ X) := S
              have e79 : sl a 79 = .bool ((((ltB ((x2.getD p114.toNat ((0, 0) : Int × Int)).1) 0) || (ltB 9 ((x2.getD p114.toNat ((0, 0) : Int × Int)).1))) || (ltB ((x2.getD p114.toNat ((0, 0) : Int × Int)).2) 0)) || (leB (x0.length : Int) ((x2.getD p114.toNat ((0, 0) : Int × Int)).2))) := hp 21 rfl
              have e86 : sl a 86 = gv (!((((ltB ((x2.getD p114.toNat ((0, 0) : Int × Int)).1) 0) || (ltB 9 ((x2.getD p114.toNat ((0, 0) : Int × Int)).1))) || (ltB ((x2.getD p114.toNat ((0, 0) : Int × Int)).2) 0)) || (leB (x0.length : Int) ((x2.getD p114.toNat ((0, 0) : Int × Int)).2)))) (.bool (!(x1.getD (((x2.getD p114.toNat ((0, 0) : Int × Int)).2).toNat) false))) := hp 28 rfl
              exact .inl ⟨rfl, .bool (((((ltB ((x2.getD p114.toNat ((0, 0) : Int × Int)).1) 0) || (ltB 9 ((x2.getD p114.toNat ((0, 0) : Int × Int)).1))) || (ltB ((x2.getD p114.toNat ((0, 0) : Int × Int)).2) 0)) || (leB (x0.length : Int) ((x2.getD p114.toNat ((0, 0) : Int × Int)).2))) || (!(x1.getD (((x2.getD p114.toNat ((0, 0) : Int × Int)).2).toNat) false))), u, (run_pick_or rfl (ev_sl e79) (ev_const _ _) (fun hp => ((ev_sl e86).trans (gv_t (not_t hp))))), rfl, S⟩
            · intro a u X hB hu hp hr hz hl S
              replace S : St w u ([] ++ X) := S
              have e87 : sl a 87 = .bool (((((ltB ((x2.getD p114.toNat ((0, 0) : Int × Int)).1) 0) || (ltB 9 ((x2.getD p114.toNat ((0, 0) : Int × Int)).1))) || (ltB ((x2.getD p114.toNat ((0, 0) : Int × Int)).2) 0)) || (leB (x0.length : Int) ((x2.getD p114.toNat ((0, 0) : Int × Int)).2))) || (!(x1.getD (((x2.getD p114.toNat ((0, 0) : Int × Int)).2).toNat) false))) := hp 29 rfl
              exact .inl ⟨rfl, .bool (((((ltB ((x2.getD p114.toNat ((0, 0) : Int × Int)).1) 0) || (ltB 9 ((x2.getD p114.toNat ((0, 0) : Int × Int)).1))) || (ltB ((x2.getD p114.toNat ((0, 0) : Int × Int)).2) 0)) || (leB (x0.length : Int) ((x2.getD p114.toNat ((0, 0) : Int × Int)).2))) || (!(x1.getD (((x2.getD p114.toNat ((0, 0) : Int × Int)).2).toNat) false))), u, (run_move rfl (ev_sl e87)), rfl, S⟩
            · intro a u X hB hu hp hr hz hl S
              replace S : St w u ([] ++ X) := S
              have e88 : sl a 88 = .bool (((((ltB ((x2.getD p114.toNat ((0, 0) : Int × Int)).1) 0) || (ltB 9 ((x2.getD p114.toNat ((0, 0) : Int × Int)).1))) || (ltB ((x2.getD p114.toNat ((0, 0) : Int × Int)).2) 0)) || (leB (x0.length : Int) ((x2.getD p114.toNat ((0, 0) : Int × Int)).2))) || (!(x1.getD (((x2.getD p114.toNat ((0, 0) : Int × Int)).2).toNat) false))) := hp 30 rfl
              rcases (Bool.eq_false_or_eq_true (!(((((ltB ((x2.getD p114.toNat ((0, 0) : Int × Int)).1) 0) || (ltB 9 ((x2.getD p114.toNat ((0, 0) : Int × Int)).1))) || (ltB ((x2.getD p114.toNat ((0, 0) : Int × Int)).2) 0)) || (leB (x0.length : Int) ((x2.getD p114.toNat ((0, 0) : Int × Int)).2))) || (!(x1.getD (((x2.getD p114.toNat ((0, 0) : Int × Int)).2).toNat) false))))).symm with hg | hg
              · exact .inr (.inr (.inr ⟨gr_eg rfl (yf (gr_yield rfl rfl e88)) hg, (gv_f hg).symm, S⟩))
              · exact .inl ⟨gr_eg rfl (yf (gr_yield rfl rfl e88)) hg, .pointer (some ⟨g101, 2, none⟩), u, (run_fieldAddr rfl fl31_2 (hF.evB hB rfl rfl) rfl), (gv_t hg).symm, S⟩
            · intro a u X hB hu hp hr hz hl S
              replace S : St w u ([] ++ X) := S
              have e88 : sl a 88 = .bool (((((ltB ((x2.getD p114.toNat ((0, 0) : Int × Int)).1) 0) || (ltB 9 ((x2.getD p114.toNat ((0, 0) : Int × Int)).1))) || (ltB ((x2.getD p114.toNat ((0, 0) : Int × Int)).2) 0)) || (leB (x0.length : Int) ((x2.getD p114.toNat ((0, 0) : Int × Int)).2))) || (!(x1.getD (((x2.getD p114.toNat ((0, 0) : Int × Int)).2).toNat) false))) := hp 30 rfl
              have e89 : sl a 89 = gv (!(((((ltB ((x2.getD p114.toNat ((0, 0) : Int × Int)).1) 0) || (ltB 9 ((x2.getD p114.toNat ((0, 0) : Int × Int)).1))) || (ltB ((x2.getD p114.toNat ((0, 0) : Int × Int)).2) 0)) || (leB (x0.length : Int) ((x2.getD p114.toNat ((0, 0) : Int × Int)).2))) || (!(x1.getD (((x2.getD p114.toNat ((0, 0) : Int × Int)).2).toNat) false)))) (.pointer (some ⟨g101, 2, none⟩)) := hp 31 rfl
              rcases (Bool.eq_false_or_eq_true (!(((((ltB ((x2.getD p114.toNat ((0, 0) : Int × Int)).1) 0) || (ltB 9 ((x2.getD p114.toNat ((0, 0) : Int × Int)).1))) || (ltB ((x2.getD p114.toNat ((0, 0) : Int × Int)).2) 0)) || (leB (x0.length : Int) ((x2.getD p114.toNat ((0, 0) : Int × Int)).2))) || (!(x1.getD (((x2.getD p114.toNat ((0, 0) : Int × Int)).2).toNat) false))))).symm with hg | hg
              · exact .inr (.inr (.inr ⟨gr_eg rfl (yf (gr_yield rfl rfl e88)) hg, (gv_f hg).symm, S⟩))
              · exact .inl ⟨gr_eg rfl (yf (gr_yield rfl rfl e88)) hg, .slice A2 x2.length c2, u, (run_load1 rfl one29 ((ev_sl e89).trans (gv_t hg)) ((gr_box S hl 1 rfl).cell rfl)), (gv_t hg).symm, S⟩
            · intro a u X hB hu hp hr hz hl S
              replace S : St w u ([] ++ X) := S
              have e88 : sl a 88 = .bool (((((ltB ((x2.getD p114.toNat ((0, 0) : Int × Int)).1) 0) || (ltB 9 ((x2.getD p114.toNat ((0, 0) : Int × Int)).1))) || (ltB ((x2.getD p114.toNat ((0, 0) : Int × Int)).2) 0)) || (leB (x0.length : Int) ((x2.getD p114.toNat ((0, 0) : Int × Int)).2))) || (!(x1.getD (((x2.getD p114.toNat ((0, 0) : Int × Int)).2).toNat) false))) := hp 30 rfl
              rcases (Bool.eq_false_or_eq_true (!(((((ltB ((x2.getD p114.toNat ((0, 0) : Int × Int)).1) 0) || (ltB 9 ((x2.getD p114.toNat ((0, 0) : Int × Int)).1))) || (ltB ((x2.getD p114.toNat ((0, 0) : Int × Int)).2) 0)) || (leB (x0.length : Int) ((x2.getD p114.toNat ((0, 0) : Int × Int)).2))) || (!(x1.getD (((x2.getD p114.toNat ((0, 0) : Int × Int)).2).toNat) false))))).symm with hg | hg
              · exact .inr (.inr (.inr ⟨gr_eg rfl (yf (gr_yield rfl rfl e88)) hg, (gv_f hg).symm, S⟩))
              · exact .inl ⟨gr_eg rfl (yf (gr_yield rfl rfl e88)) hg, .int .i64 p114, u, (run_move rfl (hF.evB hB rfl rfl)), (gv_t hg).symm, S⟩
            · intro a u X hB hu hp hr hz hl S
              replace S : St w u ([] ++ X) := S
              have e88 : sl a 88 = .bool (((((ltB ((x2.getD p114.toNat ((0, 0) : Int × Int)).1) 0) || (ltB 9 ((x2.getD p114.toNat ((0, 0) : Int × Int)).1))) || (ltB ((x2.getD p114.toNat ((0, 0) : Int × Int)).2) 0)) || (leB (x0.length : Int) ((x2.getD p114.toNat ((0, 0) : Int × Int)).2))) || (!(x1.getD (((x2.getD p114.toNat ((0, 0) : Int × Int)).2).toNat) false))) := hp 30 rfl
              have e90 : sl a 90 = gv (!(((((ltB ((x2.getD p114.toNat ((0, 0) : Int × Int)).1) 0) || (ltB 9 ((x2.getD p114.toNat ((0, 0) : Int × Int)).1))) || (ltB ((x2.getD p114.toNat ((0, 0) : Int × Int)).2) 0)) || (leB (x0.length : Int) ((x2.getD p114.toNat ((0, 0) : Int × Int)).2))) || (!(x1.getD (((x2.getD p114.toNat ((0, 0) : Int × Int)).2).toNat) false)))) (.slice A2 x2.length c2) := hp 32 rfl
              have e91 : sl a 91 = gv (!(((((ltB ((x2.getD p114.toNat ((0, 0) : Int × Int)).1) 0) || (ltB 9 ((x2.getD p114.toNat ((0, 0) : Int × Int)).1))) || (ltB ((x2.getD p114.toNat ((0, 0) : Int × Int)).2) 0)) || (leB (x0.length : Int) ((x2.getD p114.toNat ((0, 0) : Int × Int)).2))) || (!(x1.getD (((x2.getD p114.toNat ((0, 0) : Int × Int)).2).toNat) false)))) (.int .i64 p114) := hp 33 rfl
              rcases (Bool.eq_false_or_eq_true (!(((((ltB ((x2.getD p114.toNat ((0, 0) : Int × Int)).1) 0) || (ltB 9 ((x2.getD p114.toNat ((0, 0) : Int × Int)).1))) || (ltB ((x2.getD p114.toNat ((0, 0) : Int × Int)).2) 0)) || (leB (x0.length : Int) ((x2.getD p114.toNat ((0, 0) : Int × Int)).2))) || (!(x1.getD (((x2.getD p114.toNat ((0, 0) : Int × Int)).2).toNat) false))))).symm with hg | hg
              · exact .inr (.inr (.inr ⟨gr_eg rfl (yf (gr_yield rfl rfl e88)) hg, (gv_f hg).symm, S⟩))
              · exact .inl ⟨gr_eg rfl (yf (gr_yield rfl rfl e88)) hg, .slice (subA c2 ((0 : Int).toNat) 2 A2) ((subL x2 0 p114).length) (c2 - (0 : Int).toNat), u, (run_sliceH (l := x2) rfl Try.underlying29 sz56 ((ev_sl e90).trans (gv_t hg)) ((ev_sl e91).trans (gv_t hg)) (hk119 hg) rfl (S.rc0 h2.rc).cap), (gv_t hg).symm, S⟩
            · intro a u X hB hu hp hr hz hl S
              replace S : St w u ([] ++ X) := S
              have e88 : sl a 88 = .bool (((((ltB ((x2.getD p114.toNat ((0, 0) : Int × Int)).1) 0) || (ltB 9 ((x2.getD p114.toNat ((0, 0) : Int × Int)).1))) || (ltB ((x2.getD p114.toNat ((0, 0) : Int × Int)).2) 0)) || (leB (x0.length : Int) ((x2.getD p114.toNat ((0, 0) : Int × Int)).2))) || (!(x1.getD (((x2.getD p114.toNat ((0, 0) : Int × Int)).2).toNat) false))) := hp 30 rfl
              rcases (Bool.eq_false_or_eq_true (!(((((ltB ((x2.getD p114.toNat ((0, 0) : Int × Int)).1) 0) || (ltB 9 ((x2.getD p114.toNat ((0, 0) : Int × Int)).1))) || (ltB ((x2.getD p114.toNat ((0, 0) : Int × Int)).2) 0)) || (leB (x0.length : Int) ((x2.getD p114.toNat ((0, 0) : Int × Int)).2))) || (!(x1.getD (((x2.getD p114.toNat ((0, 0) : Int × Int)).2).toNat) false))))).symm with hg | hg
              · exact .inr (.inr (.inr ⟨gr_eg rfl (yf (gr_yield rfl rfl e88)) hg, (gv_f hg).symm, S⟩))
              · exact .inl ⟨gr_eg rfl (yf (gr_yield rfl rfl e88)) hg, .agg #[.int .i64 ((x2.getD p114.toNat ((0, 0) : Int × Int)).1), .int .i64 ((x2.getD p114.toNat ((0, 0) : Int × Int)).2)], u, (run_loadN rfl ag56 (hF.evB hB rfl rfl) rfl ((gr_box S hl 0 rfl).cells 0 #[.int .i64 ((x2.getD p114.toNat ((0, 0) : Int × Int)).1), .int .i64 ((x2.getD p114.toNat ((0, 0) : Int × Int)).2)] rfl)), (gv_t hg).symm, S⟩
            · intro a u X hB hu hp hr hz hl S
              replace S : St w u ([] ++ X) := S
              have e88 : sl a 88 = .bool (((((ltB ((x2.getD p114.toNat ((0, 0) : Int × Int)).1) 0) || (ltB 9 ((x2.getD p114.toNat ((0, 0) : Int × Int)).1))) || (ltB ((x2.getD p114.toNat ((0, 0) : Int × Int)).2) 0)) || (leB (x0.length : Int) ((x2.getD p114.toNat ((0, 0) : Int × Int)).2))) || (!(x1.getD (((x2.getD p114.toNat ((0, 0) : Int × Int)).2).toNat) false))) := hp 30 rfl
              have e92 : sl a 92 = gv (!(((((ltB ((x2.getD p114.toNat ((0, 0) : Int × Int)).1) 0) || (ltB 9 ((x2.getD p114.toNat ((0, 0) : Int × Int)).1))) || (ltB ((x2.getD p114.toNat ((0, 0) : Int × Int)).2) 0)) || (leB (x0.length : Int) ((x2.getD p114.toNat ((0, 0) : Int × Int)).2))) || (!(x1.getD (((x2.getD p114.toNat ((0, 0) : Int × Int)).2).toNat) false)))) (.slice (subA c2 ((0 : Int).toNat) 2 A2) ((subL x2 0 p114).length) (c2 - (0 : Int).toNat)) := hp 34 rfl
              have e93 : sl a 93 = gv (!(((((ltB ((x2.getD p114.toNat ((0, 0) : Int × Int)).1) 0) || (ltB 9 ((x2.getD p114.toNat ((0, 0) : Int × Int)).1))) || (ltB ((x2.getD p114.toNat ((0, 0) : Int × Int)).2) 0)) || (leB (x0.length : Int) ((x2.getD p114.toNat ((0, 0) : Int × Int)).2))) || (!(x1.getD (((x2.getD p114.toNat ((0, 0) : Int × Int)).2).toNat) false)))) (.agg #[.int .i64 ((x2.getD p114.toNat ((0, 0) : Int × Int)).1), .int .i64 ((x2.getD p114.toNat ((0, 0) : Int × Int)).2)]) := hp 35 rfl
              rcases (Bool.eq_false_or_eq_true (!(((((ltB ((x2.getD p114.toNat ((0, 0) : Int × Int)).1) 0) || (ltB 9 ((x2.getD p114.toNat ((0, 0) : Int × Int)).1))) || (ltB ((x2.getD p114.toNat ((0, 0) : Int × Int)).2) 0)) || (leB (x0.length : Int) ((x2.getD p114.toNat ((0, 0) : Int × Int)).2))) || (!(x1.getD (((x2.getD p114.toNat ((0, 0) : Int × Int)).2).toNat) false))))).symm with hg | hg
              · exact .inr (.inr (.inr ⟨gr_eg rfl (yf (gr_yield rfl rfl e88)) hg, (gv_f hg).symm, S⟩))
              · refine .inr (.inr (.inl ⟨gr_eg rfl (yf (gr_yield rfl rfl e88)) hg, _, _, (run_call (vs := [.slice (subA c2 ((0 : Int).toNat) 2 A2) ((subL x2 0 p114).length) (c2 - (0 : Int).toNat), .agg #[.int .i64 ((x2.getD p114.toNat ((0, 0) : Int × Int)).1), .int .i64 ((x2.getD p114.toNat ((0, 0) : Int × Int)).2)]]) rfl rfl co43 ⟨((ev_sl e92).trans (gv_t hg)), ((ev_sl e93).trans (gv_t hg)), trivial⟩), ?_⟩))
                refine Calls.mono (c_slices_Contains_impl_Permit_impl_Permit (x0 := subL x2 0 p114) (x1 := (x2.getD p114.toNat ((0, 0) : Int × Int)).1) (x2 := (x2.getD p114.toNat ((0, 0) : Int × Int)).2) ⟨(rc_sub ePermit_len (hk119 hg) rfl (S.rc0 h2.rc)), rfl⟩ (gb_t h120 hg)) ?_
                rintro e w1 ⟨rfl, T⟩
                exact ⟨_, rfl, (gv_t hg).symm, S.call0 T⟩
            · intro a u X hB hu hp hr hz hl S
              replace S : St w u ([] ++ X) := S
              have e88 : sl a 88 = .bool (((((ltB ((x2.getD p114.toNat ((0, 0) : Int × Int)).1) 0) || (ltB 9 ((x2.getD p114.toNat ((0, 0) : Int × Int)).1))) || (ltB ((x2.getD p114.toNat ((0, 0) : Int × Int)).2) 0)) || (leB (x0.length : Int) ((x2.getD p114.toNat ((0, 0) : Int × Int)).2))) || (!(x1.getD (((x2.getD p114.toNat ((0, 0) : Int × Int)).2).toNat) false))) := hp 30 rfl
              have e94 : sl a 94 = gv (!(((((ltB ((x2.getD p114.toNat ((0, 0) : Int × Int)).1) 0) || (ltB 9 ((x2.getD p114.toNat ((0, 0) : Int × Int)).1))) || (ltB ((x2.getD p114.toNat ((0, 0) : Int × Int)).2) 0)) || (leB (x0.length : Int) ((x2.getD p114.toNat ((0, 0) : Int × Int)).2))) || (!(x1.getD (((x2.getD p114.toNat ((0, 0) : Int × Int)).2).toNat) false)))) (.bool p120) := hp 36 rfl
              exact .inl ⟨rfl, .bool ((((((ltB ((x2.getD p114.toNat ((0, 0) : Int × Int)).1) 0) || (ltB 9 ((x2.getD p114.toNat ((0, 0) : Int × Int)).1))) || (ltB ((x2.getD p114.toNat ((0, 0) : Int × Int)).2) 0)) || (leB (x0.length : Int) ((x2.getD p114.toNat ((0, 0) : Int × Int)).2))) || (!(x1.getD (((x2.getD p114.toNat ((0, 0) : Int × Int)).2).toNat) false))) || p120), u, (run_pick_or rfl (ev_sl e88) (ev_const _ _) (fun hp => ((ev_sl e94).trans (gv_t (not_t hp))))), rfl, S⟩
          · intro a u hB hp S
            obtain ⟨q0, q1, q2, q3, q4, q5, q6, q7, q8, q9, q10, q11, q12, q13, q14, q15, q16, q17, q18, q19, q20, q21, q22, q23, q24, q25, q26, q27, q28, q29, q30, q31, q32, q33, q34, q35, q36, q37, _⟩ := hp
            have e58 : sl a 58 = .pointer (some ⟨g117, 0, none⟩) := q0
            have e59 : sl a 59 = .int .i64 ((x2.getD p114.toNat ((0, 0) : Int × Int)).1) := q1
            have e60 : sl a 60 = .bool (ltB ((x2.getD p114.toNat ((0, 0) : Int × Int)).1) 0) := q2
            have e61 : sl a 61 = .bool (ltB ((x2.getD p114.toNat ((0, 0) : Int × Int)).1) 0) := q3
            have e62 : sl a 62 = gv (!(ltB ((x2.getD p114.toNat ((0, 0) : Int × Int)).1) 0)) (.pointer (some ⟨g117, 0, none⟩)) := q4
            have e63 : sl a 63 = gv (!(ltB ((x2.getD p114.toNat ((0, 0) : Int × Int)).1) 0)) (.int .i64 ((x2.getD p114.toNat ((0, 0) : Int × Int)).1)) := q5
            have e64 : sl a 64 = gv (!(ltB ((x2.getD p114.toNat ((0, 0) : Int × Int)).1) 0)) (.bool (ltB 9 ((x2.getD p114.toNat ((0, 0) : Int × Int)).1))) := q6
            have e65 : sl a 65 = .bool ((ltB ((x2.getD p114.toNat ((0, 0) : Int × Int)).1) 0) || (ltB 9 ((x2.getD p114.toNat ((0, 0) : Int × Int)).1))) := q7
            have e66 : sl a 66 = .bool ((ltB ((x2.getD p114.toNat ((0, 0) : Int × Int)).1) 0) || (ltB 9 ((x2.getD p114.toNat ((0, 0) : Int × Int)).1))) := q8
            have e67 : sl a 67 = gv (!((ltB ((x2.getD p114.toNat ((0, 0) : Int × Int)).1) 0) || (ltB 9 ((x2.getD p114.toNat ((0, 0) : Int × Int)).1)))) (.pointer (some ⟨g117, 1, none⟩)) := q9
            have e68 : sl a 68 = gv (!((ltB ((x2.getD p114.toNat ((0, 0) : Int × Int)).1) 0) || (ltB 9 ((x2.getD p114.toNat ((0, 0) : Int × Int)).1)))) (.int .i64 ((x2.getD p114.toNat ((0, 0) : Int × Int)).2)) := q10
            have e69 : sl a 69 = gv (!((ltB ((x2.getD p114.toNat ((0, 0) : Int × Int)).1) 0) || (ltB 9 ((x2.getD p114.toNat ((0, 0) : Int × Int)).1)))) (.bool (ltB ((x2.getD p114.toNat ((0, 0) : Int × Int)).2) 0)) := q11
            have e70 : sl a 70 = .bool (((ltB ((x2.getD p114.toNat ((0, 0) : Int × Int)).1) 0) || (ltB 9 ((x2.getD p114.toNat ((0, 0) : Int × Int)).1))) || (ltB ((x2.getD p114.toNat ((0, 0) : Int × Int)).2) 0)) := q12
            have e71 : sl a 71 = .bool (((ltB ((x2.getD p114.toNat ((0, 0) : Int × Int)).1) 0) || (ltB 9 ((x2.getD p114.toNat ((0, 0) : Int × Int)).1))) || (ltB ((x2.getD p114.toNat ((0, 0) : Int × Int)).2) 0)) := q13
            have e72 : sl a 72 = gv (!(((ltB ((x2.getD p114.toNat ((0, 0) : Int × Int)).1) 0) || (ltB 9 ((x2.getD p114.toNat ((0, 0) : Int × Int)).1))) || (ltB ((x2.getD p114.toNat ((0, 0) : Int × Int)).2) 0))) (.pointer (some ⟨g117, 1, none⟩)) := q14
            have e73 : sl a 73 = gv (!(((ltB ((x2.getD p114.toNat ((0, 0) : Int × Int)).1) 0) || (ltB 9 ((x2.getD p114.toNat ((0, 0) : Int × Int)).1))) || (ltB ((x2.getD p114.toNat ((0, 0) : Int × Int)).2) 0))) (.int .i64 ((x2.getD p114.toNat ((0, 0) : Int × Int)).2)) := q15
            have e74 : sl a 74 = gv (!(((ltB ((x2.getD p114.toNat ((0, 0) : Int × Int)).1) 0) || (ltB 9 ((x2.getD p114.toNat ((0, 0) : Int × Int)).1))) || (ltB ((x2.getD p114.toNat ((0, 0) : Int × Int)).2) 0))) (.pointer (some ⟨g101, 0, none⟩)) := q16
            have e75 : sl a 75 = gv (!(((ltB ((x2.getD p114.toNat ((0, 0) : Int × Int)).1) 0) || (ltB 9 ((x2.getD p114.toNat ((0, 0) : Int × Int)).1))) || (ltB ((x2.getD p114.toNat ((0, 0) : Int × Int)).2) 0))) (.slice A0 x0.length c0) := q17
            have e76 : sl a 76 = gv (!(((ltB ((x2.getD p114.toNat ((0, 0) : Int × Int)).1) 0) || (ltB 9 ((x2.getD p114.toNat ((0, 0) : Int × Int)).1))) || (ltB ((x2.getD p114.toNat ((0, 0) : Int × Int)).2) 0))) (.int .i64 (x0.length : Int)) := q18
            have e77 : sl a 77 = gv (!(((ltB ((x2.getD p114.toNat ((0, 0) : Int × Int)).1) 0) || (ltB 9 ((x2.getD p114.toNat ((0, 0) : Int × Int)).1))) || (ltB ((x2.getD p114.toNat ((0, 0) : Int × Int)).2) 0))) (.bool (leB (x0.length : Int) ((x2.getD p114.toNat ((0, 0) : Int × Int)).2))) := q19
            have e78 : sl a 78 = .bool ((((ltB ((x2.getD p114.toNat ((0, 0) : Int × Int)).1) 0) || (ltB 9 ((x2.getD p114.toNat ((0, 0) : Int × Int)).1))) || (ltB ((x2.getD p114.toNat ((0, 0) : Int × Int)).2) 0)) || (leB (x0.length : Int) ((x2.getD p114.toNat ((0, 0) : Int × Int)).2))) := q20
            have e79 : sl a 79 = .bool ((((ltB ((x2.getD p114.toNat ((0, 0) : Int × Int)).1) 0) || (ltB 9 ((x2.getD p114.toNat ((0, 0) : Int × Int)).1))) || (ltB ((x2.getD p114.toNat ((0, 0) : Int × Int)).2) 0)) || (leB (x0.length : Int) ((x2.getD p114.toNat ((0, 0) : Int × Int)).2))) := q21
            have e80 : sl a 80 = gv (!((((ltB ((x2.getD p114.toNat ((0, 0) : Int × Int)).1) 0) || (ltB 9 ((x2.getD p114.toNat ((0, 0) : Int × Int)).1))) || (ltB ((x2.getD p114.toNat ((0, 0) : Int × Int)).2) 0)) || (leB (x0.length : Int) ((x2.getD p114.toNat ((0, 0) : Int × Int)).2)))) (.pointer (some ⟨g101, 1, none⟩)) := q22
            have e81 : sl a 81 = gv (!((((ltB ((x2.getD p114.toNat ((0, 0) : Int × Int)).1) 0) || (ltB 9 ((x2.getD p114.toNat ((0, 0) : Int × Int)).1))) || (ltB ((x2.getD p114.toNat ((0, 0) : Int × Int)).2) 0)) || (leB (x0.length : Int) ((x2.getD p114.toNat ((0, 0) : Int × Int)).2)))) (.slice A1 x1.length c1) := q23
            have e82 : sl a 82 = gv (!((((ltB ((x2.getD p114.toNat ((0, 0) : Int × Int)).1) 0) || (ltB 9 ((x2.getD p114.toNat ((0, 0) : Int × Int)).1))) || (ltB ((x2.getD p114.toNat ((0, 0) : Int × Int)).2) 0)) || (leB (x0.length : Int) ((x2.getD p114.toNat ((0, 0) : Int × Int)).2)))) (.pointer (some ⟨g117, 1, none⟩)) := q24
            have e83 : sl a 83 = gv (!((((ltB ((x2.getD p114.toNat ((0, 0) : Int × Int)).1) 0) || (ltB 9 ((x2.getD p114.toNat ((0, 0) : Int × Int)).1))) || (ltB ((x2.getD p114.toNat ((0, 0) : Int × Int)).2) 0)) || (leB (x0.length : Int) ((x2.getD p114.toNat ((0, 0) : Int × Int)).2)))) (.int .i64 ((x2.getD p114.toNat ((0, 0) : Int × Int)).2)) := q25
            have e84 : sl a 84 = gv (!((((ltB ((x2.getD p114.toNat ((0, 0) : Int × Int)).1) 0) || (ltB 9 ((x2.getD p114.toNat ((0, 0) : Int × Int)).1))) || (ltB ((x2.getD p114.toNat ((0, 0) : Int × Int)).2) 0)) || (leB (x0.length : Int) ((x2.getD p114.toNat ((0, 0) : Int × Int)).2)))) (.pointer (some ⟨adB A1, adO A1 + (((x2.getD p114.toNat ((0, 0) : Int × Int)).2).toNat) * 1, none⟩)) := q26
            have e85 : sl a 85 = gv (!((((ltB ((x2.getD p114.toNat ((0, 0) : Int × Int)).1) 0) || (ltB 9 ((x2.getD p114.toNat ((0, 0) : Int × Int)).1))) || (ltB ((x2.getD p114.toNat ((0, 0) : Int × Int)).2) 0)) || (leB (x0.length : Int) ((x2.getD p114.toNat ((0, 0) : Int × Int)).2)))) (.bool (x1.getD (((x2.getD p114.toNat ((0, 0) : Int × Int)).2).toNat) false)) := q27
            have e86 : sl a 86 = gv (!((((ltB ((x2.getD p114.toNat ((0, 0) : Int × Int)).1) 0) || (ltB 9 ((x2.getD p114.toNat ((0, 0) : Int × Int)).1))) || (ltB ((x2.getD p114.toNat ((0, 0) : Int × Int)).2) 0)) || (leB (x0.length : Int) ((x2.getD p114.toNat ((0, 0) : Int × Int)).2)))) (.bool (!(x1.getD (((x2.getD p114.toNat ((0, 0) : Int × Int)).2).toNat) false))) := q28
            have e87 : sl a 87 = .bool (((((ltB ((x2.getD p114.toNat ((0, 0) : Int × Int)).1) 0) || (ltB 9 ((x2.getD p114.toNat ((0, 0) : Int × Int)).1))) || (ltB ((x2.getD p114.toNat ((0, 0) : Int × Int)).2) 0)) || (leB (x0.length : Int) ((x2.getD p114.toNat ((0, 0) : Int × Int)).2))) || (!(x1.getD (((x2.getD p114.toNat ((0, 0) : Int × Int)).2).toNat) false))) := q29
            have e88 : sl a 88 = .bool (((((ltB ((x2.getD p114.toNat ((0, 0) : Int × Int)).1) 0) || (ltB 9 ((x2.getD p114.toNat ((0, 0) : Int × Int)).1))) || (ltB ((x2.getD p114.toNat ((0, 0) : Int × Int)).2) 0)) || (leB (x0.length : Int) ((x2.getD p114.toNat ((0, 0) : Int × Int)).2))) || (!(x1.getD (((x2.getD p114.toNat ((0, 0) : Int × Int)).2).toNat) false))) := q30
            have e89 : sl a 89 = gv (!(((((ltB ((x2.getD p114.toNat ((0, 0) : Int × Int)).1) 0) || (ltB 9 ((x2.getD p114.toNat ((0, 0) : Int × Int)).1))) || (ltB ((x2.getD p114.toNat ((0, 0) : Int × Int)).2) 0)) || (leB (x0.length : Int) ((x2.getD p114.toNat ((0, 0) : Int × Int)).2))) || (!(x1.getD (((x2.getD p114.toNat ((0, 0) : Int × Int)).2).toNat) false)))) (.pointer (some ⟨g101, 2, none⟩)) := q31
            have e90 : sl a 90 = gv (!(((((ltB ((x2.getD p114.toNat ((0, 0) : Int × Int)).1) 0) || (ltB 9 ((x2.getD p114.toNat ((0, 0) : Int × Int)).1))) || (ltB ((x2.getD p114.toNat ((0, 0) : Int × Int)).2) 0)) || (leB (x0.length : Int) ((x2.getD p114.toNat ((0, 0) : Int × Int)).2))) || (!(x1.getD (((x2.getD p114.toNat ((0, 0) : Int × Int)).2).toNat) false)))) (.slice A2 x2.length c2) := q32
            have e91 : sl a 91 = gv (!(((((ltB ((x2.getD p114.toNat ((0, 0) : Int × Int)).1) 0) || (ltB 9 ((x2.getD p114.toNat ((0, 0) : Int × Int)).1))) || (ltB ((x2.getD p114.toNat ((0, 0) : Int × Int)).2) 0)) || (leB (x0.length : Int) ((x2.getD p114.toNat ((0, 0) : Int × Int)).2))) || (!(x1.getD (((x2.getD p114.toNat ((0, 0) : Int × Int)).2).toNat) false)))) (.int .i64 p114) := q33
            have e92 : sl a 92 = gv (!(((((ltB ((x2.getD p114.toNat ((0, 0) : Int × Int)).1) 0) || (ltB 9 ((x2.getD p114.toNat ((0, 0) : Int × Int)).1))) || (ltB ((x2.getD p114.toNat ((0, 0) : Int × Int)).2) 0)) || (leB (x0.length : Int) ((x2.getD p114.toNat ((0, 0) : Int × Int)).2))) || (!(x1.getD (((x2.getD p114.toNat ((0, 0) : Int × Int)).2).toNat) false)))) (.slice (subA c2 ((0 : Int).toNat) 2 A2) ((subL x2 0 p114).length) (c2 - (0 : Int).toNat)) := q34
            have e93 : sl a 93 = gv (!(((((ltB ((x2.getD p114.toNat ((0, 0) : Int × Int)).1) 0) || (ltB 9 ((x2.getD p114.toNat ((0, 0) : Int × Int)).1))) || (ltB ((x2.getD p114.toNat ((0, 0) : Int × Int)).2) 0)) || (leB (x0.length : Int) ((x2.getD p114.toNat ((0, 0) : Int × Int)).2))) || (!(x1.getD (((x2.getD p114.toNat ((0, 0) : Int × Int)).2).toNat) false)))) (.agg #[.int .i64 ((x2.getD p114.toNat ((0, 0) : Int × Int)).1), .int .i64 ((x2.getD p114.toNat ((0, 0) : Int × Int)).2)]) := q35
            have e94 : sl a 94 = gv (!(((((ltB ((x2.getD p114.toNat ((0, 0) : Int × Int)).1) 0) || (ltB 9 ((x2.getD p114.toNat ((0, 0) : Int × Int)).1))) || (ltB ((x2.getD p114.toNat ((0, 0) : Int × Int)).2) 0)) || (leB (x0.length : Int) ((x2.getD p114.toNat ((0, 0) : Int × Int)).2))) || (!(x1.getD (((x2.getD p114.toNat ((0, 0) : Int × Int)).2).toNat) false)))) (.bool p120) := q36
            have e95 : sl a 95 = .bool ((((((ltB ((x2.getD p114.toNat ((0, 0) : Int × Int)).1) 0) || (ltB 9 ((x2.getD p114.toNat ((0, 0) : Int × Int)).1))) || (ltB ((x2.getD p114.toNat ((0, 0) : Int × Int)).2) 0)) || (leB (x0.length : Int) ((x2.getD p114.toNat ((0, 0) : Int × Int)).2))) || (!(x1.getD (((x2.getD p114.toNat ((0, 0) : Int × Int)).2).toNat) false))) || p120) := q37
            replace S : St w u [.box g117 56 #[.int .i64 ((x2.getD p114.toNat ((0, 0) : Int × Int)).1), .int .i64 ((x2.getD p114.toNat ((0, 0) : Int × Int)).2)], .box g101 31 #[.slice A0 x0.length c0, .slice A1 x1.length c1, .slice A2 x2.length c2]] := S
            clear q0 q1 q2 q3 q4 q5 q6 q7 q8 q9 q10 q11 q12 q13 q14 q15 q16 q17 q18 q19 q20 q21 q22 q23 q24 q25 q26 q27 q28 q29 q30 q31 q32 q33 q34 q35 q36 q37
            have hF := hF.region hB [(58, .pointer (some ⟨g117, 0, none⟩)), (59, .int .i64 ((x2.getD p114.toNat ((0, 0) : Int × Int)).1)), (60, .bool (ltB ((x2.getD p114.toNat ((0, 0) : Int × Int)).1) 0)), (61, .bool (ltB ((x2.getD p114.toNat ((0, 0) : Int × Int)).1) 0)), (62, gv (!(ltB ((x2.getD p114.toNat ((0, 0) : Int × Int)).1) 0)) (.pointer (some ⟨g117, 0, none⟩))), (63, gv (!(ltB ((x2.getD p114.toNat ((0, 0) : Int × Int)).1) 0)) (.int .i64 ((x2.getD p114.toNat ((0, 0) : Int × Int)).1))), (64, gv (!(ltB ((x2.getD p114.toNat ((0, 0) : Int × Int)).1) 0)) (.bool (ltB 9 ((x2.getD p114.toNat ((0, 0) : Int × Int)).1)))), (65, .bool ((ltB ((x2.getD p114.toNat ((0, 0) : Int × Int)).1) 0) || (ltB 9 ((x2.getD p114.toNat ((0, 0) : Int × Int)).1)))), (66, .bool ((ltB ((x2.getD p114.toNat ((0, 0) : Int × Int)).1) 0) || (ltB 9 ((x2.getD p114.toNat ((0, 0) : Int × Int)).1)))), (67, gv (!((ltB ((x2.getD p114.toNat ((0, 0) : Int × Int)).1) 0) || (ltB 9 ((x2.getD p114.toNat ((0, 0) : Int × Int)).1)))) (.pointer (some ⟨g117, 1, none⟩))), (68, gv (!((ltB ((x2.getD p114.toNat ((0, 0) : Int × Int)).1) 0) || (ltB 9 ((x2.getD p114.toNat ((0, 0) : Int × Int)).1)))) (.int .i64 ((x2.getD p114.toNat ((0, 0) : Int × Int)).2))), (69, gv (!((ltB ((x2.getD p114.toNat ((0, 0) : Int × Int)).1) 0) || (ltB 9 ((x2.getD p114.toNat ((0, 0) : Int × Int)).1)))) (.bool (ltB ((x2.getD p114.toNat ((0, 0) : Int × Int)).2) 0))), (70, .bool (((ltB ((x2.getD p114.toNat ((0, 0) : Int × Int)).1) 0) || (ltB 9 ((x2.getD p114.toNat ((0, 0) : Int × Int)).1))) || (ltB ((x2.getD p114.toNat ((0, 0) : Int × Int)).2) 0))), (71, .bool (((ltB ((x2.getD p114.toNat ((0, 0) : Int × Int)).1) 0) || (ltB 9 ((x2.getD p114.toNat ((0, 0) : Int × Int)).1))) || (ltB ((x2.getD p114.toNat ((0, 0) : Int × Int)).2) 0))), (72, gv (!(((ltB ((x2.getD p114.toNat ((0, 0) : Int × Int)).1) 0) || (ltB 9 ((x2.getD p114.toNat ((0, 0) : Int × Int)).1))) || (ltB ((x2.getD p114.toNat ((0, 0) : Int × Int)).2) 0))) (.pointer (some ⟨g117, 1, none⟩))), (73, gv (!(((ltB ((x2.getD p114.toNat ((0, 0) : Int × Int)).1) 0) || (ltB 9 ((x2.getD p114.toNat ((0, 0) : Int × Int)).1))) || (ltB ((x2.getD p114.toNat ((0, 0) : Int × Int)).2) 0))) (.int .i64 ((x2.getD p114.toNat ((0, 0) : Int × Int)).2))), (74, gv (!(((ltB ((x2.getD p114.toNat ((0, 0) : Int × Int)).1) 0) || (ltB 9 ((x2.getD p114.toNat ((0, 0) : Int × Int)).1))) || (ltB ((x2.getD p114.toNat ((0, 0) : Int × Int)).2) 0))) (.pointer (some ⟨g101, 0, none⟩))), (75, gv (!(((ltB ((x2.getD p114.toNat ((0, 0) : Int × Int)).1) 0) || (ltB 9 ((x2.getD p114.toNat ((0, 0) : Int × Int)).1))) || (ltB ((x2.getD p114.toNat ((0, 0) : Int × Int)).2) 0))) (.slice A0 x0.length c0)), (76, gv (!(((ltB ((x2.getD p114.toNat ((0, 0) : Int × Int)).1) 0) || (ltB 9 ((x2.getD p114.toNat ((0, 0) : Int × Int)).1))) || (ltB ((x2.getD p114.toNat ((0, 0) : Int × Int)).2) 0))) (.int .i64 (x0.length : Int))), (77, gv (!(((ltB ((x2.getD p114.toNat ((0, 0) : Int × Int)).1) 0) || (ltB 9 ((x2.getD p114.toNat ((0, 0) : Int × Int)).1))) || (ltB ((x2.getD p114.toNat ((0, 0) : Int × Int)).2) 0))) (.bool (leB (x0.length : Int) ((x2.getD p114.toNat ((0, 0) : Int × Int)).2)))), (78, .bool ((((ltB ((x2.getD p114.toNat ((0, 0) : Int × Int)).1) 0) || (ltB 9 ((x2.getD p114.toNat ((0, 0) : Int × Int)).1))) || (ltB ((x2.getD p114.toNat ((0, 0) : Int × Int)).2) 0)) || (leB (x0.length : Int) ((x2.getD p114.toNat ((0, 0) : Int × Int)).2)))), (79, .bool ((((ltB ((x2.getD p114.toNat ((0, 0) : Int × Int)).1) 0) || (ltB 9 ((x2.getD p114.toNat ((0, 0) : Int × Int)).1))) || (ltB ((x2.getD p114.toNat ((0, 0) : Int × Int)).2) 0)) || (leB (x0.length : Int) ((x2.getD p114.toNat ((0, 0) : Int × Int)).2)))), (80, gv (!((((ltB ((x2.getD p114.toNat ((0, 0) : Int × Int)).1) 0) || (ltB 9 ((x2.getD p114.toNat ((0, 0) : Int × Int)).1))) || (ltB ((x2.getD p114.toNat ((0, 0) : Int × Int)).2) 0)) || (leB (x0.length : Int) ((x2.getD p114.toNat ((0, 0) : Int × Int)).2)))) (.pointer (some ⟨g101, 1, none⟩))), (81, gv (!((((ltB ((x2.getD p114.toNat ((0, 0) : Int × Int)).1) 0) || (ltB 9 ((x2.getD p114.toNat ((0, 0) : Int × Int)).1))) || (ltB ((x2.getD p114.toNat ((0, 0) : Int × Int)).2) 0)) || (leB (x0.length : Int) ((x2.getD p114.toNat ((0, 0) : Int × Int)).2)))) (.slice A1 x1.length c1)), (82, gv (!((((ltB ((x2.getD p114.toNat ((0, 0) : Int × Int)).1) 0) || (ltB 9 ((x2.getD p114.toNat ((0, 0) : Int × Int)).1))) || (ltB ((x2.getD p114.toNat ((0, 0) : Int × Int)).2) 0)) || (leB (x0.length : Int) ((x2.getD p114.toNat ((0, 0) : Int × Int)).2)))) (.pointer (some ⟨g117, 1, none⟩))), (83, gv (!((((ltB ((x2.getD p114.toNat ((0, 0) : Int × Int)).1) 0) || (ltB 9 ((x2.getD p114.toNat ((0, 0) : Int × Int)).1))) || (ltB ((x2.getD p114.toNat ((0, 0) : Int × Int)).2) 0)) || (leB (x0.length : Int) ((x2.getD p114.toNat ((0, 0) : Int × Int)).2)))) (.int .i64 ((x2.getD p114.toNat ((0, 0) : Int × Int)).2))), (84, gv (!((((ltB ((x2.getD p114.toNat ((0, 0) : Int × Int)).1) 0) || (ltB 9 ((x2.getD p114.toNat ((0, 0) : Int × Int)).1))) || (ltB ((x2.getD p114.toNat ((0, 0) : Int × Int)).2) 0)) || (leB (x0.length : Int) ((x2.getD p114.toNat ((0, 0) : Int × Int)).2)))) (.pointer (some ⟨adB A1, adO A1 + (((x2.getD p114.toNat ((0, 0) : Int × Int)).2).toNat) * 1, none⟩))), (85, gv (!((((ltB ((x2.getD p114.toNat ((0, 0) : Int × Int)).1) 0) || (ltB 9 ((x2.getD p114.toNat ((0, 0) : Int × Int)).1))) || (ltB ((x2.getD p114.toNat ((0, 0) : Int × Int)).2) 0)) || (leB (x0.length : Int) ((x2.getD p114.toNat ((0, 0) : Int × Int)).2)))) (.bool (x1.getD (((x2.getD p114.toNat ((0, 0) : Int × Int)).2).toNat) false))), (86, gv (!((((ltB ((x2.getD p114.toNat ((0, 0) : Int × Int)).1) 0) || (ltB 9 ((x2.getD p114.toNat ((0, 0) : Int × Int)).1))) || (ltB ((x2.getD p114.toNat ((0, 0) : Int × Int)).2) 0)) || (leB (x0.length : Int) ((x2.getD p114.toNat ((0, 0) : Int × Int)).2)))) (.bool (!(x1.getD (((x2.getD p114.toNat ((0, 0) : Int × Int)).2).toNat) false)))), (87, .bool (((((ltB ((x2.getD p114.toNat ((0, 0) : Int × Int)).1) 0) || (ltB 9 ((x2.getD p114.toNat ((0, 0) : Int × Int)).1))) || (ltB ((x2.getD p114.toNat ((0, 0) : Int × Int)).2) 0)) || (leB (x0.length : Int) ((x2.getD p114.toNat ((0, 0) : Int × Int)).2))) || (!(x1.getD (((x2.getD p114.toNat ((0, 0) : Int × Int)).2).toNat) false)))), (88, .bool (((((ltB ((x2.getD p114.toNat ((0, 0) : Int × Int)).1) 0) || (ltB 9 ((x2.getD p114.toNat ((0, 0) : Int × Int)).1))) || (ltB ((x2.getD p114.toNat ((0, 0) : Int × Int)).2) 0)) || (leB (x0.length : Int) ((x2.getD p114.toNat ((0, 0) : Int × Int)).2))) || (!(x1.getD (((x2.getD p114.toNat ((0, 0) : Int × Int)).2).toNat) false)))), (89, gv (!(((((ltB ((x2.getD p114.toNat ((0, 0) : Int × Int)).1) 0) || (ltB 9 ((x2.getD p114.toNat ((0, 0) : Int × Int)).1))) || (ltB ((x2.getD p114.toNat ((0, 0) : Int × Int)).2) 0)) || (leB (x0.length : Int) ((x2.getD p114.toNat ((0, 0) : Int × Int)).2))) || (!(x1.getD (((x2.getD p114.toNat ((0, 0) : Int × Int)).2).toNat) false)))) (.pointer (some ⟨g101, 2, none⟩))), (90, gv (!(((((ltB ((x2.getD p114.toNat ((0, 0) : Int × Int)).1) 0) || (ltB 9 ((x2.getD p114.toNat ((0, 0) : Int × Int)).1))) || (ltB ((x2.getD p114.toNat ((0, 0) : Int × Int)).2) 0)) || (leB (x0.length : Int) ((x2.getD p114.toNat ((0, 0) : Int × Int)).2))) || (!(x1.getD (((x2.getD p114.toNat ((0, 0) : Int × Int)).2).toNat) false)))) (.slice A2 x2.length c2)), (91, gv (!(((((ltB ((x2.getD p114.toNat ((0, 0) : Int × Int)).1) 0) || (ltB 9 ((x2.getD p114.toNat ((0, 0) : Int × Int)).1))) || (ltB ((x2.getD p114.toNat ((0, 0) : Int × Int)).2) 0)) || (leB (x0.length : Int) ((x2.getD p114.toNat ((0, 0) : Int × Int)).2))) || (!(x1.getD (((x2.getD p114.toNat ((0, 0) : Int × Int)).2).toNat) false)))) (.int .i64 p114)), (92, gv (!(((((ltB ((x2.getD p114.toNat ((0, 0) : Int × Int)).1) 0) || (ltB 9 ((x2.getD p114.toNat ((0, 0) : Int × Int)).1))) || (ltB ((x2.getD p114.toNat ((0, 0) : Int × Int)).2) 0)) || (leB (x0.length : Int) ((x2.getD p114.toNat ((0, 0) : Int × Int)).2))) || (!(x1.getD (((x2.getD p114.toNat ((0, 0) : Int × Int)).2).toNat) false)))) (.slice (subA c2 ((0 : Int).toNat) 2 A2) ((subL x2 0 p114).length) (c2 - (0 : Int).toNat))), (93, gv (!(((((ltB ((x2.getD p114.toNat ((0, 0) : Int × Int)).1) 0) || (ltB 9 ((x2.getD p114.toNat ((0, 0) : Int × Int)).1))) || (ltB ((x2.getD p114.toNat ((0, 0) : Int × Int)).2) 0)) || (leB (x0.length : Int) ((x2.getD p114.toNat ((0, 0) : Int × Int)).2))) || (!(x1.getD (((x2.getD p114.toNat ((0, 0) : Int × Int)).2).toNat) false)))) (.agg #[.int .i64 ((x2.getD p114.toNat ((0, 0) : Int × Int)).1), .int .i64 ((x2.getD p114.toNat ((0, 0) : Int × Int)).2)])), (94, gv (!(((((ltB ((x2.getD p114.toNat ((0, 0) : Int × Int)).1) 0) || (ltB 9 ((x2.getD p114.toNat ((0, 0) : Int × Int)).1))) || (ltB ((x2.getD p114.toNat ((0, 0) : Int × Int)).2) 0)) || (leB (x0.length : Int) ((x2.getD p114.toNat ((0, 0) : Int × Int)).2))) || (!(x1.getD (((x2.getD p114.toNat ((0, 0) : Int × Int)).2).toNat) false)))) (.bool p120)), (95, .bool ((((((ltB ((x2.getD p114.toNat ((0, 0) : Int × Int)).1) 0) || (ltB 9 ((x2.getD p114.toNat ((0, 0) : Int × Int)).1))) || (ltB ((x2.getD p114.toNat ((0, 0) : Int × Int)).2) 0)) || (leB (x0.length : Int) ((x2.getD p114.toNat ((0, 0) : Int × Int)).2))) || (!(x1.getD (((x2.getD p114.toNat ((0, 0) : Int × Int)).2).toNat) false))) || p120))] (allSl_mem ⟨e58, e59, e60, e61, e62, e63, e64, e65, e66, e67, e68, e69, e70, e71, e72, e73, e74, e75, e76, e77, e78, e79, e80, e81, e82, e83, e84, e85, e86, e87, e88, e89, e90, e91, e92, e93, e94, e95, trivial⟩) rfl
            clear hB e58 e59 e60 e61 e62 e63 e64 e65 e66 e67 e68 e69 e70 e71 e72 e73 e74 e75 e76 e77 e78 e79 e80 e81 e82 e83 e84 e85 e86 e87 e88 e89 e90 e91 e92 e93 e94 e95
            cases hc121 : ((((((ltB ((x2.getD p114.toNat ((0, 0) : Int × Int)).1) 0) || (ltB 9 ((x2.getD p114.toNat ((0, 0) : Int × Int)).1))) || (ltB ((x2.getD p114.toNat ((0, 0) : Int × Int)).2) 0)) || (leB (x0.length : Int) ((x2.getD p114.toNat ((0, 0) : Int × Int)).2))) || (!(x1.getD (((x2.getD p114.toNat ((0, 0) : Int × Int)).2).toNat) false))) || p120)
            · replace hM113 := bif_f hc121 hM113
              refine cond_f hF rfl hc121 ?_
              refine wp_skip ?_
              refine wp_region_lit ?_
              refine op_val (v := .int .i64 (w64 (p114 + 1))) rfl rfl hF rfl (run_add (z := w64 (p114 + 1)) (hF.ev rfl) rfl rfl rfl) ?_; clear hF; intro a hF
              refine op_val (v := .int .i64 (w64 (p114 + 1))) rfl rfl hF rfl (run_move rfl (hF.ev rfl)) ?_; clear hF; intro a hF
              refine wpList_nil ?_
              exact ⟨f2, Nat.lt_succ_self _, w64 (p114 + 1), hM113, hF.keep _ ⟨rfl, rfl, rfl, rfl, rfl, trivial⟩, S.sel [1] rfl rfl⟩
            · replace hM113 := bif_t hc121 hM113
              refine cond_t hF rfl hc121 ?_
              refine wp_seq ?_
              refine wp_region_lit ?_
              refine op_val (v := .bool false) rfl rfl hF rfl (run_assign rfl rfl) ?_; clear hF; intro a hF
              refine wpList_nil ?_
              refine wp_ret ?_
              repeat with_reducible (first | refine then_ret ?_ | refine in_ret ?_ | refine in_nrm ?_)
              refine ret1_gw (.inl rfl) hF rfl (res_tmp (hF.ev rfl)) ?_
              obtain rfl := Option.some.inj hM113
              obtain rfl := Option.some.inj hM
              exact ⟨rfl, S.sel [] rfl rfl⟩
      · rintro a u ⟨p111, rfl, hF, S⟩
        replace hM := elim_l hM
        refine wp_seq ?_
        refine wp_region_lit ?_
        refine op_val (v := .bool true) rfl rfl hF rfl (run_assign rfl rfl) ?_; clear hF; intro a hF
        refine wpList_nil ?_
        refine wp_ret ?_
        repeat with_reducible (first | refine then_ret ?_ | refine in_ret ?_ | refine in_nrm ?_)
        refine ret1_gw (.inl rfl) hF rfl (res_tmp (hF.ev rfl)) ?_
        obtain rfl := Option.some.inj hM
        exact ⟨rfl, S.sel [] rfl rfl⟩
  · replace hM := bif_t hc102 hM
    refine cond_t hF rfl hc102 ?_
    refine wp_seq ?_
    refine wp_region_lit ?_
    refine op_val (v := .bool false) rfl rfl hF rfl (run_assign rfl rfl) ?_; clear hF; intro a hF
    refine wpList_nil ?_
    refine wp_ret ?_
    repeat with_reducible (first | refine then_ret ?_ | refine in_ret ?_ | refine in_nrm ?_)
    refine ret1_gw (.inl rfl) hF rfl (res_tmp (hF.ev rfl)) ?_
    obtain rfl := Option.some.inj hM
    exact ⟨rfl, S.sel [] rfl rfl⟩

set_option maxHeartbeats 4000000 in
theorem c_slices_Clone_bool_bool {x0 : List Bool} {A0 : Option Addr} {n0 c0 : Nat} {w : World} {r : List Bool} (h0 : Rt w 1 eB A0 n0 c0 x0) (hM : m_slices_Clone_bool_bool x0 = some r) :
    Calls Try.prog 44 #[.slice A0 n0 c0] w (fun e w' => ∃ (B0 : Option Addr) (N0 D0 : Nat), e = .returned (.slice B0 N0 D0) ∧ N0 = r.length ∧ St w w' [.row 4 1 (.slice B0 N0 D0) N0 (r.flatMap eB)]) := by
  obtain rfl := h0.len
  unfold m_slices_Clone_bool_bool at hM
  obtain ⟨hk, hM⟩ := chk_ex hM
  replace hk := apB_t hk
  obtain rfl := Option.some.inj hM
  refine calls_gw Try.func44 Try.ntmps44 rfl [(0, .slice A0 x0.length c0)] ⟨rfl, trivial⟩ rfl ?_
  intro a hF
  have S := St.nil w
  refine wp_seq ?_
  refine wp_region_lit ?_
  refine op_val (v := .slice none 0 0) rfl rfl hF rfl (run_assign rfl rfl) ?_; clear hF; intro a hF
  refine wpList_nil ?_
  refine wp_seq ?_
  refine wp_seq ?_
  refine wp_region_lit ?_
  refine op_val (v := .slice A0 x0.length c0) rfl rfl hF rfl (run_move rfl (hF.ev rfl)) ?_; clear hF; intro a hF
  refine op_val (v := .bool (Option.isNone A0)) rfl rfl hF rfl (run_eqlNil rfl Try.underlying22 (hF.ev rfl) rfl) ?_; clear hF; intro a hF
  refine wpList_nil ?_
  cases hc101 : (Option.isNone A0)
  · have hx := trivial
    refine cond_f hF rfl hc101 ?_
    refine wp_skip ?_
    refine wp_seq ?_
    refine wp_region_lit ?_
    refine op_newrow (cs := #[]) (size := 1) rfl rfl hF rfl S (run_buildSlice0 rfl Try.underlying22 rfl) rfl (Nat.zero_le _) ?_; clear hF S; intro a g102 u hF S
    refine op_val (v := .slice A0 x0.length c0) rfl rfl hF rfl (run_move rfl (hF.ev rfl)) ?_; clear hF; intro a hF
    have hk105 := hk
    refine op_appendL (lx := []) (ly := x0) rfl rfl hF rfl S rfl (hF.ev rfl) (hF.ev rfl) (i := 0) rfl rfl Try.underlying22 inf4 rfl (by decide) (S.rc0 h0.rc).rd rfl eB_one hk105 (by decide) ?_; clear hF S; intro a B103 d104 u hF S
    refine op_val (v := .slice B103 (([] ++ x0).length) d104) rfl rfl hF rfl (run_assign rfl (hF.ev rfl)) ?_; clear hF; intro a hF
    refine wpList_nil ?_
    refine wp_ret ?_
    repeat with_reducible (first | refine then_ret ?_ | refine in_ret ?_ | refine in_nrm ?_)
    refine ret1_gw (.inl rfl) hF rfl (res_tmp (hF.ev rfl)) ?_
    exact ⟨B103, (([] ++ x0).length), d104, rfl, rfl, S.sel [0] rfl rfl⟩
  · have hx := nil_none h0.rc.rd rfl hc101
    refine cond_t hF rfl hc101 ?_
    refine wp_seq ?_
    refine wp_region_lit ?_
    refine op_val (v := .slice none 0 0) rfl rfl hF rfl (run_assign rfl rfl) ?_; clear hF; intro a hF
    refine wpList_nil ?_
    refine wp_ret ?_
    repeat with_reducible (first | refine then_ret ?_ | refine in_ret ?_ | refine in_nrm ?_)
    refine ret1_gw (.inl rfl) hF rfl (res_tmp (hF.ev rfl)) ?_
    subst hx
    replace S := S.nilrow 4 1
    exact ⟨none, 0, 0, rfl, rfl, S.sel [0] rfl rfl⟩

set_option maxHeartbeats 4000000 in
theorem c_slices_Clone_impl_Permit_impl_Permit {x0 : List (Int × Int)} {A0 : Option Addr} {n0 c0 : Nat} {w : World} {r : List (Int × Int)} (h0 : Rt w 2 ePermit A0 n0 c0 x0) (hM : m_slices_Clone_impl_Permit_impl_Permit x0 = some r) :
    Calls Try.prog 45 #[.slice A0 n0 c0] w (fun e w' => ∃ (B0 : Option Addr) (N0 D0 : Nat), e = .returned (.slice B0 N0 D0) ∧ N0 = r.length ∧ St w w' [.row 56 2 (.slice B0 N0 D0) N0 (r.flatMap ePermit)]) := by
  obtain rfl := h0.len
  unfold m_slices_Clone_impl_Permit_impl_Permit at hM
  obtain ⟨hk, hM⟩ := chk_ex hM
  replace hk := apB_t hk
  obtain rfl := Option.some.inj hM
  refine calls_gw Try.func45 Try.ntmps45 rfl [(0, .slice A0 x0.length c0)] ⟨rfl, trivial⟩ rfl ?_
  intro a hF
  have S := St.nil w
  refine wp_seq ?_
  refine wp_region_lit ?_
  refine op_val (v := .slice none 0 0) rfl rfl hF rfl (run_assign rfl rfl) ?_; clear hF; intro a hF
  refine wpList_nil ?_
  refine wp_seq ?_
  refine wp_seq ?_
  refine wp_region_lit ?_
  refine op_val (v := .slice A0 x0.length c0) rfl rfl hF rfl (run_move rfl (hF.ev rfl)) ?_; clear hF; intro a hF
  refine op_val (v := .bool (Option.isNone A0)) rfl rfl hF rfl (run_eqlNil rfl Try.underlying29 (hF.ev rfl) rfl) ?_; clear hF; intro a hF
  refine wpList_nil ?_
  cases hc101 : (Option.isNone A0)
  · have hx := trivial
    refine cond_f hF rfl hc101 ?_
    refine wp_skip ?_
    refine wp_seq ?_
    refine wp_region_lit ?_
    refine op_newrow (cs := #[]) (size := 2) rfl rfl hF rfl S (run_buildSlice0 rfl Try.underlying29 rfl) rfl (Nat.zero_le _) ?_; clear hF S; intro a g102 u hF S
    refine op_val (v := .slice A0 x0.length c0) rfl rfl hF rfl (run_move rfl (hF.ev rfl)) ?_; clear hF; intro a hF
    have hk105 := hk
    refine op_appendL (lx := []) (ly := x0) rfl rfl hF rfl S rfl (hF.ev rfl) (hF.ev rfl) (i := 0) rfl rfl Try.underlying29 inf56 rfl (by decide) (S.rc0 h0.rc).rd rfl ePermit_one hk105 (by decide) ?_; clear hF S; intro a B103 d104 u hF S
    refine op_val (v := .slice B103 (([] ++ x0).length) d104) rfl rfl hF rfl (run_assign rfl (hF.ev rfl)) ?_; clear hF; intro a hF
    refine wpList_nil ?_
    refine wp_ret ?_
    repeat with_reducible (first | refine then_ret ?_ | refine in_ret ?_ | refine in_nrm ?_)
    refine ret1_gw (.inl rfl) hF rfl (res_tmp (hF.ev rfl)) ?_
    exact ⟨B103, (([] ++ x0).length), d104, rfl, rfl, S.sel [0] rfl rfl⟩
  · have hx := nil_none h0.rc.rd rfl hc101
    refine cond_t hF rfl hc101 ?_
    refine wp_seq ?_
    refine wp_region_lit ?_
    refine op_val (v := .slice none 0 0) rfl rfl hF rfl (run_assign rfl rfl) ?_; clear hF; intro a hF
    refine wpList_nil ?_
    refine wp_ret ?_
    repeat with_reducible (first | refine then_ret ?_ | refine in_ret ?_ | refine in_nrm ?_)
    refine ret1_gw (.inl rfl) hF rfl (res_tmp (hF.ev rfl)) ?_
    subst hx
    replace S := S.nilrow 56 2
    exact ⟨none, 0, 0, rfl, rfl, S.sel [0] rfl rfl⟩

set_option maxHeartbeats 4000000 in
theorem c_impl_Work_clone {x0 : List Bool} {x1 : List Bool} {x2 : List (Int × Int)} {A0 : Option Addr} {n0 c0 : Nat} {A1 : Option Addr} {n1 c1 : Nat} {A2 : Option Addr} {n2 c2 : Nat} {w : World} {r : List Bool × List Bool × List (Int × Int)} (h0 : Rt w 1 eB A0 n0 c0 x0) (h1 : Rt w 1 eB A1 n1 c1 x1) (h2 : Rt w 2 ePermit A2 n2 c2 x2) (hM : m_impl_Work_clone x0 x1 x2 = some r) :
    Calls Try.prog 29 #[.agg #[.slice A0 n0 c0, .slice A1 n1 c1, .slice A2 n2 c2]] w (fun e w' => ∃ (B0 : Option Addr) (N0 D0 : Nat) (B1 : Option Addr) (N1 D1 : Nat) (B2 : Option Addr) (N2 D2 : Nat), e = .returned (.agg #[.slice B0 N0 D0, .slice B1 N1 D1, .slice B2 N2 D2]) ∧ N0 = r.1.length ∧ N1 = r.2.1.length ∧ N2 = r.2.2.length ∧ St w w' [.row 4 1 (.slice B0 N0 D0) N0 (r.1.flatMap eB), .row 4 1 (.slice B1 N1 D1) N1 (r.2.1.flatMap eB), .row 56 2 (.slice B2 N2 D2) N2 (r.2.2.flatMap ePermit)]) := by
  obtain rfl := h0.len
  obtain rfl := h1.len
  obtain rfl := h2.len
  unfold m_impl_Work_clone at hM
  refine calls_gw Try.func29 Try.ntmps29 rfl [(0, .agg #[.slice A0 x0.length c0, .slice A1 x1.length c1, .slice A2 x2.length c2])] ⟨rfl, trivial⟩ rfl ?_
  intro a hF
  have S := St.nil w
  refine wp_seq ?_
  refine wp_region_lit ?_
  refine op_new (cs := #[.slice A0 x0.length c0, .slice A1 x1.length c1, .slice A2 x2.length c2]) rfl rfl hF rfl S (run_box rfl (hF.ev rfl) rfl) ?_; clear hF S; intro a g101 u hF S
  refine op_new (cs := #[.slice none 0 0, .slice none 0 0, .slice none 0 0]) rfl rfl hF rfl S (run_allocZ rfl zr31) ?_; clear hF S; intro a g102 u hF S
  refine wpList_nil ?_
  refine wp_seq ?_
  obtain ⟨p103, h103, hM⟩ := bind_ex hM
  obtain ⟨p107, h107, hM⟩ := bind_ex hM
  obtain ⟨p111, h111, hM⟩ := bind_ex hM
  refine region_gw (D := [3, 4, 5, 6, 7, 8, 9, 10, 11, 12]) (Lr := [.box g101 31 #[.slice A0 x0.length c0, .slice A1 x1.length c1, .slice A2 x2.length c2]]) (deps := (fun | 0 => [3] | 1 => [4] | 2 => [5] | 3 => [6] | 4 => [7] | 5 => [8] | 6 => [9] | 7 => [10] | 8 => [11] | 9 => [12, 5, 8, 11] | 10 => [2, 5, 8, 11] | _ => [])) (rd := (fun _ => [])) (zr := (fun _ => []))
    (φ := fun i vs => match i, vs with | 0, [v3] => v3 = .pointer (some ⟨g101, 0, none⟩) | 1, [v4] => v4 = .slice A0 x0.length c0 | 2, [v5] => v5 = .slice (slA v5) p103.length (slC v5) | 3, [v6] => v6 = .pointer (some ⟨g101, 1, none⟩) | 4, [v7] => v7 = .slice A1 x1.length c1 | 5, [v8] => v8 = .slice (slA v8) p107.length (slC v8) | 6, [v9] => v9 = .pointer (some ⟨g101, 2, none⟩) | 7, [v10] => v10 = .slice A2 x2.length c2 | 8, [v11] => v11 = .slice (slA v11) p111.length (slC v11) | 9, [v12, v5, v8, v11] => v12 = .agg #[.slice (slA v5) p103.length (slC v5), .slice (slA v8) p107.length (slC v8), .slice (slA v11) p111.length (slC v11)] | _, _ => True)
    (C := fun i vs => match i, vs with | 2, [v5] => [.row 4 1 (.slice (slA v5) p103.length (slC v5)) p103.length (p103.flatMap eB)] | 5, [v8] => [.row 4 1 (.slice (slA v8) p107.length (slC v8)) p107.length (p107.flatMap eB)] | 8, [v11] => [.row 56 2 (.slice (slA v11) p111.length (slC v11)) p111.length (p111.flatMap ePermit)] | 10, [v2, v5, v8, v11] => [.box g102 31 #[.slice (slA v5) p103.length (slC v5), .slice (slA v8) p107.length (slC v8), .slice (slA v11) p111.length (slC v11)]] | _, _ => [])
    (κ := (fun _ => none)) (Z := (fun | 10 => [.box g102 31 #[.slice none 0 0, .slice none 0 0, .slice none 0 0]] | _ => [])) mixed hF (by kernel_rfl) (show St w _ [.box g102 31 #[.slice none 0 0, .slice none 0 0, .slice none 0 0], .box g101 31 #[.slice A0 x0.length c0, .slice A1 x1.length c1, .slice A2 x2.length c2]] from S.sel [0, 1] rfl rfl) ?_ ?_
  · refine ⟨?_, ?_, ?_, ?_, ?_, ?_, ?_, ?_, ?_, ?_, ?_, trivial⟩
    · intro a u X hB hu hp hr hz hl S
      replace S : St w u ([] ++ X) := S
      exact .inl ⟨rfl, .pointer (some ⟨g101, 0, none⟩), u, (run_fieldAddr rfl fl31_0 (hF.evB hB rfl rfl) rfl), rfl, S⟩
    · intro a u X hB hu hp hr hz hl S
      replace S : St w u ([] ++ X) := S
      have e3 : sl a 3 = .pointer (some ⟨g101, 0, none⟩) := hp 0 rfl
      exact .inl ⟨rfl, .slice A0 x0.length c0, u, (run_load1 rfl one22 (ev_sl e3) ((gr_box S hl 0 rfl).cell rfl)), rfl, S⟩
    · intro a u X hB hu hp hr hz hl S
      replace S : St w u ([] ++ X) := S
      have e4 : sl a 4 = .slice A0 x0.length c0 := hp 1 rfl
      refine .inr (.inr (.inl ⟨rfl, _, _, (run_call (vs := [.slice A0 x0.length c0]) rfl rfl co44 ⟨(ev_sl e4), trivial⟩), ?_⟩))
      refine Calls.mono (c_slices_Clone_bool_bool (x0 := x0) ⟨(S.rc0 h0.rc), rfl⟩ h103) ?_
      rintro e w1 ⟨B115, n116, d117, rfl, rfl, T⟩
      exact ⟨_, rfl, rfl, S.call1 T⟩
    · intro a u X hB hu hp hr hz hl S
      replace S : St w u ([] ++ X) := S
      exact .inl ⟨rfl, .pointer (some ⟨g101, 1, none⟩), u, (run_fieldAddr rfl fl31_1 (hF.evB hB rfl rfl) rfl), rfl, S⟩
    · intro a u X hB hu hp hr hz hl S
      replace S : St w u ([] ++ X) := S
      have e6 : sl a 6 = .pointer (some ⟨g101, 1, none⟩) := hp 3 rfl
      exact .inl ⟨rfl, .slice A1 x1.length c1, u, (run_load1 rfl one22 (ev_sl e6) ((gr_box S hl 0 rfl).cell rfl)), rfl, S⟩
    · intro a u X hB hu hp hr hz hl S
      replace S : St w u ([] ++ X) := S
      have e7 : sl a 7 = .slice A1 x1.length c1 := hp 4 rfl
      refine .inr (.inr (.inl ⟨rfl, _, _, (run_call (vs := [.slice A1 x1.length c1]) rfl rfl co44 ⟨(ev_sl e7), trivial⟩), ?_⟩))
      refine Calls.mono (c_slices_Clone_bool_bool (x0 := x1) ⟨(S.rc0 h1.rc), rfl⟩ h107) ?_
      rintro e w1 ⟨B118, n119, d120, rfl, rfl, T⟩
      exact ⟨_, rfl, rfl, S.call1 T⟩
    · intro a u X hB hu hp hr hz hl S
      replace S : St w u ([] ++ X) := S
      exact .inl ⟨rfl, .pointer (some ⟨g101, 2, none⟩), u, (run_fieldAddr rfl fl31_2 (hF.evB hB rfl rfl) rfl), rfl, S⟩
    · intro a u X hB hu hp hr hz hl S
      replace S : St w u ([] ++ X) := S
      have e9 : sl a 9 = .pointer (some ⟨g101, 2, none⟩) := hp 6 rfl
      exact .inl ⟨rfl, .slice A2 x2.length c2, u, (run_load1 rfl one29 (ev_sl e9) ((gr_box S hl 0 rfl).cell rfl)), rfl, S⟩
    · intro a u X hB hu hp hr hz hl S
      replace S : St w u ([] ++ X) := S
      have e10 : sl a 10 = .slice A2 x2.length c2 := hp 7 rfl
      refine .inr (.inr (.inl ⟨rfl, _, _, (run_call (vs := [.slice A2 x2.length c2]) rfl rfl co45 ⟨(ev_sl e10), trivial⟩), ?_⟩))
      refine Calls.mono (c_slices_Clone_impl_Permit_impl_Permit (x0 := x2) ⟨(S.rc0 h2.rc), rfl⟩ h111) ?_
      rintro e w1 ⟨B121, n122, d123, rfl, rfl, T⟩
      exact ⟨_, rfl, rfl, S.call1 T⟩
    · intro a u X hB hu hp hr hz hl S
      replace S : St w u ([] ++ X) := S
      have e5 : sl a 5 = .slice (slA (sl a 5)) p103.length (slC (sl a 5)) := hp 2 rfl
      have e8 : sl a 8 = .slice (slA (sl a 8)) p107.length (slC (sl a 8)) := hp 5 rfl
      have e11 : sl a 11 = .slice (slA (sl a 11)) p111.length (slC (sl a 11)) := hp 8 rfl
      exact .inl ⟨rfl, .agg #[.slice (slA (sl a 5)) p103.length (slC (sl a 5)), .slice (slA (sl a 8)) p107.length (slC (sl a 8)), .slice (slA (sl a 11)) p111.length (slC (sl a 11))], u, (run_build (vs := [(0, .slice (slA (sl a 5)) p103.length (slC (sl a 5))), (1, .slice (slA (sl a 8)) p107.length (slC (sl a 8))), (2, .slice (slA (sl a 11)) p111.length (slC (sl a 11)))]) rfl ⟨⟨rfl, (ev_sl e5)⟩, ⟨rfl, (ev_sl e8)⟩, ⟨rfl, (ev_sl e11)⟩, trivial⟩ (bd31_0_1_2 rfl rfl rfl)), rfl, S⟩
    · intro a u X hB hu hp hr hz hl S
      replace S : St w u ([.box g102 31 #[.slice none 0 0, .slice none 0 0, .slice none 0 0]] ++ X) := S
      have e12 : sl a 12 = .agg #[.slice (slA (sl a 5)) p103.length (slC (sl a 5)), .slice (slA (sl a 8)) p107.length (slC (sl a 8)), .slice (slA (sl a 11)) p111.length (slC (sl a 11))] := hp 9 rfl
      exact .inr (.inl ⟨rfl, _, run_store (cs' := #[.slice (slA (sl a 5)) p103.length (slC (sl a 5)), .slice (slA (sl a 8)) p107.length (slC (sl a 8)), .slice (slA (sl a 11)) p111.length (slC (sl a 11))]) rfl sz31 (hF.evB hB rfl rfl) (ev_sl e12) rfl rfl rfl (S.free 0 rfl) rfl rfl, trivial, S.put 0 rfl (#[.slice (slA (sl a 5)) p103.length (slC (sl a 5)), .slice (slA (sl a 8)) p107.length (slC (sl a 8)), .slice (slA (sl a 11)) p111.length (slC (sl a 11))])⟩)
  · intro a u hB hp S
    obtain ⟨q0, q1, q2, q3, q4, q5, q6, q7, q8, q9, q10, _⟩ := hp
    have e3 : sl a 3 = .pointer (some ⟨g101, 0, none⟩) := q0
    have e4 : sl a 4 = .slice A0 x0.length c0 := q1
    have e5 : sl a 5 = .slice (slA (sl a 5)) p103.length (slC (sl a 5)) := q2
    have e6 : sl a 6 = .pointer (some ⟨g101, 1, none⟩) := q3
    have e7 : sl a 7 = .slice A1 x1.length c1 := q4
    have e8 : sl a 8 = .slice (slA (sl a 8)) p107.length (slC (sl a 8)) := q5
    have e9 : sl a 9 = .pointer (some ⟨g101, 2, none⟩) := q6
    have e10 : sl a 10 = .slice A2 x2.length c2 := q7
    have e11 : sl a 11 = .slice (slA (sl a 11)) p111.length (slC (sl a 11)) := q8
    have e12 : sl a 12 = .agg #[.slice (slA (sl a 5)) p103.length (slC (sl a 5)), .slice (slA (sl a 8)) p107.length (slC (sl a 8)), .slice (slA (sl a 11)) p111.length (slC (sl a 11))] := q9
    replace S : St w u [.row 4 1 (.slice (slA (sl a 5)) p103.length (slC (sl a 5))) p103.length (p103.flatMap eB), .row 4 1 (.slice (slA (sl a 8)) p107.length (slC (sl a 8))) p107.length (p107.flatMap eB), .row 56 2 (.slice (slA (sl a 11)) p111.length (slC (sl a 11))) p111.length (p111.flatMap ePermit), .box g102 31 #[.slice (slA (sl a 5)) p103.length (slC (sl a 5)), .slice (slA (sl a 8)) p107.length (slC (sl a 8)), .slice (slA (sl a 11)) p111.length (slC (sl a 11))], .box g101 31 #[.slice A0 x0.length c0, .slice A1 x1.length c1, .slice A2 x2.length c2]] := S
    clear q0 q1 q2 q3 q4 q5 q6 q7 q8 q9 q10
    generalize slA (sl a 5) = B124 at *
    generalize slC (sl a 5) = d125 at *
    generalize slA (sl a 8) = B126 at *
    generalize slC (sl a 8) = d127 at *
    generalize slA (sl a 11) = B128 at *
    generalize slC (sl a 11) = d129 at *
    have hF := hF.region hB [(3, .pointer (some ⟨g101, 0, none⟩)), (4, .slice A0 x0.length c0), (5, .slice B124 p103.length d125), (6, .pointer (some ⟨g101, 1, none⟩)), (7, .slice A1 x1.length c1), (8, .slice B126 p107.length d127), (9, .pointer (some ⟨g101, 2, none⟩)), (10, .slice A2 x2.length c2), (11, .slice B128 p111.length d129), (12, .agg #[.slice B124 p103.length d125, .slice B126 p107.length d127, .slice B128 p111.length d129])] (allSl_mem ⟨e3, e4, e5, e6, e7, e8, e9, e10, e11, e12, trivial⟩) rfl
    clear hB e3 e4 e5 e6 e7 e8 e9 e10 e11 e12
    refine wp_ret ?_
    repeat with_reducible (first | refine then_ret ?_ | refine in_ret ?_ | refine in_nrm ?_)
    refine ret1_gw (.inl rfl) hF rfl (res_cell (hF.ev rfl) (res_loadN ag31 rfl (S.cells 3 rfl 0 #[.slice B124 p103.length d125, .slice B126 p107.length d127, .slice B128 p111.length d129] rfl))) ?_
    obtain rfl := Option.some.inj hM
    exact ⟨B124, p103.length, d125, B126, p107.length, d127, B128, p111.length, d129, rfl, rfl, rfl, rfl, S.sel [0, 1, 2] rfl rfl⟩

set_option maxHeartbeats 4000000 in
theorem c_impl_WorkHeld {x0 : List Bool} {x1 : List Bool} {x2 : List (Int × Int)} {x3 : Int} {A0 : Option Addr} {n0 c0 : Nat} {A1 : Option Addr} {n1 c1 : Nat} {A2 : Option Addr} {n2 c2 : Nat} {w : World} {r : List Int} (h0 : Rt w 1 eB A0 n0 c0 x0) (h1 : Rt w 1 eB A1 n1 c1 x1) (h2 : Rt w 2 ePermit A2 n2 c2 x2) (hM : m_impl_WorkHeld x0 x1 x2 x3 = some r) :
    Calls Try.prog 46 #[.agg #[.slice A0 n0 c0, .slice A1 n1 c1, .slice A2 n2 c2], .int .i64 x3] w (fun e w' => ∃ (B0 : Option Addr) (N0 D0 : Nat), e = .returned (.slice B0 N0 D0) ∧ N0 = r.length ∧ St w w' [.row 3 1 (.slice B0 N0 D0) N0 (r.flatMap eI)]) := by
  obtain rfl := h0.len
  obtain rfl := h1.len
  obtain rfl := h2.len
  unfold m_impl_WorkHeld at hM
  refine calls_gw Try.func46 Try.ntmps46 rfl [(0, .agg #[.slice A0 x0.length c0, .slice A1 x1.length c1, .slice A2 x2.length c2]), (1, .int .i64 x3)] ⟨rfl, rfl, trivial⟩ rfl ?_
  intro a hF
  have S := St.nil w
  refine wp_seq ?_
  refine wp_region_lit ?_
  refine op_new (cs := #[.slice A0 x0.length c0, .slice A1 x1.length c1, .slice A2 x2.length c2]) rfl rfl hF rfl S (run_box rfl (hF.ev rfl) rfl) ?_; clear hF S; intro a g101 u hF S
  refine op_val (v := .slice none 0 0) rfl rfl hF rfl (run_assign rfl rfl) ?_; clear hF; intro a hF
  refine wpList_nil ?_
  refine wp_seq ?_
  refine wp_seq ?_
  refine wp_region_lit ?_
  refine op_val (v := .agg #[.slice A0 x0.length c0, .slice A1 x1.length c1, .slice A2 x2.length c2]) rfl rfl hF rfl (run_loadN rfl ag31 (hF.ev rfl) rfl ((S.free 0 rfl).cells 0 #[.slice A0 x0.length c0, .slice A1 x1.length c1, .slice A2 x2.length c2] rfl)) ?_; clear hF; intro a hF
  obtain ⟨p102, h102, hM⟩ := bind_ex hM
  refine op_call rfl rfl hF rfl (run_call (vs := [.agg #[.slice A0 x0.length c0, .slice A1 x1.length c1, .slice A2 x2.length c2]]) rfl rfl co28 ⟨(hF.ev rfl), trivial⟩) (c_impl_WorkValid (x0 := x0) (x1 := x1) (x2 := x2) ⟨(S.rc0 h0.rc), rfl⟩ ⟨(S.rc0 h1.rc), rfl⟩ ⟨(S.rc0 h2.rc), rfl⟩ h102) ?_
  rintro e u ⟨rfl, T⟩
  refine ⟨_, rfl, ?_⟩
  clear hF; intro a hF
  replace S := S.call0 T; clear T
  refine op_val (v := .bool (!p102)) rfl rfl hF rfl (run_not rfl (hF.ev rfl)) ?_; clear hF; intro a hF
  refine wpList_nil ?_
  cases hc103 : (p102)
  · replace hM := bif_f hc103 hM
    refine cond_t hF rfl (not_t hc103) ?_
    refine wp_seq ?_
    refine wp_region_lit ?_
    refine op_val (v := .slice none 0 0) rfl rfl hF rfl (run_assign rfl rfl) ?_; clear hF; intro a hF
    refine wpList_nil ?_
    refine wp_ret ?_
    repeat with_reducible (first | refine then_ret ?_ | refine in_ret ?_ | refine in_nrm ?_)
    refine ret1_gw (.inl rfl) hF rfl (res_tmp (hF.ev rfl)) ?_
    obtain rfl := Option.some.inj hM
    replace S := S.nilrow 3 1
    exact ⟨none, 0, 0, rfl, rfl, S.sel [0] rfl rfl⟩
  · replace hM := bif_t hc103 hM
    refine cond_f hF rfl (not_f hc103) ?_
    refine wp_skip ?_
    refine wp_seq ?_
    refine wp_region_lit ?_
    refine op_val (v := .slice none 0 0) rfl rfl hF rfl (run_assign rfl rfl) ?_; clear hF; intro a hF
    refine wpList_nil ?_
    refine wp_seq ?_
    refine wp_seq ?_
    refine wp_region_lit ?_
    refine op_val (v := .pointer (some ⟨g101, 2, none⟩)) rfl rfl hF rfl (run_fieldAddr rfl fl31_2 (hF.ev rfl) rfl) ?_; clear hF; intro a hF
    refine op_val (v := .slice A2 x2.length c2) rfl rfl hF rfl (run_load1 rfl one29 (hF.ev rfl) ((S.free 0 rfl).cell rfl)) ?_; clear hF; intro a hF
    refine op_val (v := .int .i64 (x2.length : Int)) rfl rfl hF rfl (run_lenL rfl rfl Try.underlying29 (hF.ev rfl)) ?_; clear hF; intro a hF
    refine op_val (v := .int .i64 0) rfl rfl hF rfl (run_move rfl rfl) ?_; clear hF; intro a hF
    refine wpList_nil ?_
    obtain ⟨o105, hM108, hM⟩ := bind_ex hM
    refine wp_cut (fun a u => ∃ (p104 : List Int) (B106 : Option Addr) (d107 : Nat), p104 = o105 ∧ Fr a 29 [(4, .slice none 0 0), (5, .slice B106 p104.length d107)] ∧ St w u [.row 3 1 (.slice B106 p104.length d107) p104.length (p104.flatMap eI)]) ?_ ?_
    · have _ := trivial
      refine wp_block ?_
      replace S := S.nilrow 3 1
      refine loop_gw (fun m a u => ∃ (p109 : List Int × Int) (B110 : Option Addr) (d111 : Nat), m_impl_WorkHeld_l1 x2 x3 m p109 = some _ ∧ Fr a 29 [(1, .int .i64 x3), (4, .slice none 0 0), (5, .slice B110 p109.1.length d111), (12, .slice A2 x2.length c2), (13, .int .i64 (x2.length : Int)), (14, .int .i64 p109.2)] ∧ St w u [.row 3 1 (.slice B110 p109.1.length d111) p109.1.length (p109.1.flatMap eI)]) FUEL ⟨(([] : List Int), 0), none, 0, hM108, hF.keep _ ⟨rfl, rfl, rfl, rfl, rfl, rfl, trivial⟩, S.sel [0] rfl rfl⟩ ?_
      clear hF S hM108; rintro m a u ⟨p109, B110, d111, hM108, hF, S⟩
      rcases m with _ | f1
      · exact none_some hM108
      rw [m_impl_WorkHeld_l1.eq_2] at hM108
      refine wp_seq ?_
      refine wp_region_lit ?_
      refine op_val (v := .bool (ltB p109.2 (x2.length : Int))) rfl rfl hF rfl (run_lss (hF.ev rfl) (hF.ev rfl) rfl) ?_; clear hF; intro a hF
      refine wpList_nil ?_
      refine wp_seq ?_
      cases hc112 : (ltB p109.2 (x2.length : Int))
      · replace hM108 := bif_f hc112 hM108
        refine cond_f hF rfl hc112 ?_
        refine wp_exit ?_
        repeat with_reducible (first | refine then_exit ?_ | refine in_hit ?_ | refine in_miss rfl ?_)
        obtain rfl := Option.some.inj hM108
        exact ⟨p109.1, B110, d111, rfl, hF.keep _ ⟨rfl, rfl, trivial⟩, S.sel [0] rfl rfl⟩
      · replace hM108 := bif_t hc112 hM108
        refine cond_t hF rfl hc112 ?_
        refine wp_skip ?_
        refine wp_seq ?_
        refine wp_block ?_
        refine wp_seq ?_
        refine wp_region_lit ?_
        obtain ⟨hk113, hM108⟩ := chk_ex hM108
        replace hk113 := ixB_t hk113
        refine op_val (v := .pointer (some ⟨adB A2, adO A2 + p109.2.toNat * 2, none⟩)) rfl rfl hF rfl (run_indexAddr (b := adB A2) (off := adO A2) rfl Try.underlying29 sz56 ((hF.ev rfl).trans (congrArg (fun A => Value.slice A x2.length c2) ((S.rc0 h2.rc).rd.ad (ix_pos hk113)))) (hF.ev rfl) hk113.1 hk113.2 (k' := adO A2 + p109.2.toNat * 2) rfl) ?_; clear hF; intro a hF
        refine op_val (v := .agg #[.int .i64 ((x2.getD p109.2.toNat ((0, 0) : Int × Int)).1), .int .i64 ((x2.getD p109.2.toNat ((0, 0) : Int × Int)).2)]) rfl rfl hF rfl (run_loadN (cs := #[.int .i64 ((x2.getD p109.2.toNat ((0, 0) : Int × Int)).1), .int .i64 ((x2.getD p109.2.toNat ((0, 0) : Int × Int)).2)]) rfl ag56 (hF.ev rfl) rfl (rd_elN (l := x2) (S.rc0 h2.rc).rd rfl ePermit_len ((0, 0) : Int × Int) (ix_ltn hk113 rfl) rfl)) ?_; clear hF; intro a hF
        refine op_new (cs := #[.int .i64 0, .int .i64 0]) rfl rfl hF rfl S (run_allocZ rfl zr56) ?_; clear hF S; intro a g114 u hF S
        refine op_do rfl rfl (run_store (cs' := #[.int .i64 ((x2.getD p109.2.toNat ((0, 0) : Int × Int)).1), .int .i64 ((x2.getD p109.2.toNat ((0, 0) : Int × Int)).2)]) rfl sz56 (hF.ev rfl) (hF.ev rfl) rfl rfl rfl (S.free 0 rfl) rfl rfl) ?_; replace S := S.put 0 rfl (#[.int .i64 ((x2.getD p109.2.toNat ((0, 0) : Int × Int)).1), .int .i64 ((x2.getD p109.2.toNat ((0, 0) : Int × Int)).2)])
        generalize World.setRow _ _ _ = u at S ⊢
        refine wpList_nil ?_
        refine wp_seq ?_
        refine wp_region_lit ?_
        refine op_val (v := .pointer (some ⟨g114, 1, none⟩)) rfl rfl hF rfl (run_fieldAddr rfl fl56_1 (hF.ev rfl) rfl) ?_; clear hF; intro a hF
        refine op_val (v := .int .i64 ((x2.getD p109.2.toNat ((0, 0) : Int × Int)).2)) rfl rfl hF rfl (run_load1 rfl one3 (hF.ev rfl) ((S.free 0 rfl).cell rfl)) ?_; clear hF; intro a hF
        refine op_val (v := .int .i64 x3) rfl rfl hF rfl (run_move rfl (hF.ev rfl)) ?_; clear hF; intro a hF
        refine op_val (v := .bool (((x2.getD p109.2.toNat ((0, 0) : Int × Int)).2) == x3)) rfl rfl hF rfl (run_eql (hF.ev rfl) (hF.ev rfl) rfl) ?_; clear hF; intro a hF
        refine wpList_nil ?_
        obtain ⟨o116, hM119, hM108⟩ := bind_ex hM108
        refine wp_cut (fun a u => ∃ (p115 : List Int) (B117 : Option Addr) (d118 : Nat), p115 = o116 ∧ Fr a 29 [(1, .int .i64 x3), (4, .slice none 0 0), (5, .slice B117 p115.length d118), (12, .slice A2 x2.length c2), (13, .int .i64 (x2.length : Int)), (14, .int .i64 p109.2)] ∧ St w u [.row 3 1 (.slice B117 p115.length d118) p115.length (p115.flatMap eI)]) ?_ ?_
        · have _ := trivial
          cases hc120 : (((x2.getD p109.2.toNat ((0, 0) : Int × Int)).2) == x3)
          · replace hM119 := bif_f hc120 hM119
            refine cond_f hF rfl hc120 ?_
            refine wp_skip ?_
            obtain rfl := Option.some.inj hM119
            exact ⟨p109.1, B110, d111, rfl, hF.keep _ ⟨rfl, rfl, rfl, rfl, rfl, rfl, trivial⟩, S.sel [1] rfl rfl⟩
          · replace hM119 := bif_t hc120 hM119
            refine cond_t hF rfl hc120 ?_
            refine wp_region_lit ?_
            refine op_val (v := .slice B110 p109.1.length d111) rfl rfl hF rfl (run_move rfl (hF.ev rfl)) ?_; clear hF; intro a hF
            refine op_val (v := .pointer (some ⟨g114, 0, none⟩)) rfl rfl hF rfl (run_fieldAddr rfl fl56_0 (hF.ev rfl) rfl) ?_; clear hF; intro a hF
            refine op_val (v := .int .i64 ((x2.getD p109.2.toNat ((0, 0) : Int × Int)).1)) rfl rfl hF rfl (run_load1 rfl one3 (hF.ev rfl) ((S.free 0 rfl).cell rfl)) ?_; clear hF; intro a hF
            refine op_newrowL (ls := ([(x2.getD p109.2.toNat ((0, 0) : Int × Int)).1] : List Int)) (e := eI) rfl rfl hF rfl S (run_buildS (vs := [(0, .int .i64 ((x2.getD p109.2.toNat ((0, 0) : Int × Int)).1))]) rfl ⟨⟨rfl, (hF.ev rfl)⟩, trivial⟩ (bs67_1_0 rfl)) rfl eI_len (Nat.le_of_ble_eq_true rfl) ?_; clear hF S; intro a g121 u hF S
            obtain ⟨hk124, hM119⟩ := chk_ex hM119
            replace hk124 := apB_t hk124
            refine op_appendL (lx := p109.1) (ly := [(x2.getD p109.2.toNat ((0, 0) : Int × Int)).1]) rfl rfl hF rfl S rfl (hF.ev rfl) (hF.ev rfl) (i := 2) rfl rfl Try.underlying67 inf3 rfl (by decide) (S.rc 0 rfl).rd rfl eI_one hk124 (by decide) ?_; clear hF S; intro a B122 d123 u hF S
            refine op_val (v := .slice B122 ((p109.1 ++ ([(x2.getD p109.2.toNat ((0, 0) : Int × Int)).1])).length) d123) rfl rfl hF rfl (run_assign rfl (hF.ev rfl)) ?_; clear hF; intro a hF
            refine wpList_nil ?_
            obtain rfl := Option.some.inj hM119
            exact ⟨p109.1 ++ ([(x2.getD p109.2.toNat ((0, 0) : Int × Int)).1]), B122, d123, rfl, hF.keep _ ⟨rfl, rfl, rfl, rfl, rfl, rfl, trivial⟩, S.sel [2] rfl rfl⟩
        · rintro a u ⟨p115, B117, d118, rfl, hF, S⟩
          refine wp_region_lit ?_
          refine op_val (v := .int .i64 (w64 (p109.2 + 1))) rfl rfl hF rfl (run_add (z := w64 (p109.2 + 1)) (hF.ev rfl) rfl rfl rfl) ?_; clear hF; intro a hF
          refine op_val (v := .int .i64 (w64 (p109.2 + 1))) rfl rfl hF rfl (run_move rfl (hF.ev rfl)) ?_; clear hF; intro a hF
          refine wpList_nil ?_
          exact ⟨f1, Nat.lt_succ_self _, (p115, w64 (p109.2 + 1)), B117, d118, hM108, hF.keep _ ⟨rfl, rfl, rfl, rfl, rfl, rfl, trivial⟩, S.sel [0] rfl rfl⟩
    · rintro a u ⟨p104, B106, d107, rfl, hF, S⟩
      refine wp_seq ?_
      refine wp_region_lit ?_
      refine op_val (v := .slice B106 p104.length d107) rfl rfl hF rfl (run_move rfl (hF.ev rfl)) ?_; clear hF; intro a hF
      refine op_val (v := .slice B106 p104.length d107) rfl rfl hF rfl (run_assign rfl (hF.ev rfl)) ?_; clear hF; intro a hF
      refine wpList_nil ?_
      refine wp_ret ?_
      repeat with_reducible (first | refine then_ret ?_ | refine in_ret ?_ | refine in_nrm ?_)
      refine ret1_gw (.inl rfl) hF rfl (res_tmp (hF.ev rfl)) ?_
      obtain rfl := Option.some.inj hM
      exact ⟨B106, p104.length, d107, rfl, rfl, S.sel [0] rfl rfl⟩

set_option maxHeartbeats 4000000 in
theorem c_impl_Work_may {x0 : List Bool} {x1 : List Bool} {x2 : List (Int × Int)} {x3 : Int} {x4 : Int} {x5 : Int} {A0 : Option Addr} {n0 c0 : Nat} {A1 : Option Addr} {n1 c1 : Nat} {A2 : Option Addr} {n2 c2 : Nat} {w : World} {r : Bool} (h0 : Rt w 1 eB A0 n0 c0 x0) (h1 : Rt w 1 eB A1 n1 c1 x1) (h2 : Rt w 2 ePermit A2 n2 c2 x2) (hM : m_impl_Work_may x0 x1 x2 x3 x4 x5 = some r) :
    Calls Try.prog 30 #[.agg #[.slice A0 n0 c0, .slice A1 n1 c1, .slice A2 n2 c2], .agg #[.int .i64 x3, .int .i64 x4, .int .i64 x5]] w (fun e w' => e = .returned (.bool r) ∧ St w w' []) := by
  obtain rfl := h0.len
  obtain rfl := h1.len
  obtain rfl := h2.len
  unfold m_impl_Work_may at hM
  refine calls_gw Try.func30 Try.ntmps30 rfl [(0, .agg #[.slice A0 x0.length c0, .slice A1 x1.length c1, .slice A2 x2.length c2]), (1, .agg #[.int .i64 x3, .int .i64 x4, .int .i64 x5])] ⟨rfl, rfl, trivial⟩ rfl ?_
  intro a hF
  have S := St.nil w
  refine wp_seq ?_
  refine wp_region_lit ?_
  refine op_new (cs := #[.slice A0 x0.length c0, .slice A1 x1.length c1, .slice A2 x2.length c2]) rfl rfl hF rfl S (run_box rfl (hF.ev rfl) rfl) ?_; clear hF S; intro a g101 u hF S
  refine op_new (cs := #[.int .i64 x3, .int .i64 x4, .int .i64 x5]) rfl rfl hF rfl S (run_box rfl (hF.ev rfl) rfl) ?_; clear hF S; intro a g102 u hF S
  refine op_val (v := .bool false) rfl rfl hF rfl (run_assign rfl rfl) ?_; clear hF; intro a hF
  refine wpList_nil ?_
  refine wp_seq ?_
  obtain ⟨hk103, hM⟩ := chk_ex hM
  replace hk103 := ixB_t hk103
  obtain ⟨hk104, hM⟩ := chk_ex hM
  replace hk104 := ixB_t hk104
  refine region_gw (D := [8, 9, 10, 11, 12, 13, 14, 15, 16, 17, 18, 19, 5, 6]) (Lr := [.box g102 35 #[.int .i64 x3, .int .i64 x4, .int .i64 x5], .box g101 31 #[.slice A0 x0.length c0, .slice A1 x1.length c1, .slice A2 x2.length c2]]) (deps := (fun | 0 => [8] | 1 => [9] | 2 => [10] | 3 => [11] | 4 => [12] | 5 => [13] | 6 => [14] | 7 => [15] | 8 => [16] | 9 => [17] | 10 => [18] | 11 => [19] | 12 => [5] | 13 => [6] | _ => [])) (rd := (fun _ => [])) (zr := (fun _ => []))
    (φ := fun i vs => match i, vs with | 0, [v8] => v8 = .pointer (some ⟨g101, 0, none⟩) | 1, [v9] => v9 = .slice A0 x0.length c0 | 2, [v10] => v10 = .pointer (some ⟨g102, 1, none⟩) | 3, [v11] => v11 = .int .i64 x4 | 4, [v12] => v12 = .pointer (some ⟨adB A0, adO A0 + x4.toNat * 1, none⟩) | 5, [v13] => v13 = .bool (x0.getD x4.toNat false) | 6, [v14] => v14 = .pointer (some ⟨g101, 1, none⟩) | 7, [v15] => v15 = .slice A1 x1.length c1 | 8, [v16] => v16 = .pointer (some ⟨g102, 1, none⟩) | 9, [v17] => v17 = .int .i64 x4 | 10, [v18] => v18 = .pointer (some ⟨adB A1, adO A1 + x4.toNat * 1, none⟩) | 11, [v19] => v19 = .bool (x1.getD x4.toNat false) | 12, [v5] => v5 = .bool (x0.getD x4.toNat false) | 13, [v6] => v6 = .bool (x1.getD x4.toNat false) | _, _ => True)
    (C := fun _ _ => [])
    (κ := (fun _ => none)) (Z := (fun _ => [])) mixed hF (by kernel_rfl) S ?_ ?_
  · refine ⟨?_, ?_, ?_, ?_, ?_, ?_, ?_, ?_, ?_, ?_, ?_, ?_, ?_, ?_, trivial⟩
    · intro a u X hB hu hp hr hz hl S
      replace S : St w u ([] ++ X) := S
      exact .inl ⟨rfl, .pointer (some ⟨g101, 0, none⟩), u, (run_fieldAddr rfl fl31_0 (hF.evB hB rfl rfl) rfl), rfl, S⟩
    · intro a u X hB hu hp hr hz hl S
      replace S : St w u ([] ++ X) := S
      have e8 : sl a 8 = .pointer (some ⟨g101, 0, none⟩) := hp 0 rfl
      exact .inl ⟨rfl, .slice A0 x0.length c0, u, (run_load1 rfl one22 (ev_sl e8) ((gr_box S hl 1 rfl).cell rfl)), rfl, S⟩
    · intro a u X hB hu hp hr hz hl S
      replace S : St w u ([] ++ X) := S
      exact .inl ⟨rfl, .pointer (some ⟨g102, 1, none⟩), u, (run_fieldAddr rfl fl35_1 (hF.evB hB rfl rfl) rfl), rfl, S⟩
    · intro a u X hB hu hp hr hz hl S
      replace S : St w u ([] ++ X) := S
      have e10 : sl a 10 = .pointer (some ⟨g102, 1, none⟩) := hp 2 rfl
      exact .inl ⟨rfl, .int .i64 x4, u, (run_load1 rfl one3 (ev_sl e10) ((gr_box S hl 0 rfl).cell rfl)), rfl, S⟩
    · intro a u X hB hu hp hr hz hl S
      replace S : St w u ([] ++ X) := S
      have e9 : sl a 9 = .slice A0 x0.length c0 := hp 1 rfl
      have e11 : sl a 11 = .int .i64 x4 := hp 3 rfl
      exact .inl ⟨rfl, .pointer (some ⟨adB A0, adO A0 + x4.toNat * 1, none⟩), u, (run_indexAddr (b := adB A0) (off := adO A0) rfl Try.underlying22 sz4 ((ev_sl e9).trans (congrArg (fun A => Value.slice A x0.length c0) ((S.rc0 h0.rc).rd.ad (ix_pos hk103)))) (ev_sl e11) hk103.1 hk103.2 (k' := adO A0 + x4.toNat * 1) rfl), rfl, S⟩
    · intro a u X hB hu hp hr hz hl S
      replace S : St w u ([] ++ X) := S
      have e12 : sl a 12 = .pointer (some ⟨adB A0, adO A0 + x4.toNat * 1, none⟩) := hp 4 rfl
      exact .inl ⟨rfl, .bool (x0.getD x4.toNat false), u, (run_load1 rfl one4 (ev_sl e12) (rd_el0 (l := x0) (S.rc0 h0.rc).rd rfl eB_len false (ix_ltn hk103 rfl) rfl)), rfl, S⟩
    · intro a u X hB hu hp hr hz hl S
      replace S : St w u ([] ++ X) := S
      exact .inl ⟨rfl, .pointer (some ⟨g101, 1, none⟩), u, (run_fieldAddr rfl fl31_1 (hF.evB hB rfl rfl) rfl), rfl, S⟩
    · intro a u X hB hu hp hr hz hl S
      replace S : St w u ([] ++ X) := S
      have e14 : sl a 14 = .pointer (some ⟨g101, 1, none⟩) := hp 6 rfl
      exact .inl ⟨rfl, .slice A1 x1.length c1, u, (run_load1 rfl one22 (ev_sl e14) ((gr_box S hl 1 rfl).cell rfl)), rfl, S⟩
    · intro a u X hB hu hp hr hz hl S
      replace S : St w u ([] ++ X) := S
      exact .inl ⟨rfl, .pointer (some ⟨g102, 1, none⟩), u, (run_fieldAddr rfl fl35_1 (hF.evB hB rfl rfl) rfl), rfl, S⟩
    · intro a u X hB hu hp hr hz hl S
      replace S : St w u ([] ++ X) := S
      have e16 : sl a 16 = .pointer (some ⟨g102, 1, none⟩) := hp 8 rfl
      exact .inl ⟨rfl, .int .i64 x4, u, (run_load1 rfl one3 (ev_sl e16) ((gr_box S hl 0 rfl).cell rfl)), rfl, S⟩
    · intro a u X hB hu hp hr hz hl S
      replace S : St w u ([] ++ X) := S
      have e15 : sl a 15 = .slice A1 x1.length c1 := hp 7 rfl
      have e17 : sl a 17 = .int .i64 x4 := hp 9 rfl
      exact .inl ⟨rfl, .pointer (some ⟨adB A1, adO A1 + x4.toNat * 1, none⟩), u, (run_indexAddr (b := adB A1) (off := adO A1) rfl Try.underlying22 sz4 ((ev_sl e15).trans (congrArg (fun A => Value.slice A x1.length c1) ((S.rc0 h1.rc).rd.ad (ix_pos hk104)))) (ev_sl e17) hk104.1 hk104.2 (k' := adO A1 + x4.toNat * 1) rfl), rfl, S⟩
    · intro a u X hB hu hp hr hz hl S
      replace S : St w u ([] ++ X) := S
      have e18 : sl a 18 = .pointer (some ⟨adB A1, adO A1 + x4.toNat * 1, none⟩) := hp 10 rfl
      exact .inl ⟨rfl, .bool (x1.getD x4.toNat false), u, (run_load1 rfl one4 (ev_sl e18) (rd_el0 (l := x1) (S.rc0 h1.rc).rd rfl eB_len false (ix_ltn hk104 rfl) rfl)), rfl, S⟩
    · intro a u X hB hu hp hr hz hl S
      replace S : St w u ([] ++ X) := S
      have e13 : sl a 13 = .bool (x0.getD x4.toNat false) := hp 5 rfl
      exact .inl ⟨rfl, .bool (x0.getD x4.toNat false), u, (run_assign rfl (ev_sl e13)), rfl, S⟩
    · intro a u X hB hu hp hr hz hl S
      replace S : St w u ([] ++ X) := S
      have e19 : sl a 19 = .bool (x1.getD x4.toNat false) := hp 11 rfl
      exact .inl ⟨rfl, .bool (x1.getD x4.toNat false), u, (run_assign rfl (ev_sl e19)), rfl, S⟩
  · intro a u hB hp S
    obtain ⟨q0, q1, q2, q3, q4, q5, q6, q7, q8, q9, q10, q11, q12, q13, _⟩ := hp
    have e8 : sl a 8 = .pointer (some ⟨g101, 0, none⟩) := q0
    have e9 : sl a 9 = .slice A0 x0.length c0 := q1
    have e10 : sl a 10 = .pointer (some ⟨g102, 1, none⟩) := q2
    have e11 : sl a 11 = .int .i64 x4 := q3
    have e12 : sl a 12 = .pointer (some ⟨adB A0, adO A0 + x4.toNat * 1, none⟩) := q4
    have e13 : sl a 13 = .bool (x0.getD x4.toNat false) := q5
    have e14 : sl a 14 = .pointer (some ⟨g101, 1, none⟩) := q6
    have e15 : sl a 15 = .slice A1 x1.length c1 := q7
    have e16 : sl a 16 = .pointer (some ⟨g102, 1, none⟩) := q8
    have e17 : sl a 17 = .int .i64 x4 := q9
    have e18 : sl a 18 = .pointer (some ⟨adB A1, adO A1 + x4.toNat * 1, none⟩) := q10
    have e19 : sl a 19 = .bool (x1.getD x4.toNat false) := q11
    have e5 : sl a 5 = .bool (x0.getD x4.toNat false) := q12
    have e6 : sl a 6 = .bool (x1.getD x4.toNat false) := q13
    replace S : St w u [.box g102 35 #[.int .i64 x3, .int .i64 x4, .int .i64 x5], .box g101 31 #[.slice A0 x0.length c0, .slice A1 x1.length c1, .slice A2 x2.length c2]] := S
    clear q0 q1 q2 q3 q4 q5 q6 q7 q8 q9 q10 q11 q12 q13
    have hF := hF.region hB [(8, .pointer (some ⟨g101, 0, none⟩)), (9, .slice A0 x0.length c0), (10, .pointer (some ⟨g102, 1, none⟩)), (11, .int .i64 x4), (12, .pointer (some ⟨adB A0, adO A0 + x4.toNat * 1, none⟩)), (13, .bool (x0.getD x4.toNat false)), (14, .pointer (some ⟨g101, 1, none⟩)), (15, .slice A1 x1.length c1), (16, .pointer (some ⟨g102, 1, none⟩)), (17, .int .i64 x4), (18, .pointer (some ⟨adB A1, adO A1 + x4.toNat * 1, none⟩)), (19, .bool (x1.getD x4.toNat false)), (5, .bool (x0.getD x4.toNat false)), (6, .bool (x1.getD x4.toNat false))] (allSl_mem ⟨e8, e9, e10, e11, e12, e13, e14, e15, e16, e17, e18, e19, e5, e6, trivial⟩) rfl
    clear hB e8 e9 e10 e11 e12 e13 e14 e15 e16 e17 e18 e19 e5 e6
    refine wp_seq ?_
    refine wp_region_lit ?_
    refine op_val (v := .pointer (some ⟨g101, 2, none⟩)) rfl rfl hF rfl (run_fieldAddr rfl fl31_2 (hF.ev rfl) rfl) ?_; clear hF; intro a hF
    refine op_val (v := .slice A2 x2.length c2) rfl rfl hF rfl (run_load1 rfl one29 (hF.ev rfl) ((S.free 1 rfl).cell rfl)) ?_; clear hF; intro a hF
    refine op_val (v := .pointer (some ⟨g102, 2, none⟩)) rfl rfl hF rfl (run_fieldAddr rfl fl35_2 (hF.ev rfl) rfl) ?_; clear hF; intro a hF
    refine op_val (v := .int .i64 x5) rfl rfl hF rfl (run_load1 rfl one3 (hF.ev rfl) ((S.free 0 rfl).cell rfl)) ?_; clear hF; intro a hF
    refine op_val (v := .pointer (some ⟨g102, 1, none⟩)) rfl rfl hF rfl (run_fieldAddr rfl fl35_1 (hF.ev rfl) rfl) ?_; clear hF; intro a hF
    refine op_val (v := .int .i64 x4) rfl rfl hF rfl (run_load1 rfl one3 (hF.ev rfl) ((S.free 0 rfl).cell rfl)) ?_; clear hF; intro a hF
    refine op_val (v := .agg #[.int .i64 x5, .int .i64 x4]) rfl rfl hF rfl (run_build (vs := [(0, .int .i64 x5), (1, .int .i64 x4)]) rfl ⟨⟨rfl, (hF.ev rfl)⟩, ⟨rfl, (hF.ev rfl)⟩, trivial⟩ (bd56_0_1 rfl rfl)) ?_; clear hF; intro a hF
    obtain ⟨p105, h105, hM⟩ := bind_ex hM
    refine op_call rfl rfl hF rfl (run_call (vs := [.slice A2 x2.length c2, .agg #[.int .i64 x5, .int .i64 x4]]) rfl rfl co43 ⟨(hF.ev rfl), (hF.ev rfl), trivial⟩) (c_slices_Contains_impl_Permit_impl_Permit (x0 := x2) (x1 := x5) (x2 := x4) ⟨(S.rc0 h2.rc), rfl⟩ h105) ?_
    rintro e u ⟨rfl, T⟩
    refine ⟨_, rfl, ?_⟩
    clear hF; intro a hF
    replace S := S.call0 T; clear T
    refine op_val (v := .bool p105) rfl rfl hF rfl (run_assign rfl (hF.ev rfl)) ?_; clear hF; intro a hF
    refine wpList_nil ?_
    refine wp_seq ?_
    refine wp_seq ?_
    refine wp_region_lit ?_
    refine op_val (v := .pointer (some ⟨g102, 0, none⟩)) rfl rfl hF rfl (run_fieldAddr rfl fl35_0 (hF.ev rfl) rfl) ?_; clear hF; intro a hF
    refine op_val (v := .int .i64 x3) rfl rfl hF rfl (run_load1 rfl one3 (hF.ev rfl) ((S.free 0 rfl).cell rfl)) ?_; clear hF; intro a hF
    refine wpList_nil ?_
    refine wp_block ?_
    refine wp_seq ?_
    refine wp_seq ?_
    refine wp_region_lit ?_
    refine op_val (v := .bool (x3 == 0)) rfl rfl hF rfl (run_eql (hF.ev rfl) rfl rfl) ?_; clear hF; intro a hF
    refine op_val (v := .bool (x3 == 0)) rfl rfl hF rfl (run_assign rfl (hF.ev rfl)) ?_; clear hF; intro a hF
    refine wpList_nil ?_
    obtain ⟨o107, hM108, hM⟩ := bind_ex hM
    refine wp_cut (fun a u => ∃ (p106 : Bool), p106 = o107 ∧ Fr a 79 [(2, .pointer (some ⟨g101, 0, none⟩)), (3, .pointer (some ⟨g102, 0, none⟩)), (4, .bool false), (5, .bool (x0.getD x4.toNat false)), (6, .bool (x1.getD x4.toNat false)), (7, .bool p105), (29, .int .i64 x3), (30, .bool p106)] ∧ St w u [.box g102 35 #[.int .i64 x3, .int .i64 x4, .int .i64 x5], .box g101 31 #[.slice A0 x0.length c0, .slice A1 x1.length c1, .slice A2 x2.length c2]]) ?_ ?_
    · have _ := trivial
      cases hc109 : (x3 == 0)
      · replace hM108 := bif_f hc109 hM108
        refine cond_f hF rfl hc109 ?_
        refine wp_region_lit ?_
        refine op_val (v := .bool (x3 == 2)) rfl rfl hF rfl (run_eql (hF.ev rfl) rfl rfl) ?_; clear hF; intro a hF
        refine op_val (v := .bool (x3 == 2)) rfl rfl hF rfl (run_assign rfl (hF.ev rfl)) ?_; clear hF; intro a hF
        refine wpList_nil ?_
        obtain rfl := Option.some.inj hM108
        exact ⟨x3 == 2, rfl, hF.keep _ ⟨rfl, rfl, rfl, rfl, rfl, rfl, rfl, rfl, trivial⟩, S.sel [0, 1] rfl rfl⟩
      · replace hM108 := bif_t hc109 hM108
        refine cond_t hF rfl hc109 ?_
        refine wp_skip ?_
        obtain rfl := Option.some.inj hM108
        exact ⟨x3 == 0, rfl, hF.keep _ ⟨rfl, rfl, rfl, rfl, rfl, rfl, rfl, rfl, trivial⟩, S.sel [0, 1] rfl rfl⟩
    · rintro a u ⟨p106, rfl, hF, S⟩
      cases hc110 : (p106)
      · replace hM := bif_f hc110 hM
        refine cond_f hF rfl hc110 ?_
        refine wp_seq ?_
        refine wp_region_lit ?_
        refine op_val (v := .bool (x3 == 1)) rfl rfl hF rfl (run_eql (hF.ev rfl) rfl rfl) ?_; clear hF; intro a hF
        refine op_val (v := .bool (x3 == 1)) rfl rfl hF rfl (run_assign rfl (hF.ev rfl)) ?_; clear hF; intro a hF
        refine wpList_nil ?_
        cases hc111 : (x3 == 1)
        · replace hM := bif_f hc111 hM
          refine cond_f hF rfl hc111 ?_
          refine wp_seq ?_
          refine wp_region_lit ?_
          refine op_val (v := .bool (x3 == 3)) rfl rfl hF rfl (run_eql (hF.ev rfl) rfl rfl) ?_; clear hF; intro a hF
          refine op_val (v := .bool (x3 == 3)) rfl rfl hF rfl (run_assign rfl (hF.ev rfl)) ?_; clear hF; intro a hF
          refine wpList_nil ?_
          cases hc112 : (x3 == 3)
          · replace hM := bif_f hc112 hM
            refine cond_f hF rfl hc112 ?_
            refine wp_seq ?_
            refine wp_region_lit ?_
            refine op_val (v := .bool (x3 == 4)) rfl rfl hF rfl (run_eql (hF.ev rfl) rfl rfl) ?_; clear hF; intro a hF
            refine op_val (v := .bool (x3 == 4)) rfl rfl hF rfl (run_assign rfl (hF.ev rfl)) ?_; clear hF; intro a hF
            refine wpList_nil ?_
            cases hc113 : (x3 == 4)
            · replace hM := bif_f hc113 hM
              refine cond_f hF rfl hc113 ?_
              refine wp_seq ?_
              refine wp_region_lit ?_
              refine op_val (v := .bool (x3 == 5)) rfl rfl hF rfl (run_eql (hF.ev rfl) rfl rfl) ?_; clear hF; intro a hF
              refine op_val (v := .bool (x3 == 5)) rfl rfl hF rfl (run_assign rfl (hF.ev rfl)) ?_; clear hF; intro a hF
              refine wpList_nil ?_
              cases hc114 : (x3 == 5)
              · replace hM := bif_f hc114 hM
                refine cond_f hF rfl hc114 ?_
                refine wp_skip ?_
                refine wp_seq ?_
                refine wp_region_lit ?_
                refine op_val (v := .bool false) rfl rfl hF rfl (run_assign rfl rfl) ?_; clear hF; intro a hF
                refine wpList_nil ?_
                refine wp_ret ?_
                repeat with_reducible (first | refine then_ret ?_ | refine in_ret ?_ | refine in_nrm ?_)
                refine ret1_gw (.inl rfl) hF rfl (res_tmp (hF.ev rfl)) ?_
                obtain rfl := Option.some.inj hM
                exact ⟨rfl, S.sel [] rfl rfl⟩
              · replace hM := bif_t hc114 hM
                refine cond_t hF rfl hc114 ?_
                refine wp_seq ?_
                refine wp_region_lit ?_
                refine op_val (v := .bool p105) rfl rfl hF rfl (run_move rfl (hF.ev rfl)) ?_; clear hF; intro a hF
                refine op_val (v := .bool p105) rfl rfl hF rfl (run_assign rfl (hF.ev rfl)) ?_; clear hF; intro a hF
                refine wpList_nil ?_
                refine wp_ret ?_
                repeat with_reducible (first | refine then_ret ?_ | refine in_ret ?_ | refine in_nrm ?_)
                refine ret1_gw (.inl rfl) hF rfl (res_tmp (hF.ev rfl)) ?_
                obtain rfl := Option.some.inj hM
                exact ⟨rfl, S.sel [] rfl rfl⟩
            · replace hM := bif_t hc113 hM
              refine cond_t hF rfl hc113 ?_
              refine wp_seq ?_
              refine wp_region_lit ?_
              refine op_val (v := .bool (x1.getD x4.toNat false)) rfl rfl hF rfl (run_move rfl (hF.ev rfl)) ?_; clear hF; intro a hF
              refine op_val (v := .bool (x1.getD x4.toNat false)) rfl rfl hF rfl (run_move rfl (hF.ev rfl)) ?_; clear hF; intro a hF
              refine op_gv (v := .bool p105) rfl rfl hF rfl (yt (gw_yield hF rfl rfl rfl)) (fun hg => (run_move rfl (hF.ev rfl))) ?_; clear hF; intro a hF
              refine op_gv (v := .bool (!p105)) rfl rfl hF rfl (yt (gw_yield hF rfl rfl rfl)) (fun hg => (run_not rfl ((hF.ev rfl).trans (gv_t hg)))) ?_; clear hF; intro a hF
              refine op_val (v := .bool ((x1.getD x4.toNat false) && (!p105))) rfl rfl hF rfl (run_pick_and rfl (hF.ev rfl) (fun hp => ((hF.ev rfl).trans (gv_t hp))) rfl) ?_; clear hF; intro a hF
              refine op_val (v := .bool ((x1.getD x4.toNat false) && (!p105))) rfl rfl hF rfl (run_move rfl (hF.ev rfl)) ?_; clear hF; intro a hF
              refine op_gv (v := .pointer (some ⟨g102, 2, none⟩)) rfl rfl hF rfl (yt (gw_yield hF rfl rfl rfl)) (fun hg => (run_fieldAddr rfl fl35_2 (hF.ev rfl) rfl)) ?_; clear hF; intro a hF
              refine op_gv (v := .int .i64 x5) rfl rfl hF rfl (yt (gw_yield hF rfl rfl rfl)) (fun hg => (run_load1 rfl one3 ((hF.ev rfl).trans (gv_t hg)) ((S.free 0 rfl).cell rfl))) ?_; clear hF; intro a hF
              refine op_gv (v := .bool (leB 0 x5)) rfl rfl hF rfl (yt (gw_yield hF rfl rfl rfl)) (fun hg => (run_geq ((hF.ev rfl).trans (gv_t hg)) rfl rfl)) ?_; clear hF; intro a hF
              refine op_val (v := .bool (((x1.getD x4.toNat false) && (!p105)) && (leB 0 x5))) rfl rfl hF rfl (run_pick_and rfl (hF.ev rfl) (fun hp => ((hF.ev rfl).trans (gv_t hp))) rfl) ?_; clear hF; intro a hF
              refine op_val (v := .bool (((x1.getD x4.toNat false) && (!p105)) && (leB 0 x5))) rfl rfl hF rfl (run_move rfl (hF.ev rfl)) ?_; clear hF; intro a hF
              refine op_gv (v := .pointer (some ⟨g102, 2, none⟩)) rfl rfl hF rfl (yt (gw_yield hF rfl rfl rfl)) (fun hg => (run_fieldAddr rfl fl35_2 (hF.ev rfl) rfl)) ?_; clear hF; intro a hF
              refine op_gv (v := .int .i64 x5) rfl rfl hF rfl (yt (gw_yield hF rfl rfl rfl)) (fun hg => (run_load1 rfl one3 ((hF.ev rfl).trans (gv_t hg)) ((S.free 0 rfl).cell rfl))) ?_; clear hF; intro a hF
              refine op_gv (v := .bool (leB x5 9)) rfl rfl hF rfl (yt (gw_yield hF rfl rfl rfl)) (fun hg => (run_leq ((hF.ev rfl).trans (gv_t hg)) rfl rfl)) ?_; clear hF; intro a hF
              refine op_val (v := .bool ((((x1.getD x4.toNat false) && (!p105)) && (leB 0 x5)) && (leB x5 9))) rfl rfl hF rfl (run_pick_and rfl (hF.ev rfl) (fun hp => ((hF.ev rfl).trans (gv_t hp))) rfl) ?_; clear hF; intro a hF
              refine op_val (v := .bool ((((x1.getD x4.toNat false) && (!p105)) && (leB 0 x5)) && (leB x5 9))) rfl rfl hF rfl (run_move rfl (hF.ev rfl)) ?_; clear hF; intro a hF
              refine op_gv (v := .pointer (some ⟨g101, 2, none⟩)) rfl rfl hF rfl (yt (gw_yield hF rfl rfl rfl)) (fun hg => (run_fieldAddr rfl fl31_2 (hF.ev rfl) rfl)) ?_; clear hF; intro a hF
              refine op_gv (v := .slice A2 x2.length c2) rfl rfl hF rfl (yt (gw_yield hF rfl rfl rfl)) (fun hg => (run_load1 rfl one29 ((hF.ev rfl).trans (gv_t hg)) ((S.free 1 rfl).cell rfl))) ?_; clear hF; intro a hF
              refine op_gv (v := .int .i64 (x2.length : Int)) rfl rfl hF rfl (yt (gw_yield hF rfl rfl rfl)) (fun hg => (run_lenL rfl rfl Try.underlying29 ((hF.ev rfl).trans (gv_t hg)))) ?_; clear hF; intro a hF
              refine op_gv (v := .bool (ltB (x2.length : Int) 6)) rfl rfl hF rfl (yt (gw_yield hF rfl rfl rfl)) (fun hg => (run_lss ((hF.ev rfl).trans (gv_t hg)) rfl rfl)) ?_; clear hF; intro a hF
              refine op_val (v := .bool (((((x1.getD x4.toNat false) && (!p105)) && (leB 0 x5)) && (leB x5 9)) && (ltB (x2.length : Int) 6))) rfl rfl hF rfl (run_pick_and rfl (hF.ev rfl) (fun hp => ((hF.ev rfl).trans (gv_t hp))) rfl) ?_; clear hF; intro a hF
              refine op_val (v := .bool (((((x1.getD x4.toNat false) && (!p105)) && (leB 0 x5)) && (leB x5 9)) && (ltB (x2.length : Int) 6))) rfl rfl hF rfl (run_assign rfl (hF.ev rfl)) ?_; clear hF; intro a hF
              refine wpList_nil ?_
              refine wp_ret ?_
              repeat with_reducible (first | refine then_ret ?_ | refine in_ret ?_ | refine in_nrm ?_)
              refine ret1_gw (.inl rfl) hF rfl (res_tmp (hF.ev rfl)) ?_
              obtain rfl := Option.some.inj hM
              exact ⟨rfl, S.sel [] rfl rfl⟩
          · replace hM := bif_t hc112 hM
            refine cond_t hF rfl hc112 ?_
            refine wp_seq ?_
            obtain ⟨o116, hM117, hM⟩ := bind_ex hM
            refine wp_cut (fun a u => ∃ (p115 : Bool), p115 = o116 ∧ Fr a 79 [(4, .bool p115)] ∧ St w u []) ?_ ?_
            · have _ := trivial
              refine wp_region_lit ?_
              refine op_val (v := .bool (x1.getD x4.toNat false)) rfl rfl hF rfl (run_move rfl (hF.ev rfl)) ?_; clear hF; intro a hF
              refine op_val (v := .bool (x1.getD x4.toNat false)) rfl rfl hF rfl (run_move rfl (hF.ev rfl)) ?_; clear hF; intro a hF
              refine op_gv (v := .agg #[.slice A0 x0.length c0, .slice A1 x1.length c1, .slice A2 x2.length c2]) rfl rfl hF rfl (yt (gw_yield hF rfl rfl rfl)) (fun hg => (run_loadN rfl ag31 (hF.ev rfl) rfl ((S.free 1 rfl).cells 0 #[.slice A0 x0.length c0, .slice A1 x1.length c1, .slice A2 x2.length c2] rfl))) ?_; clear hF; intro a hF
              refine op_gv (v := .pointer (some ⟨g102, 1, none⟩)) rfl rfl hF rfl (yt (gw_yield hF rfl rfl rfl)) (fun hg => (run_fieldAddr rfl fl35_1 (hF.ev rfl) rfl)) ?_; clear hF; intro a hF
              refine op_gv (v := .int .i64 x4) rfl rfl hF rfl (yt (gw_yield hF rfl rfl rfl)) (fun hg => (run_load1 rfl one3 ((hF.ev rfl).trans (gv_t hg)) ((S.free 0 rfl).cell rfl))) ?_; clear hF; intro a hF
              cases hc118 : (x1.getD x4.toNat false)
              · replace hM117 := bif_f hc118 hM117
                refine op_skipped rfl ((gw_yield hF rfl rfl rfl).trans (congrArg some hc118)) rfl rfl hF rfl ?_; clear hF; intro a hF
                refine op_skipped rfl ((gw_yield hF rfl rfl rfl).trans (congrArg some hc118)) rfl rfl hF rfl ?_; clear hF; intro a hF
                refine op_skipped rfl ((gw_yield hF rfl rfl rfl).trans (congrArg some hc118)) rfl rfl hF rfl ?_; clear hF; intro a hF
                refine op_val (v := .bool false) rfl rfl hF rfl (run_pick_f rfl (hF.ev rfl) hc118 rfl) ?_; clear hF; intro a hF
                refine op_val (v := .bool false) rfl rfl hF rfl (run_assign rfl (hF.ev rfl)) ?_; clear hF; intro a hF
                refine wpList_nil ?_
                obtain rfl := Option.some.inj hM117
                exact ⟨false, rfl, hF.keep _ ⟨rfl, trivial⟩, S.sel [] rfl rfl⟩
              · replace hM117 := bif_t hc118 hM117
                refine op_guarded rfl ((gw_yield hF rfl rfl rfl).trans (congrArg some hc118)) ?_
                obtain ⟨p119, h119, hM117⟩ := bind_ex hM117
                refine op_call rfl rfl hF rfl (run_call (vs := [.agg #[.slice A0 x0.length c0, .slice A1 x1.length c1, .slice A2 x2.length c2], .int .i64 x4]) rfl rfl co46 ⟨((hF.ev rfl).trans (gv_t hc118)), ((hF.ev rfl).trans (gv_t hc118)), trivial⟩) (c_impl_WorkHeld (x0 := x0) (x1 := x1) (x2 := x2) (x3 := x4) ⟨(S.rc0 h0.rc), rfl⟩ ⟨(S.rc0 h1.rc), rfl⟩ ⟨(S.rc0 h2.rc), rfl⟩ h119) ?_
                rintro e u ⟨B120, n121, d122, rfl, rfl, T⟩
                refine ⟨_, rfl, ?_⟩
                clear hF; intro a hF
                replace S := S.call1 T; clear T
                refine op_guarded rfl ((gw_yield hF rfl rfl rfl).trans (congrArg some hc118)) ?_
                refine op_val (v := .int .i64 (p119.length : Int)) rfl rfl hF rfl (run_lenL rfl rfl Try.underlying67 (hF.ev rfl)) ?_; clear hF; intro a hF
                refine op_guarded rfl ((gw_yield hF rfl rfl rfl).trans (congrArg some hc118)) ?_
                refine op_val (v := .bool ((p119.length : Int) == 0)) rfl rfl hF rfl (run_eql (hF.ev rfl) rfl rfl) ?_; clear hF; intro a hF
                refine op_val (v := .bool ((p119.length : Int) == 0)) rfl rfl hF rfl (run_pick_t rfl (hF.ev rfl) hc118 (hF.ev rfl)) ?_; clear hF; intro a hF
                refine op_val (v := .bool ((p119.length : Int) == 0)) rfl rfl hF rfl (run_assign rfl (hF.ev rfl)) ?_; clear hF; intro a hF
                refine wpList_nil ?_
                obtain rfl := Option.some.inj hM117
                exact ⟨(p119.length : Int) == 0, rfl, hF.keep _ ⟨rfl, trivial⟩, S.sel [] rfl rfl⟩
            · rintro a u ⟨p115, rfl, hF, S⟩
              refine wp_ret ?_
              repeat with_reducible (first | refine then_ret ?_ | refine in_ret ?_ | refine in_nrm ?_)
              refine ret1_gw (.inl rfl) hF rfl (res_tmp (hF.ev rfl)) ?_
              obtain rfl := Option.some.inj hM
              exact ⟨rfl, S.sel [] rfl rfl⟩
        · replace hM := bif_t hc111 hM
          refine cond_t hF rfl hc111 ?_
          refine wp_seq ?_
          refine wp_region_lit ?_
          refine op_val (v := .bool (x0.getD x4.toNat false)) rfl rfl hF rfl (run_move rfl (hF.ev rfl)) ?_; clear hF; intro a hF
          refine op_val (v := .bool (x0.getD x4.toNat false)) rfl rfl hF rfl (run_assign rfl (hF.ev rfl)) ?_; clear hF; intro a hF
          refine wpList_nil ?_
          refine wp_ret ?_
          repeat with_reducible (first | refine then_ret ?_ | refine in_ret ?_ | refine in_nrm ?_)
          refine ret1_gw (.inl rfl) hF rfl (res_tmp (hF.ev rfl)) ?_
          obtain rfl := Option.some.inj hM
          exact ⟨rfl, S.sel [] rfl rfl⟩
      · replace hM := bif_t hc110 hM
        refine cond_t hF rfl hc110 ?_
        refine wp_seq ?_
        refine wp_region_lit ?_
        refine op_val (v := .bool (x0.getD x4.toNat false)) rfl rfl hF rfl (run_move rfl (hF.ev rfl)) ?_; clear hF; intro a hF
        refine op_val (v := .bool (!(x0.getD x4.toNat false))) rfl rfl hF rfl (run_not rfl (hF.ev rfl)) ?_; clear hF; intro a hF
        refine op_val (v := .bool (!(x0.getD x4.toNat false))) rfl rfl hF rfl (run_move rfl (hF.ev rfl)) ?_; clear hF; intro a hF
        refine op_gv (v := .bool (x1.getD x4.toNat false)) rfl rfl hF rfl (yt (gw_yield hF rfl rfl rfl)) (fun hg => (run_move rfl (hF.ev rfl))) ?_; clear hF; intro a hF
        refine op_gv (v := .bool (!(x1.getD x4.toNat false))) rfl rfl hF rfl (yt (gw_yield hF rfl rfl rfl)) (fun hg => (run_not rfl ((hF.ev rfl).trans (gv_t hg)))) ?_; clear hF; intro a hF
        refine op_val (v := .bool ((!(x0.getD x4.toNat false)) && (!(x1.getD x4.toNat false)))) rfl rfl hF rfl (run_pick_and rfl (hF.ev rfl) (fun hp => ((hF.ev rfl).trans (gv_t hp))) rfl) ?_; clear hF; intro a hF
        refine op_val (v := .bool ((!(x0.getD x4.toNat false)) && (!(x1.getD x4.toNat false)))) rfl rfl hF rfl (run_assign rfl (hF.ev rfl)) ?_; clear hF; intro a hF
        refine wpList_nil ?_
        refine wp_ret ?_
        repeat with_reducible (first | refine then_ret ?_ | refine in_ret ?_ | refine in_nrm ?_)
        refine ret1_gw (.inl rfl) hF rfl (res_tmp (hF.ev rfl)) ?_
        obtain rfl := Option.some.inj hM
        exact ⟨rfl, S.sel [] rfl rfl⟩

set_option maxHeartbeats 4000000 in
theorem c_slices_Delete_impl_Permit_impl_Permit {x0 : List (Int × Int)} {x1 : Int} {x2 : Int} {A0 : Option Addr} {n0 c0 : Nat} {w : World} {r : List (Int × Int)} {w0 : World} {X : List Asn} (h0 : n0 = x0.length) (S : St w0 w (Asn.row 56 2 (.slice A0 n0 c0) n0 (x0.flatMap ePermit) :: X)) (hM : m_slices_Delete_impl_Permit_impl_Permit x0 x1 x2 = some r) :
    Calls Try.prog 32 #[.slice A0 n0 c0, .int .i64 x1, .int .i64 x2] w (fun e w' => ∃ (B0 : Option Addr) (N0 D0 : Nat), e = .returned (.slice B0 N0 D0) ∧ N0 = r.length ∧ St w0 w' (Asn.row 56 2 (.slice B0 N0 D0) N0 (r.flatMap ePermit) :: X)) := by
  obtain rfl := h0
  unfold m_slices_Delete_impl_Permit_impl_Permit at hM
  refine calls_gw Try.func32 Try.ntmps32 rfl [(0, .slice A0 x0.length c0), (1, .int .i64 x1), (2, .int .i64 x2)] ⟨rfl, rfl, rfl, trivial⟩ rfl ?_
  intro a hF
  refine wp_seq ?_
  refine wp_region_lit ?_
  refine op_val (v := .slice none 0 0) rfl rfl hF rfl (run_assign rfl rfl) ?_; clear hF; intro a hF
  refine wpList_nil ?_
  refine wp_seq ?_
  refine wp_region_lit ?_
  refine op_val (v := .slice A0 x0.length c0) rfl rfl hF rfl (run_move rfl (hF.ev rfl)) ?_; clear hF; intro a hF
  refine op_val (v := .int .i64 x1) rfl rfl hF rfl (run_move rfl (hF.ev rfl)) ?_; clear hF; intro a hF
  refine op_val (v := .int .i64 x2) rfl rfl hF rfl (run_move rfl (hF.ev rfl)) ?_; clear hF; intro a hF
  refine op_val (v := .slice A0 x0.length c0) rfl rfl hF rfl (run_move rfl (hF.ev rfl)) ?_; clear hF; intro a hF
  refine op_val (v := .int .i64 (x0.length : Int)) rfl rfl hF rfl (run_lenL rfl rfl Try.underlying29 (hF.ev rfl)) ?_; clear hF; intro a hF
  obtain ⟨hk101, hM⟩ := chk_ex hM
  replace hk101 := slB_t hk101
  refine op_val (v := .slice (subA ((x0.length : Int).toNat) x1.toNat 2 A0) (x2.toNat - x1.toNat) ((x0.length : Int).toNat - x1.toNat)) rfl rfl hF rfl (run_slice3 rfl Try.underlying29 sz56 (hF.ev rfl) (hF.ev rfl) (hF.ev rfl) (hF.ev rfl) hk101 (Int.ofNat_le.2 (S.rc 0 rfl).cap)) ?_; clear hF; intro a hF
  refine wpList_nil ?_
  refine wp_seq ?_
  refine wp_seq ?_
  refine wp_region_lit ?_
  refine op_val (v := .int .i64 x1) rfl rfl hF rfl (run_move rfl (hF.ev rfl)) ?_; clear hF; intro a hF
  refine op_val (v := .int .i64 x2) rfl rfl hF rfl (run_move rfl (hF.ev rfl)) ?_; clear hF; intro a hF
  refine op_val (v := .bool (x1 == x2)) rfl rfl hF rfl (run_eql (hF.ev rfl) (hF.ev rfl) rfl) ?_; clear hF; intro a hF
  refine wpList_nil ?_
  cases hc102 : (x1 == x2)
  · replace hM := bif_f hc102 hM
    refine cond_f hF rfl hc102 ?_
    refine wp_skip ?_
    refine wp_seq ?_
    refine wp_region_lit ?_
    refine op_val (v := .slice A0 x0.length c0) rfl rfl hF rfl (run_move rfl (hF.ev rfl)) ?_; clear hF; intro a hF
    refine op_val (v := .int .i64 (x0.length : Int)) rfl rfl hF rfl (run_lenL rfl rfl Try.underlying29 (hF.ev rfl)) ?_; clear hF; intro a hF
    refine op_val (v := .int .i64 (x0.length : Int)) rfl rfl hF rfl (run_assign rfl (hF.ev rfl)) ?_; clear hF; intro a hF
    refine wpList_nil ?_
    refine wp_seq ?_
    obtain ⟨hk103, hM⟩ := chk_ex hM
    replace hk103 := slB_t hk103
    obtain ⟨hk104, hM⟩ := chk_ex hM
    replace hk104 := slB_t hk104
    obtain ⟨hk105, hM⟩ := chk_ex hM
    replace hk105 := apB_t hk105
    have hp106 := (S.rc 0 rfl).cap
    have hq107 := del_len (l := x0) (p := x1) (q := x2) rfl (by omega)
    refine region_gw (D := [20, 21, 22, 23, 24, 25, 26, 0]) (Lr := (X)) (deps := (fun | 0 => [20] | 1 => [21] | 2 => [22] | 3 => [23] | 4 => [24] | 5 => [25] | 6 => [26] | 7 => [0] | _ => [])) (rd := (fun _ => [])) (zr := (fun | 2 => [6] | 5 => [6] | _ => []))
      (φ := fun i vs => match i, vs with | 0, [v20] => v20 = .slice A0 x0.length c0 | 1, [v21] => v21 = .int .i64 x1 | 2, [v22] => v22 = .slice (subA c0 ((0 : Int).toNat) 2 A0) ((subL x0 0 x1).length) (c0 - (0 : Int).toNat) | 3, [v23] => v23 = .slice A0 x0.length c0 | 4, [v24] => v24 = .int .i64 x2 | 5, [v25] => v25 = .slice (subA c0 x2.toNat 2 A0) ((subL x0 x2 (x0.length : Int)).length) (c0 - x2.toNat) | 6, [v26] => v26 = .slice A0 (((subL x0 0 x1) ++ (subL x0 x2 (x0.length : Int))).length) c0 | 7, [v0] => v0 = .slice A0 (((subL x0 0 x1) ++ (subL x0 x2 (x0.length : Int))).length) c0 | _, _ => True)
      (C := fun i vs => match i, vs with | 6, [v26] => [.row 56 2 (.slice A0 (((subL x0 0 x1) ++ (subL x0 x2 (x0.length : Int))).length) c0) (((subL x0 0 x1) ++ (subL x0 x2 (x0.length : Int))).length) (((subL x0 0 x1) ++ (subL x0 x2 (x0.length : Int))).flatMap ePermit)] | _, _ => [])
      (κ := (fun _ => none)) (Z := (fun | 6 => [.row 56 2 (.slice A0 x0.length c0) x0.length (x0.flatMap ePermit)] | _ => [])) mixed hF (by kernel_rfl) (show St w0 _ (Asn.row 56 2 (.slice A0 x0.length c0) x0.length (x0.flatMap ePermit) :: X) from S.selT (M := [.row 56 2 (.slice A0 x0.length c0) x0.length (x0.flatMap ePermit)]) 1 [0] rfl rfl rfl) ?_ ?_
    · refine ⟨?_, ?_, ?_, ?_, ?_, ?_, ?_, ?_, trivial⟩
      · intro a u X' hB hu hp hr hz hl S
        replace S : St w0 u ([] ++ X') := S
        exact .inl ⟨rfl, .slice A0 x0.length c0, u, (run_move rfl (hF.evU (hu 7 0 rfl rfl) rfl)), rfl, S⟩
      · intro a u X' hB hu hp hr hz hl S
        replace S : St w0 u ([] ++ X') := S
        exact .inl ⟨rfl, .int .i64 x1, u, (run_move rfl (hF.evB hB rfl rfl)), rfl, S⟩
      · intro a u X' hB hu hp hr hz hl S
        replace S : St w0 u ([] ++ X') := S
        have e20 : sl a 20 = .slice A0 x0.length c0 := hp 0 rfl
        have e21 : sl a 21 = .int .i64 x1 := hp 1 rfl
        exact .inl ⟨rfl, .slice (subA c0 ((0 : Int).toNat) 2 A0) ((subL x0 0 x1).length) (c0 - (0 : Int).toNat), u, (run_sliceH (l := x0) rfl Try.underlying29 sz56 (ev_sl e20) (ev_sl e21) hk103 rfl (own_rc (show World.ownsRow _ 0 _ _ _ _ _ from S.mem (List.mem_append_right _ (hz 6 (List.mem_of_getElem? (i := 0) rfl) _ (List.mem_of_getElem? (i := 0) rfl))))).cap), rfl, S⟩
      · intro a u X' hB hu hp hr hz hl S
        replace S : St w0 u ([] ++ X') := S
        exact .inl ⟨rfl, .slice A0 x0.length c0, u, (run_move rfl (hF.evU (hu 7 0 rfl rfl) rfl)), rfl, S⟩
      · intro a u X' hB hu hp hr hz hl S
        replace S : St w0 u ([] ++ X') := S
        exact .inl ⟨rfl, .int .i64 x2, u, (run_move rfl (hF.evB hB rfl rfl)), rfl, S⟩
      · intro a u X' hB hu hp hr hz hl S
        replace S : St w0 u ([] ++ X') := S
        have e23 : sl a 23 = .slice A0 x0.length c0 := hp 3 rfl
        have e24 : sl a 24 = .int .i64 x2 := hp 4 rfl
        exact .inl ⟨rfl, .slice (subA c0 x2.toNat 2 A0) ((subL x0 x2 (x0.length : Int)).length) (c0 - x2.toNat), u, (run_slicefrom (l := x0) rfl Try.underlying29 sz56 (ev_sl e23) (ev_sl e24) hk104 rfl (own_rc (show World.ownsRow _ 0 _ _ _ _ _ from S.mem (List.mem_append_right _ (hz 6 (List.mem_of_getElem? (i := 0) rfl) _ (List.mem_of_getElem? (i := 0) rfl))))).cap), rfl, S⟩
      · intro a u X' hB hu hp hr hz hl S
        replace S : St w0 u ([.row 56 2 (.slice A0 x0.length c0) x0.length (x0.flatMap ePermit)] ++ X') := S
        have e22 : sl a 22 = .slice (subA c0 ((0 : Int).toNat) 2 A0) ((subL x0 0 x1).length) (c0 - (0 : Int).toNat) := hp 2 rfl
        have e25 : sl a 25 = .slice (subA c0 x2.toNat 2 A0) ((subL x0 x2 (x0.length : Int)).length) (c0 - x2.toNat) := hp 5 rfl
        obtain ⟨w', hrun, S'⟩ := S.delrow (i := 0) (P := Try.prog) (ty := 29) (p := x1) (q := x2) rfl rfl ePermit_len ePermit_one Try.underlying29 sz56 (by omega) (by omega) (by omega)
        exact .inl ⟨rfl, _, w', run_append rfl (ev_sl e22) (ev_sl e25) hrun, rfl, S'⟩
      · intro a u X' hB hu hp hr hz hl S
        replace S : St w0 u ([] ++ X') := S
        have e26 : sl a 26 = .slice A0 (((subL x0 0 x1) ++ (subL x0 x2 (x0.length : Int))).length) c0 := hp 6 rfl
        exact .inl ⟨rfl, .slice A0 (((subL x0 0 x1) ++ (subL x0 x2 (x0.length : Int))).length) c0, u, (run_assign rfl (ev_sl e26)), rfl, S⟩
    · intro a u hB hp S
      obtain ⟨q0, q1, q2, q3, q4, q5, q6, q7, _⟩ := hp
      have e20 : sl a 20 = .slice A0 x0.length c0 := q0
      have e21 : sl a 21 = .int .i64 x1 := q1
      have e22 : sl a 22 = .slice (subA c0 ((0 : Int).toNat) 2 A0) ((subL x0 0 x1).length) (c0 - (0 : Int).toNat) := q2
      have e23 : sl a 23 = .slice A0 x0.length c0 := q3
      have e24 : sl a 24 = .int .i64 x2 := q4
      have e25 : sl a 25 = .slice (subA c0 x2.toNat 2 A0) ((subL x0 x2 (x0.length : Int)).length) (c0 - x2.toNat) := q5
      have e26 : sl a 26 = .slice A0 (((subL x0 0 x1) ++ (subL x0 x2 (x0.length : Int))).length) c0 := q6
      have e0 : sl a 0 = .slice A0 (((subL x0 0 x1) ++ (subL x0 x2 (x0.length : Int))).length) c0 := q7
      replace S : St w0 u (Asn.row 56 2 (.slice A0 (((subL x0 0 x1) ++ (subL x0 x2 (x0.length : Int))).length) c0) (((subL x0 0 x1) ++ (subL x0 x2 (x0.length : Int))).length) (((subL x0 0 x1) ++ (subL x0 x2 (x0.length : Int))).flatMap ePermit) :: X) := S
      clear q0 q1 q2 q3 q4 q5 q6 q7
      have hF := hF.region hB [(20, .slice A0 x0.length c0), (21, .int .i64 x1), (22, .slice (subA c0 ((0 : Int).toNat) 2 A0) ((subL x0 0 x1).length) (c0 - (0 : Int).toNat)), (23, .slice A0 x0.length c0), (24, .int .i64 x2), (25, .slice (subA c0 x2.toNat 2 A0) ((subL x0 x2 (x0.length : Int)).length) (c0 - x2.toNat)), (26, .slice A0 (((subL x0 0 x1) ++ (subL x0 x2 (x0.length : Int))).length) c0), (0, .slice A0 (((subL x0 0 x1) ++ (subL x0 x2 (x0.length : Int))).length) c0)] (allSl_mem ⟨e20, e21, e22, e23, e24, e25, e26, e0, trivial⟩) rfl
      clear hB e20 e21 e22 e23 e24 e25 e26 e0
      refine wp_seq ?_
      refine wp_region_lit ?_
      refine op_val (v := .slice A0 (((subL x0 0 x1) ++ (subL x0 x2 (x0.length : Int))).length) c0) rfl rfl hF rfl (run_move rfl (hF.ev rfl)) ?_; clear hF; intro a hF
      refine op_val (v := .slice A0 (((subL x0 0 x1) ++ (subL x0 x2 (x0.length : Int))).length) c0) rfl rfl hF rfl (run_move rfl (hF.ev rfl)) ?_; clear hF; intro a hF
      refine op_val (v := .int .i64 ((((subL x0 0 x1) ++ (subL x0 x2 (x0.length : Int))).length) : Int)) rfl rfl hF rfl (run_lenL rfl rfl Try.underlying29 (hF.ev rfl)) ?_; clear hF; intro a hF
      refine op_val (v := .int .i64 (x0.length : Int)) rfl rfl hF rfl (run_move rfl (hF.ev rfl)) ?_; clear hF; intro a hF
      refine op_val (v := .slice (subA c0 (((((subL x0 0 x1) ++ (subL x0 x2 (x0.length : Int))).length) : Int).toNat) 2 A0) ((x0.length : Int).toNat - ((((subL x0 0 x1) ++ (subL x0 x2 (x0.length : Int))).length) : Int).toNat) (c0 - ((((subL x0 0 x1) ++ (subL x0 x2 (x0.length : Int))).length) : Int).toNat)) rfl rfl hF rfl (run_slicebey rfl Try.underlying29 sz56 (hF.ev rfl) (hF.ev rfl) (hF.ev rfl) ⟨Int.natCast_nonneg _, Int.ofNat_le.2 hq107, Int.ofNat_le.2 hp106⟩) ?_; clear hF; intro a hF
      obtain ⟨w', hrun, S'⟩ := S.clear (i := 0) (P := Try.prog) (hi := (x0.length : Int)) rfl rfl ePermit_len Try.underlying29 inf56 rfl rfl ⟨Int.ofNat_le.2 hq107, Int.ofNat_le.2 hp106⟩
      refine op_builtin0 rfl rfl rfl (hF.ev rfl) hrun ?_
      clear S hrun; have S := S'; clear S'; generalize w' = u at S ⊢
      refine wpList_nil ?_
      refine wp_seq ?_
      refine wp_region_lit ?_
      refine op_val (v := .slice A0 (((subL x0 0 x1) ++ (subL x0 x2 (x0.length : Int))).length) c0) rfl rfl hF rfl (run_move rfl (hF.ev rfl)) ?_; clear hF; intro a hF
      refine op_val (v := .slice A0 (((subL x0 0 x1) ++ (subL x0 x2 (x0.length : Int))).length) c0) rfl rfl hF rfl (run_assign rfl (hF.ev rfl)) ?_; clear hF; intro a hF
      refine wpList_nil ?_
      refine wp_ret ?_
      repeat with_reducible (first | refine then_ret ?_ | refine in_ret ?_ | refine in_nrm ?_)
      refine ret1_gw (.inl rfl) hF rfl (res_tmp (hF.ev rfl)) ?_
      obtain rfl := Option.some.inj hM
      exact ⟨A0, (((subL x0 0 x1) ++ (subL x0 x2 (x0.length : Int))).length), c0, rfl, rfl, S.selT (M := [.row 56 2 (.slice A0 (((subL x0 0 x1) ++ (subL x0 x2 (x0.length : Int))).length) c0) (((subL x0 0 x1) ++ (subL x0 x2 (x0.length : Int))).length) (((subL x0 0 x1) ++ (subL x0 x2 (x0.length : Int))).flatMap ePermit)]) 1 [0] rfl rfl rfl⟩
  · replace hM := bif_t hc102 hM
    refine cond_t hF rfl hc102 ?_
    refine wp_seq ?_
    refine wp_region_lit ?_
    refine op_val (v := .slice A0 x0.length c0) rfl rfl hF rfl (run_move rfl (hF.ev rfl)) ?_; clear hF; intro a hF
    refine op_val (v := .slice A0 x0.length c0) rfl rfl hF rfl (run_assign rfl (hF.ev rfl)) ?_; clear hF; intro a hF
    refine wpList_nil ?_
    refine wp_ret ?_
    repeat with_reducible (first | refine then_ret ?_ | refine in_ret ?_ | refine in_nrm ?_)
    refine ret1_gw (.inl rfl) hF rfl (res_tmp (hF.ev rfl)) ?_
    obtain rfl := Option.some.inj hM
    exact ⟨A0, x0.length, c0, rfl, rfl, S.selT (M := [.row 56 2 (.slice A0 x0.length c0) x0.length (x0.flatMap ePermit)]) 1 [0] rfl rfl rfl⟩

set_option maxHeartbeats 4000000 in
theorem c_impl_WorkDo {x0 : List Bool} {x1 : List Bool} {x2 : List (Int × Int)} {x3 : Int} {x4 : Int} {x5 : Int} {A0 : Option Addr} {n0 c0 : Nat} {A1 : Option Addr} {n1 c1 : Nat} {A2 : Option Addr} {n2 c2 : Nat} {w : World} {r : List Bool × List Bool × List (Int × Int) × Bool} (h0 : Rt w 1 eB A0 n0 c0 x0) (h1 : Rt w 1 eB A1 n1 c1 x1) (h2 : Rt w 2 ePermit A2 n2 c2 x2) (hM : m_impl_WorkDo x0 x1 x2 x3 x4 x5 = some r) :
    Calls Try.prog 9 #[.agg #[.slice A0 n0 c0, .slice A1 n1 c1, .slice A2 n2 c2], .agg #[.int .i64 x3, .int .i64 x4, .int .i64 x5]] w (fun e w' => ∃ (B0 : Option Addr) (N0 D0 : Nat) (B1 : Option Addr) (N1 D1 : Nat) (B2 : Option Addr) (N2 D2 : Nat), e = .returned (.tuple #[.agg #[.slice B0 N0 D0, .slice B1 N1 D1, .slice B2 N2 D2], .bool r.2.2.2]) ∧ N0 = r.1.length ∧ N1 = r.2.1.length ∧ N2 = r.2.2.1.length ∧ St w w' [.row 4 1 (.slice B0 N0 D0) N0 (r.1.flatMap eB), .row 4 1 (.slice B1 N1 D1) N1 (r.2.1.flatMap eB), .row 56 2 (.slice B2 N2 D2) N2 (r.2.2.1.flatMap ePermit)]) := by
  obtain rfl := h0.len
  obtain rfl := h1.len
  obtain rfl := h2.len
  unfold m_impl_WorkDo at hM
  refine calls_gw Try.func9 Try.ntmps9 rfl [(0, .agg #[.slice A0 x0.length c0, .slice A1 x1.length c1, .slice A2 x2.length c2]), (1, .agg #[.int .i64 x3, .int .i64 x4, .int .i64 x5])] ⟨rfl, rfl, trivial⟩ rfl ?_
  intro a hF
  have S := St.nil w
  refine wp_seq ?_
  refine wp_region_lit ?_
  refine op_new (cs := #[.slice A0 x0.length c0, .slice A1 x1.length c1, .slice A2 x2.length c2]) rfl rfl hF rfl S (run_box rfl (hF.ev rfl) rfl) ?_; clear hF S; intro a g101 u hF S
  refine op_new (cs := #[.int .i64 x3, .int .i64 x4, .int .i64 x5]) rfl rfl hF rfl S (run_box rfl (hF.ev rfl) rfl) ?_; clear hF S; intro a g102 u hF S
  refine op_new (cs := #[.slice none 0 0, .slice none 0 0, .slice none 0 0]) rfl rfl hF rfl S (run_allocZ rfl zr31) ?_; clear hF S; intro a g103 u hF S
  refine op_val (v := .bool false) rfl rfl hF rfl (run_assign rfl rfl) ?_; clear hF; intro a hF
  refine wpList_nil ?_
  refine wp_seq ?_
  refine wp_seq ?_
  refine wp_region_lit ?_
  refine op_val (v := .agg #[.slice A0 x0.length c0, .slice A1 x1.length c1, .slice A2 x2.length c2]) rfl rfl hF rfl (run_loadN rfl ag31 (hF.ev rfl) rfl ((S.free 2 rfl).cells 0 #[.slice A0 x0.length c0, .slice A1 x1.length c1, .slice A2 x2.length c2] rfl)) ?_; clear hF; intro a hF
  obtain ⟨p104, h104, hM⟩ := bind_ex hM
  refine op_call rfl rfl hF rfl (run_call (vs := [.agg #[.slice A0 x0.length c0, .slice A1 x1.length c1, .slice A2 x2.length c2]]) rfl rfl co28 ⟨(hF.ev rfl), trivial⟩) (c_impl_WorkValid (x0 := x0) (x1 := x1) (x2 := x2) ⟨(S.rc0 h0.rc), rfl⟩ ⟨(S.rc0 h1.rc), rfl⟩ ⟨(S.rc0 h2.rc), rfl⟩ h104) ?_
  rintro e u ⟨rfl, T⟩
  refine ⟨_, rfl, ?_⟩
  clear hF; intro a hF
  replace S := S.call0 T; clear T
  refine op_val (v := .bool (!p104)) rfl rfl hF rfl (run_not rfl (hF.ev rfl)) ?_; clear hF; intro a hF
  refine wpList_nil ?_
  cases hc105 : (p104)
  · replace hM := bif_f hc105 hM
    refine cond_t hF rfl (not_t hc105) ?_
    refine wp_seq ?_
    refine wp_region_lit ?_
    refine op_val (v := .agg #[.slice none 0 0, .slice none 0 0, .slice none 0 0]) rfl rfl hF rfl (run_build (vs := []) rfl trivial (bd31 )) ?_; clear hF; intro a hF
    refine op_do rfl rfl (run_store (cs' := #[.slice none 0 0, .slice none 0 0, .slice none 0 0]) rfl sz31 (hF.ev rfl) (hF.ev rfl) rfl rfl rfl (S.free 0 rfl) rfl rfl) ?_; replace S := S.put 0 rfl (#[.slice none 0 0, .slice none 0 0, .slice none 0 0])
    generalize World.setRow _ _ _ = u at S ⊢
    refine op_val (v := .bool false) rfl rfl hF rfl (run_assign rfl rfl) ?_; clear hF; intro a hF
    refine wpList_nil ?_
    refine wp_ret ?_
    repeat with_reducible (first | refine then_ret ?_ | refine in_ret ?_ | refine in_nrm ?_)
    refine ret2_gw (.inl rfl) hF rfl (res_cell (hF.ev rfl) (res_loadN ag31 rfl (S.cells 0 rfl 0 #[.slice none 0 0, .slice none 0 0, .slice none 0 0] rfl))) (res_tmp (hF.ev rfl)) ?_
    obtain rfl := Option.some.inj hM
    replace S := S.nilrow 4 1
    replace S := S.nilrow 4 1
    replace S := S.nilrow 56 2
    exact ⟨none, 0, 0, none, 0, 0, none, 0, 0, rfl, rfl, rfl, rfl, S.sel [2, 1, 0] rfl rfl⟩
  · replace hM := bif_t hc105 hM
    refine cond_f hF rfl (not_f hc105) ?_
    refine wp_skip ?_
    refine wp_seq ?_
    refine wp_region_lit ?_
    refine op_val (v := .agg #[.slice A0 x0.length c0, .slice A1 x1.length c1, .slice A2 x2.length c2]) rfl rfl hF rfl (run_loadN rfl ag31 (hF.ev rfl) rfl ((S.free 2 rfl).cells 0 #[.slice A0 x0.length c0, .slice A1 x1.length c1, .slice A2 x2.length c2] rfl)) ?_; clear hF; intro a hF
    obtain ⟨p106, h106, hM⟩ := bind_ex hM
    refine op_call rfl rfl hF rfl (run_call (vs := [.agg #[.slice A0 x0.length c0, .slice A1 x1.length c1, .slice A2 x2.length c2]]) rfl rfl co29 ⟨(hF.ev rfl), trivial⟩) (c_impl_Work_clone (x0 := x0) (x1 := x1) (x2 := x2) ⟨(S.rc0 h0.rc), rfl⟩ ⟨(S.rc0 h1.rc), rfl⟩ ⟨(S.rc0 h2.rc), rfl⟩ h106) ?_
    rintro e u ⟨B107, n108, d109, B110, n111, d112, B113, n114, d115, rfl, rfl, rfl, rfl, T⟩
    refine ⟨_, rfl, ?_⟩
    clear hF; intro a hF
    replace S := S.call3 T; clear T
    refine op_new (cs := #[.slice none 0 0, .slice none 0 0, .slice none 0 0]) rfl rfl hF rfl S (run_allocZ rfl zr31) ?_; clear hF S; intro a g116 u hF S
    refine op_do rfl rfl (run_store (cs' := #[.slice B107 p106.1.length d109, .slice B110 p106.2.1.length d112, .slice B113 p106.2.2.length d115]) rfl sz31 (hF.ev rfl) (hF.ev rfl) rfl rfl rfl (S.free 0 rfl) rfl rfl) ?_; replace S := S.put 0 rfl (#[.slice B107 p106.1.length d109, .slice B110 p106.2.1.length d112, .slice B113 p106.2.2.length d115])
    generalize World.setRow _ _ _ = u at S ⊢
    refine wpList_nil ?_
    refine wp_seq ?_
    refine wp_seq ?_
    refine wp_region_lit ?_
    refine op_val (v := .pointer (some ⟨g102, 1, none⟩)) rfl rfl hF rfl (run_fieldAddr rfl fl35_1 (hF.ev rfl) rfl) ?_; clear hF; intro a hF
    refine op_val (v := .int .i64 x4) rfl rfl hF rfl (run_load1 rfl one3 (hF.ev rfl) ((S.free 5 rfl).cell rfl)) ?_; clear hF; intro a hF
    refine op_val (v := .bool (ltB x4 0)) rfl rfl hF rfl (run_lss (hF.ev rfl) rfl rfl) ?_; clear hF; intro a hF
    refine op_val (v := .bool (ltB x4 0)) rfl rfl hF rfl (run_move rfl (hF.ev rfl)) ?_; clear hF; intro a hF
    refine op_gv (v := .pointer (some ⟨g102, 1, none⟩)) rfl rfl hF rfl (yf (gw_yield hF rfl rfl rfl)) (fun hg => (run_fieldAddr rfl fl35_1 (hF.ev rfl) rfl)) ?_; clear hF; intro a hF
    refine op_gv (v := .int .i64 x4) rfl rfl hF rfl (yf (gw_yield hF rfl rfl rfl)) (fun hg => (run_load1 rfl one3 ((hF.ev rfl).trans (gv_t hg)) ((S.free 5 rfl).cell rfl))) ?_; clear hF; intro a hF
    refine op_gv (v := .pointer (some ⟨g101, 0, none⟩)) rfl rfl hF rfl (yf (gw_yield hF rfl rfl rfl)) (fun hg => (run_fieldAddr rfl fl31_0 (hF.ev rfl) rfl)) ?_; clear hF; intro a hF
    refine op_gv (v := .slice A0 x0.length c0) rfl rfl hF rfl (yf (gw_yield hF rfl rfl rfl)) (fun hg => (run_load1 rfl one22 ((hF.ev rfl).trans (gv_t hg)) ((S.free 6 rfl).cell rfl))) ?_; clear hF; intro a hF
    refine op_gv (v := .int .i64 (x0.length : Int)) rfl rfl hF rfl (yf (gw_yield hF rfl rfl rfl)) (fun hg => (run_lenL rfl rfl Try.underlying22 ((hF.ev rfl).trans (gv_t hg)))) ?_; clear hF; intro a hF
    refine op_gv (v := .bool (leB (x0.length : Int) x4)) rfl rfl hF rfl (yf (gw_yield hF rfl rfl rfl)) (fun hg => (run_geq ((hF.ev rfl).trans (gv_t hg)) ((hF.ev rfl).trans (gv_t hg)) rfl)) ?_; clear hF; intro a hF
    refine op_val (v := .bool ((ltB x4 0) || (leB (x0.length : Int) x4))) rfl rfl hF rfl (run_pick_or rfl (hF.ev rfl) rfl (fun hp => ((hF.ev rfl).trans (gv_t (not_t hp))))) ?_; clear hF; intro a hF
    refine op_val (v := .bool ((ltB x4 0) || (leB (x0.length : Int) x4))) rfl rfl hF rfl (run_move rfl (hF.ev rfl)) ?_; clear hF; intro a hF
    refine op_gv (v := .agg #[.slice A0 x0.length c0, .slice A1 x1.length c1, .slice A2 x2.length c2]) rfl rfl hF rfl (yf (gw_yield hF rfl rfl rfl)) (fun hg => (run_loadN rfl ag31 (hF.ev rfl) rfl ((S.free 6 rfl).cells 0 #[.slice A0 x0.length c0, .slice A1 x1.length c1, .slice A2 x2.length c2] rfl))) ?_; clear hF; intro a hF
    refine op_gv (v := .agg #[.int .i64 x3, .int .i64 x4, .int .i64 x5]) rfl rfl hF rfl (yf (gw_yield hF rfl rfl rfl)) (fun hg => (run_loadN rfl ag35 (hF.ev rfl) rfl ((S.free 5 rfl).cells 0 #[.int .i64 x3, .int .i64 x4, .int .i64 x5] rfl))) ?_; clear hF; intro a hF
    obtain ⟨p117, h117, hM⟩ := bind_ex hM
    refine op_gcall (v := .bool p117) rfl rfl hF rfl S (yf (gw_yield hF rfl rfl rfl)) (fun hg => (run_call (vs := [.agg #[.slice A0 x0.length c0, .slice A1 x1.length c1, .slice A2 x2.length c2], .agg #[.int .i64 x3, .int .i64 x4, .int .i64 x5]]) rfl rfl co30 ⟨((hF.ev rfl).trans (gv_t hg)), ((hF.ev rfl).trans (gv_t hg)), trivial⟩)) (fun hg => c_impl_Work_may (x0 := x0) (x1 := x1) (x2 := x2) (x3 := x3) (x4 := x4) (x5 := x5) ⟨(S.rc0 h0.rc), rfl⟩ ⟨(S.rc0 h1.rc), rfl⟩ ⟨(S.rc0 h2.rc), rfl⟩ (gb_t h117 hg)) ?_; clear hF S; intro a u hF S
    refine op_gv (v := .bool (!p117)) rfl rfl hF rfl (yf (gw_yield hF rfl rfl rfl)) (fun hg => (run_not rfl ((hF.ev rfl).trans (gv_t hg)))) ?_; clear hF; intro a hF
    refine op_val (v := .bool (((ltB x4 0) || (leB (x0.length : Int) x4)) || (!p117))) rfl rfl hF rfl (run_pick_or rfl (hF.ev rfl) rfl (fun hp => ((hF.ev rfl).trans (gv_t (not_t hp))))) ?_; clear hF; intro a hF
    refine wpList_nil ?_
    cases hc118 : (((ltB x4 0) || (leB (x0.length : Int) x4)) || (!p117))
    · replace hM := bif_f hc118 hM
      refine cond_f hF rfl hc118 ?_
      refine wp_skip ?_
      refine wp_seq ?_
      refine wp_region_lit ?_
      refine op_val (v := .pointer (some ⟨g102, 2, none⟩)) rfl rfl hF rfl (run_fieldAddr rfl fl35_2 (hF.ev rfl) rfl) ?_; clear hF; intro a hF
      refine op_val (v := .int .i64 x5) rfl rfl hF rfl (run_load1 rfl one3 (hF.ev rfl) ((S.free 5 rfl).cell rfl)) ?_; clear hF; intro a hF
      refine op_val (v := .pointer (some ⟨g102, 1, none⟩)) rfl rfl hF rfl (run_fieldAddr rfl fl35_1 (hF.ev rfl) rfl) ?_; clear hF; intro a hF
      refine op_val (v := .int .i64 x4) rfl rfl hF rfl (run_load1 rfl one3 (hF.ev rfl) ((S.free 5 rfl).cell rfl)) ?_; clear hF; intro a hF
      refine op_val (v := .agg #[.int .i64 x5, .int .i64 x4]) rfl rfl hF rfl (run_build (vs := [(0, .int .i64 x5), (1, .int .i64 x4)]) rfl ⟨⟨rfl, (hF.ev rfl)⟩, ⟨rfl, (hF.ev rfl)⟩, trivial⟩ (bd56_0_1 rfl rfl)) ?_; clear hF; intro a hF
      refine op_new (cs := #[.int .i64 0, .int .i64 0]) rfl rfl hF rfl S (run_allocZ rfl zr56) ?_; clear hF S; intro a g119 u hF S
      refine op_do rfl rfl (run_store (cs' := #[.int .i64 x5, .int .i64 x4]) rfl sz56 (hF.ev rfl) (hF.ev rfl) rfl rfl rfl (S.free 0 rfl) rfl rfl) ?_; replace S := S.put 0 rfl (#[.int .i64 x5, .int .i64 x4])
      generalize World.setRow _ _ _ = u at S ⊢
      refine wpList_nil ?_
      refine wp_seq ?_
      refine wp_seq ?_
      refine wp_region_lit ?_
      refine op_val (v := .pointer (some ⟨g102, 0, none⟩)) rfl rfl hF rfl (run_fieldAddr rfl fl35_0 (hF.ev rfl) rfl) ?_; clear hF; intro a hF
      refine op_val (v := .int .i64 x3) rfl rfl hF rfl (run_load1 rfl one3 (hF.ev rfl) ((S.free 6 rfl).cell rfl)) ?_; clear hF; intro a hF
      refine wpList_nil ?_
      refine wp_block ?_
      refine wp_seq ?_
      refine wp_seq ?_
      refine wp_region_lit ?_
      refine op_val (v := .bool (x3 == 0)) rfl rfl hF rfl (run_eql (hF.ev rfl) rfl rfl) ?_; clear hF; intro a hF
      refine op_val (v := .bool (x3 == 0)) rfl rfl hF rfl (run_assign rfl (hF.ev rfl)) ?_; clear hF; intro a hF
      refine wpList_nil ?_
      obtain ⟨o121, hM122, hM⟩ := bind_ex hM
      refine wp_cut (fun a u => ∃ (p120 : Bool), p120 = o121 ∧ Fr a 84 [(3, .pointer (some ⟨g102, 0, none⟩)), (4, .pointer (some ⟨g103, 0, none⟩)), (5, .bool false), (6, .pointer (some ⟨g116, 0, none⟩)), (7, .pointer (some ⟨g119, 0, none⟩)), (39, .int .i64 x3), (40, .bool p120)] ∧ St w u [.box g119 56 #[.int .i64 x5, .int .i64 x4], .box g116 31 #[.slice B107 p106.1.length d109, .slice B110 p106.2.1.length d112, .slice B113 p106.2.2.length d115], .box g103 31 #[.slice none 0 0, .slice none 0 0, .slice none 0 0], .box g102 35 #[.int .i64 x3, .int .i64 x4, .int .i64 x5], .row 4 1 (.slice B107 p106.1.length d109) p106.1.length (p106.1.flatMap eB), .row 4 1 (.slice B110 p106.2.1.length d112) p106.2.1.length (p106.2.1.flatMap eB), .row 56 2 (.slice B113 p106.2.2.length d115) p106.2.2.length (p106.2.2.flatMap ePermit)]) ?_ ?_
      · have _ := trivial
        cases hc123 : (x3 == 0)
        · replace hM122 := bif_f hc123 hM122
          refine cond_f hF rfl hc123 ?_
          refine wp_region_lit ?_
          refine op_val (v := .bool (x3 == 1)) rfl rfl hF rfl (run_eql (hF.ev rfl) rfl rfl) ?_; clear hF; intro a hF
          refine op_val (v := .bool (x3 == 1)) rfl rfl hF rfl (run_assign rfl (hF.ev rfl)) ?_; clear hF; intro a hF
          refine wpList_nil ?_
          obtain rfl := Option.some.inj hM122
          exact ⟨x3 == 1, rfl, hF.keep _ ⟨rfl, rfl, rfl, rfl, rfl, rfl, rfl, trivial⟩, S.sel [0, 1, 5, 6, 2, 3, 4] rfl rfl⟩
        · replace hM122 := bif_t hc123 hM122
          refine cond_t hF rfl hc123 ?_
          refine wp_skip ?_
          obtain rfl := Option.some.inj hM122
          exact ⟨x3 == 0, rfl, hF.keep _ ⟨rfl, rfl, rfl, rfl, rfl, rfl, rfl, trivial⟩, S.sel [0, 1, 5, 6, 2, 3, 4] rfl rfl⟩
      · rintro a u ⟨p120, rfl, hF, S⟩
        obtain ⟨o125, hM130, hM⟩ := bind_ex hM
        refine wp_cut (fun a u => ∃ (p124 : List Bool × List Bool × List (Int × Int)) (B128 : Option Addr) (d129 : Nat), p124 = o125 ∧ p106.1.length = p124.1.length ∧ p106.2.1.length = p124.2.1.length ∧ Fr a 84 [(4, .pointer (some ⟨g103, 0, none⟩)), (5, .bool false), (6, .pointer (some ⟨g116, 0, none⟩))] ∧ St w u [.box g116 31 #[.slice B107 p106.1.length d109, .slice B110 p106.2.1.length d112, .slice B128 p124.2.2.length d129], .box g103 31 #[.slice none 0 0, .slice none 0 0, .slice none 0 0], .row 4 1 (.slice B107 p106.1.length d109) p106.1.length (p124.1.flatMap eB), .row 4 1 (.slice B110 p106.2.1.length d112) p106.2.1.length (p124.2.1.flatMap eB), .row 56 2 (.slice B128 p124.2.2.length d129) p124.2.2.length (p124.2.2.flatMap ePermit)]) ?_ ?_
        · have _ := trivial
          cases hc131 : (p120)
          · replace hM130 := bif_f hc131 hM130
            refine cond_f hF rfl hc131 ?_
            refine wp_seq ?_
            refine wp_seq ?_
            refine wp_region_lit ?_
            refine op_val (v := .bool (x3 == 2)) rfl rfl hF rfl (run_eql (hF.ev rfl) rfl rfl) ?_; clear hF; intro a hF
            refine op_val (v := .bool (x3 == 2)) rfl rfl hF rfl (run_assign rfl (hF.ev rfl)) ?_; clear hF; intro a hF
            refine wpList_nil ?_
            obtain ⟨o133, hM134, hM130⟩ := bind_ex hM130
            refine wp_cut (fun a u => ∃ (p132 : Bool), p132 = o133 ∧ Fr a 84 [(3, .pointer (some ⟨g102, 0, none⟩)), (4, .pointer (some ⟨g103, 0, none⟩)), (5, .bool false), (6, .pointer (some ⟨g116, 0, none⟩)), (7, .pointer (some ⟨g119, 0, none⟩)), (39, .int .i64 x3), (51, .bool p132)] ∧ St w u [.box g119 56 #[.int .i64 x5, .int .i64 x4], .box g116 31 #[.slice B107 p106.1.length d109, .slice B110 p106.2.1.length d112, .slice B113 p106.2.2.length d115], .box g103 31 #[.slice none 0 0, .slice none 0 0, .slice none 0 0], .box g102 35 #[.int .i64 x3, .int .i64 x4, .int .i64 x5], .row 4 1 (.slice B107 p106.1.length d109) p106.1.length (p106.1.flatMap eB), .row 4 1 (.slice B110 p106.2.1.length d112) p106.2.1.length (p106.2.1.flatMap eB), .row 56 2 (.slice B113 p106.2.2.length d115) p106.2.2.length (p106.2.2.flatMap ePermit)]) ?_ ?_
            · have _ := trivial
              cases hc135 : (x3 == 2)
              · replace hM134 := bif_f hc135 hM134
                refine cond_f hF rfl hc135 ?_
                refine wp_region_lit ?_
                refine op_val (v := .bool (x3 == 3)) rfl rfl hF rfl (run_eql (hF.ev rfl) rfl rfl) ?_; clear hF; intro a hF
                refine op_val (v := .bool (x3 == 3)) rfl rfl hF rfl (run_assign rfl (hF.ev rfl)) ?_; clear hF; intro a hF
                refine wpList_nil ?_
                obtain rfl := Option.some.inj hM134
                exact ⟨x3 == 3, rfl, hF.keep _ ⟨rfl, rfl, rfl, rfl, rfl, rfl, rfl, trivial⟩, S.sel [0, 1, 2, 3, 4, 5, 6] rfl rfl⟩
              · replace hM134 := bif_t hc135 hM134
                refine cond_t hF rfl hc135 ?_
                refine wp_skip ?_
                obtain rfl := Option.some.inj hM134
                exact ⟨x3 == 2, rfl, hF.keep _ ⟨rfl, rfl, rfl, rfl, rfl, rfl, rfl, trivial⟩, S.sel [0, 1, 2, 3, 4, 5, 6] rfl rfl⟩
            · rintro a u ⟨p132, rfl, hF, S⟩
              obtain ⟨o137, hM141, hM130⟩ := bind_ex hM130
              refine wp_cut (fun a u => ∃ (p136 : List Bool × List (Int × Int)) (B139 : Option Addr) (d140 : Nat), p136 = o137 ∧ p106.2.1.length = p136.1.length ∧ Fr a 84 [(4, .pointer (some ⟨g103, 0, none⟩)), (5, .bool false), (6, .pointer (some ⟨g116, 0, none⟩))] ∧ St w u [.box g116 31 #[.slice B107 p106.1.length d109, .slice B110 p106.2.1.length d112, .slice B139 p136.2.length d140], .box g103 31 #[.slice none 0 0, .slice none 0 0, .slice none 0 0], .row 4 1 (.slice B107 p106.1.length d109) p106.1.length (p106.1.flatMap eB), .row 4 1 (.slice B110 p106.2.1.length d112) p106.2.1.length (p136.1.flatMap eB), .row 56 2 (.slice B139 p136.2.length d140) p136.2.length (p136.2.flatMap ePermit)]) ?_ ?_
              · have _ := trivial
                cases hc142 : (p132)
                · replace hM141 := bif_f hc142 hM141
                  refine cond_f hF rfl hc142 ?_
                  refine wp_seq ?_
                  refine wp_region_lit ?_
                  refine op_val (v := .bool (x3 == 4)) rfl rfl hF rfl (run_eql (hF.ev rfl) rfl rfl) ?_; clear hF; intro a hF
                  refine op_val (v := .bool (x3 == 4)) rfl rfl hF rfl (run_assign rfl (hF.ev rfl)) ?_; clear hF; intro a hF
                  refine wpList_nil ?_
                  obtain ⟨o144, hM147, hM141⟩ := bind_ex hM141
                  refine wp_cut (fun a u => ∃ (p143 : List (Int × Int)) (B145 : Option Addr) (d146 : Nat), p143 = o144 ∧ Fr a 84 [(4, .pointer (some ⟨g103, 0, none⟩)), (5, .bool false), (6, .pointer (some ⟨g116, 0, none⟩))] ∧ St w u [.box g116 31 #[.slice B107 p106.1.length d109, .slice B110 p106.2.1.length d112, .slice B145 p143.length d146], .box g103 31 #[.slice none 0 0, .slice none 0 0, .slice none 0 0], .row 4 1 (.slice B107 p106.1.length d109) p106.1.length (p106.1.flatMap eB), .row 4 1 (.slice B110 p106.2.1.length d112) p106.2.1.length (p106.2.1.flatMap eB), .row 56 2 (.slice B145 p143.length d146) p143.length (p143.flatMap ePermit)]) ?_ ?_
                  · have _ := trivial
                    cases hc148 : (x3 == 4)
                    · replace hM147 := bif_f hc148 hM147
                      refine cond_f hF rfl hc148 ?_
                      refine wp_seq ?_
                      refine wp_region_lit ?_
                      refine op_val (v := .bool (x3 == 5)) rfl rfl hF rfl (run_eql (hF.ev rfl) rfl rfl) ?_; clear hF; intro a hF
                      refine op_val (v := .bool (x3 == 5)) rfl rfl hF rfl (run_assign rfl (hF.ev rfl)) ?_; clear hF; intro a hF
                      refine wpList_nil ?_
                      obtain ⟨o150, hM153, hM147⟩ := bind_ex hM147
                      refine wp_cut (fun a u => ∃ (p149 : List (Int × Int)) (B151 : Option Addr) (d152 : Nat), p149 = o150 ∧ Fr a 84 [(4, .pointer (some ⟨g103, 0, none⟩)), (5, .bool false), (6, .pointer (some ⟨g116, 0, none⟩))] ∧ St w u [.box g116 31 #[.slice B107 p106.1.length d109, .slice B110 p106.2.1.length d112, .slice B151 p149.length d152], .box g103 31 #[.slice none 0 0, .slice none 0 0, .slice none 0 0], .row 4 1 (.slice B107 p106.1.length d109) p106.1.length (p106.1.flatMap eB), .row 4 1 (.slice B110 p106.2.1.length d112) p106.2.1.length (p106.2.1.flatMap eB), .row 56 2 (.slice B151 p149.length d152) p149.length (p149.flatMap ePermit)]) ?_ ?_
                      · have _ := trivial
                        cases hc154 : (x3 == 5)
                        · replace hM153 := bif_f hc154 hM153
                          refine cond_f hF rfl hc154 ?_
                          refine wp_skip ?_
                          obtain rfl := Option.some.inj hM153
                          exact ⟨p106.2.2, B113, d115, rfl, hF.keep _ ⟨rfl, rfl, rfl, trivial⟩, S.sel [1, 2, 4, 5, 6] rfl rfl⟩
                        · replace hM153 := bif_t hc154 hM153
                          refine cond_t hF rfl hc154 ?_
                          refine wp_seq ?_
                          refine wp_region_lit ?_
                          refine op_val (v := .pointer (some ⟨g116, 2, none⟩)) rfl rfl hF rfl (run_fieldAddr rfl fl31_2 (hF.ev rfl) rfl) ?_; clear hF; intro a hF
                          refine op_val (v := .slice B113 p106.2.2.length d115) rfl rfl hF rfl (run_load1 rfl one29 (hF.ev rfl) ((S.free 1 rfl).cell rfl)) ?_; clear hF; intro a hF
                          refine op_val (v := .agg #[.int .i64 x5, .int .i64 x4]) rfl rfl hF rfl (run_loadN rfl ag56 (hF.ev rfl) rfl ((S.free 0 rfl).cells 0 #[.int .i64 x5, .int .i64 x4] rfl)) ?_; clear hF; intro a hF
                          obtain ⟨p155, h155, hM153⟩ := bind_ex hM153
                          refine op_call rfl rfl hF rfl (run_call (vs := [.slice B113 p106.2.2.length d115, .agg #[.int .i64 x5, .int .i64 x4]]) rfl rfl co31 ⟨(hF.ev rfl), (hF.ev rfl), trivial⟩) (c_slices_Index_impl_Permit_impl_Permit (x0 := p106.2.2) (x1 := x5) (x2 := x4) ⟨(S.rc 6 rfl), rfl⟩ h155) ?_
                          rintro e u ⟨rfl, T⟩
                          refine ⟨_, rfl, ?_⟩
                          clear hF; intro a hF
                          replace S := S.call0 T; clear T
                          refine op_val (v := .int .i64 p155) rfl rfl hF rfl (run_assign rfl (hF.ev rfl)) ?_; clear hF; intro a hF
                          refine wpList_nil ?_
                          refine wp_region_lit ?_
                          refine op_val (v := .pointer (some ⟨g116, 2, none⟩)) rfl rfl hF rfl (run_fieldAddr rfl fl31_2 (hF.ev rfl) rfl) ?_; clear hF; intro a hF
                          refine op_val (v := .slice B113 p106.2.2.length d115) rfl rfl hF rfl (run_load1 rfl one29 (hF.ev rfl) ((S.free 1 rfl).cell rfl)) ?_; clear hF; intro a hF
                          refine op_val (v := .int .i64 p155) rfl rfl hF rfl (run_move rfl (hF.ev rfl)) ?_; clear hF; intro a hF
                          refine op_val (v := .int .i64 p155) rfl rfl hF rfl (run_move rfl (hF.ev rfl)) ?_; clear hF; intro a hF
                          refine op_val (v := .int .i64 (w64 (p155 + 1))) rfl rfl hF rfl (run_add (z := w64 (p155 + 1)) (hF.ev rfl) rfl rfl rfl) ?_; clear hF; intro a hF
                          obtain ⟨p156, h156, hM153⟩ := bind_ex hM153
                          refine op_call rfl rfl hF rfl (run_call (vs := [.slice B113 p106.2.2.length d115, .int .i64 p155, .int .i64 (w64 (p155 + 1))]) rfl rfl co32 ⟨(hF.ev rfl), (hF.ev rfl), (hF.ev rfl), trivial⟩) (c_slices_Delete_impl_Permit_impl_Permit (x0 := p106.2.2) (x1 := p155) (x2 := w64 (p155 + 1)) rfl (show St w _ [.row 56 2 (.slice B113 p106.2.2.length d115) p106.2.2.length (p106.2.2.flatMap ePermit), .box g119 56 #[.int .i64 x5, .int .i64 x4], .box g116 31 #[.slice B107 p106.1.length d109, .slice B110 p106.2.1.length d112, .slice B113 p106.2.2.length d115], .box g103 31 #[.slice none 0 0, .slice none 0 0, .slice none 0 0], .box g102 35 #[.int .i64 x3, .int .i64 x4, .int .i64 x5], .row 4 1 (.slice B107 p106.1.length d109) p106.1.length (p106.1.flatMap eB), .row 4 1 (.slice B110 p106.2.1.length d112) p106.2.1.length (p106.2.1.flatMap eB)] from S.sel [6, 0, 1, 2, 3, 4, 5] rfl rfl) h156) ?_
                          rintro e u ⟨B157, n158, d159, rfl, rfl, T⟩
                          refine ⟨_, rfl, ?_⟩
                          clear hF; intro a hF
                          clear S; have S := T; clear T
                          refine op_val (v := .pointer (some ⟨g116, 2, none⟩)) rfl rfl hF rfl (run_fieldAddr rfl fl31_2 (hF.ev rfl) rfl) ?_; clear hF; intro a hF
                          refine op_do rfl rfl (run_store (cs' := #[.slice B107 p106.1.length d109, .slice B110 p106.2.1.length d112, .slice B157 p156.length d159]) rfl sz29 (hF.ev rfl) (hF.ev rfl) rfl rfl rfl (S.free 2 rfl) rfl rfl) ?_; replace S := S.put 2 rfl (#[.slice B107 p106.1.length d109, .slice B110 p106.2.1.length d112, .slice B157 p156.length d159])
                          generalize World.setRow _ _ _ = u at S ⊢
                          refine wpList_nil ?_
                          obtain rfl := Option.some.inj hM153
                          exact ⟨p156, B157, d159, rfl, hF.keep _ ⟨rfl, rfl, rfl, trivial⟩, S.sel [2, 3, 5, 6, 0] rfl rfl⟩
                      · rintro a u ⟨p149, B151, d152, rfl, hF, S⟩
                        obtain rfl := Option.some.inj hM147
                        exact ⟨p149, B151, d152, rfl, hF.keep _ ⟨rfl, rfl, rfl, trivial⟩, S.sel [0, 1, 2, 3, 4] rfl rfl⟩
                    · replace hM147 := bif_t hc148 hM147
                      refine cond_t hF rfl hc148 ?_
                      refine wp_region_lit ?_
                      refine op_val (v := .pointer (some ⟨g116, 2, none⟩)) rfl rfl hF rfl (run_fieldAddr rfl fl31_2 (hF.ev rfl) rfl) ?_; clear hF; intro a hF
                      refine op_val (v := .slice B113 p106.2.2.length d115) rfl rfl hF rfl (run_load1 rfl one29 (hF.ev rfl) ((S.free 1 rfl).cell rfl)) ?_; clear hF; intro a hF
                      refine op_val (v := .agg #[.int .i64 x5, .int .i64 x4]) rfl rfl hF rfl (run_loadN rfl ag56 (hF.ev rfl) rfl ((S.free 0 rfl).cells 0 #[.int .i64 x5, .int .i64 x4] rfl)) ?_; clear hF; intro a hF
                      refine op_newrowL (ls := ([(x5, x4)] : List (Int × Int))) (e := ePermit) rfl rfl hF rfl S (run_buildS (vs := [(0, .agg #[.int .i64 x5, .int .i64 x4])]) rfl ⟨⟨rfl, (hF.ev rfl)⟩, trivial⟩ (bs29_1_2 )) rfl ePermit_len (Nat.le_of_ble_eq_true rfl) ?_; clear hF S; intro a g160 u hF S
                      obtain ⟨hk163, hM147⟩ := chk_ex hM147
                      replace hk163 := apB_t hk163
                      refine op_appendL (lx := p106.2.2) (ly := [(x5, x4)]) rfl rfl hF rfl S rfl (hF.ev rfl) (hF.ev rfl) (i := 7) rfl rfl Try.underlying29 inf56 rfl (by decide) (S.rc 0 rfl).rd rfl ePermit_one hk163 (by decide) ?_; clear hF S; intro a B161 d162 u hF S
                      refine op_val (v := .pointer (some ⟨g116, 2, none⟩)) rfl rfl hF rfl (run_fieldAddr rfl fl31_2 (hF.ev rfl) rfl) ?_; clear hF; intro a hF
                      refine op_do rfl rfl (run_store (cs' := #[.slice B107 p106.1.length d109, .slice B110 p106.2.1.length d112, .slice B161 ((p106.2.2 ++ ([(x5, x4)])).length) d162]) rfl sz29 (hF.ev rfl) (hF.ev rfl) rfl rfl rfl (S.free 2 rfl) rfl rfl) ?_; replace S := S.put 2 rfl (#[.slice B107 p106.1.length d109, .slice B110 p106.2.1.length d112, .slice B161 ((p106.2.2 ++ ([(x5, x4)])).length) d162])
                      generalize World.setRow _ _ _ = u at S ⊢
                      refine wpList_nil ?_
                      obtain rfl := Option.some.inj hM147
                      exact ⟨p106.2.2 ++ ([(x5, x4)]), B161, d162, rfl, hF.keep _ ⟨rfl, rfl, rfl, trivial⟩, S.sel [2, 3, 5, 6, 7] rfl rfl⟩
                  · rintro a u ⟨p143, B145, d146, rfl, hF, S⟩
                    obtain rfl := Option.some.inj hM141
                    exact ⟨(p106.2.1, p143), B145, d146, rfl, rfl, hF.keep _ ⟨rfl, rfl, rfl, trivial⟩, S.sel [0, 1, 2, 3, 4] rfl rfl⟩
                · replace hM141 := bif_t hc142 hM141
                  refine cond_t hF rfl hc142 ?_
                  refine wp_region_lit ?_
                  refine op_val (v := .pointer (some ⟨g116, 1, none⟩)) rfl rfl hF rfl (run_fieldAddr rfl fl31_1 (hF.ev rfl) rfl) ?_; clear hF; intro a hF
                  refine op_val (v := .slice B110 p106.2.1.length d112) rfl rfl hF rfl (run_load1 rfl one22 (hF.ev rfl) ((S.free 1 rfl).cell rfl)) ?_; clear hF; intro a hF
                  refine op_val (v := .pointer (some ⟨g102, 1, none⟩)) rfl rfl hF rfl (run_fieldAddr rfl fl35_1 (hF.ev rfl) rfl) ?_; clear hF; intro a hF
                  refine op_val (v := .int .i64 x4) rfl rfl hF rfl (run_load1 rfl one3 (hF.ev rfl) ((S.free 3 rfl).cell rfl)) ?_; clear hF; intro a hF
                  refine op_val (v := .pointer (some ⟨g102, 0, none⟩)) rfl rfl hF rfl (run_fieldAddr rfl fl35_0 (hF.ev rfl) rfl) ?_; clear hF; intro a hF
                  refine op_val (v := .int .i64 x3) rfl rfl hF rfl (run_load1 rfl one3 (hF.ev rfl) ((S.free 3 rfl).cell rfl)) ?_; clear hF; intro a hF
                  refine op_val (v := .bool (x3 == 2)) rfl rfl hF rfl (run_eql (hF.ev rfl) rfl rfl) ?_; clear hF; intro a hF
                  obtain ⟨hk164, hM141⟩ := chk_ex hM141
                  replace hk164 := ixB_t hk164
                  refine op_val (v := .pointer (some ⟨adB B110, adO B110 + x4.toNat * 1, none⟩)) rfl rfl hF rfl (run_indexAddr (b := adB B110) (off := adO B110) rfl Try.underlying22 sz4 ((hF.ev rfl).trans (congrArg (fun A => Value.slice A p106.2.1.length d112) ((S.rc 5 rfl).rd.ad (ix_pos hk164)))) (hF.ev rfl) hk164.1 hk164.2 (k' := adO B110 + x4.toNat * 1) rfl) ?_; clear hF; intro a hF
                  obtain ⟨w', hrun, S'⟩ := run_storeElN (P := Try.prog) (ρ := a.eval) (y0 := x3 == 2) (off := 0) S 4 (.tmp 61) (.tmp 60) (i := 5) sz4 (hF.ev rfl) (hF.ev rfl) rfl rfl rfl rfl rfl eB_len false (ix_ltn hk164 rfl) rfl rfl
                  refine op_do rfl rfl (hrun _ rfl) ?_; clear hrun S; have S := S'; clear S'; generalize w' = u at S ⊢
                  refine wpList_nil ?_
                  obtain rfl := Option.some.inj hM141
                  exact ⟨(p106.2.1.set x4.toNat (x3 == 2), p106.2.2), B113, d115, rfl, (len_set rfl), hF.keep _ ⟨rfl, rfl, rfl, trivial⟩, S.sel [1, 2, 4, 5, 6] rfl rfl⟩
              · rintro a u ⟨p136, B139, d140, rfl, hn138, hF, S⟩
                obtain rfl := Option.some.inj hM130
                exact ⟨(p106.1, p136.1, p136.2), B139, d140, rfl, rfl, hn138, hF.keep _ ⟨rfl, rfl, rfl, trivial⟩, S.sel [0, 1, 2, 3, 4] rfl rfl⟩
          · replace hM130 := bif_t hc131 hM130
            refine cond_t hF rfl hc131 ?_
            refine wp_region_lit ?_
            refine op_val (v := .pointer (some ⟨g116, 0, none⟩)) rfl rfl hF rfl (run_fieldAddr rfl fl31_0 (hF.ev rfl) rfl) ?_; clear hF; intro a hF
            refine op_val (v := .slice B107 p106.1.length d109) rfl rfl hF rfl (run_load1 rfl one22 (hF.ev rfl) ((S.free 1 rfl).cell rfl)) ?_; clear hF; intro a hF
            refine op_val (v := .pointer (some ⟨g102, 1, none⟩)) rfl rfl hF rfl (run_fieldAddr rfl fl35_1 (hF.ev rfl) rfl) ?_; clear hF; intro a hF
            refine op_val (v := .int .i64 x4) rfl rfl hF rfl (run_load1 rfl one3 (hF.ev rfl) ((S.free 3 rfl).cell rfl)) ?_; clear hF; intro a hF
            refine op_val (v := .pointer (some ⟨g102, 0, none⟩)) rfl rfl hF rfl (run_fieldAddr rfl fl35_0 (hF.ev rfl) rfl) ?_; clear hF; intro a hF
            refine op_val (v := .int .i64 x3) rfl rfl hF rfl (run_load1 rfl one3 (hF.ev rfl) ((S.free 3 rfl).cell rfl)) ?_; clear hF; intro a hF
            refine op_val (v := .bool (x3 == 0)) rfl rfl hF rfl (run_eql (hF.ev rfl) rfl rfl) ?_; clear hF; intro a hF
            obtain ⟨hk165, hM130⟩ := chk_ex hM130
            replace hk165 := ixB_t hk165
            refine op_val (v := .pointer (some ⟨adB B107, adO B107 + x4.toNat * 1, none⟩)) rfl rfl hF rfl (run_indexAddr (b := adB B107) (off := adO B107) rfl Try.underlying22 sz4 ((hF.ev rfl).trans (congrArg (fun A => Value.slice A p106.1.length d109) ((S.rc 4 rfl).rd.ad (ix_pos hk165)))) (hF.ev rfl) hk165.1 hk165.2 (k' := adO B107 + x4.toNat * 1) rfl) ?_; clear hF; intro a hF
            obtain ⟨w', hrun, S'⟩ := run_storeElN (P := Try.prog) (ρ := a.eval) (y0 := x3 == 0) (off := 0) S 4 (.tmp 50) (.tmp 49) (i := 4) sz4 (hF.ev rfl) (hF.ev rfl) rfl rfl rfl rfl rfl eB_len false (ix_ltn hk165 rfl) rfl rfl
            refine op_do rfl rfl (hrun _ rfl) ?_; clear hrun S; have S := S'; clear S'; generalize w' = u at S ⊢
            refine wpList_nil ?_
            obtain rfl := Option.some.inj hM130
            exact ⟨(p106.1.set x4.toNat (x3 == 0), p106.2.1, p106.2.2), B113, d115, rfl, (len_set rfl), rfl, hF.keep _ ⟨rfl, rfl, rfl, trivial⟩, S.sel [1, 2, 4, 5, 6] rfl rfl⟩
        · rintro a u ⟨p124, B128, d129, rfl, hn126, hn127, hF, S⟩
          refine wp_seq ?_
          refine wp_region_lit ?_
          refine op_val (v := .agg #[.slice B107 p106.1.length d109, .slice B110 p106.2.1.length d112, .slice B128 p124.2.2.length d129]) rfl rfl hF rfl (run_loadN rfl ag31 (hF.ev rfl) rfl ((S.free 0 rfl).cells 0 #[.slice B107 p106.1.length d109, .slice B110 p106.2.1.length d112, .slice B128 p124.2.2.length d129] rfl)) ?_; clear hF; intro a hF
          refine op_do rfl rfl (run_store (cs' := #[.slice B107 p106.1.length d109, .slice B110 p106.2.1.length d112, .slice B128 p124.2.2.length d129]) rfl sz31 (hF.ev rfl) (hF.ev rfl) rfl rfl rfl (S.free 1 rfl) rfl rfl) ?_; replace S := S.put 1 rfl (#[.slice B107 p106.1.length d109, .slice B110 p106.2.1.length d112, .slice B128 p124.2.2.length d129])
          generalize World.setRow _ _ _ = u at S ⊢
          refine op_val (v := .bool true) rfl rfl hF rfl (run_assign rfl rfl) ?_; clear hF; intro a hF
          refine wpList_nil ?_
          refine wp_ret ?_
          repeat with_reducible (first | refine then_ret ?_ | refine in_ret ?_ | refine in_nrm ?_)
          refine ret2_gw (.inl rfl) hF rfl (res_cell (hF.ev rfl) (res_loadN ag31 rfl (S.cells 1 rfl 0 #[.slice B107 p106.1.length d109, .slice B110 p106.2.1.length d112, .slice B128 p124.2.2.length d129] rfl))) (res_tmp (hF.ev rfl)) ?_
          obtain rfl := Option.some.inj hM
          exact ⟨B107, p106.1.length, d109, B110, p106.2.1.length, d112, B128, p124.2.2.length, d129, rfl, hn126, hn127, rfl, S.sel [2, 3, 4] rfl rfl⟩
    · replace hM := bif_t hc118 hM
      refine cond_t hF rfl hc118 ?_
      refine wp_seq ?_
      refine wp_region_lit ?_
      refine op_val (v := .agg #[.slice B107 p106.1.length d109, .slice B110 p106.2.1.length d112, .slice B113 p106.2.2.length d115]) rfl rfl hF rfl (run_loadN rfl ag31 (hF.ev rfl) rfl ((S.free 0 rfl).cells 0 #[.slice B107 p106.1.length d109, .slice B110 p106.2.1.length d112, .slice B113 p106.2.2.length d115] rfl)) ?_; clear hF; intro a hF
      refine op_do rfl rfl (run_store (cs' := #[.slice B107 p106.1.length d109, .slice B110 p106.2.1.length d112, .slice B113 p106.2.2.length d115]) rfl sz31 (hF.ev rfl) (hF.ev rfl) rfl rfl rfl (S.free 4 rfl) rfl rfl) ?_; replace S := S.put 4 rfl (#[.slice B107 p106.1.length d109, .slice B110 p106.2.1.length d112, .slice B113 p106.2.2.length d115])
      generalize World.setRow _ _ _ = u at S ⊢
      refine op_val (v := .bool false) rfl rfl hF rfl (run_assign rfl rfl) ?_; clear hF; intro a hF
      refine wpList_nil ?_
      refine wp_ret ?_
      repeat with_reducible (first | refine then_ret ?_ | refine in_ret ?_ | refine in_nrm ?_)
      refine ret2_gw (.inl rfl) hF rfl (res_cell (hF.ev rfl) (res_loadN ag31 rfl (S.cells 4 rfl 0 #[.slice B107 p106.1.length d109, .slice B110 p106.2.1.length d112, .slice B113 p106.2.2.length d115] rfl))) (res_tmp (hF.ev rfl)) ?_
      obtain rfl := Option.some.inj hM
      exact ⟨B107, p106.1.length, d109, B110, p106.2.1.length, d112, B113, p106.2.2.length, d115, rfl, rfl, rfl, rfl, S.sel [1, 2, 3] rfl rfl⟩

set_option maxHeartbeats 4000000 in
theorem c_laws_eqBoolS {x0 : List Bool} {x1 : List Bool} {A0 : Option Addr} {n0 c0 : Nat} {A1 : Option Addr} {n1 c1 : Nat} {w : World} {r : Bool} (h0 : Rt w 1 eB A0 n0 c0 x0) (h1 : Rt w 1 eB A1 n1 c1 x1) (hM : m_laws_eqBoolS x0 x1 = some r) :
    Calls Try.prog 33 #[.slice A0 n0 c0, .slice A1 n1 c1] w (fun e w' => e = .returned (.bool r) ∧ St w w' []) := by
  obtain rfl := h0.len
  obtain rfl := h1.len
  unfold m_laws_eqBoolS at hM
  refine calls_gw Try.func33 Try.ntmps33 rfl [(0, .slice A0 x0.length c0), (1, .slice A1 x1.length c1)] ⟨rfl, rfl, trivial⟩ rfl ?_
  intro a hF
  have S := St.nil w
  refine wp_seq ?_
  refine wp_region_lit ?_
  refine op_val (v := .bool false) rfl rfl hF rfl (run_assign rfl rfl) ?_; clear hF; intro a hF
  refine wpList_nil ?_
  refine wp_seq ?_
  refine wp_seq ?_
  refine wp_region_lit ?_
  refine op_val (v := .slice A0 x0.length c0) rfl rfl hF rfl (run_move rfl (hF.ev rfl)) ?_; clear hF; intro a hF
  refine op_val (v := .int .i64 (x0.length : Int)) rfl rfl hF rfl (run_lenL rfl rfl Try.underlying22 (hF.ev rfl)) ?_; clear hF; intro a hF
  refine op_val (v := .slice A1 x1.length c1) rfl rfl hF rfl (run_move rfl (hF.ev rfl)) ?_; clear hF; intro a hF
  refine op_val (v := .int .i64 (x1.length : Int)) rfl rfl hF rfl (run_lenL rfl rfl Try.underlying22 (hF.ev rfl)) ?_; clear hF; intro a hF
  refine op_val (v := .bool ((x0.length : Int) != (x1.length : Int))) rfl rfl hF rfl (run_neq (hF.ev rfl) (hF.ev rfl) rfl) ?_; clear hF; intro a hF
  refine wpList_nil ?_
  cases hc101 : ((x0.length : Int) != (x1.length : Int))
  · replace hM := bif_f hc101 hM
    refine cond_f hF rfl hc101 ?_
    refine wp_skip ?_
    refine wp_seq ?_
    refine wp_seq ?_
    refine wp_region_lit ?_
    refine op_val (v := .int .i64 0) rfl rfl hF rfl (run_assign rfl rfl) ?_; clear hF; intro a hF
    refine wpList_nil ?_
    obtain ⟨o103, hM104, hM⟩ := bind_ex hM
    refine wp_cut (fun a u => ∃ (p102 : Unit), (Sum.inl p102) = o103 ∧ Fr a 26 [(4, .bool false)] ∧ St w u []) ?_ ?_
    · have _ := trivial
      refine wp_block ?_
      refine loop_gw (fun m a u => ∃ (p105 : Int), m_laws_eqBoolS_l1 x0 x1 m p105 = some _ ∧ Fr a 26 [(0, .slice A0 x0.length c0), (1, .slice A1 x1.length c1), (4, .bool false), (5, .int .i64 p105)] ∧ St w u []) FUEL ⟨0, hM104, hF.keep _ ⟨rfl, rfl, rfl, rfl, trivial⟩, S.sel [] rfl rfl⟩ ?_
      clear hF S hM104; rintro m a u ⟨p105, hM104, hF, S⟩
      rcases m with _ | f1
      · exact none_some hM104
      rw [m_laws_eqBoolS_l1.eq_2] at hM104
      refine wp_seq ?_
      refine wp_seq ?_
      refine wp_region_lit ?_
      refine op_val (v := .int .i64 p105) rfl rfl hF rfl (run_move rfl (hF.ev rfl)) ?_; clear hF; intro a hF
      refine op_val (v := .slice A0 x0.length c0) rfl rfl hF rfl (run_move rfl (hF.ev rfl)) ?_; clear hF; intro a hF
      refine op_val (v := .int .i64 (x0.length : Int)) rfl rfl hF rfl (run_lenL rfl rfl Try.underlying22 (hF.ev rfl)) ?_; clear hF; intro a hF
      refine op_val (v := .bool (ltB p105 (x0.length : Int))) rfl rfl hF rfl (run_lss (hF.ev rfl) (hF.ev rfl) rfl) ?_; clear hF; intro a hF
      refine wpList_nil ?_
      cases hc106 : (ltB p105 (x0.length : Int))
      · replace hM104 := bif_f hc106 hM104
        refine cond_f hF rfl hc106 ?_
        refine wp_exit ?_
        repeat with_reducible (first | refine then_exit ?_ | refine in_hit ?_ | refine in_miss rfl ?_)
        obtain rfl := Option.some.inj hM104
        exact ⟨(), rfl, hF.keep _ ⟨rfl, trivial⟩, S.sel [] rfl rfl⟩
      · replace hM104 := bif_t hc106 hM104
        refine cond_t hF rfl hc106 ?_
        refine wp_skip ?_
        refine wp_seq ?_
        refine wp_block ?_
        refine wp_seq ?_
        obtain ⟨hk107, hM104⟩ := chk_ex hM104
        replace hk107 := ixB_t hk107
        obtain ⟨hk108, hM104⟩ := chk_ex hM104
        replace hk108 := ixB_t hk108
        refine region_gw (D := [17, 18, 19, 20, 21, 22, 23, 24, 25]) (Lr := []) (deps := (fun | 0 => [17] | 1 => [18] | 2 => [19] | 3 => [20] | 4 => [21] | 5 => [22] | 6 => [23] | 7 => [24] | 8 => [25] | _ => [])) (rd := (fun _ => [])) (zr := (fun _ => []))
          (φ := fun i vs => match i, vs with | 0, [v17] => v17 = .slice A0 x0.length c0 | 1, [v18] => v18 = .int .i64 p105 | 2, [v19] => v19 = .pointer (some ⟨adB A0, adO A0 + p105.toNat * 1, none⟩) | 3, [v20] => v20 = .bool (x0.getD p105.toNat false) | 4, [v21] => v21 = .slice A1 x1.length c1 | 5, [v22] => v22 = .int .i64 p105 | 6, [v23] => v23 = .pointer (some ⟨adB A1, adO A1 + p105.toNat * 1, none⟩) | 7, [v24] => v24 = .bool (x1.getD p105.toNat false) | 8, [v25] => v25 = .bool ((x0.getD p105.toNat false) != (x1.getD p105.toNat false)) | _, _ => True)
          (C := fun _ _ => [])
          (κ := (fun _ => none)) (Z := (fun _ => [])) mixed hF (by kernel_rfl) S ?_ ?_
        · refine ⟨?_, ?_, ?_, ?_, ?_, ?_, ?_, ?_, ?_, trivial⟩
          · intro a u X hB hu hp hr hz hl S
            replace S : St w u ([] ++ X) := S
            exact .inl ⟨rfl, .slice A0 x0.length c0, u, (run_move rfl (hF.evB hB rfl rfl)), rfl, S⟩
          · intro a u X hB hu hp hr hz hl S
            replace S : St w u ([] ++ X) := S
            exact .inl ⟨rfl, .int .i64 p105, u, (run_move rfl (hF.evB hB rfl rfl)), rfl, S⟩
          · intro a u X hB hu hp hr hz hl S
            replace S : St w u ([] ++ X) := S
            have e17 : sl a 17 = .slice A0 x0.length c0 := hp 0 rfl
            have e18 : sl a 18 = .int .i64 p105 := hp 1 rfl
            exact .inl ⟨rfl, .pointer (some ⟨adB A0, adO A0 + p105.toNat * 1, none⟩), u, (run_indexAddr (b := adB A0) (off := adO A0) rfl Try.underlying22 sz4 ((ev_sl e17).trans (congrArg (fun A => Value.slice A x0.length c0) ((S.rc0 h0.rc).rd.ad (ix_pos hk107)))) (ev_sl e18) hk107.1 hk107.2 (k' := adO A0 + p105.toNat * 1) rfl), rfl, S⟩
          · intro a u X hB hu hp hr hz hl S
            replace S : St w u ([] ++ X) := S
            have e19 : sl a 19 = .pointer (some ⟨adB A0, adO A0 + p105.toNat * 1, none⟩) := hp 2 rfl
            exact .inl ⟨rfl, .bool (x0.getD p105.toNat false), u, (run_load1 rfl one4 (ev_sl e19) (rd_el0 (l := x0) (S.rc0 h0.rc).rd rfl eB_len false (ix_ltn hk107 rfl) rfl)), rfl, S⟩
          · intro a u X hB hu hp hr hz hl S
            replace S : St w u ([] ++ X) := S
            exact .inl ⟨rfl, .slice A1 x1.length c1, u, (run_move rfl (hF.evB hB rfl rfl)), rfl, S⟩
          · intro a u X hB hu hp hr hz hl S
            replace S : St w u ([] ++ X) := S
            exact .inl ⟨rfl, .int .i64 p105, u, (run_move rfl (hF.evB hB rfl rfl)), rfl, S⟩
          · intro a u X hB hu hp hr hz hl S
            replace S : St w u ([] ++ X) := S
            have e21 : sl a 21 = .slice A1 x1.length c1 := hp 4 rfl
            have e22 : sl a 22 = .int .i64 p105 := hp 5 rfl
            exact .inl ⟨rfl, .pointer (some ⟨adB A1, adO A1 + p105.toNat * 1, none⟩), u, (run_indexAddr (b := adB A1) (off := adO A1) rfl Try.underlying22 sz4 ((ev_sl e21).trans (congrArg (fun A => Value.slice A x1.length c1) ((S.rc0 h1.rc).rd.ad (ix_pos hk108)))) (ev_sl e22) hk108.1 hk108.2 (k' := adO A1 + p105.toNat * 1) rfl), rfl, S⟩
          · intro a u X hB hu hp hr hz hl S
            replace S : St w u ([] ++ X) := S
            have e23 : sl a 23 = .pointer (some ⟨adB A1, adO A1 + p105.toNat * 1, none⟩) := hp 6 rfl
            exact .inl ⟨rfl, .bool (x1.getD p105.toNat false), u, (run_load1 rfl one4 (ev_sl e23) (rd_el0 (l := x1) (S.rc0 h1.rc).rd rfl eB_len false (ix_ltn hk108 rfl) rfl)), rfl, S⟩
          · intro a u X hB hu hp hr hz hl S
            replace S : St w u ([] ++ X) := S
            have e20 : sl a 20 = .bool (x0.getD p105.toNat false) := hp 3 rfl
            have e24 : sl a 24 = .bool (x1.getD p105.toNat false) := hp 7 rfl
            exact .inl ⟨rfl, .bool ((x0.getD p105.toNat false) != (x1.getD p105.toNat false)), u, (run_neqB (ev_sl e20) (ev_sl e24) Try.underlying4 rfl), rfl, S⟩
        · intro a u hB hp S
          obtain ⟨q0, q1, q2, q3, q4, q5, q6, q7, q8, _⟩ := hp
          have e17 : sl a 17 = .slice A0 x0.length c0 := q0
          have e18 : sl a 18 = .int .i64 p105 := q1
          have e19 : sl a 19 = .pointer (some ⟨adB A0, adO A0 + p105.toNat * 1, none⟩) := q2
          have e20 : sl a 20 = .bool (x0.getD p105.toNat false) := q3
          have e21 : sl a 21 = .slice A1 x1.length c1 := q4
          have e22 : sl a 22 = .int .i64 p105 := q5
          have e23 : sl a 23 = .pointer (some ⟨adB A1, adO A1 + p105.toNat * 1, none⟩) := q6
          have e24 : sl a 24 = .bool (x1.getD p105.toNat false) := q7
          have e25 : sl a 25 = .bool ((x0.getD p105.toNat false) != (x1.getD p105.toNat false)) := q8
          replace S : St w u [] := S
          clear q0 q1 q2 q3 q4 q5 q6 q7 q8
          have hF := hF.region hB [(17, .slice A0 x0.length c0), (18, .int .i64 p105), (19, .pointer (some ⟨adB A0, adO A0 + p105.toNat * 1, none⟩)), (20, .bool (x0.getD p105.toNat false)), (21, .slice A1 x1.length c1), (22, .int .i64 p105), (23, .pointer (some ⟨adB A1, adO A1 + p105.toNat * 1, none⟩)), (24, .bool (x1.getD p105.toNat false)), (25, .bool ((x0.getD p105.toNat false) != (x1.getD p105.toNat false)))] (allSl_mem ⟨e17, e18, e19, e20, e21, e22, e23, e24, e25, trivial⟩) rfl
          clear hB e17 e18 e19 e20 e21 e22 e23 e24 e25
          cases hc109 : ((x0.getD p105.toNat false) != (x1.getD p105.toNat false))
          · replace hM104 := bif_f hc109 hM104
            refine cond_f hF rfl hc109 ?_
            refine wp_skip ?_
            refine wp_region_lit ?_
            refine op_val (v := .int .i64 p105) rfl rfl hF rfl (run_move rfl (hF.ev rfl)) ?_; clear hF; intro a hF
            refine op_val (v := .int .i64 (w64 (p105 + 1))) rfl rfl hF rfl (run_add (z := w64 (p105 + 1)) (hF.ev rfl) rfl rfl rfl) ?_; clear hF; intro a hF
            refine op_val (v := .int .i64 (w64 (p105 + 1))) rfl rfl hF rfl (run_assign rfl (hF.ev rfl)) ?_; clear hF; intro a hF
            refine wpList_nil ?_
            exact ⟨f1, Nat.lt_succ_self _, w64 (p105 + 1), hM104, hF.keep _ ⟨rfl, rfl, rfl, rfl, trivial⟩, S.sel [] rfl rfl⟩
          · replace hM104 := bif_t hc109 hM104
            refine cond_t hF rfl hc109 ?_
            refine wp_seq ?_
            refine wp_region_lit ?_
            refine op_val (v := .bool false) rfl rfl hF rfl (run_assign rfl rfl) ?_; clear hF; intro a hF
            refine wpList_nil ?_
            refine wp_ret ?_
            repeat with_reducible (first | refine then_ret ?_ | refine in_ret ?_ | refine in_nrm ?_)
            refine ret1_gw (.inl rfl) hF rfl (res_tmp (hF.ev rfl)) ?_
            obtain rfl := Option.some.inj hM104
            obtain rfl := Option.some.inj hM
            exact ⟨rfl, S.sel [] rfl rfl⟩
    · rintro a u ⟨p102, rfl, hF, S⟩
      replace hM := elim_l hM
      refine wp_seq ?_
      refine wp_region_lit ?_
      refine op_val (v := .bool true) rfl rfl hF rfl (run_assign rfl rfl) ?_; clear hF; intro a hF
      refine wpList_nil ?_
      refine wp_ret ?_
      repeat with_reducible (first | refine then_ret ?_ | refine in_ret ?_ | refine in_nrm ?_)
      refine ret1_gw (.inl rfl) hF rfl (res_tmp (hF.ev rfl)) ?_
      obtain rfl := Option.some.inj hM
      exact ⟨rfl, S.sel [] rfl rfl⟩
  · replace hM := bif_t hc101 hM
    refine cond_t hF rfl hc101 ?_
    refine wp_seq ?_
    refine wp_region_lit ?_
    refine op_val (v := .bool false) rfl rfl hF rfl (run_assign rfl rfl) ?_; clear hF; intro a hF
    refine wpList_nil ?_
    refine wp_ret ?_
    repeat with_reducible (first | refine then_ret ?_ | refine in_ret ?_ | refine in_nrm ?_)
    refine ret1_gw (.inl rfl) hF rfl (res_tmp (hF.ev rfl)) ?_
    obtain rfl := Option.some.inj hM
    exact ⟨rfl, S.sel [] rfl rfl⟩

set_option maxHeartbeats 4000000 in
theorem c_laws_eqPermit {x0 : Int} {x1 : Int} {x2 : Int} {x3 : Int} {w : World} {r : Bool}  (hM : m_laws_eqPermit x0 x1 x2 x3 = some r) :
    Calls Try.prog 47 #[.agg #[.int .i64 x0, .int .i64 x1], .agg #[.int .i64 x2, .int .i64 x3]] w (fun e w' => e = .returned (.bool r) ∧ St w w' []) := by
  unfold m_laws_eqPermit at hM
  refine calls_gw Try.func47 Try.ntmps47 rfl [(0, .agg #[.int .i64 x0, .int .i64 x1]), (1, .agg #[.int .i64 x2, .int .i64 x3])] ⟨rfl, rfl, trivial⟩ rfl ?_
  intro a hF
  have S := St.nil w
  refine wp_seq ?_
  refine wp_region_lit ?_
  refine op_new (cs := #[.int .i64 x0, .int .i64 x1]) rfl rfl hF rfl S (run_box rfl (hF.ev rfl) rfl) ?_; clear hF S; intro a g101 u hF S
  refine op_new (cs := #[.int .i64 x2, .int .i64 x3]) rfl rfl hF rfl S (run_box rfl (hF.ev rfl) rfl) ?_; clear hF S; intro a g102 u hF S
  refine op_val (v := .bool false) rfl rfl hF rfl (run_assign rfl rfl) ?_; clear hF; intro a hF
  refine wpList_nil ?_
  refine wp_seq ?_
  refine wp_seq ?_
  refine wp_region_lit ?_
  refine op_val (v := .pointer (some ⟨g101, 0, none⟩)) rfl rfl hF rfl (run_fieldAddr rfl fl56_0 (hF.ev rfl) rfl) ?_; clear hF; intro a hF
  refine op_val (v := .int .i64 x0) rfl rfl hF rfl (run_load1 rfl one3 (hF.ev rfl) ((S.free 1 rfl).cell rfl)) ?_; clear hF; intro a hF
  refine op_val (v := .pointer (some ⟨g102, 0, none⟩)) rfl rfl hF rfl (run_fieldAddr rfl fl56_0 (hF.ev rfl) rfl) ?_; clear hF; intro a hF
  refine op_val (v := .int .i64 x2) rfl rfl hF rfl (run_load1 rfl one3 (hF.ev rfl) ((S.free 0 rfl).cell rfl)) ?_; clear hF; intro a hF
  refine op_val (v := .bool (x0 != x2)) rfl rfl hF rfl (run_neq (hF.ev rfl) (hF.ev rfl) rfl) ?_; clear hF; intro a hF
  refine wpList_nil ?_
  cases hc103 : (x0 != x2)
  · replace hM := bif_f hc103 hM
    refine cond_f hF rfl hc103 ?_
    refine wp_skip ?_
    refine wp_seq ?_
    refine wp_seq ?_
    refine wp_region_lit ?_
    refine op_val (v := .pointer (some ⟨g101, 1, none⟩)) rfl rfl hF rfl (run_fieldAddr rfl fl56_1 (hF.ev rfl) rfl) ?_; clear hF; intro a hF
    refine op_val (v := .int .i64 x1) rfl rfl hF rfl (run_load1 rfl one3 (hF.ev rfl) ((S.free 1 rfl).cell rfl)) ?_; clear hF; intro a hF
    refine op_val (v := .pointer (some ⟨g102, 1, none⟩)) rfl rfl hF rfl (run_fieldAddr rfl fl56_1 (hF.ev rfl) rfl) ?_; clear hF; intro a hF
    refine op_val (v := .int .i64 x3) rfl rfl hF rfl (run_load1 rfl one3 (hF.ev rfl) ((S.free 0 rfl).cell rfl)) ?_; clear hF; intro a hF
    refine op_val (v := .bool (x1 != x3)) rfl rfl hF rfl (run_neq (hF.ev rfl) (hF.ev rfl) rfl) ?_; clear hF; intro a hF
    refine wpList_nil ?_
    cases hc104 : (x1 != x3)
    · replace hM := bif_f hc104 hM
      refine cond_f hF rfl hc104 ?_
      refine wp_skip ?_
      refine wp_seq ?_
      refine wp_region_lit ?_
      refine op_val (v := .bool true) rfl rfl hF rfl (run_assign rfl rfl) ?_; clear hF; intro a hF
      refine wpList_nil ?_
      refine wp_ret ?_
      repeat with_reducible (first | refine then_ret ?_ | refine in_ret ?_ | refine in_nrm ?_)
      refine ret1_gw (.inl rfl) hF rfl (res_tmp (hF.ev rfl)) ?_
      obtain rfl := Option.some.inj hM
      exact ⟨rfl, S.sel [] rfl rfl⟩
    · replace hM := bif_t hc104 hM
      refine cond_t hF rfl hc104 ?_
      refine wp_seq ?_
      refine wp_region_lit ?_
      refine op_val (v := .bool false) rfl rfl hF rfl (run_assign rfl rfl) ?_; clear hF; intro a hF
      refine wpList_nil ?_
      refine wp_ret ?_
      repeat with_reducible (first | refine then_ret ?_ | refine in_ret ?_ | refine in_nrm ?_)
      refine ret1_gw (.inl rfl) hF rfl (res_tmp (hF.ev rfl)) ?_
      obtain rfl := Option.some.inj hM
      exact ⟨rfl, S.sel [] rfl rfl⟩
  · replace hM := bif_t hc103 hM
    refine cond_t hF rfl hc103 ?_
    refine wp_seq ?_
    refine wp_region_lit ?_
    refine op_val (v := .bool false) rfl rfl hF rfl (run_assign rfl rfl) ?_; clear hF; intro a hF
    refine wpList_nil ?_
    refine wp_ret ?_
    repeat with_reducible (first | refine then_ret ?_ | refine in_ret ?_ | refine in_nrm ?_)
    refine ret1_gw (.inl rfl) hF rfl (res_tmp (hF.ev rfl)) ?_
    obtain rfl := Option.some.inj hM
    exact ⟨rfl, S.sel [] rfl rfl⟩

set_option maxHeartbeats 4000000 in
theorem c_laws_eqPermitS {x0 : List (Int × Int)} {x1 : List (Int × Int)} {A0 : Option Addr} {n0 c0 : Nat} {A1 : Option Addr} {n1 c1 : Nat} {w : World} {r : Bool} (h0 : Rt w 2 ePermit A0 n0 c0 x0) (h1 : Rt w 2 ePermit A1 n1 c1 x1) (hM : m_laws_eqPermitS x0 x1 = some r) :
    Calls Try.prog 34 #[.slice A0 n0 c0, .slice A1 n1 c1] w (fun e w' => e = .returned (.bool r) ∧ St w w' []) := by
  obtain rfl := h0.len
  obtain rfl := h1.len
  unfold m_laws_eqPermitS at hM
  refine calls_gw Try.func34 Try.ntmps34 rfl [(0, .slice A0 x0.length c0), (1, .slice A1 x1.length c1)] ⟨rfl, rfl, trivial⟩ rfl ?_
  intro a hF
  have S := St.nil w
  refine wp_seq ?_
  refine wp_region_lit ?_
  refine op_val (v := .bool false) rfl rfl hF rfl (run_assign rfl rfl) ?_; clear hF; intro a hF
  refine wpList_nil ?_
  refine wp_seq ?_
  refine wp_seq ?_
  refine wp_region_lit ?_
  refine op_val (v := .slice A0 x0.length c0) rfl rfl hF rfl (run_move rfl (hF.ev rfl)) ?_; clear hF; intro a hF
  refine op_val (v := .int .i64 (x0.length : Int)) rfl rfl hF rfl (run_lenL rfl rfl Try.underlying29 (hF.ev rfl)) ?_; clear hF; intro a hF
  refine op_val (v := .slice A1 x1.length c1) rfl rfl hF rfl (run_move rfl (hF.ev rfl)) ?_; clear hF; intro a hF
  refine op_val (v := .int .i64 (x1.length : Int)) rfl rfl hF rfl (run_lenL rfl rfl Try.underlying29 (hF.ev rfl)) ?_; clear hF; intro a hF
  refine op_val (v := .bool ((x0.length : Int) != (x1.length : Int))) rfl rfl hF rfl (run_neq (hF.ev rfl) (hF.ev rfl) rfl) ?_; clear hF; intro a hF
  refine wpList_nil ?_
  cases hc101 : ((x0.length : Int) != (x1.length : Int))
  · replace hM := bif_f hc101 hM
    refine cond_f hF rfl hc101 ?_
    refine wp_skip ?_
    refine wp_seq ?_
    refine wp_seq ?_
    refine wp_region_lit ?_
    refine op_val (v := .int .i64 0) rfl rfl hF rfl (run_assign rfl rfl) ?_; clear hF; intro a hF
    refine wpList_nil ?_
    obtain ⟨o103, hM104, hM⟩ := bind_ex hM
    refine wp_cut (fun a u => ∃ (p102 : Unit), (Sum.inl p102) = o103 ∧ Fr a 27 [(4, .bool false)] ∧ St w u []) ?_ ?_
    · have _ := trivial
      refine wp_block ?_
      refine loop_gw (fun m a u => ∃ (p105 : Int), m_laws_eqPermitS_l1 x0 x1 m p105 = some _ ∧ Fr a 27 [(0, .slice A0 x0.length c0), (1, .slice A1 x1.length c1), (4, .bool false), (5, .int .i64 p105)] ∧ St w u []) FUEL ⟨0, hM104, hF.keep _ ⟨rfl, rfl, rfl, rfl, trivial⟩, S.sel [] rfl rfl⟩ ?_
      clear hF S hM104; rintro m a u ⟨p105, hM104, hF, S⟩
      rcases m with _ | f1
      · exact none_some hM104
      rw [m_laws_eqPermitS_l1.eq_2] at hM104
      refine wp_seq ?_
      refine wp_seq ?_
      refine wp_region_lit ?_
      refine op_val (v := .int .i64 p105) rfl rfl hF rfl (run_move rfl (hF.ev rfl)) ?_; clear hF; intro a hF
      refine op_val (v := .slice A0 x0.length c0) rfl rfl hF rfl (run_move rfl (hF.ev rfl)) ?_; clear hF; intro a hF
      refine op_val (v := .int .i64 (x0.length : Int)) rfl rfl hF rfl (run_lenL rfl rfl Try.underlying29 (hF.ev rfl)) ?_; clear hF; intro a hF
      refine op_val (v := .bool (ltB p105 (x0.length : Int))) rfl rfl hF rfl (run_lss (hF.ev rfl) (hF.ev rfl) rfl) ?_; clear hF; intro a hF
      refine wpList_nil ?_
      cases hc106 : (ltB p105 (x0.length : Int))
      · replace hM104 := bif_f hc106 hM104
        refine cond_f hF rfl hc106 ?_
        refine wp_exit ?_
        repeat with_reducible (first | refine then_exit ?_ | refine in_hit ?_ | refine in_miss rfl ?_)
        obtain rfl := Option.some.inj hM104
        exact ⟨(), rfl, hF.keep _ ⟨rfl, trivial⟩, S.sel [] rfl rfl⟩
      · replace hM104 := bif_t hc106 hM104
        refine cond_t hF rfl hc106 ?_
        refine wp_skip ?_
        refine wp_seq ?_
        refine wp_block ?_
        refine wp_seq ?_
        obtain ⟨hk107, hM104⟩ := chk_ex hM104
        replace hk107 := ixB_t hk107
        obtain ⟨hk108, hM104⟩ := chk_ex hM104
        replace hk108 := ixB_t hk108
        obtain ⟨p109, h109, hM104⟩ := bind_ex hM104
        refine region_gw (D := [17, 18, 19, 20, 21, 22, 23, 24, 25, 26]) (Lr := []) (deps := (fun | 0 => [17] | 1 => [18] | 2 => [19] | 3 => [20] | 4 => [21] | 5 => [22] | 6 => [23] | 7 => [24] | 8 => [25] | 9 => [26] | _ => [])) (rd := (fun _ => [])) (zr := (fun _ => []))
          (φ := fun i vs => match i, vs with | 0, [v17] => v17 = .slice A0 x0.length c0 | 1, [v18] => v18 = .int .i64 p105 | 2, [v19] => v19 = .pointer (some ⟨adB A0, adO A0 + p105.toNat * 2, none⟩) | 3, [v20] => v20 = .agg #[.int .i64 ((x0.getD p105.toNat ((0, 0) : Int × Int)).1), .int .i64 ((x0.getD p105.toNat ((0, 0) : Int × Int)).2)] | 4, [v21] => v21 = .slice A1 x1.length c1 | 5, [v22] => v22 = .int .i64 p105 | 6, [v23] => v23 = .pointer (some ⟨adB A1, adO A1 + p105.toNat * 2, none⟩) | 7, [v24] => v24 = .agg #[.int .i64 ((x1.getD p105.toNat ((0, 0) : Int × Int)).1), .int .i64 ((x1.getD p105.toNat ((0, 0) : Int × Int)).2)] | 8, [v25] => v25 = .bool p109 | 9, [v26] => v26 = .bool (!p109) | _, _ => True)
          (C := fun _ _ => [])
          (κ := (fun _ => none)) (Z := (fun _ => [])) mixed hF (by kernel_rfl) S ?_ ?_
        · refine ⟨?_, ?_, ?_, ?_, ?_, ?_, ?_, ?_, ?_, ?_, trivial⟩
          · intro a u X hB hu hp hr hz hl S
            replace S : St w u ([] ++ X) := S
            exact .inl ⟨rfl, .slice A0 x0.length c0, u, (run_move rfl (hF.evB hB rfl rfl)), rfl, S⟩
          · intro a u X hB hu hp hr hz hl S
            replace S : St w u ([] ++ X) := S
            exact .inl ⟨rfl, .int .i64 p105, u, (run_move rfl (hF.evB hB rfl rfl)), rfl, S⟩
          · intro a u X hB hu hp hr hz hl S
            replace S : St w u ([] ++ X) := S
            have e17 : sl a 17 = .slice A0 x0.length c0 := hp 0 rfl
            have e18 : sl a 18 = .int .i64 p105 := hp 1 rfl
            exact .inl ⟨rfl, .pointer (some ⟨adB A0, adO A0 + p105.toNat * 2, none⟩), u, (run_indexAddr (b := adB A0) (off := adO A0) rfl Try.underlying29 sz56 ((ev_sl e17).trans (congrArg (fun A => Value.slice A x0.length c0) ((S.rc0 h0.rc).rd.ad (ix_pos hk107)))) (ev_sl e18) hk107.1 hk107.2 (k' := adO A0 + p105.toNat * 2) rfl), rfl, S⟩
          · intro a u X hB hu hp hr hz hl S
            replace S : St w u ([] ++ X) := S
            have e19 : sl a 19 = .pointer (some ⟨adB A0, adO A0 + p105.toNat * 2, none⟩) := hp 2 rfl
            exact .inl ⟨rfl, .agg #[.int .i64 ((x0.getD p105.toNat ((0, 0) : Int × Int)).1), .int .i64 ((x0.getD p105.toNat ((0, 0) : Int × Int)).2)], u, (run_loadN (cs := #[.int .i64 ((x0.getD p105.toNat ((0, 0) : Int × Int)).1), .int .i64 ((x0.getD p105.toNat ((0, 0) : Int × Int)).2)]) rfl ag56 (ev_sl e19) rfl (rd_elN (l := x0) (S.rc0 h0.rc).rd rfl ePermit_len ((0, 0) : Int × Int) (ix_ltn hk107 rfl) rfl)), rfl, S⟩
          · intro a u X hB hu hp hr hz hl S
            replace S : St w u ([] ++ X) := S
            exact .inl ⟨rfl, .slice A1 x1.length c1, u, (run_move rfl (hF.evB hB rfl rfl)), rfl, S⟩
          · intro a u X hB hu hp hr hz hl S
            replace S : St w u ([] ++ X) := S
            exact .inl ⟨rfl, .int .i64 p105, u, (run_move rfl (hF.evB hB rfl rfl)), rfl, S⟩
          · intro a u X hB hu hp hr hz hl S
            replace S : St w u ([] ++ X) := S
            have e21 : sl a 21 = .slice A1 x1.length c1 := hp 4 rfl
            have e22 : sl a 22 = .int .i64 p105 := hp 5 rfl
            exact .inl ⟨rfl, .pointer (some ⟨adB A1, adO A1 + p105.toNat * 2, none⟩), u, (run_indexAddr (b := adB A1) (off := adO A1) rfl Try.underlying29 sz56 ((ev_sl e21).trans (congrArg (fun A => Value.slice A x1.length c1) ((S.rc0 h1.rc).rd.ad (ix_pos hk108)))) (ev_sl e22) hk108.1 hk108.2 (k' := adO A1 + p105.toNat * 2) rfl), rfl, S⟩
          · intro a u X hB hu hp hr hz hl S
            replace S : St w u ([] ++ X) := S
            have e23 : sl a 23 = .pointer (some ⟨adB A1, adO A1 + p105.toNat * 2, none⟩) := hp 6 rfl
            exact .inl ⟨rfl, .agg #[.int .i64 ((x1.getD p105.toNat ((0, 0) : Int × Int)).1), .int .i64 ((x1.getD p105.toNat ((0, 0) : Int × Int)).2)], u, (run_loadN (cs := #[.int .i64 ((x1.getD p105.toNat ((0, 0) : Int × Int)).1), .int .i64 ((x1.getD p105.toNat ((0, 0) : Int × Int)).2)]) rfl ag56 (ev_sl e23) rfl (rd_elN (l := x1) (S.rc0 h1.rc).rd rfl ePermit_len ((0, 0) : Int × Int) (ix_ltn hk108 rfl) rfl)), rfl, S⟩
          · intro a u X hB hu hp hr hz hl S
            replace S : St w u ([] ++ X) := S
            have e20 : sl a 20 = .agg #[.int .i64 ((x0.getD p105.toNat ((0, 0) : Int × Int)).1), .int .i64 ((x0.getD p105.toNat ((0, 0) : Int × Int)).2)] := hp 3 rfl
            have e24 : sl a 24 = .agg #[.int .i64 ((x1.getD p105.toNat ((0, 0) : Int × Int)).1), .int .i64 ((x1.getD p105.toNat ((0, 0) : Int × Int)).2)] := hp 7 rfl
            refine .inr (.inr (.inl ⟨rfl, _, _, (run_call (vs := [.agg #[.int .i64 ((x0.getD p105.toNat ((0, 0) : Int × Int)).1), .int .i64 ((x0.getD p105.toNat ((0, 0) : Int × Int)).2)], .agg #[.int .i64 ((x1.getD p105.toNat ((0, 0) : Int × Int)).1), .int .i64 ((x1.getD p105.toNat ((0, 0) : Int × Int)).2)]]) rfl rfl co47 ⟨(ev_sl e20), (ev_sl e24), trivial⟩), ?_⟩))
            refine Calls.mono (c_laws_eqPermit (x0 := (x0.getD p105.toNat ((0, 0) : Int × Int)).1) (x1 := (x0.getD p105.toNat ((0, 0) : Int × Int)).2) (x2 := (x1.getD p105.toNat ((0, 0) : Int × Int)).1) (x3 := (x1.getD p105.toNat ((0, 0) : Int × Int)).2)  h109) ?_
            rintro e w1 ⟨rfl, T⟩
            exact ⟨_, rfl, rfl, S.call0 T⟩
          · intro a u X hB hu hp hr hz hl S
            replace S : St w u ([] ++ X) := S
            have e25 : sl a 25 = .bool p109 := hp 8 rfl
            exact .inl ⟨rfl, .bool (!p109), u, (run_not rfl (ev_sl e25)), rfl, S⟩
        · intro a u hB hp S
          obtain ⟨q0, q1, q2, q3, q4, q5, q6, q7, q8, q9, _⟩ := hp
          have e17 : sl a 17 = .slice A0 x0.length c0 := q0
          have e18 : sl a 18 = .int .i64 p105 := q1
          have e19 : sl a 19 = .pointer (some ⟨adB A0, adO A0 + p105.toNat * 2, none⟩) := q2
          have e20 : sl a 20 = .agg #[.int .i64 ((x0.getD p105.toNat ((0, 0) : Int × Int)).1), .int .i64 ((x0.getD p105.toNat ((0, 0) : Int × Int)).2)] := q3
          have e21 : sl a 21 = .slice A1 x1.length c1 := q4
          have e22 : sl a 22 = .int .i64 p105 := q5
          have e23 : sl a 23 = .pointer (some ⟨adB A1, adO A1 + p105.toNat * 2, none⟩) := q6
          have e24 : sl a 24 = .agg #[.int .i64 ((x1.getD p105.toNat ((0, 0) : Int × Int)).1), .int .i64 ((x1.getD p105.toNat ((0, 0) : Int × Int)).2)] := q7
          have e25 : sl a 25 = .bool p109 := q8
          have e26 : sl a 26 = .bool (!p109) := q9
          replace S : St w u [] := S
          clear q0 q1 q2 q3 q4 q5 q6 q7 q8 q9
          have hF := hF.region hB [(17, .slice A0 x0.length c0), (18, .int .i64 p105), (19, .pointer (some ⟨adB A0, adO A0 + p105.toNat * 2, none⟩)), (20, .agg #[.int .i64 ((x0.getD p105.toNat ((0, 0) : Int × Int)).1), .int .i64 ((x0.getD p105.toNat ((0, 0) : Int × Int)).2)]), (21, .slice A1 x1.length c1), (22, .int .i64 p105), (23, .pointer (some ⟨adB A1, adO A1 + p105.toNat * 2, none⟩)), (24, .agg #[.int .i64 ((x1.getD p105.toNat ((0, 0) : Int × Int)).1), .int .i64 ((x1.getD p105.toNat ((0, 0) : Int × Int)).2)]), (25, .bool p109), (26, .bool (!p109))] (allSl_mem ⟨e17, e18, e19, e20, e21, e22, e23, e24, e25, e26, trivial⟩) rfl
          clear hB e17 e18 e19 e20 e21 e22 e23 e24 e25 e26
          cases hc110 : (p109)
          · replace hM104 := bif_f hc110 hM104
            refine cond_t hF rfl (not_t hc110) ?_
            refine wp_seq ?_
            refine wp_region_lit ?_
            refine op_val (v := .bool false) rfl rfl hF rfl (run_assign rfl rfl) ?_; clear hF; intro a hF
            refine wpList_nil ?_
            refine wp_ret ?_
            repeat with_reducible (first | refine then_ret ?_ | refine in_ret ?_ | refine in_nrm ?_)
            refine ret1_gw (.inl rfl) hF rfl (res_tmp (hF.ev rfl)) ?_
            obtain rfl := Option.some.inj hM104
            obtain rfl := Option.some.inj hM
            exact ⟨rfl, S.sel [] rfl rfl⟩
          · replace hM104 := bif_t hc110 hM104
            refine cond_f hF rfl (not_f hc110) ?_
            refine wp_skip ?_
            refine wp_region_lit ?_
            refine op_val (v := .int .i64 p105) rfl rfl hF rfl (run_move rfl (hF.ev rfl)) ?_; clear hF; intro a hF
            refine op_val (v := .int .i64 (w64 (p105 + 1))) rfl rfl hF rfl (run_add (z := w64 (p105 + 1)) (hF.ev rfl) rfl rfl rfl) ?_; clear hF; intro a hF
            refine op_val (v := .int .i64 (w64 (p105 + 1))) rfl rfl hF rfl (run_assign rfl (hF.ev rfl)) ?_; clear hF; intro a hF
            refine wpList_nil ?_
            exact ⟨f1, Nat.lt_succ_self _, w64 (p105 + 1), hM104, hF.keep _ ⟨rfl, rfl, rfl, rfl, trivial⟩, S.sel [] rfl rfl⟩
    · rintro a u ⟨p102, rfl, hF, S⟩
      replace hM := elim_l hM
      refine wp_seq ?_
      refine wp_region_lit ?_
      refine op_val (v := .bool true) rfl rfl hF rfl (run_assign rfl rfl) ?_; clear hF; intro a hF
      refine wpList_nil ?_
      refine wp_ret ?_
      repeat with_reducible (first | refine then_ret ?_ | refine in_ret ?_ | refine in_nrm ?_)
      refine ret1_gw (.inl rfl) hF rfl (res_tmp (hF.ev rfl)) ?_
      obtain rfl := Option.some.inj hM
      exact ⟨rfl, S.sel [] rfl rfl⟩
  · replace hM := bif_t hc101 hM
    refine cond_t hF rfl hc101 ?_
    refine wp_seq ?_
    refine wp_region_lit ?_
    refine op_val (v := .bool false) rfl rfl hF rfl (run_assign rfl rfl) ?_; clear hF; intro a hF
    refine wpList_nil ?_
    refine wp_ret ?_
    repeat with_reducible (first | refine then_ret ?_ | refine in_ret ?_ | refine in_nrm ?_)
    refine ret1_gw (.inl rfl) hF rfl (res_tmp (hF.ev rfl)) ?_
    obtain rfl := Option.some.inj hM
    exact ⟨rfl, S.sel [] rfl rfl⟩

set_option maxHeartbeats 4000000 in
theorem c_laws_eqWork {x0 : List Bool} {x1 : List Bool} {x2 : List (Int × Int)} {x3 : List Bool} {x4 : List Bool} {x5 : List (Int × Int)} {A0 : Option Addr} {n0 c0 : Nat} {A1 : Option Addr} {n1 c1 : Nat} {A2 : Option Addr} {n2 c2 : Nat} {A3 : Option Addr} {n3 c3 : Nat} {A4 : Option Addr} {n4 c4 : Nat} {A5 : Option Addr} {n5 c5 : Nat} {w : World} {r : Bool} (h0 : Rt w 1 eB A0 n0 c0 x0) (h1 : Rt w 1 eB A1 n1 c1 x1) (h2 : Rt w 2 ePermit A2 n2 c2 x2) (h3 : Rt w 1 eB A3 n3 c3 x3) (h4 : Rt w 1 eB A4 n4 c4 x4) (h5 : Rt w 2 ePermit A5 n5 c5 x5) (hM : m_laws_eqWork x0 x1 x2 x3 x4 x5 = some r) :
    Calls Try.prog 10 #[.agg #[.slice A0 n0 c0, .slice A1 n1 c1, .slice A2 n2 c2], .agg #[.slice A3 n3 c3, .slice A4 n4 c4, .slice A5 n5 c5]] w (fun e w' => e = .returned (.bool r) ∧ St w w' []) := by
  obtain rfl := h0.len
  obtain rfl := h1.len
  obtain rfl := h2.len
  obtain rfl := h3.len
  obtain rfl := h4.len
  obtain rfl := h5.len
  unfold m_laws_eqWork at hM
  refine calls_gw Try.func10 Try.ntmps10 rfl [(0, .agg #[.slice A0 x0.length c0, .slice A1 x1.length c1, .slice A2 x2.length c2]), (1, .agg #[.slice A3 x3.length c3, .slice A4 x4.length c4, .slice A5 x5.length c5])] ⟨rfl, rfl, trivial⟩ rfl ?_
  intro a hF
  have S := St.nil w
  refine wp_seq ?_
  refine wp_region_lit ?_
  refine op_new (cs := #[.slice A0 x0.length c0, .slice A1 x1.length c1, .slice A2 x2.length c2]) rfl rfl hF rfl S (run_box rfl (hF.ev rfl) rfl) ?_; clear hF S; intro a g101 u hF S
  refine op_new (cs := #[.slice A3 x3.length c3, .slice A4 x4.length c4, .slice A5 x5.length c5]) rfl rfl hF rfl S (run_box rfl (hF.ev rfl) rfl) ?_; clear hF S; intro a g102 u hF S
  refine op_val (v := .bool false) rfl rfl hF rfl (run_assign rfl rfl) ?_; clear hF; intro a hF
  refine wpList_nil ?_
  refine wp_seq ?_
  refine wp_seq ?_
  refine wp_region_lit ?_
  refine op_val (v := .pointer (some ⟨g101, 0, none⟩)) rfl rfl hF rfl (run_fieldAddr rfl fl31_0 (hF.ev rfl) rfl) ?_; clear hF; intro a hF
  refine op_val (v := .slice A0 x0.length c0) rfl rfl hF rfl (run_load1 rfl one22 (hF.ev rfl) ((S.free 1 rfl).cell rfl)) ?_; clear hF; intro a hF
  refine op_val (v := .pointer (some ⟨g102, 0, none⟩)) rfl rfl hF rfl (run_fieldAddr rfl fl31_0 (hF.ev rfl) rfl) ?_; clear hF; intro a hF
  refine op_val (v := .slice A3 x3.length c3) rfl rfl hF rfl (run_load1 rfl one22 (hF.ev rfl) ((S.free 0 rfl).cell rfl)) ?_; clear hF; intro a hF
  obtain ⟨p103, h103, hM⟩ := bind_ex hM
  refine op_call rfl rfl hF rfl (run_call (vs := [.slice A0 x0.length c0, .slice A3 x3.length c3]) rfl rfl co33 ⟨(hF.ev rfl), (hF.ev rfl), trivial⟩) (c_laws_eqBoolS (x0 := x0) (x1 := x3) ⟨(S.rc0 h0.rc), rfl⟩ ⟨(S.rc0 h3.rc), rfl⟩ h103) ?_
  rintro e u ⟨rfl, T⟩
  refine ⟨_, rfl, ?_⟩
  clear hF; intro a hF
  replace S := S.call0 T; clear T
  refine op_val (v := .bool (!p103)) rfl rfl hF rfl (run_not rfl (hF.ev rfl)) ?_; clear hF; intro a hF
  refine wpList_nil ?_
  cases hc104 : (p103)
  · replace hM := bif_f hc104 hM
    refine cond_t hF rfl (not_t hc104) ?_
    refine wp_seq ?_
    refine wp_region_lit ?_
    refine op_val (v := .bool false) rfl rfl hF rfl (run_assign rfl rfl) ?_; clear hF; intro a hF
    refine wpList_nil ?_
    refine wp_ret ?_
    repeat with_reducible (first | refine then_ret ?_ | refine in_ret ?_ | refine in_nrm ?_)
    refine ret1_gw (.inl rfl) hF rfl (res_tmp (hF.ev rfl)) ?_
    obtain rfl := Option.some.inj hM
    exact ⟨rfl, S.sel [] rfl rfl⟩
  · replace hM := bif_t hc104 hM
    refine cond_f hF rfl (not_f hc104) ?_
    refine wp_skip ?_
    refine wp_seq ?_
    refine wp_seq ?_
    refine wp_region_lit ?_
    refine op_val (v := .pointer (some ⟨g101, 1, none⟩)) rfl rfl hF rfl (run_fieldAddr rfl fl31_1 (hF.ev rfl) rfl) ?_; clear hF; intro a hF
    refine op_val (v := .slice A1 x1.length c1) rfl rfl hF rfl (run_load1 rfl one22 (hF.ev rfl) ((S.free 1 rfl).cell rfl)) ?_; clear hF; intro a hF
    refine op_val (v := .pointer (some ⟨g102, 1, none⟩)) rfl rfl hF rfl (run_fieldAddr rfl fl31_1 (hF.ev rfl) rfl) ?_; clear hF; intro a hF
    refine op_val (v := .slice A4 x4.length c4) rfl rfl hF rfl (run_load1 rfl one22 (hF.ev rfl) ((S.free 0 rfl).cell rfl)) ?_; clear hF; intro a hF
    obtain ⟨p105, h105, hM⟩ := bind_ex hM
    refine op_call rfl rfl hF rfl (run_call (vs := [.slice A1 x1.length c1, .slice A4 x4.length c4]) rfl rfl co33 ⟨(hF.ev rfl), (hF.ev rfl), trivial⟩) (c_laws_eqBoolS (x0 := x1) (x1 := x4) ⟨(S.rc0 h1.rc), rfl⟩ ⟨(S.rc0 h4.rc), rfl⟩ h105) ?_
    rintro e u ⟨rfl, T⟩
    refine ⟨_, rfl, ?_⟩
    clear hF; intro a hF
    replace S := S.call0 T; clear T
    refine op_val (v := .bool (!p105)) rfl rfl hF rfl (run_not rfl (hF.ev rfl)) ?_; clear hF; intro a hF
    refine wpList_nil ?_
    cases hc106 : (p105)
    · replace hM := bif_f hc106 hM
      refine cond_t hF rfl (not_t hc106) ?_
      refine wp_seq ?_
      refine wp_region_lit ?_
      refine op_val (v := .bool false) rfl rfl hF rfl (run_assign rfl rfl) ?_; clear hF; intro a hF
      refine wpList_nil ?_
      refine wp_ret ?_
      repeat with_reducible (first | refine then_ret ?_ | refine in_ret ?_ | refine in_nrm ?_)
      refine ret1_gw (.inl rfl) hF rfl (res_tmp (hF.ev rfl)) ?_
      obtain rfl := Option.some.inj hM
      exact ⟨rfl, S.sel [] rfl rfl⟩
    · replace hM := bif_t hc106 hM
      refine cond_f hF rfl (not_f hc106) ?_
      refine wp_skip ?_
      refine wp_seq ?_
      refine wp_seq ?_
      refine wp_region_lit ?_
      refine op_val (v := .pointer (some ⟨g101, 2, none⟩)) rfl rfl hF rfl (run_fieldAddr rfl fl31_2 (hF.ev rfl) rfl) ?_; clear hF; intro a hF
      refine op_val (v := .slice A2 x2.length c2) rfl rfl hF rfl (run_load1 rfl one29 (hF.ev rfl) ((S.free 1 rfl).cell rfl)) ?_; clear hF; intro a hF
      refine op_val (v := .pointer (some ⟨g102, 2, none⟩)) rfl rfl hF rfl (run_fieldAddr rfl fl31_2 (hF.ev rfl) rfl) ?_; clear hF; intro a hF
      refine op_val (v := .slice A5 x5.length c5) rfl rfl hF rfl (run_load1 rfl one29 (hF.ev rfl) ((S.free 0 rfl).cell rfl)) ?_; clear hF; intro a hF
      obtain ⟨p107, h107, hM⟩ := bind_ex hM
      refine op_call rfl rfl hF rfl (run_call (vs := [.slice A2 x2.length c2, .slice A5 x5.length c5]) rfl rfl co34 ⟨(hF.ev rfl), (hF.ev rfl), trivial⟩) (c_laws_eqPermitS (x0 := x2) (x1 := x5) ⟨(S.rc0 h2.rc), rfl⟩ ⟨(S.rc0 h5.rc), rfl⟩ h107) ?_
      rintro e u ⟨rfl, T⟩
      refine ⟨_, rfl, ?_⟩
      clear hF; intro a hF
      replace S := S.call0 T; clear T
      refine op_val (v := .bool (!p107)) rfl rfl hF rfl (run_not rfl (hF.ev rfl)) ?_; clear hF; intro a hF
      refine wpList_nil ?_
      cases hc108 : (p107)
      · replace hM := bif_f hc108 hM
        refine cond_t hF rfl (not_t hc108) ?_
        refine wp_seq ?_
        refine wp_region_lit ?_
        refine op_val (v := .bool false) rfl rfl hF rfl (run_assign rfl rfl) ?_; clear hF; intro a hF
        refine wpList_nil ?_
        refine wp_ret ?_
        repeat with_reducible (first | refine then_ret ?_ | refine in_ret ?_ | refine in_nrm ?_)
        refine ret1_gw (.inl rfl) hF rfl (res_tmp (hF.ev rfl)) ?_
        obtain rfl := Option.some.inj hM
        exact ⟨rfl, S.sel [] rfl rfl⟩
      · replace hM := bif_t hc108 hM
        refine cond_f hF rfl (not_f hc108) ?_
        refine wp_skip ?_
        refine wp_seq ?_
        refine wp_region_lit ?_
        refine op_val (v := .bool true) rfl rfl hF rfl (run_assign rfl rfl) ?_; clear hF; intro a hF
        refine wpList_nil ?_
        refine wp_ret ?_
        repeat with_reducible (first | refine then_ret ?_ | refine in_ret ?_ | refine in_nrm ?_)
        refine ret1_gw (.inl rfl) hF rfl (res_tmp (hF.ev rfl)) ?_
        obtain rfl := Option.some.inj hM
        exact ⟨rfl, S.sel [] rfl rfl⟩

end Go.Proofs.Ytnoeliaefhldmaa
