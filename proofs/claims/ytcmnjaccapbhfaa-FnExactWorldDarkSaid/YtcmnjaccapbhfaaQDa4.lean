/- Calls return what the models say. -/
import Derived.Test.YtcmnjaccapbhfaaQSq
import Derived.Test.YtcmnjaccapbhfaaQDa3
namespace Go.Proofs.Ytcmnjaccapbhfaa
open Go.ChangeShapes Go.WideShapes Go.ChangeAt Go.RowKit
set_option linter.unusedVariables false
set_option maxHeartbeats 4000000
set_option linter.unusedSimpArgs false
theorem c_impl_WorldValid {x0 : Int} {x1 : List (Int × Int × Int)} {x2 : List (Int × Int)} {x3 : List Bool} {x4 : List Bool} {x5 : List (Int × Int)} {x6 : List Int} {A1 : Option Addr} {n1 c1 : Nat} {A2 : Option Addr} {n2 c2 : Nat} {A3 : Option Addr} {n3 c3 : Nat} {A4 : Option Addr} {n4 c4 : Nat} {A5 : Option Addr} {n5 c5 : Nat} {A6 : Option Addr} {n6 c6 : Nat} {w : World} {r : Bool} (h1 : Rt w 3 eLine A1 n1 c1 x1) (h2 : Rt w 2 eBus A2 n2 c2 x2) (h3 : Rt w 1 eB A3 n3 c3 x3) (h4 : Rt w 1 eB A4 n4 c4 x4) (h5 : Rt w 2 ePermit A5 n5 c5 x5) (h6 : Rt w 1 eI A6 n6 c6 x6) (hM : m_impl_WorldValid x0 x1 x2 x3 x4 x5 x6 = some r) :
    Calls Try.prog 8 #[.agg #[.int .i64 x0, .slice A1 n1 c1, .slice A2 n2 c2, .slice A3 n3 c3, .slice A4 n4 c4, .slice A5 n5 c5, .slice A6 n6 c6]] w (fun e w' => e = .returned (.bool r) ∧ St w w' []) := by
  obtain rfl := h1.len
  obtain rfl := h2.len
  obtain rfl := h3.len
  obtain rfl := h4.len
  obtain rfl := h5.len
  obtain rfl := h6.len
  unfold m_impl_WorldValid at hM
  refine calls_gw Try.func8 Try.ntmps8 rfl [(0, .agg #[.int .i64 x0, .slice A1 x1.length c1, .slice A2 x2.length c2, .slice A3 x3.length c3, .slice A4 x4.length c4, .slice A5 x5.length c5, .slice A6 x6.length c6])] ⟨rfl, trivial⟩ rfl ?_
  intro a hF
  have S := St.nil w
  refine wsg ?_
  refine op_new (cs := #[.int .i64 x0, .slice A1 x1.length c1, .slice A2 x2.length c2, .slice A3 x3.length c3, .slice A4 x4.length c4, .slice A5 x5.length c5, .slice A6 x6.length c6]) rfl rfl hF rfl S (run_box rfl (hF.ev rfl) rfl) ?_; clear hF S; intro a g101 u hF S
  refine op_val (v := .bool false) rfl rfl hF rfl (run_assign rfl rfl) ?_;clear hF;intro a hF
  refine wn ?_
  refine ws ?_
  revert a;refine sr (ov (v := .pointer (some ⟨g101, 0, none⟩)) rfl rfl rfl (fun a hF=>run_fieldAddr rfl fl43_0 (hF.ev rfl) rfl) (ov rfl rfl rfl (fun a hF=>run_loadN rfl ag37 (hF.ev rfl) rfl ((S.free 0 rfl).cells 0 #[.int .i64 x0, .slice A1 x1.length c1] rfl)) (ov (v := .pointer (some ⟨g101, 2, none⟩)) rfl rfl rfl (fun a hF=>run_fieldAddr rfl fl43_1 (hF.ev rfl) rfl) (ov (v := .slice A2 x2.length c2) rfl rfl rfl (fun a hF=>run_load1 rfl one38 (hF.ev rfl) ((S.free 0 rfl).cell rfl)) fun a hF=>?_))))
  obtain ⟨p102, h102, hM⟩ := bind_ex hM
  refine op_call rfl rfl hF rfl (run_call (vs := [.agg #[.int .i64 x0, .slice A1 x1.length c1], .slice A2 x2.length c2]) rfl rfl co28 ⟨(hF.ev rfl), (hF.ev rfl), trivial⟩) (c_impl_BusesValid (x0 := x0) (x1 := x1) (x2 := x2) ⟨(S.rc0 h1.rc), rfl⟩ ⟨(S.rc0 h2.rc), rfl⟩ h102) ?_
  rintro e u ⟨rfl, T⟩
  refine ⟨_, rfl, ?_⟩
  clear hF; intro a hF
  replace S := S.call0 T; clear T
  revert a;refine ov (v := .bool (!p102)) rfl rfl rfl (fun a hF=>run_not rfl (hF.ev rfl)) (mv rfl rfl fun a hF=>?_)
  refine op_gv (v := .pointer (some ⟨g101, 3, none⟩)) rfl rfl hF rfl (yf (gw_yield hF rfl rfl rfl)) (fun hg => (run_fieldAddr rfl fl43_2 (hF.ev rfl) rfl)) ?_;clear hF;intro a hF
  refine op_gv (v := .agg #[.slice A3 x3.length c3, .slice A4 x4.length c4, .slice A5 x5.length c5]) rfl rfl hF rfl (yf (gw_yield hF rfl rfl rfl)) (fun hg => (run_loadN rfl ag41 ((hF.ev rfl).trans (gv_t hg)) rfl ((S.free 0 rfl).cells 3 #[.slice A3 x3.length c3, .slice A4 x4.length c4, .slice A5 x5.length c5] rfl))) ?_;clear hF;intro a hF
  obtain ⟨p103, h103, hM⟩ := bind_ex hM
  refine op_gcall (v := .bool p103) rfl rfl hF rfl S (yf (gw_yield hF rfl rfl rfl)) (fun hg => (run_call (vs := [.agg #[.slice A3 x3.length c3, .slice A4 x4.length c4, .slice A5 x5.length c5]]) rfl rfl co29 ⟨((hF.ev rfl).trans (gv_t hg)), trivial⟩)) (fun hg => c_impl_WorkValid (x0 := x3) (x1 := x4) (x2 := x5) ⟨(S.rc0 h3.rc), rfl⟩ ⟨(S.rc0 h4.rc), rfl⟩ ⟨(S.rc0 h5.rc), rfl⟩ (gb_t h103 hg)) ?_; clear hF S; intro a u hF S
  refine op_gv (v := .bool (!p103)) rfl rfl hF rfl (yf (gw_yield hF rfl rfl rfl)) (fun hg => (run_not rfl ((hF.ev rfl).trans (gv_t hg)))) ?_;clear hF;intro a hF
  revert a;refine ov (v := .bool ((!p102) || (!p103))) rfl rfl rfl (fun a hF=>run_pick_or rfl (hF.ev rfl) rfl (fun hp => ((hF.ev rfl).trans (gv_t (not_t hp))))) (mv rfl rfl fun a hF=>?_)
  refine op_gv (v := .pointer (some ⟨g101, 3, none⟩)) rfl rfl hF rfl (yf (gw_yield hF rfl rfl rfl)) (fun hg => (run_fieldAddr rfl fl43_2 (hF.ev rfl) rfl)) ?_;clear hF;intro a hF
  refine op_gv (v := .pointer (some ⟨g101, 3, none⟩)) rfl rfl hF rfl (yf (gw_yield hF rfl rfl rfl)) (fun hg => (run_fieldAddr rfl fl41_0 ((hF.ev rfl).trans (gv_t hg)) rfl)) ?_;clear hF;intro a hF
  refine op_gv (v := .slice A3 x3.length c3) rfl rfl hF rfl (yf (gw_yield hF rfl rfl rfl)) (fun hg => (run_load1 rfl one26 ((hF.ev rfl).trans (gv_t hg)) ((S.free 0 rfl).cell rfl))) ?_;clear hF;intro a hF
  refine op_gv (v := .int .i64 (x3.length : Int)) rfl rfl hF rfl (yf (gw_yield hF rfl rfl rfl)) (fun hg => (run_lenL rfl rfl Try.underlying26 ((hF.ev rfl).trans (gv_t hg)))) ?_;clear hF;intro a hF
  refine op_gv (v := .pointer (some ⟨g101, 0, none⟩)) rfl rfl hF rfl (yf (gw_yield hF rfl rfl rfl)) (fun hg => (run_fieldAddr rfl fl43_0 (hF.ev rfl) rfl)) ?_;clear hF;intro a hF
  refine op_gv (v := .pointer (some ⟨g101, 1, none⟩)) rfl rfl hF rfl (yf (gw_yield hF rfl rfl rfl)) (fun hg => (run_fieldAddr rfl fl37_1 ((hF.ev rfl).trans (gv_t hg)) rfl)) ?_;clear hF;intro a hF
  refine op_gv (v := .slice A1 x1.length c1) rfl rfl hF rfl (yf (gw_yield hF rfl rfl rfl)) (fun hg => (run_load1 rfl one35 ((hF.ev rfl).trans (gv_t hg)) ((S.free 0 rfl).cell rfl))) ?_;clear hF;intro a hF
  refine op_gv (v := .int .i64 (x1.length : Int)) rfl rfl hF rfl (yf (gw_yield hF rfl rfl rfl)) (fun hg => (run_lenL rfl rfl Try.underlying35 ((hF.ev rfl).trans (gv_t hg)))) ?_;clear hF;intro a hF
  refine op_gv (v := .bool ((x3.length : Int) != (x1.length : Int))) rfl rfl hF rfl (yf (gw_yield hF rfl rfl rfl)) (fun hg => (run_neq ((hF.ev rfl).trans (gv_t hg)) ((hF.ev rfl).trans (gv_t hg)) rfl)) ?_;clear hF;intro a hF
  refine op_val (v := .bool (((!p102) || (!p103)) || ((x3.length : Int) != (x1.length : Int)))) rfl rfl hF rfl (run_pick_or rfl (hF.ev rfl) rfl (fun hp => ((hF.ev rfl).trans (gv_t (not_t hp))))) ?_;clear hF;intro a hF
  refine wn ?_
  cases hc104 : (((!p102) || (!p103)) || ((x3.length : Int) != (x1.length : Int)))
  · replace hM := bif_f hc104 hM
    refine cond_f hF rfl hc104 ?_
    refine wp_skip ?_
    refine ws ?_
    revert a;refine sr (ov (v := .pointer (some ⟨g101, 6, none⟩)) rfl rfl rfl (fun a hF=>run_fieldAddr rfl fl43_3 (hF.ev rfl) rfl) (ov (v := .slice A6 x6.length c6) rfl rfl rfl (fun a hF=>run_load1 rfl one30 (hF.ev rfl) ((S.free 0 rfl).cell rfl)) (ov rfl rfl rfl (fun a hF=>run_lenL rfl rfl Try.underlying30 (hF.ev rfl)) (ov (v := .int .i64 0) rfl rfl rfl (fun a hF=>run_move rfl rfl) fun a hF=>wn ?_))))
    obtain ⟨o106, hM107, hM⟩ := bind_ex hM
    refine wp_cut (fun a u => ∃ (p105 : Unit), (Sum.inl p105) = o106 ∧ Fr a 72 [(1, .pointer (some ⟨g101, 0, none⟩)), (2, .bool false)] ∧ St w u [.box g101 43 #[.int .i64 x0, .slice A1 x1.length c1, .slice A2 x2.length c2, .slice A3 x3.length c3, .slice A4 x4.length c4, .slice A5 x5.length c5, .slice A6 x6.length c6]]) ?_ ?_
    · have _ := trivial
      refine wp_block ?_
      refine loop_gw (fun m a u => ∃ (p108 : Int), m_impl_WorldValid_l1 x0 x1 x3 x6 m p108 = some _ ∧ Fr a 72 [(1, .pointer (some ⟨g101, 0, none⟩)), (2, .bool false), (29, .slice A6 x6.length c6), (30, .int .i64 (x6.length : Int)), (31, .int .i64 p108)] ∧ St w u [.box g101 43 #[.int .i64 x0, .slice A1 x1.length c1, .slice A2 x2.length c2, .slice A3 x3.length c3, .slice A4 x4.length c4, .slice A5 x5.length c5, .slice A6 x6.length c6]]) FUEL ⟨0, hM107, hF.keep _ ⟨rfl, rfl, rfl, rfl, rfl, trivial⟩, S.sel [0] rfl rfl⟩ ?_
      clear hF S hM107; rintro m a u ⟨p108, hM107, hF, S⟩
      rcases m with _ | f1
      · exact none_some hM107
      rw [m_impl_WorldValid_l1.eq_2] at hM107
      revert a;refine sr (ov (v := .bool (ltB p108 (x6.length : Int))) rfl rfl rfl (fun a hF=>run_lss (hF.ev rfl) (hF.ev rfl) rfl) fun a hF=>wn ?_)
      refine ws ?_
      cases hc109 : (ltB p108 (x6.length : Int))
      · replace hM107 := bif_f hc109 hM107
        refine cond_f hF rfl hc109 ?_
        refine wp_exit ?_
        repeat with_reducible (first | refine then_exit ?_ | refine in_hit ?_ | refine in_miss rfl ?_)
        obtain rfl := Option.some.inj hM107
        exact ⟨(), rfl, hF.keep _ ⟨rfl, rfl, trivial⟩, S.sel [0] rfl rfl⟩
      replace hM107 := bif_t hc109 hM107
      refine cond_t hF rfl hc109 ?_
      refine wp_skip ?_
      refine ws ?_
      refine wp_block ?_
      revert a;refine sr (mv rfl rfl fun a hF=>?_)
      obtain ⟨hk110, hM107⟩ := chk_ex hM107
      replace hk110 := ixB_t hk110
      revert a;refine ov rfl rfl rfl (fun a hF=>run_indexAddr (b := adB A6) (off := adO A6) rfl Try.underlying30 sz3 ((hF.ev rfl).trans (congrArg (fun A => Value.slice A x6.length c6) ((S.rc0 h6.rc).rd.ad (ix_pos hk110)))) (hF.ev rfl) hk110.1 hk110.2 (k' := adO A6 + p108.toNat * 1) rfl) (ov (v := .int .i64 (x6.getD p108.toNat (0 : Int))) rfl rfl rfl (fun a hF=>run_load1 rfl one3 (hF.ev rfl) (rd_el0 (l := x6) (S.rc0 h6.rc).rd rfl eI_len (0 : Int) (ix_ltn hk110 rfl) rfl)) (ag rfl rfl (ag rfl rfl fun a hF=>wn ?_)))
      revert a;refine sr (ov (v := .pointer (some ⟨g101, 0, none⟩)) rfl rfl rfl (fun a hF=>run_fieldAddr rfl fl43_0 (hF.ev rfl) rfl) (ov rfl rfl rfl (fun a hF=>run_loadN rfl ag37 (hF.ev rfl) rfl ((S.free 0 rfl).cells 0 #[.int .i64 x0, .slice A1 x1.length c1] rfl)) (mv rfl rfl fun a hF=>?_)))
      obtain ⟨p111, h111, hM107⟩ := bind_ex hM107
      refine op_call rfl rfl hF rfl (run_call (vs := [.agg #[.int .i64 x0, .slice A1 x1.length c1], .int .i64 (x6.getD p108.toNat (0 : Int))]) rfl rfl co30 ⟨(hF.ev rfl), (hF.ev rfl), trivial⟩) (c_impl_Net_hasLine (x0 := x0) (x1 := x1) (x2 := (x6.getD p108.toNat (0 : Int))) ⟨(S.rc0 h1.rc), rfl⟩ h111) ?_
      rintro e u ⟨rfl, T⟩
      refine ⟨_, rfl, ?_⟩
      clear hF; intro a hF
      replace S := S.call0 T; clear T
      revert a;refine ov (v := .bool (!p111)) rfl rfl rfl (fun a hF=>run_not rfl (hF.ev rfl)) (mv rfl rfl fun a hF=>?_)
      refine op_gv (v := .pointer (some ⟨g101, 3, none⟩)) rfl rfl hF rfl (yf (gw_yield hF rfl rfl rfl)) (fun hg => (run_fieldAddr rfl fl43_2 (hF.ev rfl) rfl)) ?_;clear hF;intro a hF
      refine op_gv (v := .pointer (some ⟨g101, 3, none⟩)) rfl rfl hF rfl (yf (gw_yield hF rfl rfl rfl)) (fun hg => (run_fieldAddr rfl fl41_0 ((hF.ev rfl).trans (gv_t hg)) rfl)) ?_;clear hF;intro a hF
      refine op_gv (v := .slice A3 x3.length c3) rfl rfl hF rfl (yf (gw_yield hF rfl rfl rfl)) (fun hg => (run_load1 rfl one26 ((hF.ev rfl).trans (gv_t hg)) ((S.free 0 rfl).cell rfl))) ?_;clear hF;intro a hF
      refine op_gv (v := .int .i64 (x6.getD p108.toNat (0 : Int))) rfl rfl hF rfl (yf (gw_yield hF rfl rfl rfl)) (fun hg => (run_move rfl (hF.ev rfl))) ?_;clear hF;intro a hF
      obtain ⟨hk112, hM107⟩ := chk_ex hM107
      replace hk112 := fun hg => ixB_t (imp_t hk112 hg)
      refine op_gv (v := .pointer (some ⟨adB A3, adO A3 + ((x6.getD p108.toNat (0 : Int)).toNat) * 1, none⟩)) rfl rfl hF rfl (yf (gw_yield hF rfl rfl rfl)) (fun hg => (run_indexAddr (b := adB A3) (off := adO A3) rfl Try.underlying26 sz4 (((hF.ev rfl).trans (gv_t hg)).trans (congrArg (fun A => Value.slice A x3.length c3) ((S.rc0 h3.rc).rd.ad (ix_pos (hk112 hg))))) ((hF.ev rfl).trans (gv_t hg)) (hk112 hg).1 (hk112 hg).2 (k' := adO A3 + ((x6.getD p108.toNat (0 : Int)).toNat) * 1) rfl)) ?_;clear hF;intro a hF
      refine op_gv (v := .bool (x3.getD ((x6.getD p108.toNat (0 : Int)).toNat) false)) rfl rfl hF rfl (yf (gw_yield hF rfl rfl rfl)) (fun hg => (run_load1 rfl one4 ((hF.ev rfl).trans (gv_t hg)) (rd_el0 (l := x3) (S.rc0 h3.rc).rd rfl eB_len false (ix_ltn (hk112 hg) rfl) rfl))) ?_;clear hF;intro a hF
      revert a;refine ov (v := .bool ((!p111) || (x3.getD ((x6.getD p108.toNat (0 : Int)).toNat) false))) rfl rfl rfl (fun a hF=>run_pick_or rfl (hF.ev rfl) rfl (fun hp => ((hF.ev rfl).trans (gv_t (not_t hp))))) (mv rfl rfl fun a hF=>?_)
      refine op_gv (v := .int .i64 p108) rfl rfl hF rfl (yf (gw_yield hF rfl rfl rfl)) (fun hg => (run_move rfl (hF.ev rfl))) ?_;clear hF;intro a hF
      refine op_gv (v := .bool (ltB 0 p108)) rfl rfl hF rfl (yf (gw_yield hF rfl rfl rfl)) (fun hg => (run_gtr ((hF.ev rfl).trans (gv_t hg)) rfl rfl)) ?_;clear hF;intro a hF
      refine op_gv (v := .bool (ltB 0 p108)) rfl rfl hF rfl (yf (gw_yield hF rfl rfl rfl)) (fun hg => (run_move rfl ((hF.ev rfl).trans (gv_t hg)))) ?_;clear hF;intro a hF
      refine op_gv (v := .int .i64 (x6.getD p108.toNat (0 : Int))) rfl rfl hF rfl (ytG (gw_yieldG hF rfl rfl rfl)) (fun hg => (run_move rfl (hF.ev rfl))) ?_;clear hF;intro a hF
      refine op_gv (v := .pointer (some ⟨g101, 6, none⟩)) rfl rfl hF rfl (ytG (gw_yieldG hF rfl rfl rfl)) (fun hg => (run_fieldAddr rfl fl43_3 (hF.ev rfl) rfl)) ?_;clear hF;intro a hF
      refine op_gv (v := .slice A6 x6.length c6) rfl rfl hF rfl (ytG (gw_yieldG hF rfl rfl rfl)) (fun hg => (run_load1 rfl one30 ((hF.ev rfl).trans (gv_t hg)) ((S.free 0 rfl).cell rfl))) ?_;clear hF;intro a hF
      refine op_gv (v := .int .i64 p108) rfl rfl hF rfl (ytG (gw_yieldG hF rfl rfl rfl)) (fun hg => (run_move rfl (hF.ev rfl))) ?_;clear hF;intro a hF
      refine op_gv (v := .int .i64 (w64 (p108 - 1))) rfl rfl hF rfl (ytG (gw_yieldG hF rfl rfl rfl)) (fun hg => (run_sub (z := w64 (p108 - 1)) ((hF.ev rfl).trans (gv_t hg)) rfl rfl rfl)) ?_;clear hF;intro a hF
      obtain ⟨hk113, hM107⟩ := chk_ex hM107
      replace hk113 := fun hg => ixB_t (imp_t hk113 hg)
      refine op_gv (v := .pointer (some ⟨adB A6, adO A6 + ((w64 (p108 - 1)).toNat) * 1, none⟩)) rfl rfl hF rfl (ytG (gw_yieldG hF rfl rfl rfl)) (fun hg => (run_indexAddr (b := adB A6) (off := adO A6) rfl Try.underlying30 sz3 (((hF.ev rfl).trans (gv_t hg)).trans (congrArg (fun A => Value.slice A x6.length c6) ((S.rc0 h6.rc).rd.ad (ix_pos (hk113 hg))))) ((hF.ev rfl).trans (gv_t hg)) (hk113 hg).1 (hk113 hg).2 (k' := adO A6 + ((w64 (p108 - 1)).toNat) * 1) rfl)) ?_;clear hF;intro a hF
      refine op_gv (v := .int .i64 (x6.getD ((w64 (p108 - 1)).toNat) (0 : Int))) rfl rfl hF rfl (ytG (gw_yieldG hF rfl rfl rfl)) (fun hg => (run_load1 rfl one3 ((hF.ev rfl).trans (gv_t hg)) (rd_el0 (l := x6) (S.rc0 h6.rc).rd rfl eI_len (0 : Int) (ix_ltn (hk113 hg) rfl) rfl))) ?_;clear hF;intro a hF
      refine op_gv (v := .bool (leB (x6.getD p108.toNat (0 : Int)) (x6.getD ((w64 (p108 - 1)).toNat) (0 : Int)))) rfl rfl hF rfl (ytG (gw_yieldG hF rfl rfl rfl)) (fun hg => (run_leq ((hF.ev rfl).trans (gv_t hg)) ((hF.ev rfl).trans (gv_t hg)) rfl)) ?_;clear hF;intro a hF
      refine op_gv (v := .bool ((ltB 0 p108) && (leB (x6.getD p108.toNat (0 : Int)) (x6.getD ((w64 (p108 - 1)).toNat) (0 : Int))))) rfl rfl hF rfl (yf (gw_yield hF rfl rfl rfl)) (fun hg => (run_pick_and rfl ((hF.ev rfl).trans (gv_t hg)) (fun hp => ((hF.ev rfl).trans (gv_t (and_i hg hp)))) rfl)) ?_;clear hF;intro a hF
      refine op_val (v := .bool (((!p111) || (x3.getD ((x6.getD p108.toNat (0 : Int)).toNat) false)) || ((ltB 0 p108) && (leB (x6.getD p108.toNat (0 : Int)) (x6.getD ((w64 (p108 - 1)).toNat) (0 : Int)))))) rfl rfl hF rfl (run_pick_or rfl (hF.ev rfl) rfl (fun hp => ((hF.ev rfl).trans (gv_t (not_t hp))))) ?_;clear hF;intro a hF
      refine wn ?_
      cases hc114 : (((!p111) || (x3.getD ((x6.getD p108.toNat (0 : Int)).toNat) false)) || ((ltB 0 p108) && (leB (x6.getD p108.toNat (0 : Int)) (x6.getD ((w64 (p108 - 1)).toNat) (0 : Int)))))
      · replace hM107 := bif_f hc114 hM107
        refine cond_f hF rfl hc114 ?_
        refine wp_skip ?_
        revert a;refine rl (ov (v := .int .i64 (w64 (p108 + 1))) rfl rfl rfl (fun a hF=>run_add (z := w64 (p108 + 1)) (hF.ev rfl) rfl rfl rfl) (mv rfl rfl fun a hF=>wn ?_))
        exact ⟨f1, Nat.lt_succ_self _, w64 (p108 + 1), hM107, hF.keep _ ⟨rfl, rfl, rfl, rfl, rfl, trivial⟩, S.sel [0] rfl rfl⟩
      replace hM107 := bif_t hc114 hM107
      refine cond_t hF rfl hc114 ?_
      revert a;refine sr (ov (v := .bool false) rfl rfl rfl (fun a hF=>run_assign rfl rfl) fun a hF=>wn ?_)
      refine wp_ret ?_
      repeat with_reducible first|refine tr ?_|refine ir ?_|refine nr ?_
      refine ret1_gw (.inl rfl) hF rfl (res_tmp (hF.ev rfl)) ?_
      obtain rfl := Option.some.inj hM107
      obtain rfl := Option.some.inj hM
      exact ⟨rfl, S.sel [] rfl rfl⟩
    rintro a u ⟨p105, rfl, hF, S⟩
    replace hM := elim_l hM
    revert a;refine sr (ov (v := .pointer (some ⟨g101, 0, none⟩)) rfl rfl rfl (fun a hF=>run_fieldAddr rfl fl43_0 (hF.ev rfl) rfl) (ov rfl rfl rfl (fun a hF=>run_loadN rfl ag37 (hF.ev rfl) rfl ((S.free 0 rfl).cells 0 #[.int .i64 x0, .slice A1 x1.length c1] rfl)) (ov (v := .pointer (some ⟨g101, 3, none⟩)) rfl rfl rfl (fun a hF=>run_fieldAddr rfl fl43_2 (hF.ev rfl) rfl) (ov (v := .pointer (some ⟨g101, 3, none⟩)) rfl rfl rfl (fun a hF=>run_fieldAddr rfl fl41_0 (hF.ev rfl) rfl) (ov (v := .slice A3 x3.length c3) rfl rfl rfl (fun a hF=>run_load1 rfl one26 (hF.ev rfl) ((S.free 0 rfl).cell rfl)) (ov (v := .pointer (some ⟨g101, 2, none⟩)) rfl rfl rfl (fun a hF=>run_fieldAddr rfl fl43_1 (hF.ev rfl) rfl) (ov (v := .slice A2 x2.length c2) rfl rfl rfl (fun a hF=>run_load1 rfl one38 (hF.ev rfl) ((S.free 0 rfl).cell rfl)) fun a hF=>?_)))))))
    obtain ⟨p115, h115, hM⟩ := bind_ex hM
    refine op_call rfl rfl hF rfl (run_call (vs := [.agg #[.int .i64 x0, .slice A1 x1.length c1], .slice A3 x3.length c3, .slice A2 x2.length c2]) rfl rfl co31 ⟨(hF.ev rfl), (hF.ev rfl), (hF.ev rfl), trivial⟩) (c_impl_Radial (x0 := x0) (x1 := x1) (x2 := x3) (x3 := x2) ⟨(S.rc0 h1.rc), rfl⟩ ⟨(S.rc0 h3.rc), rfl⟩ ⟨(S.rc0 h2.rc), rfl⟩ h115) ?_
    rintro e u ⟨rfl, T⟩
    refine ⟨_, rfl, ?_⟩
    clear hF; intro a hF
    replace S := S.call0 T; clear T
    refine op_val (v := .bool p115) rfl rfl hF rfl (run_assign rfl (hF.ev rfl)) ?_;clear hF;intro a hF
    refine wn ?_
    refine wp_ret ?_
    repeat with_reducible first|refine tr ?_|refine ir ?_|refine nr ?_
    refine ret1_gw (.inl rfl) hF rfl (res_tmp (hF.ev rfl)) ?_
    obtain rfl := Option.some.inj hM
    exact ⟨rfl, S.sel [] rfl rfl⟩
  replace hM := bif_t hc104 hM
  refine cond_t hF rfl hc104 ?_
  revert a;refine sr (ov (v := .bool false) rfl rfl rfl (fun a hF=>run_assign rfl rfl) fun a hF=>wn ?_)
  refine wp_ret ?_
  repeat with_reducible first|refine tr ?_|refine ir ?_|refine nr ?_
  refine ret1_gw (.inl rfl) hF rfl (res_tmp (hF.ev rfl)) ?_
  obtain rfl := Option.some.inj hM
  exact ⟨rfl, S.sel [] rfl rfl⟩
theorem c_impl_unionOf {x0 : Int} {x1 : List (Int × Int × Int)} {x2 : List Bool} {A1 : Option Addr} {n1 c1 : Nat} {A2 : Option Addr} {n2 c2 : Nat} {w : World} {r : List Int} (h1 : Rt w 3 eLine A1 n1 c1 x1) (h2 : Rt w 1 eB A2 n2 c2 x2) (hM : m_impl_unionOf x0 x1 x2 = some r) :
    Calls Try.prog 64 #[.agg #[.int .i64 x0, .slice A1 n1 c1], .slice A2 n2 c2] w (fun e w' => ∃ (B0 : Option Addr) (N0 D0 : Nat), e = .returned (.slice B0 N0 D0) ∧ N0 = r.length ∧ St w w' [.row 3 1 (.slice B0 N0 D0) N0 (r.flatMap eI)]) := by
  obtain rfl := h1.len
  obtain rfl := h2.len
  unfold m_impl_unionOf at hM
  refine calls_gw Try.func64 Try.ntmps64 rfl [(0, .agg #[.int .i64 x0, .slice A1 x1.length c1]), (1, .slice A2 x2.length c2)] ⟨rfl, rfl, trivial⟩ rfl ?_
  intro a hF
  have S := St.nil w
  refine wsg ?_
  refine op_new (cs := #[.int .i64 x0, .slice A1 x1.length c1]) rfl rfl hF rfl S (run_box rfl (hF.ev rfl) rfl) ?_; clear hF S; intro a g101 u hF S
  refine op_val (v := .slice none 0 0) rfl rfl hF rfl (run_assign rfl rfl) ?_;clear hF;intro a hF
  refine wn ?_
  revert a;refine sr (ov (v := .pointer (some ⟨g101, 0, none⟩)) rfl rfl rfl (fun a hF=>run_fieldAddr rfl fl37_0 (hF.ev rfl) rfl) (ov (v := .int .i64 x0) rfl rfl rfl (fun a hF=>run_load1 rfl one3 (hF.ev rfl) ((S.free 0 rfl).cell rfl)) fun a hF=>?_))
  obtain ⟨p102, h102, hM⟩ := bind_ex hM
  refine op_call rfl rfl hF rfl (run_call (vs := [.int .i64 x0]) rfl rfl co83 ⟨(hF.ev rfl), trivial⟩) (c_impl_newUnion (x0 := x0)  h102) ?_
  rintro e u ⟨B103, n104, d105, rfl, rfl, T⟩
  refine ⟨_, rfl, ?_⟩
  clear hF; intro a hF
  replace S := S.call1 T; clear T
  refine op_val (v := .slice B103 p102.length d105) rfl rfl hF rfl (run_assign rfl (hF.ev rfl)) ?_;clear hF;intro a hF
  refine wn ?_
  refine ws ?_
  revert a;refine sr (ov (v := .pointer (some ⟨g101, 1, none⟩)) rfl rfl rfl (fun a hF=>run_fieldAddr rfl fl37_1 (hF.ev rfl) rfl) (ov (v := .slice A1 x1.length c1) rfl rfl rfl (fun a hF=>run_load1 rfl one35 (hF.ev rfl) ((S.free 1 rfl).cell rfl)) (ov rfl rfl rfl (fun a hF=>run_lenL rfl rfl Try.underlying35 (hF.ev rfl)) (ov (v := .int .i64 0) rfl rfl rfl (fun a hF=>run_move rfl rfl) fun a hF=>wn ?_))))
  obtain ⟨o107, hM109, hM⟩ := bind_ex hM
  refine wp_cut (fun a u => ∃ (p106 : List Int), p106 = o107 ∧ p102.length = p106.length ∧ Fr a 31 [(4, .slice none 0 0), (5, .slice B103 p102.length d105)] ∧ St w u [.row 3 1 (.slice B103 p102.length d105) p102.length (p106.flatMap eI)]) ?_ ?_
  · have _ := trivial
    refine wp_block ?_
    refine loop_gw (fun m a u => ∃ (p110 : List Int × Int), m_impl_unionOf_l1 x1 x2 m p110 = some _ ∧ p102.length = p110.1.length ∧ Fr a 31 [(1, .slice A2 x2.length c2), (4, .slice none 0 0), (5, .slice B103 p102.length d105), (12, .slice A1 x1.length c1), (13, .int .i64 (x1.length : Int)), (14, .int .i64 p110.2)] ∧ St w u [.row 3 1 (.slice B103 p102.length d105) p102.length (p110.1.flatMap eI)]) FUEL ⟨(p102, 0), hM109, rfl, hF.keep _ ⟨rfl, rfl, rfl, rfl, rfl, rfl, trivial⟩, S.sel [0] rfl rfl⟩ ?_
    clear hF S hM109; rintro m a u ⟨p110, hM109, hn111, hF, S⟩
    rcases m with _ | f1
    · exact none_some hM109
    rw [m_impl_unionOf_l1.eq_2] at hM109
    revert a;refine sr (ov (v := .bool (ltB p110.2 (x1.length : Int))) rfl rfl rfl (fun a hF=>run_lss (hF.ev rfl) (hF.ev rfl) rfl) fun a hF=>wn ?_)
    refine ws ?_
    cases hc112 : (ltB p110.2 (x1.length : Int))
    · replace hM109 := bif_f hc112 hM109
      refine cond_f hF rfl hc112 ?_
      refine wp_exit ?_
      repeat with_reducible (first | refine then_exit ?_ | refine in_hit ?_ | refine in_miss rfl ?_)
      obtain rfl := Option.some.inj hM109
      exact ⟨p110.1, rfl, hn111, hF.keep _ ⟨rfl, rfl, trivial⟩, S.sel [0] rfl rfl⟩
    replace hM109 := bif_t hc112 hM109
    refine cond_t hF rfl hc112 ?_
    refine wp_skip ?_
    refine ws ?_
    refine wp_block ?_
    revert a;refine sr (mv rfl rfl fun a hF=>?_)
    obtain ⟨hk113, hM109⟩ := chk_ex hM109
    replace hk113 := ixB_t hk113
    revert a;refine ov rfl rfl rfl (fun a hF=>run_indexAddr (b := adB A1) (off := adO A1) rfl Try.underlying35 sz107 ((hF.ev rfl).trans (congrArg (fun A => Value.slice A x1.length c1) ((S.rc0 h1.rc).rd.ad (ix_pos hk113)))) (hF.ev rfl) hk113.1 hk113.2 (k' := adO A1 + p110.2.toNat * 3) rfl) (ov rfl rfl rfl (fun a hF=>run_loadN (cs := #[.int .i64 ((x1.getD p110.2.toNat ((0, 0, 0) : Int × Int × Int)).1), .int .i64 ((x1.getD p110.2.toNat ((0, 0, 0) : Int × Int × Int)).2.1), .int .i64 ((x1.getD p110.2.toNat ((0, 0, 0) : Int × Int × Int)).2.2)]) rfl ag107 (hF.ev rfl) rfl (rd_elN (l := x1) (S.rc0 h1.rc).rd rfl eLine_len ((0, 0, 0) : Int × Int × Int) (ix_ltn hk113 rfl) rfl)) fun a hF=>?_)
    refine op_new (cs := #[.int .i64 0, .int .i64 0, .int .i64 0]) rfl rfl hF rfl S (run_allocZ rfl zr107) ?_; clear hF S; intro a g114 u hF S
    refine op_val (v := .int .i64 p110.2) rfl rfl hF rfl (run_assign rfl (hF.ev rfl)) ?_;clear hF;intro a hF
    refine op_do rfl rfl (run_store (cs' := #[.int .i64 ((x1.getD p110.2.toNat ((0, 0, 0) : Int × Int × Int)).1), .int .i64 ((x1.getD p110.2.toNat ((0, 0, 0) : Int × Int × Int)).2.1), .int .i64 ((x1.getD p110.2.toNat ((0, 0, 0) : Int × Int × Int)).2.2)]) rfl sz107 (hF.ev rfl) (hF.ev rfl) rfl rfl rfl (S.free 0 rfl) rfl rfl) ?_; replace S := S.put 0 rfl (#[.int .i64 ((x1.getD p110.2.toNat ((0, 0, 0) : Int × Int × Int)).1), .int .i64 ((x1.getD p110.2.toNat ((0, 0, 0) : Int × Int × Int)).2.1), .int .i64 ((x1.getD p110.2.toNat ((0, 0, 0) : Int × Int × Int)).2.2)])
    generalize World.setRow _ _ _ = u at S ⊢
    refine wn ?_
    revert a;refine sr (mv rfl rfl (mv rfl rfl fun a hF=>?_))
    obtain ⟨hk115, hM109⟩ := chk_ex hM109
    replace hk115 := ixB_t hk115
    revert a;refine ov rfl rfl rfl (fun a hF=>run_indexAddr (b := adB A2) (off := adO A2) rfl Try.underlying26 sz4 ((hF.ev rfl).trans (congrArg (fun A => Value.slice A x2.length c2) ((S.rc0 h2.rc).rd.ad (ix_pos hk115)))) (hF.ev rfl) hk115.1 hk115.2 (k' := adO A2 + p110.2.toNat * 1) rfl) (ov (v := .bool (x2.getD p110.2.toNat false)) rfl rfl rfl (fun a hF=>run_load1 rfl one4 (hF.ev rfl) (rd_el0 (l := x2) (S.rc0 h2.rc).rd rfl eB_len false (ix_ltn hk115 rfl) rfl)) fun a hF=>wn ?_)
    obtain ⟨o117, hM119, hM109⟩ := bind_ex hM109
    refine wp_cut (fun a u => ∃ (p116 : List Int), p116 = o117 ∧ p102.length = p116.length ∧ Fr a 31 [(1, .slice A2 x2.length c2), (4, .slice none 0 0), (5, .slice B103 p102.length d105), (12, .slice A1 x1.length c1), (13, .int .i64 (x1.length : Int)), (14, .int .i64 p110.2)] ∧ St w u [.row 3 1 (.slice B103 p102.length d105) p102.length (p116.flatMap eI)]) ?_ ?_
    · have _ := trivial
      cases hc120 : (x2.getD p110.2.toNat false)
      · replace hM119 := bif_f hc120 hM119
        refine cond_f hF rfl hc120 ?_
        refine wp_skip ?_
        obtain rfl := Option.some.inj hM119
        exact ⟨p110.1, rfl, hn111, hF.keep _ ⟨rfl, rfl, rfl, rfl, rfl, rfl, trivial⟩, S.sel [1] rfl rfl⟩
      replace hM119 := bif_t hc120 hM119
      refine cond_t hF rfl hc120 ?_
      revert a;refine rl (mv rfl rfl (ov (v := .pointer (some ⟨g114, 0, none⟩)) rfl rfl rfl (fun a hF=>run_fieldAddr rfl fl107_0 (hF.ev rfl) rfl) (ov (v := .int .i64 ((x1.getD p110.2.toNat ((0, 0, 0) : Int × Int × Int)).1)) rfl rfl rfl (fun a hF=>run_load1 rfl one3 (hF.ev rfl) ((S.free 0 rfl).cell rfl)) (ov (v := .pointer (some ⟨g114, 1, none⟩)) rfl rfl rfl (fun a hF=>run_fieldAddr rfl fl107_1 (hF.ev rfl) rfl) (ov (v := .int .i64 ((x1.getD p110.2.toNat ((0, 0, 0) : Int × Int × Int)).2.1)) rfl rfl rfl (fun a hF=>run_load1 rfl one3 (hF.ev rfl) ((S.free 0 rfl).cell rfl)) fun a hF=>?_)))))
      obtain ⟨p121, h121, hM119⟩ := bind_ex hM119
      refine op_call rfl rfl hF rfl (run_call (vs := [.slice B103 p102.length d105, .int .i64 ((x1.getD p110.2.toNat ((0, 0, 0) : Int × Int × Int)).1), .int .i64 ((x1.getD p110.2.toNat ((0, 0, 0) : Int × Int × Int)).2.1)]) rfl rfl co84 ⟨(hF.ev rfl), (hF.ev rfl), (hF.ev rfl), trivial⟩) (c_impl_union_join (x0 := p110.1) (x1 := (x1.getD p110.2.toNat ((0, 0, 0) : Int × Int × Int)).1) (x2 := (x1.getD p110.2.toNat ((0, 0, 0) : Int × Int × Int)).2.1) hn111 (show St w _ [.row 3 1 (.slice B103 p102.length d105) p102.length (p110.1.flatMap eI), .box g114 107 #[.int .i64 ((x1.getD p110.2.toNat ((0, 0, 0) : Int × Int × Int)).1), .int .i64 ((x1.getD p110.2.toNat ((0, 0, 0) : Int × Int × Int)).2.1), .int .i64 ((x1.getD p110.2.toNat ((0, 0, 0) : Int × Int × Int)).2.2)]] from S.sel [1, 0] rfl rfl) h121) ?_
      rintro e u ⟨rfl, hn122, T⟩
      refine ⟨_, rfl, ?_⟩
      clear hF; intro a hF
      clear S; have S := T; clear T
      refine wn ?_
      obtain rfl := Option.some.inj hM119
      exact ⟨p121, rfl, hn122, hF.keep _ ⟨rfl, rfl, rfl, rfl, rfl, rfl, trivial⟩, S.sel [0] rfl rfl⟩
    rintro a u ⟨p116, rfl, hn118, hF, S⟩
    revert a;refine rl (ov (v := .int .i64 (w64 (p110.2 + 1))) rfl rfl rfl (fun a hF=>run_add (z := w64 (p110.2 + 1)) (hF.ev rfl) rfl rfl rfl) (mv rfl rfl fun a hF=>wn ?_))
    exact ⟨f1, Nat.lt_succ_self _, (p116, w64 (p110.2 + 1)), hM109, hn118, hF.keep _ ⟨rfl, rfl, rfl, rfl, rfl, rfl, trivial⟩, S.sel [0] rfl rfl⟩
  rintro a u ⟨p106, rfl, hn108, hF, S⟩
  revert a;refine sr (mv rfl rfl (ag rfl rfl fun a hF=>wn ?_))
  refine wp_ret ?_
  repeat with_reducible first|refine tr ?_|refine ir ?_|refine nr ?_
  refine ret1_gw (.inl rfl) hF rfl (res_tmp (hF.ev rfl)) ?_
  obtain rfl := Option.some.inj hM
  exact ⟨B103, p102.length, d105, rfl, hn108, S.sel [0] rfl rfl⟩
theorem c_impl_sumsOf {x0 : Int} {x1 : List (Int × Int × Int)} {x2 : List Bool} {x3 : List (Int × Int)} {A1 : Option Addr} {n1 c1 : Nat} {A2 : Option Addr} {n2 c2 : Nat} {A3 : Option Addr} {n3 c3 : Nat} {w : World} {r : Int × Int × Int × Int × Int × Int × Int × Int × Int × Int × Int × Int × Int × Int × Int × Int} (h1 : Rt w 3 eLine A1 n1 c1 x1) (h2 : Rt w 1 eB A2 n2 c2 x2) (h3 : Rt w 2 eBus A3 n3 c3 x3) (hM : m_impl_sumsOf x0 x1 x2 x3 = some r) :
    Calls Try.prog 65 #[.agg #[.int .i64 x0, .slice A1 n1 c1], .slice A2 n2 c2, .slice A3 n3 c3] w (fun e w' => e = .returned (.agg #[.int .i64 r.1, .int .i64 r.2.1, .int .i64 r.2.2.1, .int .i64 r.2.2.2.1, .int .i64 r.2.2.2.2.1, .int .i64 r.2.2.2.2.2.1, .int .i64 r.2.2.2.2.2.2.1, .int .i64 r.2.2.2.2.2.2.2.1, .int .i64 r.2.2.2.2.2.2.2.2.1, .int .i64 r.2.2.2.2.2.2.2.2.2.1, .int .i64 r.2.2.2.2.2.2.2.2.2.2.1, .int .i64 r.2.2.2.2.2.2.2.2.2.2.2.1, .int .i64 r.2.2.2.2.2.2.2.2.2.2.2.2.1, .int .i64 r.2.2.2.2.2.2.2.2.2.2.2.2.2.1, .int .i64 r.2.2.2.2.2.2.2.2.2.2.2.2.2.2.1, .int .i64 r.2.2.2.2.2.2.2.2.2.2.2.2.2.2.2]) ∧ St w w' []) := by
  obtain rfl := h1.len
  obtain rfl := h2.len
  obtain rfl := h3.len
  unfold m_impl_sumsOf at hM
  refine calls_gw Try.func65 Try.ntmps65 rfl [(0, .agg #[.int .i64 x0, .slice A1 x1.length c1]), (1, .slice A2 x2.length c2), (2, .slice A3 x3.length c3)] ⟨rfl, rfl, rfl, trivial⟩ rfl ?_
  intro a hF
  have S := St.nil w
  refine wsg ?_
  refine op_new (cs := #[.int .i64 x0, .slice A1 x1.length c1]) rfl rfl hF rfl S (run_box rfl (hF.ev rfl) rfl) ?_; clear hF S; intro a g101 u hF S
  refine op_new (cs := #[.int .i64 0, .int .i64 0, .int .i64 0, .int .i64 0, .int .i64 0, .int .i64 0, .int .i64 0, .int .i64 0, .int .i64 0, .int .i64 0, .int .i64 0, .int .i64 0, .int .i64 0, .int .i64 0, .int .i64 0, .int .i64 0]) rfl rfl hF rfl S (run_allocZ rfl zr101) ?_; clear hF S; intro a g102 u hF S
  refine wn ?_
  refine wsg ?_
  refine op_new (cs := #[.int .i64 0, .int .i64 0, .int .i64 0, .int .i64 0, .int .i64 0, .int .i64 0, .int .i64 0, .int .i64 0, .int .i64 0, .int .i64 0, .int .i64 0, .int .i64 0, .int .i64 0, .int .i64 0, .int .i64 0, .int .i64 0]) rfl rfl hF rfl S (run_allocZ rfl zr101) ?_; clear hF S; intro a g103 u hF S
  refine wn ?_
  revert a;refine sr (ov rfl rfl rfl (fun a hF=>run_loadN rfl ag37 (hF.ev rfl) rfl ((S.free 2 rfl).cells 0 #[.int .i64 x0, .slice A1 x1.length c1] rfl)) (mv rfl rfl fun a hF=>?_))
  obtain ⟨p104, h104, hM⟩ := bind_ex hM
  refine op_call rfl rfl hF rfl (run_call (vs := [.agg #[.int .i64 x0, .slice A1 x1.length c1], .slice A2 x2.length c2]) rfl rfl co64 ⟨(hF.ev rfl), (hF.ev rfl), trivial⟩) (c_impl_unionOf (x0 := x0) (x1 := x1) (x2 := x2) ⟨(S.rc0 h1.rc), rfl⟩ ⟨(S.rc0 h2.rc), rfl⟩ h104) ?_
  rintro e u ⟨B105, n106, d107, rfl, rfl, T⟩
  refine ⟨_, rfl, ?_⟩
  clear hF; intro a hF
  replace S := S.call1 T; clear T
  refine op_val (v := .slice B105 p104.length d107) rfl rfl hF rfl (run_assign rfl (hF.ev rfl)) ?_;clear hF;intro a hF
  refine wn ?_
  refine ws ?_
  revert a;refine sr (mv rfl rfl (ov rfl rfl rfl (fun a hF=>run_lenL rfl rfl Try.underlying38 (hF.ev rfl)) (ov (v := .int .i64 0) rfl rfl rfl (fun a hF=>run_move rfl rfl) fun a hF=>wn ?_)))
  obtain ⟨o109, hM110, hM⟩ := bind_ex hM
  refine wp_cut (fun a u => ∃ (p108 : Int × Int × Int × Int × Int × Int × Int × Int × Int × Int × Int × Int × Int × Int × Int × Int), p108 = o109 ∧ Fr a 45 [(6, .pointer (some ⟨g102, 0, none⟩)), (7, .pointer (some ⟨g103, 0, none⟩))] ∧ St w u [.box g103 101 #[.int .i64 p108.1, .int .i64 p108.2.1, .int .i64 p108.2.2.1, .int .i64 p108.2.2.2.1, .int .i64 p108.2.2.2.2.1, .int .i64 p108.2.2.2.2.2.1, .int .i64 p108.2.2.2.2.2.2.1, .int .i64 p108.2.2.2.2.2.2.2.1, .int .i64 p108.2.2.2.2.2.2.2.2.1, .int .i64 p108.2.2.2.2.2.2.2.2.2.1, .int .i64 p108.2.2.2.2.2.2.2.2.2.2.1, .int .i64 p108.2.2.2.2.2.2.2.2.2.2.2.1, .int .i64 p108.2.2.2.2.2.2.2.2.2.2.2.2.1, .int .i64 p108.2.2.2.2.2.2.2.2.2.2.2.2.2.1, .int .i64 p108.2.2.2.2.2.2.2.2.2.2.2.2.2.2.1, .int .i64 p108.2.2.2.2.2.2.2.2.2.2.2.2.2.2.2], .box g102 101 #[.int .i64 0, .int .i64 0, .int .i64 0, .int .i64 0, .int .i64 0, .int .i64 0, .int .i64 0, .int .i64 0, .int .i64 0, .int .i64 0, .int .i64 0, .int .i64 0, .int .i64 0, .int .i64 0, .int .i64 0, .int .i64 0]]) ?_ ?_
  · have _ := trivial
    refine wp_block ?_
    refine loop_gw (fun m a u => ∃ (p111 : List Int × Int × Int × Int × Int × Int × Int × Int × Int × Int × Int × Int × Int × Int × Int × Int × Int × Int), m_impl_sumsOf_l1 x3 m p111 = some _ ∧ p104.length = p111.1.length ∧ Fr a 45 [(6, .pointer (some ⟨g102, 0, none⟩)), (7, .pointer (some ⟨g103, 0, none⟩)), (8, .slice B105 p104.length d107), (15, .slice A3 x3.length c3), (16, .int .i64 (x3.length : Int)), (17, .int .i64 p111.2.1)] ∧ St w u [.box g103 101 #[.int .i64 p111.2.2.1, .int .i64 p111.2.2.2.1, .int .i64 p111.2.2.2.2.1, .int .i64 p111.2.2.2.2.2.1, .int .i64 p111.2.2.2.2.2.2.1, .int .i64 p111.2.2.2.2.2.2.2.1, .int .i64 p111.2.2.2.2.2.2.2.2.1, .int .i64 p111.2.2.2.2.2.2.2.2.2.1, .int .i64 p111.2.2.2.2.2.2.2.2.2.2.1, .int .i64 p111.2.2.2.2.2.2.2.2.2.2.2.1, .int .i64 p111.2.2.2.2.2.2.2.2.2.2.2.2.1, .int .i64 p111.2.2.2.2.2.2.2.2.2.2.2.2.2.1, .int .i64 p111.2.2.2.2.2.2.2.2.2.2.2.2.2.2.1, .int .i64 p111.2.2.2.2.2.2.2.2.2.2.2.2.2.2.2.1, .int .i64 p111.2.2.2.2.2.2.2.2.2.2.2.2.2.2.2.2.1, .int .i64 p111.2.2.2.2.2.2.2.2.2.2.2.2.2.2.2.2.2], .box g102 101 #[.int .i64 0, .int .i64 0, .int .i64 0, .int .i64 0, .int .i64 0, .int .i64 0, .int .i64 0, .int .i64 0, .int .i64 0, .int .i64 0, .int .i64 0, .int .i64 0, .int .i64 0, .int .i64 0, .int .i64 0, .int .i64 0], .row 3 1 (.slice B105 p104.length d107) p104.length (p111.1.flatMap eI)]) FUEL ⟨(p104, 0, 0, 0, 0, 0, 0, 0, 0, 0, 0, 0, 0, 0, 0, 0, 0, 0), hM110, rfl, hF.keep _ ⟨rfl, rfl, rfl, rfl, rfl, rfl, trivial⟩, S.sel [1, 2, 0] rfl rfl⟩ ?_
    clear hF S hM110; rintro m a u ⟨p111, hM110, hn112, hF, S⟩
    rcases m with _ | f1
    · exact none_some hM110
    rw [m_impl_sumsOf_l1.eq_2] at hM110
    revert a;refine sr (ov (v := .bool (ltB p111.2.1 (x3.length : Int))) rfl rfl rfl (fun a hF=>run_lss (hF.ev rfl) (hF.ev rfl) rfl) fun a hF=>wn ?_)
    refine ws ?_
    cases hc113 : (ltB p111.2.1 (x3.length : Int))
    · replace hM110 := bif_f hc113 hM110
      refine cond_f hF rfl hc113 ?_
      refine wp_exit ?_
      repeat with_reducible (first | refine then_exit ?_ | refine in_hit ?_ | refine in_miss rfl ?_)
      obtain rfl := Option.some.inj hM110
      exact ⟨(p111.2.2.1, p111.2.2.2.1, p111.2.2.2.2.1, p111.2.2.2.2.2.1, p111.2.2.2.2.2.2.1, p111.2.2.2.2.2.2.2.1, p111.2.2.2.2.2.2.2.2.1, p111.2.2.2.2.2.2.2.2.2.1, p111.2.2.2.2.2.2.2.2.2.2.1, p111.2.2.2.2.2.2.2.2.2.2.2.1, p111.2.2.2.2.2.2.2.2.2.2.2.2.1, p111.2.2.2.2.2.2.2.2.2.2.2.2.2.1, p111.2.2.2.2.2.2.2.2.2.2.2.2.2.2.1, p111.2.2.2.2.2.2.2.2.2.2.2.2.2.2.2.1, p111.2.2.2.2.2.2.2.2.2.2.2.2.2.2.2.2.1, p111.2.2.2.2.2.2.2.2.2.2.2.2.2.2.2.2.2), rfl, hF.keep _ ⟨rfl, rfl, trivial⟩, S.sel [0, 1] rfl rfl⟩
    replace hM110 := bif_t hc113 hM110
    refine cond_t hF rfl hc113 ?_
    refine wp_skip ?_
    refine ws ?_
    refine wp_block ?_
    revert a;refine sr (mv rfl rfl fun a hF=>?_)
    obtain ⟨hk114, hM110⟩ := chk_ex hM110
    replace hk114 := ixB_t hk114
    revert a;refine ov rfl rfl rfl (fun a hF=>run_indexAddr (b := adB A3) (off := adO A3) rfl Try.underlying38 sz69 ((hF.ev rfl).trans (congrArg (fun A => Value.slice A x3.length c3) ((S.rc0 h3.rc).rd.ad (ix_pos hk114)))) (hF.ev rfl) hk114.1 hk114.2 (k' := adO A3 + p111.2.1.toNat * 2) rfl) (ov rfl rfl rfl (fun a hF=>run_loadN (cs := #[.int .i64 ((x3.getD p111.2.1.toNat ((0, 0) : Int × Int)).1), .int .i64 ((x3.getD p111.2.1.toNat ((0, 0) : Int × Int)).2)]) rfl ag69 (hF.ev rfl) rfl (rd_elN (l := x3) (S.rc0 h3.rc).rd rfl eBus_len ((0, 0) : Int × Int) (ix_ltn hk114 rfl) rfl)) fun a hF=>?_)
    refine op_new (cs := #[.int .i64 0, .int .i64 0]) rfl rfl hF rfl S (run_allocZ rfl zr69) ?_; clear hF S; intro a g115 u hF S
    refine op_val (v := .int .i64 p111.2.1) rfl rfl hF rfl (run_assign rfl (hF.ev rfl)) ?_;clear hF;intro a hF
    refine op_do rfl rfl (run_store (cs' := #[.int .i64 ((x3.getD p111.2.1.toNat ((0, 0) : Int × Int)).1), .int .i64 ((x3.getD p111.2.1.toNat ((0, 0) : Int × Int)).2)]) rfl sz69 (hF.ev rfl) (hF.ev rfl) rfl rfl rfl (S.free 0 rfl) rfl rfl) ?_; replace S := S.put 0 rfl (#[.int .i64 ((x3.getD p111.2.1.toNat ((0, 0) : Int × Int)).1), .int .i64 ((x3.getD p111.2.1.toNat ((0, 0) : Int × Int)).2)])
    generalize World.setRow _ _ _ = u at S ⊢
    refine wn ?_
    revert a;refine sr (mv rfl rfl (mv rfl rfl fun a hF=>?_))
    obtain ⟨p116, h116, hM110⟩ := bind_ex hM110
    refine op_call rfl rfl hF rfl (run_call (vs := [.slice B105 p104.length d107, .int .i64 p111.2.1]) rfl rfl co66 ⟨(hF.ev rfl), (hF.ev rfl), trivial⟩) (c_impl_union_find (x0 := p111.1) (x1 := p111.2.1) hn112 (show St w _ [.row 3 1 (.slice B105 p104.length d107) p104.length (p111.1.flatMap eI), .box g115 69 #[.int .i64 ((x3.getD p111.2.1.toNat ((0, 0) : Int × Int)).1), .int .i64 ((x3.getD p111.2.1.toNat ((0, 0) : Int × Int)).2)], .box g103 101 #[.int .i64 p111.2.2.1, .int .i64 p111.2.2.2.1, .int .i64 p111.2.2.2.2.1, .int .i64 p111.2.2.2.2.2.1, .int .i64 p111.2.2.2.2.2.2.1, .int .i64 p111.2.2.2.2.2.2.2.1, .int .i64 p111.2.2.2.2.2.2.2.2.1, .int .i64 p111.2.2.2.2.2.2.2.2.2.1, .int .i64 p111.2.2.2.2.2.2.2.2.2.2.1, .int .i64 p111.2.2.2.2.2.2.2.2.2.2.2.1, .int .i64 p111.2.2.2.2.2.2.2.2.2.2.2.2.1, .int .i64 p111.2.2.2.2.2.2.2.2.2.2.2.2.2.1, .int .i64 p111.2.2.2.2.2.2.2.2.2.2.2.2.2.2.1, .int .i64 p111.2.2.2.2.2.2.2.2.2.2.2.2.2.2.2.1, .int .i64 p111.2.2.2.2.2.2.2.2.2.2.2.2.2.2.2.2.1, .int .i64 p111.2.2.2.2.2.2.2.2.2.2.2.2.2.2.2.2.2], .box g102 101 #[.int .i64 0, .int .i64 0, .int .i64 0, .int .i64 0, .int .i64 0, .int .i64 0, .int .i64 0, .int .i64 0, .int .i64 0, .int .i64 0, .int .i64 0, .int .i64 0, .int .i64 0, .int .i64 0, .int .i64 0, .int .i64 0]] from S.sel [3, 0, 1, 2] rfl rfl) h116) ?_
    rintro e u ⟨rfl, hn117, T⟩
    refine ⟨_, rfl, ?_⟩
    clear hF; intro a hF
    clear S; have S := T; clear T
    refine op_val (v := .int .i64 p116.1) rfl rfl hF rfl (run_assign rfl (hF.ev rfl)) ?_;clear hF;intro a hF
    refine wn ?_
    refine ws ?_
    obtain ⟨hk118, hM110⟩ := chk_ex hM110
    replace hk118 := ixB_t hk118
    obtain ⟨hk119, hM110⟩ := chk_ex hM110
    replace hk119 := ixB_t hk119
    refine region_gw (D := [25, 26, 27, 28, 29, 30, 31, 32, 33]) (Lr := [.row 3 1 (.slice B105 p104.length d107) p104.length (p116.2.flatMap eI), .box g115 69 #[.int .i64 ((x3.getD p111.2.1.toNat ((0, 0) : Int × Int)).1), .int .i64 ((x3.getD p111.2.1.toNat ((0, 0) : Int × Int)).2)], .box g102 101 #[.int .i64 0, .int .i64 0, .int .i64 0, .int .i64 0, .int .i64 0, .int .i64 0, .int .i64 0, .int .i64 0, .int .i64 0, .int .i64 0, .int .i64 0, .int .i64 0, .int .i64 0, .int .i64 0, .int .i64 0, .int .i64 0]]) (deps := (fun | 0 => [25] | 1 => [26] | 2 => [27] | 3 => [28] | 4 => [29] | 5 => [30] | 6 => [31] | 7 => [32] | 8 => [33] | 9 => [33] | _ => [])) (rd := (fun _ => [])) (zr := (fun | 3 => [9] | _ => []))
      (φ := fun i vs => match i, vs with | 0, [v25] => v25 = .int .i64 p116.1 | 1, [v26] => v26 = .pointer (some ⟨g103, 0, none⟩) | 2, [v27] => v27 = .pointer (some ⟨g103, 0 + p116.1.toNat, none⟩) | 3, [v28] => v28 = .int .i64 (([p111.2.2.1, p111.2.2.2.1, p111.2.2.2.2.1, p111.2.2.2.2.2.1, p111.2.2.2.2.2.2.1, p111.2.2.2.2.2.2.2.1, p111.2.2.2.2.2.2.2.2.1, p111.2.2.2.2.2.2.2.2.2.1] : List Int).getD p116.1.toNat 0) | 4, [v29] => v29 = .pointer (some ⟨g115, 0, none⟩) | 5, [v30] => v30 = .int .i64 ((x3.getD p111.2.1.toNat ((0, 0) : Int × Int)).1) | 6, [v31] => v31 = .int .i64 (w64 ((([p111.2.2.1, p111.2.2.2.1, p111.2.2.2.2.1, p111.2.2.2.2.2.1, p111.2.2.2.2.2.2.1, p111.2.2.2.2.2.2.2.1, p111.2.2.2.2.2.2.2.2.1, p111.2.2.2.2.2.2.2.2.2.1] : List Int).getD p116.1.toNat 0) + ((x3.getD p111.2.1.toNat ((0, 0) : Int × Int)).1))) | 7, [v32] => v32 = .pointer (some ⟨g103, 0, none⟩) | 8, [v33] => v33 = .pointer (some ⟨g103, 0 + p116.1.toNat, none⟩) | _, _ => True)
      (C := fun i vs => match i, vs with | 9, [v33] => [.box g103 101 #[.int .i64 (bif p116.1 == 0 then (w64 ((([p111.2.2.1, p111.2.2.2.1, p111.2.2.2.2.1, p111.2.2.2.2.2.1, p111.2.2.2.2.2.2.1, p111.2.2.2.2.2.2.2.1, p111.2.2.2.2.2.2.2.2.1, p111.2.2.2.2.2.2.2.2.2.1] : List Int).getD p116.1.toNat 0) + ((x3.getD p111.2.1.toNat ((0, 0) : Int × Int)).1))) else p111.2.2.1), .int .i64 (bif p116.1 == 1 then (w64 ((([p111.2.2.1, p111.2.2.2.1, p111.2.2.2.2.1, p111.2.2.2.2.2.1, p111.2.2.2.2.2.2.1, p111.2.2.2.2.2.2.2.1, p111.2.2.2.2.2.2.2.2.1, p111.2.2.2.2.2.2.2.2.2.1] : List Int).getD p116.1.toNat 0) + ((x3.getD p111.2.1.toNat ((0, 0) : Int × Int)).1))) else p111.2.2.2.1), .int .i64 (bif p116.1 == 2 then (w64 ((([p111.2.2.1, p111.2.2.2.1, p111.2.2.2.2.1, p111.2.2.2.2.2.1, p111.2.2.2.2.2.2.1, p111.2.2.2.2.2.2.2.1, p111.2.2.2.2.2.2.2.2.1, p111.2.2.2.2.2.2.2.2.2.1] : List Int).getD p116.1.toNat 0) + ((x3.getD p111.2.1.toNat ((0, 0) : Int × Int)).1))) else p111.2.2.2.2.1), .int .i64 (bif p116.1 == 3 then (w64 ((([p111.2.2.1, p111.2.2.2.1, p111.2.2.2.2.1, p111.2.2.2.2.2.1, p111.2.2.2.2.2.2.1, p111.2.2.2.2.2.2.2.1, p111.2.2.2.2.2.2.2.2.1, p111.2.2.2.2.2.2.2.2.2.1] : List Int).getD p116.1.toNat 0) + ((x3.getD p111.2.1.toNat ((0, 0) : Int × Int)).1))) else p111.2.2.2.2.2.1), .int .i64 (bif p116.1 == 4 then (w64 ((([p111.2.2.1, p111.2.2.2.1, p111.2.2.2.2.1, p111.2.2.2.2.2.1, p111.2.2.2.2.2.2.1, p111.2.2.2.2.2.2.2.1, p111.2.2.2.2.2.2.2.2.1, p111.2.2.2.2.2.2.2.2.2.1] : List Int).getD p116.1.toNat 0) + ((x3.getD p111.2.1.toNat ((0, 0) : Int × Int)).1))) else p111.2.2.2.2.2.2.1), .int .i64 (bif p116.1 == 5 then (w64 ((([p111.2.2.1, p111.2.2.2.1, p111.2.2.2.2.1, p111.2.2.2.2.2.1, p111.2.2.2.2.2.2.1, p111.2.2.2.2.2.2.2.1, p111.2.2.2.2.2.2.2.2.1, p111.2.2.2.2.2.2.2.2.2.1] : List Int).getD p116.1.toNat 0) + ((x3.getD p111.2.1.toNat ((0, 0) : Int × Int)).1))) else p111.2.2.2.2.2.2.2.1), .int .i64 (bif p116.1 == 6 then (w64 ((([p111.2.2.1, p111.2.2.2.1, p111.2.2.2.2.1, p111.2.2.2.2.2.1, p111.2.2.2.2.2.2.1, p111.2.2.2.2.2.2.2.1, p111.2.2.2.2.2.2.2.2.1, p111.2.2.2.2.2.2.2.2.2.1] : List Int).getD p116.1.toNat 0) + ((x3.getD p111.2.1.toNat ((0, 0) : Int × Int)).1))) else p111.2.2.2.2.2.2.2.2.1), .int .i64 (bif p116.1 == 7 then (w64 ((([p111.2.2.1, p111.2.2.2.1, p111.2.2.2.2.1, p111.2.2.2.2.2.1, p111.2.2.2.2.2.2.1, p111.2.2.2.2.2.2.2.1, p111.2.2.2.2.2.2.2.2.1, p111.2.2.2.2.2.2.2.2.2.1] : List Int).getD p116.1.toNat 0) + ((x3.getD p111.2.1.toNat ((0, 0) : Int × Int)).1))) else p111.2.2.2.2.2.2.2.2.2.1), .int .i64 p111.2.2.2.2.2.2.2.2.2.2.1, .int .i64 p111.2.2.2.2.2.2.2.2.2.2.2.1, .int .i64 p111.2.2.2.2.2.2.2.2.2.2.2.2.1, .int .i64 p111.2.2.2.2.2.2.2.2.2.2.2.2.2.1, .int .i64 p111.2.2.2.2.2.2.2.2.2.2.2.2.2.2.1, .int .i64 p111.2.2.2.2.2.2.2.2.2.2.2.2.2.2.2.1, .int .i64 p111.2.2.2.2.2.2.2.2.2.2.2.2.2.2.2.2.1, .int .i64 p111.2.2.2.2.2.2.2.2.2.2.2.2.2.2.2.2.2]] | _, _ => [])
      (κ := (fun _ => none)) (Z := (fun | 9 => [.box g103 101 #[.int .i64 p111.2.2.1, .int .i64 p111.2.2.2.1, .int .i64 p111.2.2.2.2.1, .int .i64 p111.2.2.2.2.2.1, .int .i64 p111.2.2.2.2.2.2.1, .int .i64 p111.2.2.2.2.2.2.2.1, .int .i64 p111.2.2.2.2.2.2.2.2.1, .int .i64 p111.2.2.2.2.2.2.2.2.2.1, .int .i64 p111.2.2.2.2.2.2.2.2.2.2.1, .int .i64 p111.2.2.2.2.2.2.2.2.2.2.2.1, .int .i64 p111.2.2.2.2.2.2.2.2.2.2.2.2.1, .int .i64 p111.2.2.2.2.2.2.2.2.2.2.2.2.2.1, .int .i64 p111.2.2.2.2.2.2.2.2.2.2.2.2.2.2.1, .int .i64 p111.2.2.2.2.2.2.2.2.2.2.2.2.2.2.2.1, .int .i64 p111.2.2.2.2.2.2.2.2.2.2.2.2.2.2.2.2.1, .int .i64 p111.2.2.2.2.2.2.2.2.2.2.2.2.2.2.2.2.2]] | _ => [])) mixed hF (by kernel_rfl) (show St w _ [.box g103 101 #[.int .i64 p111.2.2.1, .int .i64 p111.2.2.2.1, .int .i64 p111.2.2.2.2.1, .int .i64 p111.2.2.2.2.2.1, .int .i64 p111.2.2.2.2.2.2.1, .int .i64 p111.2.2.2.2.2.2.2.1, .int .i64 p111.2.2.2.2.2.2.2.2.1, .int .i64 p111.2.2.2.2.2.2.2.2.2.1, .int .i64 p111.2.2.2.2.2.2.2.2.2.2.1, .int .i64 p111.2.2.2.2.2.2.2.2.2.2.2.1, .int .i64 p111.2.2.2.2.2.2.2.2.2.2.2.2.1, .int .i64 p111.2.2.2.2.2.2.2.2.2.2.2.2.2.1, .int .i64 p111.2.2.2.2.2.2.2.2.2.2.2.2.2.2.1, .int .i64 p111.2.2.2.2.2.2.2.2.2.2.2.2.2.2.2.1, .int .i64 p111.2.2.2.2.2.2.2.2.2.2.2.2.2.2.2.2.1, .int .i64 p111.2.2.2.2.2.2.2.2.2.2.2.2.2.2.2.2.2], .row 3 1 (.slice B105 p104.length d107) p104.length (p116.2.flatMap eI), .box g115 69 #[.int .i64 ((x3.getD p111.2.1.toNat ((0, 0) : Int × Int)).1), .int .i64 ((x3.getD p111.2.1.toNat ((0, 0) : Int × Int)).2)], .box g102 101 #[.int .i64 0, .int .i64 0, .int .i64 0, .int .i64 0, .int .i64 0, .int .i64 0, .int .i64 0, .int .i64 0, .int .i64 0, .int .i64 0, .int .i64 0, .int .i64 0, .int .i64 0, .int .i64 0, .int .i64 0, .int .i64 0]] from S.sel [2, 0, 1, 3] rfl rfl) ?_ ?_
    · refine ⟨?_, ?_, ?_, ?_, ?_, ?_, ?_, ?_, ?_, ?_, trivial⟩
      · intro a u X hB hu hp hr hz hl S
        replace S : St w u ([] ++ X) := S
        exact .inl ⟨rfl, .int .i64 p116.1, u, (run_move rfl (hF.evB hB rfl rfl)), rfl, S⟩
      · intro a u X hB hu hp hr hz hl S
        replace S : St w u ([] ++ X) := S
        exact .inl ⟨rfl, .pointer (some ⟨g103, 0, none⟩), u, (run_fieldAddr rfl fl101_0 (hF.evB hB rfl rfl) rfl), rfl, S⟩
      · intro a u X hB hu hp hr hz hl S
        replace S : St w u ([] ++ X) := S
        have e25 : sl a 25 = .int .i64 p116.1 := hp 0 rfl
        have e26 : sl a 26 = .pointer (some ⟨g103, 0, none⟩) := hp 1 rfl
        exact .inl ⟨rfl, .pointer (some ⟨g103, 0 + p116.1.toNat, none⟩), u, (run_indexArrP rfl Try.underlying99 sz3 (ev_sl e26) (ev_sl e25) hk118), rfl, S⟩
      · intro a u X hB hu hp hr hz hl S
        replace S : St w u ([] ++ X) := S
        have e27 : sl a 27 = .pointer (some ⟨g103, 0 + p116.1.toNat, none⟩) := hp 2 rfl
        exact .inl ⟨rfl, .int .i64 (([p111.2.2.1, p111.2.2.2.1, p111.2.2.2.2.1, p111.2.2.2.2.2.1, p111.2.2.2.2.2.2.1, p111.2.2.2.2.2.2.2.1, p111.2.2.2.2.2.2.2.2.1, p111.2.2.2.2.2.2.2.2.2.1] : List Int).getD p116.1.toNat 0), u, (run_load1 rfl one3 (ev_sl e27) (arr_cell (show Bk _ _ _ _ from S.mem (List.mem_append_right _ (hz 9 (List.mem_of_getElem? (i := 0) rfl) _ (List.mem_of_getElem? (i := 0) rfl)))) ([p111.2.2.1, p111.2.2.2.1, p111.2.2.2.2.1, p111.2.2.2.2.2.1, p111.2.2.2.2.2.2.1, p111.2.2.2.2.2.2.2.1, p111.2.2.2.2.2.2.2.2.1, p111.2.2.2.2.2.2.2.2.2.1] : List Int) rfl hk118 rfl)), rfl, S⟩
      · intro a u X hB hu hp hr hz hl S
        replace S : St w u ([] ++ X) := S
        exact .inl ⟨rfl, .pointer (some ⟨g115, 0, none⟩), u, (run_fieldAddr rfl fl69_0 (hF.evB hB rfl rfl) rfl), rfl, S⟩
      · intro a u X hB hu hp hr hz hl S
        replace S : St w u ([] ++ X) := S
        have e29 : sl a 29 = .pointer (some ⟨g115, 0, none⟩) := hp 4 rfl
        exact .inl ⟨rfl, .int .i64 ((x3.getD p111.2.1.toNat ((0, 0) : Int × Int)).1), u, (run_load1 rfl one3 (ev_sl e29) ((gr_box S hl 1 rfl).cell rfl)), rfl, S⟩
      · intro a u X hB hu hp hr hz hl S
        replace S : St w u ([] ++ X) := S
        have e28 : sl a 28 = .int .i64 (([p111.2.2.1, p111.2.2.2.1, p111.2.2.2.2.1, p111.2.2.2.2.2.1, p111.2.2.2.2.2.2.1, p111.2.2.2.2.2.2.2.1, p111.2.2.2.2.2.2.2.2.1, p111.2.2.2.2.2.2.2.2.2.1] : List Int).getD p116.1.toNat 0) := hp 3 rfl
        have e30 : sl a 30 = .int .i64 ((x3.getD p111.2.1.toNat ((0, 0) : Int × Int)).1) := hp 5 rfl
        exact .inl ⟨rfl, .int .i64 (w64 ((([p111.2.2.1, p111.2.2.2.1, p111.2.2.2.2.1, p111.2.2.2.2.2.1, p111.2.2.2.2.2.2.1, p111.2.2.2.2.2.2.2.1, p111.2.2.2.2.2.2.2.2.1, p111.2.2.2.2.2.2.2.2.2.1] : List Int).getD p116.1.toNat 0) + ((x3.getD p111.2.1.toNat ((0, 0) : Int × Int)).1))), u, (run_add (z := w64 ((([p111.2.2.1, p111.2.2.2.1, p111.2.2.2.2.1, p111.2.2.2.2.2.1, p111.2.2.2.2.2.2.1, p111.2.2.2.2.2.2.2.1, p111.2.2.2.2.2.2.2.2.1, p111.2.2.2.2.2.2.2.2.2.1] : List Int).getD p116.1.toNat 0) + ((x3.getD p111.2.1.toNat ((0, 0) : Int × Int)).1))) (ev_sl e28) (ev_sl e30) rfl rfl), rfl, S⟩
      · intro a u X hB hu hp hr hz hl S
        replace S : St w u ([] ++ X) := S
        exact .inl ⟨rfl, .pointer (some ⟨g103, 0, none⟩), u, (run_fieldAddr rfl fl101_0 (hF.evB hB rfl rfl) rfl), rfl, S⟩
      · intro a u X hB hu hp hr hz hl S
        replace S : St w u ([] ++ X) := S
        have e25 : sl a 25 = .int .i64 p116.1 := hp 0 rfl
        have e32 : sl a 32 = .pointer (some ⟨g103, 0, none⟩) := hp 7 rfl
        exact .inl ⟨rfl, .pointer (some ⟨g103, 0 + p116.1.toNat, none⟩), u, (run_indexArrP rfl Try.underlying99 sz3 (ev_sl e32) (ev_sl e25) hk119), rfl, S⟩
      intro a u X hB hu hp hr hz hl S
      replace S : St w u ([.box g103 101 #[.int .i64 p111.2.2.1, .int .i64 p111.2.2.2.1, .int .i64 p111.2.2.2.2.1, .int .i64 p111.2.2.2.2.2.1, .int .i64 p111.2.2.2.2.2.2.1, .int .i64 p111.2.2.2.2.2.2.2.1, .int .i64 p111.2.2.2.2.2.2.2.2.1, .int .i64 p111.2.2.2.2.2.2.2.2.2.1, .int .i64 p111.2.2.2.2.2.2.2.2.2.2.1, .int .i64 p111.2.2.2.2.2.2.2.2.2.2.2.1, .int .i64 p111.2.2.2.2.2.2.2.2.2.2.2.2.1, .int .i64 p111.2.2.2.2.2.2.2.2.2.2.2.2.2.1, .int .i64 p111.2.2.2.2.2.2.2.2.2.2.2.2.2.2.1, .int .i64 p111.2.2.2.2.2.2.2.2.2.2.2.2.2.2.2.1, .int .i64 p111.2.2.2.2.2.2.2.2.2.2.2.2.2.2.2.2.1, .int .i64 p111.2.2.2.2.2.2.2.2.2.2.2.2.2.2.2.2.2]] ++ X) := S
      have e31 : sl a 31 = .int .i64 (w64 ((([p111.2.2.1, p111.2.2.2.1, p111.2.2.2.2.1, p111.2.2.2.2.2.1, p111.2.2.2.2.2.2.1, p111.2.2.2.2.2.2.2.1, p111.2.2.2.2.2.2.2.2.1, p111.2.2.2.2.2.2.2.2.2.1] : List Int).getD p116.1.toNat 0) + ((x3.getD p111.2.1.toNat ((0, 0) : Int × Int)).1))) := hp 6 rfl
      have e33 : sl a 33 = .pointer (some ⟨g103, 0 + p116.1.toNat, none⟩) := hp 8 rfl
      exact .inr (.inl ⟨rfl, _, run_store (cs' := #[.int .i64 (bif p116.1 == 0 then (w64 ((([p111.2.2.1, p111.2.2.2.1, p111.2.2.2.2.1, p111.2.2.2.2.2.1, p111.2.2.2.2.2.2.1, p111.2.2.2.2.2.2.2.1, p111.2.2.2.2.2.2.2.2.1, p111.2.2.2.2.2.2.2.2.2.1] : List Int).getD p116.1.toNat 0) + ((x3.getD p111.2.1.toNat ((0, 0) : Int × Int)).1))) else p111.2.2.1), .int .i64 (bif p116.1 == 1 then (w64 ((([p111.2.2.1, p111.2.2.2.1, p111.2.2.2.2.1, p111.2.2.2.2.2.1, p111.2.2.2.2.2.2.1, p111.2.2.2.2.2.2.2.1, p111.2.2.2.2.2.2.2.2.1, p111.2.2.2.2.2.2.2.2.2.1] : List Int).getD p116.1.toNat 0) + ((x3.getD p111.2.1.toNat ((0, 0) : Int × Int)).1))) else p111.2.2.2.1), .int .i64 (bif p116.1 == 2 then (w64 ((([p111.2.2.1, p111.2.2.2.1, p111.2.2.2.2.1, p111.2.2.2.2.2.1, p111.2.2.2.2.2.2.1, p111.2.2.2.2.2.2.2.1, p111.2.2.2.2.2.2.2.2.1, p111.2.2.2.2.2.2.2.2.2.1] : List Int).getD p116.1.toNat 0) + ((x3.getD p111.2.1.toNat ((0, 0) : Int × Int)).1))) else p111.2.2.2.2.1), .int .i64 (bif p116.1 == 3 then (w64 ((([p111.2.2.1, p111.2.2.2.1, p111.2.2.2.2.1, p111.2.2.2.2.2.1, p111.2.2.2.2.2.2.1, p111.2.2.2.2.2.2.2.1, p111.2.2.2.2.2.2.2.2.1, p111.2.2.2.2.2.2.2.2.2.1] : List Int).getD p116.1.toNat 0) + ((x3.getD p111.2.1.toNat ((0, 0) : Int × Int)).1))) else p111.2.2.2.2.2.1), .int .i64 (bif p116.1 == 4 then (w64 ((([p111.2.2.1, p111.2.2.2.1, p111.2.2.2.2.1, p111.2.2.2.2.2.1, p111.2.2.2.2.2.2.1, p111.2.2.2.2.2.2.2.1, p111.2.2.2.2.2.2.2.2.1, p111.2.2.2.2.2.2.2.2.2.1] : List Int).getD p116.1.toNat 0) + ((x3.getD p111.2.1.toNat ((0, 0) : Int × Int)).1))) else p111.2.2.2.2.2.2.1), .int .i64 (bif p116.1 == 5 then (w64 ((([p111.2.2.1, p111.2.2.2.1, p111.2.2.2.2.1, p111.2.2.2.2.2.1, p111.2.2.2.2.2.2.1, p111.2.2.2.2.2.2.2.1, p111.2.2.2.2.2.2.2.2.1, p111.2.2.2.2.2.2.2.2.2.1] : List Int).getD p116.1.toNat 0) + ((x3.getD p111.2.1.toNat ((0, 0) : Int × Int)).1))) else p111.2.2.2.2.2.2.2.1), .int .i64 (bif p116.1 == 6 then (w64 ((([p111.2.2.1, p111.2.2.2.1, p111.2.2.2.2.1, p111.2.2.2.2.2.1, p111.2.2.2.2.2.2.1, p111.2.2.2.2.2.2.2.1, p111.2.2.2.2.2.2.2.2.1, p111.2.2.2.2.2.2.2.2.2.1] : List Int).getD p116.1.toNat 0) + ((x3.getD p111.2.1.toNat ((0, 0) : Int × Int)).1))) else p111.2.2.2.2.2.2.2.2.1), .int .i64 (bif p116.1 == 7 then (w64 ((([p111.2.2.1, p111.2.2.2.1, p111.2.2.2.2.1, p111.2.2.2.2.2.1, p111.2.2.2.2.2.2.1, p111.2.2.2.2.2.2.2.1, p111.2.2.2.2.2.2.2.2.1, p111.2.2.2.2.2.2.2.2.2.1] : List Int).getD p116.1.toNat 0) + ((x3.getD p111.2.1.toNat ((0, 0) : Int × Int)).1))) else p111.2.2.2.2.2.2.2.2.2.1), .int .i64 p111.2.2.2.2.2.2.2.2.2.2.1, .int .i64 p111.2.2.2.2.2.2.2.2.2.2.2.1, .int .i64 p111.2.2.2.2.2.2.2.2.2.2.2.2.1, .int .i64 p111.2.2.2.2.2.2.2.2.2.2.2.2.2.1, .int .i64 p111.2.2.2.2.2.2.2.2.2.2.2.2.2.2.1, .int .i64 p111.2.2.2.2.2.2.2.2.2.2.2.2.2.2.2.1, .int .i64 p111.2.2.2.2.2.2.2.2.2.2.2.2.2.2.2.2.1, .int .i64 p111.2.2.2.2.2.2.2.2.2.2.2.2.2.2.2.2.2]) rfl sz3 (ev_sl e33) (ev_sl e31) rfl rfl rfl (S.free 0 rfl) (ble_arr hk119 rfl) ((arr_put (pre := ([] : List Value)) (post := ([.int .i64 p111.2.2.2.2.2.2.2.2.2.2.1, .int .i64 p111.2.2.2.2.2.2.2.2.2.2.2.1, .int .i64 p111.2.2.2.2.2.2.2.2.2.2.2.2.1, .int .i64 p111.2.2.2.2.2.2.2.2.2.2.2.2.2.1, .int .i64 p111.2.2.2.2.2.2.2.2.2.2.2.2.2.2.1, .int .i64 p111.2.2.2.2.2.2.2.2.2.2.2.2.2.2.2.1, .int .i64 p111.2.2.2.2.2.2.2.2.2.2.2.2.2.2.2.2.1, .int .i64 p111.2.2.2.2.2.2.2.2.2.2.2.2.2.2.2.2.2] : List Value)) (l := ([p111.2.2.1, p111.2.2.2.1, p111.2.2.2.2.1, p111.2.2.2.2.2.1, p111.2.2.2.2.2.2.1, p111.2.2.2.2.2.2.2.1, p111.2.2.2.2.2.2.2.2.1, p111.2.2.2.2.2.2.2.2.2.1] : List Int)) (z := w64 ((([p111.2.2.1, p111.2.2.2.1, p111.2.2.2.2.1, p111.2.2.2.2.2.1, p111.2.2.2.2.2.2.1, p111.2.2.2.2.2.2.2.1, p111.2.2.2.2.2.2.2.2.1, p111.2.2.2.2.2.2.2.2.2.1] : List Int).getD p116.1.toNat 0) + ((x3.getD p111.2.1.toNat ((0, 0) : Int × Int)).1))) hk119 rfl).trans rfl), trivial, S.put 0 rfl (#[.int .i64 (bif p116.1 == 0 then (w64 ((([p111.2.2.1, p111.2.2.2.1, p111.2.2.2.2.1, p111.2.2.2.2.2.1, p111.2.2.2.2.2.2.1, p111.2.2.2.2.2.2.2.1, p111.2.2.2.2.2.2.2.2.1, p111.2.2.2.2.2.2.2.2.2.1] : List Int).getD p116.1.toNat 0) + ((x3.getD p111.2.1.toNat ((0, 0) : Int × Int)).1))) else p111.2.2.1), .int .i64 (bif p116.1 == 1 then (w64 ((([p111.2.2.1, p111.2.2.2.1, p111.2.2.2.2.1, p111.2.2.2.2.2.1, p111.2.2.2.2.2.2.1, p111.2.2.2.2.2.2.2.1, p111.2.2.2.2.2.2.2.2.1, p111.2.2.2.2.2.2.2.2.2.1] : List Int).getD p116.1.toNat 0) + ((x3.getD p111.2.1.toNat ((0, 0) : Int × Int)).1))) else p111.2.2.2.1), .int .i64 (bif p116.1 == 2 then (w64 ((([p111.2.2.1, p111.2.2.2.1, p111.2.2.2.2.1, p111.2.2.2.2.2.1, p111.2.2.2.2.2.2.1, p111.2.2.2.2.2.2.2.1, p111.2.2.2.2.2.2.2.2.1, p111.2.2.2.2.2.2.2.2.2.1] : List Int).getD p116.1.toNat 0) + ((x3.getD p111.2.1.toNat ((0, 0) : Int × Int)).1))) else p111.2.2.2.2.1), .int .i64 (bif p116.1 == 3 then (w64 ((([p111.2.2.1, p111.2.2.2.1, p111.2.2.2.2.1, p111.2.2.2.2.2.1, p111.2.2.2.2.2.2.1, p111.2.2.2.2.2.2.2.1, p111.2.2.2.2.2.2.2.2.1, p111.2.2.2.2.2.2.2.2.2.1] : List Int).getD p116.1.toNat 0) + ((x3.getD p111.2.1.toNat ((0, 0) : Int × Int)).1))) else p111.2.2.2.2.2.1), .int .i64 (bif p116.1 == 4 then (w64 ((([p111.2.2.1, p111.2.2.2.1, p111.2.2.2.2.1, p111.2.2.2.2.2.1, p111.2.2.2.2.2.2.1, p111.2.2.2.2.2.2.2.1, p111.2.2.2.2.2.2.2.2.1, p111.2.2.2.2.2.2.2.2.2.1] : List Int).getD p116.1.toNat 0) + ((x3.getD p111.2.1.toNat ((0, 0) : Int × Int)).1))) else p111.2.2.2.2.2.2.1), .int .i64 (bif p116.1 == 5 then (w64 ((([p111.2.2.1, p111.2.2.2.1, p111.2.2.2.2.1, p111.2.2.2.2.2.1, p111.2.2.2.2.2.2.1, p111.2.2.2.2.2.2.2.1, p111.2.2.2.2.2.2.2.2.1, p111.2.2.2.2.2.2.2.2.2.1] : List Int).getD p116.1.toNat 0) + ((x3.getD p111.2.1.toNat ((0, 0) : Int × Int)).1))) else p111.2.2.2.2.2.2.2.1), .int .i64 (bif p116.1 == 6 then (w64 ((([p111.2.2.1, p111.2.2.2.1, p111.2.2.2.2.1, p111.2.2.2.2.2.1, p111.2.2.2.2.2.2.1, p111.2.2.2.2.2.2.2.1, p111.2.2.2.2.2.2.2.2.1, p111.2.2.2.2.2.2.2.2.2.1] : List Int).getD p116.1.toNat 0) + ((x3.getD p111.2.1.toNat ((0, 0) : Int × Int)).1))) else p111.2.2.2.2.2.2.2.2.1), .int .i64 (bif p116.1 == 7 then (w64 ((([p111.2.2.1, p111.2.2.2.1, p111.2.2.2.2.1, p111.2.2.2.2.2.1, p111.2.2.2.2.2.2.1, p111.2.2.2.2.2.2.2.1, p111.2.2.2.2.2.2.2.2.1, p111.2.2.2.2.2.2.2.2.2.1] : List Int).getD p116.1.toNat 0) + ((x3.getD p111.2.1.toNat ((0, 0) : Int × Int)).1))) else p111.2.2.2.2.2.2.2.2.2.1), .int .i64 p111.2.2.2.2.2.2.2.2.2.2.1, .int .i64 p111.2.2.2.2.2.2.2.2.2.2.2.1, .int .i64 p111.2.2.2.2.2.2.2.2.2.2.2.2.1, .int .i64 p111.2.2.2.2.2.2.2.2.2.2.2.2.2.1, .int .i64 p111.2.2.2.2.2.2.2.2.2.2.2.2.2.2.1, .int .i64 p111.2.2.2.2.2.2.2.2.2.2.2.2.2.2.2.1, .int .i64 p111.2.2.2.2.2.2.2.2.2.2.2.2.2.2.2.2.1, .int .i64 p111.2.2.2.2.2.2.2.2.2.2.2.2.2.2.2.2.2])⟩)
    intro a u hB hp S
    obtain ⟨q0, q1, q2, q3, q4, q5, q6, q7, q8, q9, -⟩ := hp
    have e25 : sl a 25 = .int .i64 p116.1 := q0
    have e26 : sl a 26 = .pointer (some ⟨g103, 0, none⟩) := q1
    have e27 : sl a 27 = .pointer (some ⟨g103, 0 + p116.1.toNat, none⟩) := q2
    have e28 : sl a 28 = .int .i64 (([p111.2.2.1, p111.2.2.2.1, p111.2.2.2.2.1, p111.2.2.2.2.2.1, p111.2.2.2.2.2.2.1, p111.2.2.2.2.2.2.2.1, p111.2.2.2.2.2.2.2.2.1, p111.2.2.2.2.2.2.2.2.2.1] : List Int).getD p116.1.toNat 0) := q3
    have e29 : sl a 29 = .pointer (some ⟨g115, 0, none⟩) := q4
    have e30 : sl a 30 = .int .i64 ((x3.getD p111.2.1.toNat ((0, 0) : Int × Int)).1) := q5
    have e31 : sl a 31 = .int .i64 (w64 ((([p111.2.2.1, p111.2.2.2.1, p111.2.2.2.2.1, p111.2.2.2.2.2.1, p111.2.2.2.2.2.2.1, p111.2.2.2.2.2.2.2.1, p111.2.2.2.2.2.2.2.2.1, p111.2.2.2.2.2.2.2.2.2.1] : List Int).getD p116.1.toNat 0) + ((x3.getD p111.2.1.toNat ((0, 0) : Int × Int)).1))) := q6
    have e32 : sl a 32 = .pointer (some ⟨g103, 0, none⟩) := q7
    have e33 : sl a 33 = .pointer (some ⟨g103, 0 + p116.1.toNat, none⟩) := q8
    replace S : St w u [.box g103 101 #[.int .i64 (bif p116.1 == 0 then (w64 ((([p111.2.2.1, p111.2.2.2.1, p111.2.2.2.2.1, p111.2.2.2.2.2.1, p111.2.2.2.2.2.2.1, p111.2.2.2.2.2.2.2.1, p111.2.2.2.2.2.2.2.2.1, p111.2.2.2.2.2.2.2.2.2.1] : List Int).getD p116.1.toNat 0) + ((x3.getD p111.2.1.toNat ((0, 0) : Int × Int)).1))) else p111.2.2.1), .int .i64 (bif p116.1 == 1 then (w64 ((([p111.2.2.1, p111.2.2.2.1, p111.2.2.2.2.1, p111.2.2.2.2.2.1, p111.2.2.2.2.2.2.1, p111.2.2.2.2.2.2.2.1, p111.2.2.2.2.2.2.2.2.1, p111.2.2.2.2.2.2.2.2.2.1] : List Int).getD p116.1.toNat 0) + ((x3.getD p111.2.1.toNat ((0, 0) : Int × Int)).1))) else p111.2.2.2.1), .int .i64 (bif p116.1 == 2 then (w64 ((([p111.2.2.1, p111.2.2.2.1, p111.2.2.2.2.1, p111.2.2.2.2.2.1, p111.2.2.2.2.2.2.1, p111.2.2.2.2.2.2.2.1, p111.2.2.2.2.2.2.2.2.1, p111.2.2.2.2.2.2.2.2.2.1] : List Int).getD p116.1.toNat 0) + ((x3.getD p111.2.1.toNat ((0, 0) : Int × Int)).1))) else p111.2.2.2.2.1), .int .i64 (bif p116.1 == 3 then (w64 ((([p111.2.2.1, p111.2.2.2.1, p111.2.2.2.2.1, p111.2.2.2.2.2.1, p111.2.2.2.2.2.2.1, p111.2.2.2.2.2.2.2.1, p111.2.2.2.2.2.2.2.2.1, p111.2.2.2.2.2.2.2.2.2.1] : List Int).getD p116.1.toNat 0) + ((x3.getD p111.2.1.toNat ((0, 0) : Int × Int)).1))) else p111.2.2.2.2.2.1), .int .i64 (bif p116.1 == 4 then (w64 ((([p111.2.2.1, p111.2.2.2.1, p111.2.2.2.2.1, p111.2.2.2.2.2.1, p111.2.2.2.2.2.2.1, p111.2.2.2.2.2.2.2.1, p111.2.2.2.2.2.2.2.2.1, p111.2.2.2.2.2.2.2.2.2.1] : List Int).getD p116.1.toNat 0) + ((x3.getD p111.2.1.toNat ((0, 0) : Int × Int)).1))) else p111.2.2.2.2.2.2.1), .int .i64 (bif p116.1 == 5 then (w64 ((([p111.2.2.1, p111.2.2.2.1, p111.2.2.2.2.1, p111.2.2.2.2.2.1, p111.2.2.2.2.2.2.1, p111.2.2.2.2.2.2.2.1, p111.2.2.2.2.2.2.2.2.1, p111.2.2.2.2.2.2.2.2.2.1] : List Int).getD p116.1.toNat 0) + ((x3.getD p111.2.1.toNat ((0, 0) : Int × Int)).1))) else p111.2.2.2.2.2.2.2.1), .int .i64 (bif p116.1 == 6 then (w64 ((([p111.2.2.1, p111.2.2.2.1, p111.2.2.2.2.1, p111.2.2.2.2.2.1, p111.2.2.2.2.2.2.1, p111.2.2.2.2.2.2.2.1, p111.2.2.2.2.2.2.2.2.1, p111.2.2.2.2.2.2.2.2.2.1] : List Int).getD p116.1.toNat 0) + ((x3.getD p111.2.1.toNat ((0, 0) : Int × Int)).1))) else p111.2.2.2.2.2.2.2.2.1), .int .i64 (bif p116.1 == 7 then (w64 ((([p111.2.2.1, p111.2.2.2.1, p111.2.2.2.2.1, p111.2.2.2.2.2.1, p111.2.2.2.2.2.2.1, p111.2.2.2.2.2.2.2.1, p111.2.2.2.2.2.2.2.2.1, p111.2.2.2.2.2.2.2.2.2.1] : List Int).getD p116.1.toNat 0) + ((x3.getD p111.2.1.toNat ((0, 0) : Int × Int)).1))) else p111.2.2.2.2.2.2.2.2.2.1), .int .i64 p111.2.2.2.2.2.2.2.2.2.2.1, .int .i64 p111.2.2.2.2.2.2.2.2.2.2.2.1, .int .i64 p111.2.2.2.2.2.2.2.2.2.2.2.2.1, .int .i64 p111.2.2.2.2.2.2.2.2.2.2.2.2.2.1, .int .i64 p111.2.2.2.2.2.2.2.2.2.2.2.2.2.2.1, .int .i64 p111.2.2.2.2.2.2.2.2.2.2.2.2.2.2.2.1, .int .i64 p111.2.2.2.2.2.2.2.2.2.2.2.2.2.2.2.2.1, .int .i64 p111.2.2.2.2.2.2.2.2.2.2.2.2.2.2.2.2.2], .row 3 1 (.slice B105 p104.length d107) p104.length (p116.2.flatMap eI), .box g115 69 #[.int .i64 ((x3.getD p111.2.1.toNat ((0, 0) : Int × Int)).1), .int .i64 ((x3.getD p111.2.1.toNat ((0, 0) : Int × Int)).2)], .box g102 101 #[.int .i64 0, .int .i64 0, .int .i64 0, .int .i64 0, .int .i64 0, .int .i64 0, .int .i64 0, .int .i64 0, .int .i64 0, .int .i64 0, .int .i64 0, .int .i64 0, .int .i64 0, .int .i64 0, .int .i64 0, .int .i64 0]] := S
    clear q0 q1 q2 q3 q4 q5 q6 q7 q8 q9
    have hF := hF.region hB [(25, .int .i64 p116.1), (26, .pointer (some ⟨g103, 0, none⟩)), (27, .pointer (some ⟨g103, 0 + p116.1.toNat, none⟩)), (28, .int .i64 (([p111.2.2.1, p111.2.2.2.1, p111.2.2.2.2.1, p111.2.2.2.2.2.1, p111.2.2.2.2.2.2.1, p111.2.2.2.2.2.2.2.1, p111.2.2.2.2.2.2.2.2.1, p111.2.2.2.2.2.2.2.2.2.1] : List Int).getD p116.1.toNat 0)), (29, .pointer (some ⟨g115, 0, none⟩)), (30, .int .i64 ((x3.getD p111.2.1.toNat ((0, 0) : Int × Int)).1)), (31, .int .i64 (w64 ((([p111.2.2.1, p111.2.2.2.1, p111.2.2.2.2.1, p111.2.2.2.2.2.1, p111.2.2.2.2.2.2.1, p111.2.2.2.2.2.2.2.1, p111.2.2.2.2.2.2.2.2.1, p111.2.2.2.2.2.2.2.2.2.1] : List Int).getD p116.1.toNat 0) + ((x3.getD p111.2.1.toNat ((0, 0) : Int × Int)).1)))), (32, .pointer (some ⟨g103, 0, none⟩)), (33, .pointer (some ⟨g103, 0 + p116.1.toNat, none⟩))] (allSl_mem ⟨e25, e26, e27, e28, e29, e30, e31, e32, e33, trivial⟩) rfl
    clear hB e25 e26 e27 e28 e29 e30 e31 e32 e33
    obtain ⟨hk120, hM110⟩ := chk_ex hM110
    replace hk120 := ixB_t hk120
    obtain ⟨hk121, hM110⟩ := chk_ex hM110
    replace hk121 := ixB_t hk121
    refine region_gw (D := [34, 35, 36, 37, 38, 39, 40, 41, 42]) (Lr := [.row 3 1 (.slice B105 p104.length d107) p104.length (p116.2.flatMap eI), .box g115 69 #[.int .i64 ((x3.getD p111.2.1.toNat ((0, 0) : Int × Int)).1), .int .i64 ((x3.getD p111.2.1.toNat ((0, 0) : Int × Int)).2)], .box g102 101 #[.int .i64 0, .int .i64 0, .int .i64 0, .int .i64 0, .int .i64 0, .int .i64 0, .int .i64 0, .int .i64 0, .int .i64 0, .int .i64 0, .int .i64 0, .int .i64 0, .int .i64 0, .int .i64 0, .int .i64 0, .int .i64 0]]) (deps := (fun | 0 => [34] | 1 => [35] | 2 => [36] | 3 => [37] | 4 => [38] | 5 => [39] | 6 => [40] | 7 => [41] | 8 => [42] | 9 => [42] | _ => [])) (rd := (fun _ => [])) (zr := (fun | 3 => [9] | _ => []))
      (φ := fun i vs => match i, vs with | 0, [v34] => v34 = .int .i64 p116.1 | 1, [v35] => v35 = .pointer (some ⟨g103, 8, none⟩) | 2, [v36] => v36 = .pointer (some ⟨g103, 8 + p116.1.toNat, none⟩) | 3, [v37] => v37 = .int .i64 (([p111.2.2.2.2.2.2.2.2.2.2.1, p111.2.2.2.2.2.2.2.2.2.2.2.1, p111.2.2.2.2.2.2.2.2.2.2.2.2.1, p111.2.2.2.2.2.2.2.2.2.2.2.2.2.1, p111.2.2.2.2.2.2.2.2.2.2.2.2.2.2.1, p111.2.2.2.2.2.2.2.2.2.2.2.2.2.2.2.1, p111.2.2.2.2.2.2.2.2.2.2.2.2.2.2.2.2.1, p111.2.2.2.2.2.2.2.2.2.2.2.2.2.2.2.2.2] : List Int).getD p116.1.toNat 0) | 4, [v38] => v38 = .pointer (some ⟨g115, 1, none⟩) | 5, [v39] => v39 = .int .i64 ((x3.getD p111.2.1.toNat ((0, 0) : Int × Int)).2) | 6, [v40] => v40 = .int .i64 (w64 ((([p111.2.2.2.2.2.2.2.2.2.2.1, p111.2.2.2.2.2.2.2.2.2.2.2.1, p111.2.2.2.2.2.2.2.2.2.2.2.2.1, p111.2.2.2.2.2.2.2.2.2.2.2.2.2.1, p111.2.2.2.2.2.2.2.2.2.2.2.2.2.2.1, p111.2.2.2.2.2.2.2.2.2.2.2.2.2.2.2.1, p111.2.2.2.2.2.2.2.2.2.2.2.2.2.2.2.2.1, p111.2.2.2.2.2.2.2.2.2.2.2.2.2.2.2.2.2] : List Int).getD p116.1.toNat 0) + ((x3.getD p111.2.1.toNat ((0, 0) : Int × Int)).2))) | 7, [v41] => v41 = .pointer (some ⟨g103, 8, none⟩) | 8, [v42] => v42 = .pointer (some ⟨g103, 8 + p116.1.toNat, none⟩) | _, _ => True)
      (C := fun i vs => match i, vs with | 9, [v42] => [.box g103 101 #[.int .i64 (bif p116.1 == 0 then (w64 ((([p111.2.2.1, p111.2.2.2.1, p111.2.2.2.2.1, p111.2.2.2.2.2.1, p111.2.2.2.2.2.2.1, p111.2.2.2.2.2.2.2.1, p111.2.2.2.2.2.2.2.2.1, p111.2.2.2.2.2.2.2.2.2.1] : List Int).getD p116.1.toNat 0) + ((x3.getD p111.2.1.toNat ((0, 0) : Int × Int)).1))) else p111.2.2.1), .int .i64 (bif p116.1 == 1 then (w64 ((([p111.2.2.1, p111.2.2.2.1, p111.2.2.2.2.1, p111.2.2.2.2.2.1, p111.2.2.2.2.2.2.1, p111.2.2.2.2.2.2.2.1, p111.2.2.2.2.2.2.2.2.1, p111.2.2.2.2.2.2.2.2.2.1] : List Int).getD p116.1.toNat 0) + ((x3.getD p111.2.1.toNat ((0, 0) : Int × Int)).1))) else p111.2.2.2.1), .int .i64 (bif p116.1 == 2 then (w64 ((([p111.2.2.1, p111.2.2.2.1, p111.2.2.2.2.1, p111.2.2.2.2.2.1, p111.2.2.2.2.2.2.1, p111.2.2.2.2.2.2.2.1, p111.2.2.2.2.2.2.2.2.1, p111.2.2.2.2.2.2.2.2.2.1] : List Int).getD p116.1.toNat 0) + ((x3.getD p111.2.1.toNat ((0, 0) : Int × Int)).1))) else p111.2.2.2.2.1), .int .i64 (bif p116.1 == 3 then (w64 ((([p111.2.2.1, p111.2.2.2.1, p111.2.2.2.2.1, p111.2.2.2.2.2.1, p111.2.2.2.2.2.2.1, p111.2.2.2.2.2.2.2.1, p111.2.2.2.2.2.2.2.2.1, p111.2.2.2.2.2.2.2.2.2.1] : List Int).getD p116.1.toNat 0) + ((x3.getD p111.2.1.toNat ((0, 0) : Int × Int)).1))) else p111.2.2.2.2.2.1), .int .i64 (bif p116.1 == 4 then (w64 ((([p111.2.2.1, p111.2.2.2.1, p111.2.2.2.2.1, p111.2.2.2.2.2.1, p111.2.2.2.2.2.2.1, p111.2.2.2.2.2.2.2.1, p111.2.2.2.2.2.2.2.2.1, p111.2.2.2.2.2.2.2.2.2.1] : List Int).getD p116.1.toNat 0) + ((x3.getD p111.2.1.toNat ((0, 0) : Int × Int)).1))) else p111.2.2.2.2.2.2.1), .int .i64 (bif p116.1 == 5 then (w64 ((([p111.2.2.1, p111.2.2.2.1, p111.2.2.2.2.1, p111.2.2.2.2.2.1, p111.2.2.2.2.2.2.1, p111.2.2.2.2.2.2.2.1, p111.2.2.2.2.2.2.2.2.1, p111.2.2.2.2.2.2.2.2.2.1] : List Int).getD p116.1.toNat 0) + ((x3.getD p111.2.1.toNat ((0, 0) : Int × Int)).1))) else p111.2.2.2.2.2.2.2.1), .int .i64 (bif p116.1 == 6 then (w64 ((([p111.2.2.1, p111.2.2.2.1, p111.2.2.2.2.1, p111.2.2.2.2.2.1, p111.2.2.2.2.2.2.1, p111.2.2.2.2.2.2.2.1, p111.2.2.2.2.2.2.2.2.1, p111.2.2.2.2.2.2.2.2.2.1] : List Int).getD p116.1.toNat 0) + ((x3.getD p111.2.1.toNat ((0, 0) : Int × Int)).1))) else p111.2.2.2.2.2.2.2.2.1), .int .i64 (bif p116.1 == 7 then (w64 ((([p111.2.2.1, p111.2.2.2.1, p111.2.2.2.2.1, p111.2.2.2.2.2.1, p111.2.2.2.2.2.2.1, p111.2.2.2.2.2.2.2.1, p111.2.2.2.2.2.2.2.2.1, p111.2.2.2.2.2.2.2.2.2.1] : List Int).getD p116.1.toNat 0) + ((x3.getD p111.2.1.toNat ((0, 0) : Int × Int)).1))) else p111.2.2.2.2.2.2.2.2.2.1), .int .i64 (bif p116.1 == 0 then (w64 ((([p111.2.2.2.2.2.2.2.2.2.2.1, p111.2.2.2.2.2.2.2.2.2.2.2.1, p111.2.2.2.2.2.2.2.2.2.2.2.2.1, p111.2.2.2.2.2.2.2.2.2.2.2.2.2.1, p111.2.2.2.2.2.2.2.2.2.2.2.2.2.2.1, p111.2.2.2.2.2.2.2.2.2.2.2.2.2.2.2.1, p111.2.2.2.2.2.2.2.2.2.2.2.2.2.2.2.2.1, p111.2.2.2.2.2.2.2.2.2.2.2.2.2.2.2.2.2] : List Int).getD p116.1.toNat 0) + ((x3.getD p111.2.1.toNat ((0, 0) : Int × Int)).2))) else p111.2.2.2.2.2.2.2.2.2.2.1), .int .i64 (bif p116.1 == 1 then (w64 ((([p111.2.2.2.2.2.2.2.2.2.2.1, p111.2.2.2.2.2.2.2.2.2.2.2.1, p111.2.2.2.2.2.2.2.2.2.2.2.2.1, p111.2.2.2.2.2.2.2.2.2.2.2.2.2.1, p111.2.2.2.2.2.2.2.2.2.2.2.2.2.2.1, p111.2.2.2.2.2.2.2.2.2.2.2.2.2.2.2.1, p111.2.2.2.2.2.2.2.2.2.2.2.2.2.2.2.2.1, p111.2.2.2.2.2.2.2.2.2.2.2.2.2.2.2.2.2] : List Int).getD p116.1.toNat 0) + ((x3.getD p111.2.1.toNat ((0, 0) : Int × Int)).2))) else p111.2.2.2.2.2.2.2.2.2.2.2.1), .int .i64 (bif p116.1 == 2 then (w64 ((([p111.2.2.2.2.2.2.2.2.2.2.1, p111.2.2.2.2.2.2.2.2.2.2.2.1, p111.2.2.2.2.2.2.2.2.2.2.2.2.1, p111.2.2.2.2.2.2.2.2.2.2.2.2.2.1, p111.2.2.2.2.2.2.2.2.2.2.2.2.2.2.1, p111.2.2.2.2.2.2.2.2.2.2.2.2.2.2.2.1, p111.2.2.2.2.2.2.2.2.2.2.2.2.2.2.2.2.1, p111.2.2.2.2.2.2.2.2.2.2.2.2.2.2.2.2.2] : List Int).getD p116.1.toNat 0) + ((x3.getD p111.2.1.toNat ((0, 0) : Int × Int)).2))) else p111.2.2.2.2.2.2.2.2.2.2.2.2.1), .int .i64 (bif p116.1 == 3 then (w64 ((([p111.2.2.2.2.2.2.2.2.2.2.1, p111.2.2.2.2.2.2.2.2.2.2.2.1, p111.2.2.2.2.2.2.2.2.2.2.2.2.1, p111.2.2.2.2.2.2.2.2.2.2.2.2.2.1, p111.2.2.2.2.2.2.2.2.2.2.2.2.2.2.1, p111.2.2.2.2.2.2.2.2.2.2.2.2.2.2.2.1, p111.2.2.2.2.2.2.2.2.2.2.2.2.2.2.2.2.1, p111.2.2.2.2.2.2.2.2.2.2.2.2.2.2.2.2.2] : List Int).getD p116.1.toNat 0) + ((x3.getD p111.2.1.toNat ((0, 0) : Int × Int)).2))) else p111.2.2.2.2.2.2.2.2.2.2.2.2.2.1), .int .i64 (bif p116.1 == 4 then (w64 ((([p111.2.2.2.2.2.2.2.2.2.2.1, p111.2.2.2.2.2.2.2.2.2.2.2.1, p111.2.2.2.2.2.2.2.2.2.2.2.2.1, p111.2.2.2.2.2.2.2.2.2.2.2.2.2.1, p111.2.2.2.2.2.2.2.2.2.2.2.2.2.2.1, p111.2.2.2.2.2.2.2.2.2.2.2.2.2.2.2.1, p111.2.2.2.2.2.2.2.2.2.2.2.2.2.2.2.2.1, p111.2.2.2.2.2.2.2.2.2.2.2.2.2.2.2.2.2] : List Int).getD p116.1.toNat 0) + ((x3.getD p111.2.1.toNat ((0, 0) : Int × Int)).2))) else p111.2.2.2.2.2.2.2.2.2.2.2.2.2.2.1), .int .i64 (bif p116.1 == 5 then (w64 ((([p111.2.2.2.2.2.2.2.2.2.2.1, p111.2.2.2.2.2.2.2.2.2.2.2.1, p111.2.2.2.2.2.2.2.2.2.2.2.2.1, p111.2.2.2.2.2.2.2.2.2.2.2.2.2.1, p111.2.2.2.2.2.2.2.2.2.2.2.2.2.2.1, p111.2.2.2.2.2.2.2.2.2.2.2.2.2.2.2.1, p111.2.2.2.2.2.2.2.2.2.2.2.2.2.2.2.2.1, p111.2.2.2.2.2.2.2.2.2.2.2.2.2.2.2.2.2] : List Int).getD p116.1.toNat 0) + ((x3.getD p111.2.1.toNat ((0, 0) : Int × Int)).2))) else p111.2.2.2.2.2.2.2.2.2.2.2.2.2.2.2.1), .int .i64 (bif p116.1 == 6 then (w64 ((([p111.2.2.2.2.2.2.2.2.2.2.1, p111.2.2.2.2.2.2.2.2.2.2.2.1, p111.2.2.2.2.2.2.2.2.2.2.2.2.1, p111.2.2.2.2.2.2.2.2.2.2.2.2.2.1, p111.2.2.2.2.2.2.2.2.2.2.2.2.2.2.1, p111.2.2.2.2.2.2.2.2.2.2.2.2.2.2.2.1, p111.2.2.2.2.2.2.2.2.2.2.2.2.2.2.2.2.1, p111.2.2.2.2.2.2.2.2.2.2.2.2.2.2.2.2.2] : List Int).getD p116.1.toNat 0) + ((x3.getD p111.2.1.toNat ((0, 0) : Int × Int)).2))) else p111.2.2.2.2.2.2.2.2.2.2.2.2.2.2.2.2.1), .int .i64 (bif p116.1 == 7 then (w64 ((([p111.2.2.2.2.2.2.2.2.2.2.1, p111.2.2.2.2.2.2.2.2.2.2.2.1, p111.2.2.2.2.2.2.2.2.2.2.2.2.1, p111.2.2.2.2.2.2.2.2.2.2.2.2.2.1, p111.2.2.2.2.2.2.2.2.2.2.2.2.2.2.1, p111.2.2.2.2.2.2.2.2.2.2.2.2.2.2.2.1, p111.2.2.2.2.2.2.2.2.2.2.2.2.2.2.2.2.1, p111.2.2.2.2.2.2.2.2.2.2.2.2.2.2.2.2.2] : List Int).getD p116.1.toNat 0) + ((x3.getD p111.2.1.toNat ((0, 0) : Int × Int)).2))) else p111.2.2.2.2.2.2.2.2.2.2.2.2.2.2.2.2.2)]] | _, _ => [])
      (κ := (fun _ => none)) (Z := (fun | 9 => [.box g103 101 #[.int .i64 (bif p116.1 == 0 then (w64 ((([p111.2.2.1, p111.2.2.2.1, p111.2.2.2.2.1, p111.2.2.2.2.2.1, p111.2.2.2.2.2.2.1, p111.2.2.2.2.2.2.2.1, p111.2.2.2.2.2.2.2.2.1, p111.2.2.2.2.2.2.2.2.2.1] : List Int).getD p116.1.toNat 0) + ((x3.getD p111.2.1.toNat ((0, 0) : Int × Int)).1))) else p111.2.2.1), .int .i64 (bif p116.1 == 1 then (w64 ((([p111.2.2.1, p111.2.2.2.1, p111.2.2.2.2.1, p111.2.2.2.2.2.1, p111.2.2.2.2.2.2.1, p111.2.2.2.2.2.2.2.1, p111.2.2.2.2.2.2.2.2.1, p111.2.2.2.2.2.2.2.2.2.1] : List Int).getD p116.1.toNat 0) + ((x3.getD p111.2.1.toNat ((0, 0) : Int × Int)).1))) else p111.2.2.2.1), .int .i64 (bif p116.1 == 2 then (w64 ((([p111.2.2.1, p111.2.2.2.1, p111.2.2.2.2.1, p111.2.2.2.2.2.1, p111.2.2.2.2.2.2.1, p111.2.2.2.2.2.2.2.1, p111.2.2.2.2.2.2.2.2.1, p111.2.2.2.2.2.2.2.2.2.1] : List Int).getD p116.1.toNat 0) + ((x3.getD p111.2.1.toNat ((0, 0) : Int × Int)).1))) else p111.2.2.2.2.1), .int .i64 (bif p116.1 == 3 then (w64 ((([p111.2.2.1, p111.2.2.2.1, p111.2.2.2.2.1, p111.2.2.2.2.2.1, p111.2.2.2.2.2.2.1, p111.2.2.2.2.2.2.2.1, p111.2.2.2.2.2.2.2.2.1, p111.2.2.2.2.2.2.2.2.2.1] : List Int).getD p116.1.toNat 0) + ((x3.getD p111.2.1.toNat ((0, 0) : Int × Int)).1))) else p111.2.2.2.2.2.1), .int .i64 (bif p116.1 == 4 then (w64 ((([p111.2.2.1, p111.2.2.2.1, p111.2.2.2.2.1, p111.2.2.2.2.2.1, p111.2.2.2.2.2.2.1, p111.2.2.2.2.2.2.2.1, p111.2.2.2.2.2.2.2.2.1, p111.2.2.2.2.2.2.2.2.2.1] : List Int).getD p116.1.toNat 0) + ((x3.getD p111.2.1.toNat ((0, 0) : Int × Int)).1))) else p111.2.2.2.2.2.2.1), .int .i64 (bif p116.1 == 5 then (w64 ((([p111.2.2.1, p111.2.2.2.1, p111.2.2.2.2.1, p111.2.2.2.2.2.1, p111.2.2.2.2.2.2.1, p111.2.2.2.2.2.2.2.1, p111.2.2.2.2.2.2.2.2.1, p111.2.2.2.2.2.2.2.2.2.1] : List Int).getD p116.1.toNat 0) + ((x3.getD p111.2.1.toNat ((0, 0) : Int × Int)).1))) else p111.2.2.2.2.2.2.2.1), .int .i64 (bif p116.1 == 6 then (w64 ((([p111.2.2.1, p111.2.2.2.1, p111.2.2.2.2.1, p111.2.2.2.2.2.1, p111.2.2.2.2.2.2.1, p111.2.2.2.2.2.2.2.1, p111.2.2.2.2.2.2.2.2.1, p111.2.2.2.2.2.2.2.2.2.1] : List Int).getD p116.1.toNat 0) + ((x3.getD p111.2.1.toNat ((0, 0) : Int × Int)).1))) else p111.2.2.2.2.2.2.2.2.1), .int .i64 (bif p116.1 == 7 then (w64 ((([p111.2.2.1, p111.2.2.2.1, p111.2.2.2.2.1, p111.2.2.2.2.2.1, p111.2.2.2.2.2.2.1, p111.2.2.2.2.2.2.2.1, p111.2.2.2.2.2.2.2.2.1, p111.2.2.2.2.2.2.2.2.2.1] : List Int).getD p116.1.toNat 0) + ((x3.getD p111.2.1.toNat ((0, 0) : Int × Int)).1))) else p111.2.2.2.2.2.2.2.2.2.1), .int .i64 p111.2.2.2.2.2.2.2.2.2.2.1, .int .i64 p111.2.2.2.2.2.2.2.2.2.2.2.1, .int .i64 p111.2.2.2.2.2.2.2.2.2.2.2.2.1, .int .i64 p111.2.2.2.2.2.2.2.2.2.2.2.2.2.1, .int .i64 p111.2.2.2.2.2.2.2.2.2.2.2.2.2.2.1, .int .i64 p111.2.2.2.2.2.2.2.2.2.2.2.2.2.2.2.1, .int .i64 p111.2.2.2.2.2.2.2.2.2.2.2.2.2.2.2.2.1, .int .i64 p111.2.2.2.2.2.2.2.2.2.2.2.2.2.2.2.2.2]] | _ => [])) mixed hF (by kernel_rfl) (show St w _ [.box g103 101 #[.int .i64 (bif p116.1 == 0 then (w64 ((([p111.2.2.1, p111.2.2.2.1, p111.2.2.2.2.1, p111.2.2.2.2.2.1, p111.2.2.2.2.2.2.1, p111.2.2.2.2.2.2.2.1, p111.2.2.2.2.2.2.2.2.1, p111.2.2.2.2.2.2.2.2.2.1] : List Int).getD p116.1.toNat 0) + ((x3.getD p111.2.1.toNat ((0, 0) : Int × Int)).1))) else p111.2.2.1), .int .i64 (bif p116.1 == 1 then (w64 ((([p111.2.2.1, p111.2.2.2.1, p111.2.2.2.2.1, p111.2.2.2.2.2.1, p111.2.2.2.2.2.2.1, p111.2.2.2.2.2.2.2.1, p111.2.2.2.2.2.2.2.2.1, p111.2.2.2.2.2.2.2.2.2.1] : List Int).getD p116.1.toNat 0) + ((x3.getD p111.2.1.toNat ((0, 0) : Int × Int)).1))) else p111.2.2.2.1), .int .i64 (bif p116.1 == 2 then (w64 ((([p111.2.2.1, p111.2.2.2.1, p111.2.2.2.2.1, p111.2.2.2.2.2.1, p111.2.2.2.2.2.2.1, p111.2.2.2.2.2.2.2.1, p111.2.2.2.2.2.2.2.2.1, p111.2.2.2.2.2.2.2.2.2.1] : List Int).getD p116.1.toNat 0) + ((x3.getD p111.2.1.toNat ((0, 0) : Int × Int)).1))) else p111.2.2.2.2.1), .int .i64 (bif p116.1 == 3 then (w64 ((([p111.2.2.1, p111.2.2.2.1, p111.2.2.2.2.1, p111.2.2.2.2.2.1, p111.2.2.2.2.2.2.1, p111.2.2.2.2.2.2.2.1, p111.2.2.2.2.2.2.2.2.1, p111.2.2.2.2.2.2.2.2.2.1] : List Int).getD p116.1.toNat 0) + ((x3.getD p111.2.1.toNat ((0, 0) : Int × Int)).1))) else p111.2.2.2.2.2.1), .int .i64 (bif p116.1 == 4 then (w64 ((([p111.2.2.1, p111.2.2.2.1, p111.2.2.2.2.1, p111.2.2.2.2.2.1, p111.2.2.2.2.2.2.1, p111.2.2.2.2.2.2.2.1, p111.2.2.2.2.2.2.2.2.1, p111.2.2.2.2.2.2.2.2.2.1] : List Int).getD p116.1.toNat 0) + ((x3.getD p111.2.1.toNat ((0, 0) : Int × Int)).1))) else p111.2.2.2.2.2.2.1), .int .i64 (bif p116.1 == 5 then (w64 ((([p111.2.2.1, p111.2.2.2.1, p111.2.2.2.2.1, p111.2.2.2.2.2.1, p111.2.2.2.2.2.2.1, p111.2.2.2.2.2.2.2.1, p111.2.2.2.2.2.2.2.2.1, p111.2.2.2.2.2.2.2.2.2.1] : List Int).getD p116.1.toNat 0) + ((x3.getD p111.2.1.toNat ((0, 0) : Int × Int)).1))) else p111.2.2.2.2.2.2.2.1), .int .i64 (bif p116.1 == 6 then (w64 ((([p111.2.2.1, p111.2.2.2.1, p111.2.2.2.2.1, p111.2.2.2.2.2.1, p111.2.2.2.2.2.2.1, p111.2.2.2.2.2.2.2.1, p111.2.2.2.2.2.2.2.2.1, p111.2.2.2.2.2.2.2.2.2.1] : List Int).getD p116.1.toNat 0) + ((x3.getD p111.2.1.toNat ((0, 0) : Int × Int)).1))) else p111.2.2.2.2.2.2.2.2.1), .int .i64 (bif p116.1 == 7 then (w64 ((([p111.2.2.1, p111.2.2.2.1, p111.2.2.2.2.1, p111.2.2.2.2.2.1, p111.2.2.2.2.2.2.1, p111.2.2.2.2.2.2.2.1, p111.2.2.2.2.2.2.2.2.1, p111.2.2.2.2.2.2.2.2.2.1] : List Int).getD p116.1.toNat 0) + ((x3.getD p111.2.1.toNat ((0, 0) : Int × Int)).1))) else p111.2.2.2.2.2.2.2.2.2.1), .int .i64 p111.2.2.2.2.2.2.2.2.2.2.1, .int .i64 p111.2.2.2.2.2.2.2.2.2.2.2.1, .int .i64 p111.2.2.2.2.2.2.2.2.2.2.2.2.1, .int .i64 p111.2.2.2.2.2.2.2.2.2.2.2.2.2.1, .int .i64 p111.2.2.2.2.2.2.2.2.2.2.2.2.2.2.1, .int .i64 p111.2.2.2.2.2.2.2.2.2.2.2.2.2.2.2.1, .int .i64 p111.2.2.2.2.2.2.2.2.2.2.2.2.2.2.2.2.1, .int .i64 p111.2.2.2.2.2.2.2.2.2.2.2.2.2.2.2.2.2], .row 3 1 (.slice B105 p104.length d107) p104.length (p116.2.flatMap eI), .box g115 69 #[.int .i64 ((x3.getD p111.2.1.toNat ((0, 0) : Int × Int)).1), .int .i64 ((x3.getD p111.2.1.toNat ((0, 0) : Int × Int)).2)], .box g102 101 #[.int .i64 0, .int .i64 0, .int .i64 0, .int .i64 0, .int .i64 0, .int .i64 0, .int .i64 0, .int .i64 0, .int .i64 0, .int .i64 0, .int .i64 0, .int .i64 0, .int .i64 0, .int .i64 0, .int .i64 0, .int .i64 0]] from S.sel [0, 1, 2, 3] rfl rfl) ?_ ?_
    · refine ⟨?_, ?_, ?_, ?_, ?_, ?_, ?_, ?_, ?_, ?_, trivial⟩
      · intro a u X hB hu hp hr hz hl S
        replace S : St w u ([] ++ X) := S
        exact .inl ⟨rfl, .int .i64 p116.1, u, (run_move rfl (hF.evB hB rfl rfl)), rfl, S⟩
      · intro a u X hB hu hp hr hz hl S
        replace S : St w u ([] ++ X) := S
        exact .inl ⟨rfl, .pointer (some ⟨g103, 8, none⟩), u, (run_fieldAddr rfl fl101_1 (hF.evB hB rfl rfl) rfl), rfl, S⟩
      · intro a u X hB hu hp hr hz hl S
        replace S : St w u ([] ++ X) := S
        have e34 : sl a 34 = .int .i64 p116.1 := hp 0 rfl
        have e35 : sl a 35 = .pointer (some ⟨g103, 8, none⟩) := hp 1 rfl
        exact .inl ⟨rfl, .pointer (some ⟨g103, 8 + p116.1.toNat, none⟩), u, (run_indexArrP rfl Try.underlying99 sz3 (ev_sl e35) (ev_sl e34) hk120), rfl, S⟩
      · intro a u X hB hu hp hr hz hl S
        replace S : St w u ([] ++ X) := S
        have e36 : sl a 36 = .pointer (some ⟨g103, 8 + p116.1.toNat, none⟩) := hp 2 rfl
        exact .inl ⟨rfl, .int .i64 (([p111.2.2.2.2.2.2.2.2.2.2.1, p111.2.2.2.2.2.2.2.2.2.2.2.1, p111.2.2.2.2.2.2.2.2.2.2.2.2.1, p111.2.2.2.2.2.2.2.2.2.2.2.2.2.1, p111.2.2.2.2.2.2.2.2.2.2.2.2.2.2.1, p111.2.2.2.2.2.2.2.2.2.2.2.2.2.2.2.1, p111.2.2.2.2.2.2.2.2.2.2.2.2.2.2.2.2.1, p111.2.2.2.2.2.2.2.2.2.2.2.2.2.2.2.2.2] : List Int).getD p116.1.toNat 0), u, (run_load1 rfl one3 (ev_sl e36) (arr_cell (show Bk _ _ _ _ from S.mem (List.mem_append_right _ (hz 9 (List.mem_of_getElem? (i := 0) rfl) _ (List.mem_of_getElem? (i := 0) rfl)))) ([p111.2.2.2.2.2.2.2.2.2.2.1, p111.2.2.2.2.2.2.2.2.2.2.2.1, p111.2.2.2.2.2.2.2.2.2.2.2.2.1, p111.2.2.2.2.2.2.2.2.2.2.2.2.2.1, p111.2.2.2.2.2.2.2.2.2.2.2.2.2.2.1, p111.2.2.2.2.2.2.2.2.2.2.2.2.2.2.2.1, p111.2.2.2.2.2.2.2.2.2.2.2.2.2.2.2.2.1, p111.2.2.2.2.2.2.2.2.2.2.2.2.2.2.2.2.2] : List Int) rfl hk120 rfl)), rfl, S⟩
      · intro a u X hB hu hp hr hz hl S
        replace S : St w u ([] ++ X) := S
        exact .inl ⟨rfl, .pointer (some ⟨g115, 1, none⟩), u, (run_fieldAddr rfl fl69_1 (hF.evB hB rfl rfl) rfl), rfl, S⟩
      · intro a u X hB hu hp hr hz hl S
        replace S : St w u ([] ++ X) := S
        have e38 : sl a 38 = .pointer (some ⟨g115, 1, none⟩) := hp 4 rfl
        exact .inl ⟨rfl, .int .i64 ((x3.getD p111.2.1.toNat ((0, 0) : Int × Int)).2), u, (run_load1 rfl one3 (ev_sl e38) ((gr_box S hl 1 rfl).cell rfl)), rfl, S⟩
      · intro a u X hB hu hp hr hz hl S
        replace S : St w u ([] ++ X) := S
        have e37 : sl a 37 = .int .i64 (([p111.2.2.2.2.2.2.2.2.2.2.1, p111.2.2.2.2.2.2.2.2.2.2.2.1, p111.2.2.2.2.2.2.2.2.2.2.2.2.1, p111.2.2.2.2.2.2.2.2.2.2.2.2.2.1, p111.2.2.2.2.2.2.2.2.2.2.2.2.2.2.1, p111.2.2.2.2.2.2.2.2.2.2.2.2.2.2.2.1, p111.2.2.2.2.2.2.2.2.2.2.2.2.2.2.2.2.1, p111.2.2.2.2.2.2.2.2.2.2.2.2.2.2.2.2.2] : List Int).getD p116.1.toNat 0) := hp 3 rfl
        have e39 : sl a 39 = .int .i64 ((x3.getD p111.2.1.toNat ((0, 0) : Int × Int)).2) := hp 5 rfl
        exact .inl ⟨rfl, .int .i64 (w64 ((([p111.2.2.2.2.2.2.2.2.2.2.1, p111.2.2.2.2.2.2.2.2.2.2.2.1, p111.2.2.2.2.2.2.2.2.2.2.2.2.1, p111.2.2.2.2.2.2.2.2.2.2.2.2.2.1, p111.2.2.2.2.2.2.2.2.2.2.2.2.2.2.1, p111.2.2.2.2.2.2.2.2.2.2.2.2.2.2.2.1, p111.2.2.2.2.2.2.2.2.2.2.2.2.2.2.2.2.1, p111.2.2.2.2.2.2.2.2.2.2.2.2.2.2.2.2.2] : List Int).getD p116.1.toNat 0) + ((x3.getD p111.2.1.toNat ((0, 0) : Int × Int)).2))), u, (run_add (z := w64 ((([p111.2.2.2.2.2.2.2.2.2.2.1, p111.2.2.2.2.2.2.2.2.2.2.2.1, p111.2.2.2.2.2.2.2.2.2.2.2.2.1, p111.2.2.2.2.2.2.2.2.2.2.2.2.2.1, p111.2.2.2.2.2.2.2.2.2.2.2.2.2.2.1, p111.2.2.2.2.2.2.2.2.2.2.2.2.2.2.2.1, p111.2.2.2.2.2.2.2.2.2.2.2.2.2.2.2.2.1, p111.2.2.2.2.2.2.2.2.2.2.2.2.2.2.2.2.2] : List Int).getD p116.1.toNat 0) + ((x3.getD p111.2.1.toNat ((0, 0) : Int × Int)).2))) (ev_sl e37) (ev_sl e39) rfl rfl), rfl, S⟩
      · intro a u X hB hu hp hr hz hl S
        replace S : St w u ([] ++ X) := S
        exact .inl ⟨rfl, .pointer (some ⟨g103, 8, none⟩), u, (run_fieldAddr rfl fl101_1 (hF.evB hB rfl rfl) rfl), rfl, S⟩
      · intro a u X hB hu hp hr hz hl S
        replace S : St w u ([] ++ X) := S
        have e34 : sl a 34 = .int .i64 p116.1 := hp 0 rfl
        have e41 : sl a 41 = .pointer (some ⟨g103, 8, none⟩) := hp 7 rfl
        exact .inl ⟨rfl, .pointer (some ⟨g103, 8 + p116.1.toNat, none⟩), u, (run_indexArrP rfl Try.underlying99 sz3 (ev_sl e41) (ev_sl e34) hk121), rfl, S⟩
      intro a u X hB hu hp hr hz hl S
      replace S : St w u ([.box g103 101 #[.int .i64 (bif p116.1 == 0 then (w64 ((([p111.2.2.1, p111.2.2.2.1, p111.2.2.2.2.1, p111.2.2.2.2.2.1, p111.2.2.2.2.2.2.1, p111.2.2.2.2.2.2.2.1, p111.2.2.2.2.2.2.2.2.1, p111.2.2.2.2.2.2.2.2.2.1] : List Int).getD p116.1.toNat 0) + ((x3.getD p111.2.1.toNat ((0, 0) : Int × Int)).1))) else p111.2.2.1), .int .i64 (bif p116.1 == 1 then (w64 ((([p111.2.2.1, p111.2.2.2.1, p111.2.2.2.2.1, p111.2.2.2.2.2.1, p111.2.2.2.2.2.2.1, p111.2.2.2.2.2.2.2.1, p111.2.2.2.2.2.2.2.2.1, p111.2.2.2.2.2.2.2.2.2.1] : List Int).getD p116.1.toNat 0) + ((x3.getD p111.2.1.toNat ((0, 0) : Int × Int)).1))) else p111.2.2.2.1), .int .i64 (bif p116.1 == 2 then (w64 ((([p111.2.2.1, p111.2.2.2.1, p111.2.2.2.2.1, p111.2.2.2.2.2.1, p111.2.2.2.2.2.2.1, p111.2.2.2.2.2.2.2.1, p111.2.2.2.2.2.2.2.2.1, p111.2.2.2.2.2.2.2.2.2.1] : List Int).getD p116.1.toNat 0) + ((x3.getD p111.2.1.toNat ((0, 0) : Int × Int)).1))) else p111.2.2.2.2.1), .int .i64 (bif p116.1 == 3 then (w64 ((([p111.2.2.1, p111.2.2.2.1, p111.2.2.2.2.1, p111.2.2.2.2.2.1, p111.2.2.2.2.2.2.1, p111.2.2.2.2.2.2.2.1, p111.2.2.2.2.2.2.2.2.1, p111.2.2.2.2.2.2.2.2.2.1] : List Int).getD p116.1.toNat 0) + ((x3.getD p111.2.1.toNat ((0, 0) : Int × Int)).1))) else p111.2.2.2.2.2.1), .int .i64 (bif p116.1 == 4 then (w64 ((([p111.2.2.1, p111.2.2.2.1, p111.2.2.2.2.1, p111.2.2.2.2.2.1, p111.2.2.2.2.2.2.1, p111.2.2.2.2.2.2.2.1, p111.2.2.2.2.2.2.2.2.1, p111.2.2.2.2.2.2.2.2.2.1] : List Int).getD p116.1.toNat 0) + ((x3.getD p111.2.1.toNat ((0, 0) : Int × Int)).1))) else p111.2.2.2.2.2.2.1), .int .i64 (bif p116.1 == 5 then (w64 ((([p111.2.2.1, p111.2.2.2.1, p111.2.2.2.2.1, p111.2.2.2.2.2.1, p111.2.2.2.2.2.2.1, p111.2.2.2.2.2.2.2.1, p111.2.2.2.2.2.2.2.2.1, p111.2.2.2.2.2.2.2.2.2.1] : List Int).getD p116.1.toNat 0) + ((x3.getD p111.2.1.toNat ((0, 0) : Int × Int)).1))) else p111.2.2.2.2.2.2.2.1), .int .i64 (bif p116.1 == 6 then (w64 ((([p111.2.2.1, p111.2.2.2.1, p111.2.2.2.2.1, p111.2.2.2.2.2.1, p111.2.2.2.2.2.2.1, p111.2.2.2.2.2.2.2.1, p111.2.2.2.2.2.2.2.2.1, p111.2.2.2.2.2.2.2.2.2.1] : List Int).getD p116.1.toNat 0) + ((x3.getD p111.2.1.toNat ((0, 0) : Int × Int)).1))) else p111.2.2.2.2.2.2.2.2.1), .int .i64 (bif p116.1 == 7 then (w64 ((([p111.2.2.1, p111.2.2.2.1, p111.2.2.2.2.1, p111.2.2.2.2.2.1, p111.2.2.2.2.2.2.1, p111.2.2.2.2.2.2.2.1, p111.2.2.2.2.2.2.2.2.1, p111.2.2.2.2.2.2.2.2.2.1] : List Int).getD p116.1.toNat 0) + ((x3.getD p111.2.1.toNat ((0, 0) : Int × Int)).1))) else p111.2.2.2.2.2.2.2.2.2.1), .int .i64 p111.2.2.2.2.2.2.2.2.2.2.1, .int .i64 p111.2.2.2.2.2.2.2.2.2.2.2.1, .int .i64 p111.2.2.2.2.2.2.2.2.2.2.2.2.1, .int .i64 p111.2.2.2.2.2.2.2.2.2.2.2.2.2.1, .int .i64 p111.2.2.2.2.2.2.2.2.2.2.2.2.2.2.1, .int .i64 p111.2.2.2.2.2.2.2.2.2.2.2.2.2.2.2.1, .int .i64 p111.2.2.2.2.2.2.2.2.2.2.2.2.2.2.2.2.1, .int .i64 p111.2.2.2.2.2.2.2.2.2.2.2.2.2.2.2.2.2]] ++ X) := S
      have e40 : sl a 40 = .int .i64 (w64 ((([p111.2.2.2.2.2.2.2.2.2.2.1, p111.2.2.2.2.2.2.2.2.2.2.2.1, p111.2.2.2.2.2.2.2.2.2.2.2.2.1, p111.2.2.2.2.2.2.2.2.2.2.2.2.2.1, p111.2.2.2.2.2.2.2.2.2.2.2.2.2.2.1, p111.2.2.2.2.2.2.2.2.2.2.2.2.2.2.2.1, p111.2.2.2.2.2.2.2.2.2.2.2.2.2.2.2.2.1, p111.2.2.2.2.2.2.2.2.2.2.2.2.2.2.2.2.2] : List Int).getD p116.1.toNat 0) + ((x3.getD p111.2.1.toNat ((0, 0) : Int × Int)).2))) := hp 6 rfl
      have e42 : sl a 42 = .pointer (some ⟨g103, 8 + p116.1.toNat, none⟩) := hp 8 rfl
      exact .inr (.inl ⟨rfl, _, run_store (cs' := #[.int .i64 (bif p116.1 == 0 then (w64 ((([p111.2.2.1, p111.2.2.2.1, p111.2.2.2.2.1, p111.2.2.2.2.2.1, p111.2.2.2.2.2.2.1, p111.2.2.2.2.2.2.2.1, p111.2.2.2.2.2.2.2.2.1, p111.2.2.2.2.2.2.2.2.2.1] : List Int).getD p116.1.toNat 0) + ((x3.getD p111.2.1.toNat ((0, 0) : Int × Int)).1))) else p111.2.2.1), .int .i64 (bif p116.1 == 1 then (w64 ((([p111.2.2.1, p111.2.2.2.1, p111.2.2.2.2.1, p111.2.2.2.2.2.1, p111.2.2.2.2.2.2.1, p111.2.2.2.2.2.2.2.1, p111.2.2.2.2.2.2.2.2.1, p111.2.2.2.2.2.2.2.2.2.1] : List Int).getD p116.1.toNat 0) + ((x3.getD p111.2.1.toNat ((0, 0) : Int × Int)).1))) else p111.2.2.2.1), .int .i64 (bif p116.1 == 2 then (w64 ((([p111.2.2.1, p111.2.2.2.1, p111.2.2.2.2.1, p111.2.2.2.2.2.1, p111.2.2.2.2.2.2.1, p111.2.2.2.2.2.2.2.1, p111.2.2.2.2.2.2.2.2.1, p111.2.2.2.2.2.2.2.2.2.1] : List Int).getD p116.1.toNat 0) + ((x3.getD p111.2.1.toNat ((0, 0) : Int × Int)).1))) else p111.2.2.2.2.1), .int .i64 (bif p116.1 == 3 then (w64 ((([p111.2.2.1, p111.2.2.2.1, p111.2.2.2.2.1, p111.2.2.2.2.2.1, p111.2.2.2.2.2.2.1, p111.2.2.2.2.2.2.2.1, p111.2.2.2.2.2.2.2.2.1, p111.2.2.2.2.2.2.2.2.2.1] : List Int).getD p116.1.toNat 0) + ((x3.getD p111.2.1.toNat ((0, 0) : Int × Int)).1))) else p111.2.2.2.2.2.1), .int .i64 (bif p116.1 == 4 then (w64 ((([p111.2.2.1, p111.2.2.2.1, p111.2.2.2.2.1, p111.2.2.2.2.2.1, p111.2.2.2.2.2.2.1, p111.2.2.2.2.2.2.2.1, p111.2.2.2.2.2.2.2.2.1, p111.2.2.2.2.2.2.2.2.2.1] : List Int).getD p116.1.toNat 0) + ((x3.getD p111.2.1.toNat ((0, 0) : Int × Int)).1))) else p111.2.2.2.2.2.2.1), .int .i64 (bif p116.1 == 5 then (w64 ((([p111.2.2.1, p111.2.2.2.1, p111.2.2.2.2.1, p111.2.2.2.2.2.1, p111.2.2.2.2.2.2.1, p111.2.2.2.2.2.2.2.1, p111.2.2.2.2.2.2.2.2.1, p111.2.2.2.2.2.2.2.2.2.1] : List Int).getD p116.1.toNat 0) + ((x3.getD p111.2.1.toNat ((0, 0) : Int × Int)).1))) else p111.2.2.2.2.2.2.2.1), .int .i64 (bif p116.1 == 6 then (w64 ((([p111.2.2.1, p111.2.2.2.1, p111.2.2.2.2.1, p111.2.2.2.2.2.1, p111.2.2.2.2.2.2.1, p111.2.2.2.2.2.2.2.1, p111.2.2.2.2.2.2.2.2.1, p111.2.2.2.2.2.2.2.2.2.1] : List Int).getD p116.1.toNat 0) + ((x3.getD p111.2.1.toNat ((0, 0) : Int × Int)).1))) else p111.2.2.2.2.2.2.2.2.1), .int .i64 (bif p116.1 == 7 then (w64 ((([p111.2.2.1, p111.2.2.2.1, p111.2.2.2.2.1, p111.2.2.2.2.2.1, p111.2.2.2.2.2.2.1, p111.2.2.2.2.2.2.2.1, p111.2.2.2.2.2.2.2.2.1, p111.2.2.2.2.2.2.2.2.2.1] : List Int).getD p116.1.toNat 0) + ((x3.getD p111.2.1.toNat ((0, 0) : Int × Int)).1))) else p111.2.2.2.2.2.2.2.2.2.1), .int .i64 (bif p116.1 == 0 then (w64 ((([p111.2.2.2.2.2.2.2.2.2.2.1, p111.2.2.2.2.2.2.2.2.2.2.2.1, p111.2.2.2.2.2.2.2.2.2.2.2.2.1, p111.2.2.2.2.2.2.2.2.2.2.2.2.2.1, p111.2.2.2.2.2.2.2.2.2.2.2.2.2.2.1, p111.2.2.2.2.2.2.2.2.2.2.2.2.2.2.2.1, p111.2.2.2.2.2.2.2.2.2.2.2.2.2.2.2.2.1, p111.2.2.2.2.2.2.2.2.2.2.2.2.2.2.2.2.2] : List Int).getD p116.1.toNat 0) + ((x3.getD p111.2.1.toNat ((0, 0) : Int × Int)).2))) else p111.2.2.2.2.2.2.2.2.2.2.1), .int .i64 (bif p116.1 == 1 then (w64 ((([p111.2.2.2.2.2.2.2.2.2.2.1, p111.2.2.2.2.2.2.2.2.2.2.2.1, p111.2.2.2.2.2.2.2.2.2.2.2.2.1, p111.2.2.2.2.2.2.2.2.2.2.2.2.2.1, p111.2.2.2.2.2.2.2.2.2.2.2.2.2.2.1, p111.2.2.2.2.2.2.2.2.2.2.2.2.2.2.2.1, p111.2.2.2.2.2.2.2.2.2.2.2.2.2.2.2.2.1, p111.2.2.2.2.2.2.2.2.2.2.2.2.2.2.2.2.2] : List Int).getD p116.1.toNat 0) + ((x3.getD p111.2.1.toNat ((0, 0) : Int × Int)).2))) else p111.2.2.2.2.2.2.2.2.2.2.2.1), .int .i64 (bif p116.1 == 2 then (w64 ((([p111.2.2.2.2.2.2.2.2.2.2.1, p111.2.2.2.2.2.2.2.2.2.2.2.1, p111.2.2.2.2.2.2.2.2.2.2.2.2.1, p111.2.2.2.2.2.2.2.2.2.2.2.2.2.1, p111.2.2.2.2.2.2.2.2.2.2.2.2.2.2.1, p111.2.2.2.2.2.2.2.2.2.2.2.2.2.2.2.1, p111.2.2.2.2.2.2.2.2.2.2.2.2.2.2.2.2.1, p111.2.2.2.2.2.2.2.2.2.2.2.2.2.2.2.2.2] : List Int).getD p116.1.toNat 0) + ((x3.getD p111.2.1.toNat ((0, 0) : Int × Int)).2))) else p111.2.2.2.2.2.2.2.2.2.2.2.2.1), .int .i64 (bif p116.1 == 3 then (w64 ((([p111.2.2.2.2.2.2.2.2.2.2.1, p111.2.2.2.2.2.2.2.2.2.2.2.1, p111.2.2.2.2.2.2.2.2.2.2.2.2.1, p111.2.2.2.2.2.2.2.2.2.2.2.2.2.1, p111.2.2.2.2.2.2.2.2.2.2.2.2.2.2.1, p111.2.2.2.2.2.2.2.2.2.2.2.2.2.2.2.1, p111.2.2.2.2.2.2.2.2.2.2.2.2.2.2.2.2.1, p111.2.2.2.2.2.2.2.2.2.2.2.2.2.2.2.2.2] : List Int).getD p116.1.toNat 0) + ((x3.getD p111.2.1.toNat ((0, 0) : Int × Int)).2))) else p111.2.2.2.2.2.2.2.2.2.2.2.2.2.1), .int .i64 (bif p116.1 == 4 then (w64 ((([p111.2.2.2.2.2.2.2.2.2.2.1, p111.2.2.2.2.2.2.2.2.2.2.2.1, p111.2.2.2.2.2.2.2.2.2.2.2.2.1, p111.2.2.2.2.2.2.2.2.2.2.2.2.2.1, p111.2.2.2.2.2.2.2.2.2.2.2.2.2.2.1, p111.2.2.2.2.2.2.2.2.2.2.2.2.2.2.2.1, p111.2.2.2.2.2.2.2.2.2.2.2.2.2.2.2.2.1, p111.2.2.2.2.2.2.2.2.2.2.2.2.2.2.2.2.2] : List Int).getD p116.1.toNat 0) + ((x3.getD p111.2.1.toNat ((0, 0) : Int × Int)).2))) else p111.2.2.2.2.2.2.2.2.2.2.2.2.2.2.1), .int .i64 (bif p116.1 == 5 then (w64 ((([p111.2.2.2.2.2.2.2.2.2.2.1, p111.2.2.2.2.2.2.2.2.2.2.2.1, p111.2.2.2.2.2.2.2.2.2.2.2.2.1, p111.2.2.2.2.2.2.2.2.2.2.2.2.2.1, p111.2.2.2.2.2.2.2.2.2.2.2.2.2.2.1, p111.2.2.2.2.2.2.2.2.2.2.2.2.2.2.2.1, p111.2.2.2.2.2.2.2.2.2.2.2.2.2.2.2.2.1, p111.2.2.2.2.2.2.2.2.2.2.2.2.2.2.2.2.2] : List Int).getD p116.1.toNat 0) + ((x3.getD p111.2.1.toNat ((0, 0) : Int × Int)).2))) else p111.2.2.2.2.2.2.2.2.2.2.2.2.2.2.2.1), .int .i64 (bif p116.1 == 6 then (w64 ((([p111.2.2.2.2.2.2.2.2.2.2.1, p111.2.2.2.2.2.2.2.2.2.2.2.1, p111.2.2.2.2.2.2.2.2.2.2.2.2.1, p111.2.2.2.2.2.2.2.2.2.2.2.2.2.1, p111.2.2.2.2.2.2.2.2.2.2.2.2.2.2.1, p111.2.2.2.2.2.2.2.2.2.2.2.2.2.2.2.1, p111.2.2.2.2.2.2.2.2.2.2.2.2.2.2.2.2.1, p111.2.2.2.2.2.2.2.2.2.2.2.2.2.2.2.2.2] : List Int).getD p116.1.toNat 0) + ((x3.getD p111.2.1.toNat ((0, 0) : Int × Int)).2))) else p111.2.2.2.2.2.2.2.2.2.2.2.2.2.2.2.2.1), .int .i64 (bif p116.1 == 7 then (w64 ((([p111.2.2.2.2.2.2.2.2.2.2.1, p111.2.2.2.2.2.2.2.2.2.2.2.1, p111.2.2.2.2.2.2.2.2.2.2.2.2.1, p111.2.2.2.2.2.2.2.2.2.2.2.2.2.1, p111.2.2.2.2.2.2.2.2.2.2.2.2.2.2.1, p111.2.2.2.2.2.2.2.2.2.2.2.2.2.2.2.1, p111.2.2.2.2.2.2.2.2.2.2.2.2.2.2.2.2.1, p111.2.2.2.2.2.2.2.2.2.2.2.2.2.2.2.2.2] : List Int).getD p116.1.toNat 0) + ((x3.getD p111.2.1.toNat ((0, 0) : Int × Int)).2))) else p111.2.2.2.2.2.2.2.2.2.2.2.2.2.2.2.2.2)]) rfl sz3 (ev_sl e42) (ev_sl e40) rfl rfl rfl (S.free 0 rfl) (ble_arr hk121 rfl) ((arr_put (pre := ([.int .i64 (bif p116.1 == 0 then (w64 ((([p111.2.2.1, p111.2.2.2.1, p111.2.2.2.2.1, p111.2.2.2.2.2.1, p111.2.2.2.2.2.2.1, p111.2.2.2.2.2.2.2.1, p111.2.2.2.2.2.2.2.2.1, p111.2.2.2.2.2.2.2.2.2.1] : List Int).getD p116.1.toNat 0) + ((x3.getD p111.2.1.toNat ((0, 0) : Int × Int)).1))) else p111.2.2.1), .int .i64 (bif p116.1 == 1 then (w64 ((([p111.2.2.1, p111.2.2.2.1, p111.2.2.2.2.1, p111.2.2.2.2.2.1, p111.2.2.2.2.2.2.1, p111.2.2.2.2.2.2.2.1, p111.2.2.2.2.2.2.2.2.1, p111.2.2.2.2.2.2.2.2.2.1] : List Int).getD p116.1.toNat 0) + ((x3.getD p111.2.1.toNat ((0, 0) : Int × Int)).1))) else p111.2.2.2.1), .int .i64 (bif p116.1 == 2 then (w64 ((([p111.2.2.1, p111.2.2.2.1, p111.2.2.2.2.1, p111.2.2.2.2.2.1, p111.2.2.2.2.2.2.1, p111.2.2.2.2.2.2.2.1, p111.2.2.2.2.2.2.2.2.1, p111.2.2.2.2.2.2.2.2.2.1] : List Int).getD p116.1.toNat 0) + ((x3.getD p111.2.1.toNat ((0, 0) : Int × Int)).1))) else p111.2.2.2.2.1), .int .i64 (bif p116.1 == 3 then (w64 ((([p111.2.2.1, p111.2.2.2.1, p111.2.2.2.2.1, p111.2.2.2.2.2.1, p111.2.2.2.2.2.2.1, p111.2.2.2.2.2.2.2.1, p111.2.2.2.2.2.2.2.2.1, p111.2.2.2.2.2.2.2.2.2.1] : List Int).getD p116.1.toNat 0) + ((x3.getD p111.2.1.toNat ((0, 0) : Int × Int)).1))) else p111.2.2.2.2.2.1), .int .i64 (bif p116.1 == 4 then (w64 ((([p111.2.2.1, p111.2.2.2.1, p111.2.2.2.2.1, p111.2.2.2.2.2.1, p111.2.2.2.2.2.2.1, p111.2.2.2.2.2.2.2.1, p111.2.2.2.2.2.2.2.2.1, p111.2.2.2.2.2.2.2.2.2.1] : List Int).getD p116.1.toNat 0) + ((x3.getD p111.2.1.toNat ((0, 0) : Int × Int)).1))) else p111.2.2.2.2.2.2.1), .int .i64 (bif p116.1 == 5 then (w64 ((([p111.2.2.1, p111.2.2.2.1, p111.2.2.2.2.1, p111.2.2.2.2.2.1, p111.2.2.2.2.2.2.1, p111.2.2.2.2.2.2.2.1, p111.2.2.2.2.2.2.2.2.1, p111.2.2.2.2.2.2.2.2.2.1] : List Int).getD p116.1.toNat 0) + ((x3.getD p111.2.1.toNat ((0, 0) : Int × Int)).1))) else p111.2.2.2.2.2.2.2.1), .int .i64 (bif p116.1 == 6 then (w64 ((([p111.2.2.1, p111.2.2.2.1, p111.2.2.2.2.1, p111.2.2.2.2.2.1, p111.2.2.2.2.2.2.1, p111.2.2.2.2.2.2.2.1, p111.2.2.2.2.2.2.2.2.1, p111.2.2.2.2.2.2.2.2.2.1] : List Int).getD p116.1.toNat 0) + ((x3.getD p111.2.1.toNat ((0, 0) : Int × Int)).1))) else p111.2.2.2.2.2.2.2.2.1), .int .i64 (bif p116.1 == 7 then (w64 ((([p111.2.2.1, p111.2.2.2.1, p111.2.2.2.2.1, p111.2.2.2.2.2.1, p111.2.2.2.2.2.2.1, p111.2.2.2.2.2.2.2.1, p111.2.2.2.2.2.2.2.2.1, p111.2.2.2.2.2.2.2.2.2.1] : List Int).getD p116.1.toNat 0) + ((x3.getD p111.2.1.toNat ((0, 0) : Int × Int)).1))) else p111.2.2.2.2.2.2.2.2.2.1)] : List Value)) (post := ([] : List Value)) (l := ([p111.2.2.2.2.2.2.2.2.2.2.1, p111.2.2.2.2.2.2.2.2.2.2.2.1, p111.2.2.2.2.2.2.2.2.2.2.2.2.1, p111.2.2.2.2.2.2.2.2.2.2.2.2.2.1, p111.2.2.2.2.2.2.2.2.2.2.2.2.2.2.1, p111.2.2.2.2.2.2.2.2.2.2.2.2.2.2.2.1, p111.2.2.2.2.2.2.2.2.2.2.2.2.2.2.2.2.1, p111.2.2.2.2.2.2.2.2.2.2.2.2.2.2.2.2.2] : List Int)) (z := w64 ((([p111.2.2.2.2.2.2.2.2.2.2.1, p111.2.2.2.2.2.2.2.2.2.2.2.1, p111.2.2.2.2.2.2.2.2.2.2.2.2.1, p111.2.2.2.2.2.2.2.2.2.2.2.2.2.1, p111.2.2.2.2.2.2.2.2.2.2.2.2.2.2.1, p111.2.2.2.2.2.2.2.2.2.2.2.2.2.2.2.1, p111.2.2.2.2.2.2.2.2.2.2.2.2.2.2.2.2.1, p111.2.2.2.2.2.2.2.2.2.2.2.2.2.2.2.2.2] : List Int).getD p116.1.toNat 0) + ((x3.getD p111.2.1.toNat ((0, 0) : Int × Int)).2))) hk121 rfl).trans rfl), trivial, S.put 0 rfl (#[.int .i64 (bif p116.1 == 0 then (w64 ((([p111.2.2.1, p111.2.2.2.1, p111.2.2.2.2.1, p111.2.2.2.2.2.1, p111.2.2.2.2.2.2.1, p111.2.2.2.2.2.2.2.1, p111.2.2.2.2.2.2.2.2.1, p111.2.2.2.2.2.2.2.2.2.1] : List Int).getD p116.1.toNat 0) + ((x3.getD p111.2.1.toNat ((0, 0) : Int × Int)).1))) else p111.2.2.1), .int .i64 (bif p116.1 == 1 then (w64 ((([p111.2.2.1, p111.2.2.2.1, p111.2.2.2.2.1, p111.2.2.2.2.2.1, p111.2.2.2.2.2.2.1, p111.2.2.2.2.2.2.2.1, p111.2.2.2.2.2.2.2.2.1, p111.2.2.2.2.2.2.2.2.2.1] : List Int).getD p116.1.toNat 0) + ((x3.getD p111.2.1.toNat ((0, 0) : Int × Int)).1))) else p111.2.2.2.1), .int .i64 (bif p116.1 == 2 then (w64 ((([p111.2.2.1, p111.2.2.2.1, p111.2.2.2.2.1, p111.2.2.2.2.2.1, p111.2.2.2.2.2.2.1, p111.2.2.2.2.2.2.2.1, p111.2.2.2.2.2.2.2.2.1, p111.2.2.2.2.2.2.2.2.2.1] : List Int).getD p116.1.toNat 0) + ((x3.getD p111.2.1.toNat ((0, 0) : Int × Int)).1))) else p111.2.2.2.2.1), .int .i64 (bif p116.1 == 3 then (w64 ((([p111.2.2.1, p111.2.2.2.1, p111.2.2.2.2.1, p111.2.2.2.2.2.1, p111.2.2.2.2.2.2.1, p111.2.2.2.2.2.2.2.1, p111.2.2.2.2.2.2.2.2.1, p111.2.2.2.2.2.2.2.2.2.1] : List Int).getD p116.1.toNat 0) + ((x3.getD p111.2.1.toNat ((0, 0) : Int × Int)).1))) else p111.2.2.2.2.2.1), .int .i64 (bif p116.1 == 4 then (w64 ((([p111.2.2.1, p111.2.2.2.1, p111.2.2.2.2.1, p111.2.2.2.2.2.1, p111.2.2.2.2.2.2.1, p111.2.2.2.2.2.2.2.1, p111.2.2.2.2.2.2.2.2.1, p111.2.2.2.2.2.2.2.2.2.1] : List Int).getD p116.1.toNat 0) + ((x3.getD p111.2.1.toNat ((0, 0) : Int × Int)).1))) else p111.2.2.2.2.2.2.1), .int .i64 (bif p116.1 == 5 then (w64 ((([p111.2.2.1, p111.2.2.2.1, p111.2.2.2.2.1, p111.2.2.2.2.2.1, p111.2.2.2.2.2.2.1, p111.2.2.2.2.2.2.2.1, p111.2.2.2.2.2.2.2.2.1, p111.2.2.2.2.2.2.2.2.2.1] : List Int).getD p116.1.toNat 0) + ((x3.getD p111.2.1.toNat ((0, 0) : Int × Int)).1))) else p111.2.2.2.2.2.2.2.1), .int .i64 (bif p116.1 == 6 then (w64 ((([p111.2.2.1, p111.2.2.2.1, p111.2.2.2.2.1, p111.2.2.2.2.2.1, p111.2.2.2.2.2.2.1, p111.2.2.2.2.2.2.2.1, p111.2.2.2.2.2.2.2.2.1, p111.2.2.2.2.2.2.2.2.2.1] : List Int).getD p116.1.toNat 0) + ((x3.getD p111.2.1.toNat ((0, 0) : Int × Int)).1))) else p111.2.2.2.2.2.2.2.2.1), .int .i64 (bif p116.1 == 7 then (w64 ((([p111.2.2.1, p111.2.2.2.1, p111.2.2.2.2.1, p111.2.2.2.2.2.1, p111.2.2.2.2.2.2.1, p111.2.2.2.2.2.2.2.1, p111.2.2.2.2.2.2.2.2.1, p111.2.2.2.2.2.2.2.2.2.1] : List Int).getD p116.1.toNat 0) + ((x3.getD p111.2.1.toNat ((0, 0) : Int × Int)).1))) else p111.2.2.2.2.2.2.2.2.2.1), .int .i64 (bif p116.1 == 0 then (w64 ((([p111.2.2.2.2.2.2.2.2.2.2.1, p111.2.2.2.2.2.2.2.2.2.2.2.1, p111.2.2.2.2.2.2.2.2.2.2.2.2.1, p111.2.2.2.2.2.2.2.2.2.2.2.2.2.1, p111.2.2.2.2.2.2.2.2.2.2.2.2.2.2.1, p111.2.2.2.2.2.2.2.2.2.2.2.2.2.2.2.1, p111.2.2.2.2.2.2.2.2.2.2.2.2.2.2.2.2.1, p111.2.2.2.2.2.2.2.2.2.2.2.2.2.2.2.2.2] : List Int).getD p116.1.toNat 0) + ((x3.getD p111.2.1.toNat ((0, 0) : Int × Int)).2))) else p111.2.2.2.2.2.2.2.2.2.2.1), .int .i64 (bif p116.1 == 1 then (w64 ((([p111.2.2.2.2.2.2.2.2.2.2.1, p111.2.2.2.2.2.2.2.2.2.2.2.1, p111.2.2.2.2.2.2.2.2.2.2.2.2.1, p111.2.2.2.2.2.2.2.2.2.2.2.2.2.1, p111.2.2.2.2.2.2.2.2.2.2.2.2.2.2.1, p111.2.2.2.2.2.2.2.2.2.2.2.2.2.2.2.1, p111.2.2.2.2.2.2.2.2.2.2.2.2.2.2.2.2.1, p111.2.2.2.2.2.2.2.2.2.2.2.2.2.2.2.2.2] : List Int).getD p116.1.toNat 0) + ((x3.getD p111.2.1.toNat ((0, 0) : Int × Int)).2))) else p111.2.2.2.2.2.2.2.2.2.2.2.1), .int .i64 (bif p116.1 == 2 then (w64 ((([p111.2.2.2.2.2.2.2.2.2.2.1, p111.2.2.2.2.2.2.2.2.2.2.2.1, p111.2.2.2.2.2.2.2.2.2.2.2.2.1, p111.2.2.2.2.2.2.2.2.2.2.2.2.2.1, p111.2.2.2.2.2.2.2.2.2.2.2.2.2.2.1, p111.2.2.2.2.2.2.2.2.2.2.2.2.2.2.2.1, p111.2.2.2.2.2.2.2.2.2.2.2.2.2.2.2.2.1, p111.2.2.2.2.2.2.2.2.2.2.2.2.2.2.2.2.2] : List Int).getD p116.1.toNat 0) + ((x3.getD p111.2.1.toNat ((0, 0) : Int × Int)).2))) else p111.2.2.2.2.2.2.2.2.2.2.2.2.1), .int .i64 (bif p116.1 == 3 then (w64 ((([p111.2.2.2.2.2.2.2.2.2.2.1, p111.2.2.2.2.2.2.2.2.2.2.2.1, p111.2.2.2.2.2.2.2.2.2.2.2.2.1, p111.2.2.2.2.2.2.2.2.2.2.2.2.2.1, p111.2.2.2.2.2.2.2.2.2.2.2.2.2.2.1, p111.2.2.2.2.2.2.2.2.2.2.2.2.2.2.2.1, p111.2.2.2.2.2.2.2.2.2.2.2.2.2.2.2.2.1, p111.2.2.2.2.2.2.2.2.2.2.2.2.2.2.2.2.2] : List Int).getD p116.1.toNat 0) + ((x3.getD p111.2.1.toNat ((0, 0) : Int × Int)).2))) else p111.2.2.2.2.2.2.2.2.2.2.2.2.2.1), .int .i64 (bif p116.1 == 4 then (w64 ((([p111.2.2.2.2.2.2.2.2.2.2.1, p111.2.2.2.2.2.2.2.2.2.2.2.1, p111.2.2.2.2.2.2.2.2.2.2.2.2.1, p111.2.2.2.2.2.2.2.2.2.2.2.2.2.1, p111.2.2.2.2.2.2.2.2.2.2.2.2.2.2.1, p111.2.2.2.2.2.2.2.2.2.2.2.2.2.2.2.1, p111.2.2.2.2.2.2.2.2.2.2.2.2.2.2.2.2.1, p111.2.2.2.2.2.2.2.2.2.2.2.2.2.2.2.2.2] : List Int).getD p116.1.toNat 0) + ((x3.getD p111.2.1.toNat ((0, 0) : Int × Int)).2))) else p111.2.2.2.2.2.2.2.2.2.2.2.2.2.2.1), .int .i64 (bif p116.1 == 5 then (w64 ((([p111.2.2.2.2.2.2.2.2.2.2.1, p111.2.2.2.2.2.2.2.2.2.2.2.1, p111.2.2.2.2.2.2.2.2.2.2.2.2.1, p111.2.2.2.2.2.2.2.2.2.2.2.2.2.1, p111.2.2.2.2.2.2.2.2.2.2.2.2.2.2.1, p111.2.2.2.2.2.2.2.2.2.2.2.2.2.2.2.1, p111.2.2.2.2.2.2.2.2.2.2.2.2.2.2.2.2.1, p111.2.2.2.2.2.2.2.2.2.2.2.2.2.2.2.2.2] : List Int).getD p116.1.toNat 0) + ((x3.getD p111.2.1.toNat ((0, 0) : Int × Int)).2))) else p111.2.2.2.2.2.2.2.2.2.2.2.2.2.2.2.1), .int .i64 (bif p116.1 == 6 then (w64 ((([p111.2.2.2.2.2.2.2.2.2.2.1, p111.2.2.2.2.2.2.2.2.2.2.2.1, p111.2.2.2.2.2.2.2.2.2.2.2.2.1, p111.2.2.2.2.2.2.2.2.2.2.2.2.2.1, p111.2.2.2.2.2.2.2.2.2.2.2.2.2.2.1, p111.2.2.2.2.2.2.2.2.2.2.2.2.2.2.2.1, p111.2.2.2.2.2.2.2.2.2.2.2.2.2.2.2.2.1, p111.2.2.2.2.2.2.2.2.2.2.2.2.2.2.2.2.2] : List Int).getD p116.1.toNat 0) + ((x3.getD p111.2.1.toNat ((0, 0) : Int × Int)).2))) else p111.2.2.2.2.2.2.2.2.2.2.2.2.2.2.2.2.1), .int .i64 (bif p116.1 == 7 then (w64 ((([p111.2.2.2.2.2.2.2.2.2.2.1, p111.2.2.2.2.2.2.2.2.2.2.2.1, p111.2.2.2.2.2.2.2.2.2.2.2.2.1, p111.2.2.2.2.2.2.2.2.2.2.2.2.2.1, p111.2.2.2.2.2.2.2.2.2.2.2.2.2.2.1, p111.2.2.2.2.2.2.2.2.2.2.2.2.2.2.2.1, p111.2.2.2.2.2.2.2.2.2.2.2.2.2.2.2.2.1, p111.2.2.2.2.2.2.2.2.2.2.2.2.2.2.2.2.2] : List Int).getD p116.1.toNat 0) + ((x3.getD p111.2.1.toNat ((0, 0) : Int × Int)).2))) else p111.2.2.2.2.2.2.2.2.2.2.2.2.2.2.2.2.2)])⟩)
    intro a u hB hp S
    obtain ⟨q0, q1, q2, q3, q4, q5, q6, q7, q8, q9, -⟩ := hp
    have e34 : sl a 34 = .int .i64 p116.1 := q0
    have e35 : sl a 35 = .pointer (some ⟨g103, 8, none⟩) := q1
    have e36 : sl a 36 = .pointer (some ⟨g103, 8 + p116.1.toNat, none⟩) := q2
    have e37 : sl a 37 = .int .i64 (([p111.2.2.2.2.2.2.2.2.2.2.1, p111.2.2.2.2.2.2.2.2.2.2.2.1, p111.2.2.2.2.2.2.2.2.2.2.2.2.1, p111.2.2.2.2.2.2.2.2.2.2.2.2.2.1, p111.2.2.2.2.2.2.2.2.2.2.2.2.2.2.1, p111.2.2.2.2.2.2.2.2.2.2.2.2.2.2.2.1, p111.2.2.2.2.2.2.2.2.2.2.2.2.2.2.2.2.1, p111.2.2.2.2.2.2.2.2.2.2.2.2.2.2.2.2.2] : List Int).getD p116.1.toNat 0) := q3
    have e38 : sl a 38 = .pointer (some ⟨g115, 1, none⟩) := q4
    have e39 : sl a 39 = .int .i64 ((x3.getD p111.2.1.toNat ((0, 0) : Int × Int)).2) := q5
    have e40 : sl a 40 = .int .i64 (w64 ((([p111.2.2.2.2.2.2.2.2.2.2.1, p111.2.2.2.2.2.2.2.2.2.2.2.1, p111.2.2.2.2.2.2.2.2.2.2.2.2.1, p111.2.2.2.2.2.2.2.2.2.2.2.2.2.1, p111.2.2.2.2.2.2.2.2.2.2.2.2.2.2.1, p111.2.2.2.2.2.2.2.2.2.2.2.2.2.2.2.1, p111.2.2.2.2.2.2.2.2.2.2.2.2.2.2.2.2.1, p111.2.2.2.2.2.2.2.2.2.2.2.2.2.2.2.2.2] : List Int).getD p116.1.toNat 0) + ((x3.getD p111.2.1.toNat ((0, 0) : Int × Int)).2))) := q6
    have e41 : sl a 41 = .pointer (some ⟨g103, 8, none⟩) := q7
    have e42 : sl a 42 = .pointer (some ⟨g103, 8 + p116.1.toNat, none⟩) := q8
    replace S : St w u [.box g103 101 #[.int .i64 (bif p116.1 == 0 then (w64 ((([p111.2.2.1, p111.2.2.2.1, p111.2.2.2.2.1, p111.2.2.2.2.2.1, p111.2.2.2.2.2.2.1, p111.2.2.2.2.2.2.2.1, p111.2.2.2.2.2.2.2.2.1, p111.2.2.2.2.2.2.2.2.2.1] : List Int).getD p116.1.toNat 0) + ((x3.getD p111.2.1.toNat ((0, 0) : Int × Int)).1))) else p111.2.2.1), .int .i64 (bif p116.1 == 1 then (w64 ((([p111.2.2.1, p111.2.2.2.1, p111.2.2.2.2.1, p111.2.2.2.2.2.1, p111.2.2.2.2.2.2.1, p111.2.2.2.2.2.2.2.1, p111.2.2.2.2.2.2.2.2.1, p111.2.2.2.2.2.2.2.2.2.1] : List Int).getD p116.1.toNat 0) + ((x3.getD p111.2.1.toNat ((0, 0) : Int × Int)).1))) else p111.2.2.2.1), .int .i64 (bif p116.1 == 2 then (w64 ((([p111.2.2.1, p111.2.2.2.1, p111.2.2.2.2.1, p111.2.2.2.2.2.1, p111.2.2.2.2.2.2.1, p111.2.2.2.2.2.2.2.1, p111.2.2.2.2.2.2.2.2.1, p111.2.2.2.2.2.2.2.2.2.1] : List Int).getD p116.1.toNat 0) + ((x3.getD p111.2.1.toNat ((0, 0) : Int × Int)).1))) else p111.2.2.2.2.1), .int .i64 (bif p116.1 == 3 then (w64 ((([p111.2.2.1, p111.2.2.2.1, p111.2.2.2.2.1, p111.2.2.2.2.2.1, p111.2.2.2.2.2.2.1, p111.2.2.2.2.2.2.2.1, p111.2.2.2.2.2.2.2.2.1, p111.2.2.2.2.2.2.2.2.2.1] : List Int).getD p116.1.toNat 0) + ((x3.getD p111.2.1.toNat ((0, 0) : Int × Int)).1))) else p111.2.2.2.2.2.1), .int .i64 (bif p116.1 == 4 then (w64 ((([p111.2.2.1, p111.2.2.2.1, p111.2.2.2.2.1, p111.2.2.2.2.2.1, p111.2.2.2.2.2.2.1, p111.2.2.2.2.2.2.2.1, p111.2.2.2.2.2.2.2.2.1, p111.2.2.2.2.2.2.2.2.2.1] : List Int).getD p116.1.toNat 0) + ((x3.getD p111.2.1.toNat ((0, 0) : Int × Int)).1))) else p111.2.2.2.2.2.2.1), .int .i64 (bif p116.1 == 5 then (w64 ((([p111.2.2.1, p111.2.2.2.1, p111.2.2.2.2.1, p111.2.2.2.2.2.1, p111.2.2.2.2.2.2.1, p111.2.2.2.2.2.2.2.1, p111.2.2.2.2.2.2.2.2.1, p111.2.2.2.2.2.2.2.2.2.1] : List Int).getD p116.1.toNat 0) + ((x3.getD p111.2.1.toNat ((0, 0) : Int × Int)).1))) else p111.2.2.2.2.2.2.2.1), .int .i64 (bif p116.1 == 6 then (w64 ((([p111.2.2.1, p111.2.2.2.1, p111.2.2.2.2.1, p111.2.2.2.2.2.1, p111.2.2.2.2.2.2.1, p111.2.2.2.2.2.2.2.1, p111.2.2.2.2.2.2.2.2.1, p111.2.2.2.2.2.2.2.2.2.1] : List Int).getD p116.1.toNat 0) + ((x3.getD p111.2.1.toNat ((0, 0) : Int × Int)).1))) else p111.2.2.2.2.2.2.2.2.1), .int .i64 (bif p116.1 == 7 then (w64 ((([p111.2.2.1, p111.2.2.2.1, p111.2.2.2.2.1, p111.2.2.2.2.2.1, p111.2.2.2.2.2.2.1, p111.2.2.2.2.2.2.2.1, p111.2.2.2.2.2.2.2.2.1, p111.2.2.2.2.2.2.2.2.2.1] : List Int).getD p116.1.toNat 0) + ((x3.getD p111.2.1.toNat ((0, 0) : Int × Int)).1))) else p111.2.2.2.2.2.2.2.2.2.1), .int .i64 (bif p116.1 == 0 then (w64 ((([p111.2.2.2.2.2.2.2.2.2.2.1, p111.2.2.2.2.2.2.2.2.2.2.2.1, p111.2.2.2.2.2.2.2.2.2.2.2.2.1, p111.2.2.2.2.2.2.2.2.2.2.2.2.2.1, p111.2.2.2.2.2.2.2.2.2.2.2.2.2.2.1, p111.2.2.2.2.2.2.2.2.2.2.2.2.2.2.2.1, p111.2.2.2.2.2.2.2.2.2.2.2.2.2.2.2.2.1, p111.2.2.2.2.2.2.2.2.2.2.2.2.2.2.2.2.2] : List Int).getD p116.1.toNat 0) + ((x3.getD p111.2.1.toNat ((0, 0) : Int × Int)).2))) else p111.2.2.2.2.2.2.2.2.2.2.1), .int .i64 (bif p116.1 == 1 then (w64 ((([p111.2.2.2.2.2.2.2.2.2.2.1, p111.2.2.2.2.2.2.2.2.2.2.2.1, p111.2.2.2.2.2.2.2.2.2.2.2.2.1, p111.2.2.2.2.2.2.2.2.2.2.2.2.2.1, p111.2.2.2.2.2.2.2.2.2.2.2.2.2.2.1, p111.2.2.2.2.2.2.2.2.2.2.2.2.2.2.2.1, p111.2.2.2.2.2.2.2.2.2.2.2.2.2.2.2.2.1, p111.2.2.2.2.2.2.2.2.2.2.2.2.2.2.2.2.2] : List Int).getD p116.1.toNat 0) + ((x3.getD p111.2.1.toNat ((0, 0) : Int × Int)).2))) else p111.2.2.2.2.2.2.2.2.2.2.2.1), .int .i64 (bif p116.1 == 2 then (w64 ((([p111.2.2.2.2.2.2.2.2.2.2.1, p111.2.2.2.2.2.2.2.2.2.2.2.1, p111.2.2.2.2.2.2.2.2.2.2.2.2.1, p111.2.2.2.2.2.2.2.2.2.2.2.2.2.1, p111.2.2.2.2.2.2.2.2.2.2.2.2.2.2.1, p111.2.2.2.2.2.2.2.2.2.2.2.2.2.2.2.1, p111.2.2.2.2.2.2.2.2.2.2.2.2.2.2.2.2.1, p111.2.2.2.2.2.2.2.2.2.2.2.2.2.2.2.2.2] : List Int).getD p116.1.toNat 0) + ((x3.getD p111.2.1.toNat ((0, 0) : Int × Int)).2))) else p111.2.2.2.2.2.2.2.2.2.2.2.2.1), .int .i64 (bif p116.1 == 3 then (w64 ((([p111.2.2.2.2.2.2.2.2.2.2.1, p111.2.2.2.2.2.2.2.2.2.2.2.1, p111.2.2.2.2.2.2.2.2.2.2.2.2.1, p111.2.2.2.2.2.2.2.2.2.2.2.2.2.1, p111.2.2.2.2.2.2.2.2.2.2.2.2.2.2.1, p111.2.2.2.2.2.2.2.2.2.2.2.2.2.2.2.1, p111.2.2.2.2.2.2.2.2.2.2.2.2.2.2.2.2.1, p111.2.2.2.2.2.2.2.2.2.2.2.2.2.2.2.2.2] : List Int).getD p116.1.toNat 0) + ((x3.getD p111.2.1.toNat ((0, 0) : Int × Int)).2))) else p111.2.2.2.2.2.2.2.2.2.2.2.2.2.1), .int .i64 (bif p116.1 == 4 then (w64 ((([p111.2.2.2.2.2.2.2.2.2.2.1, p111.2.2.2.2.2.2.2.2.2.2.2.1, p111.2.2.2.2.2.2.2.2.2.2.2.2.1, p111.2.2.2.2.2.2.2.2.2.2.2.2.2.1, p111.2.2.2.2.2.2.2.2.2.2.2.2.2.2.1, p111.2.2.2.2.2.2.2.2.2.2.2.2.2.2.2.1, p111.2.2.2.2.2.2.2.2.2.2.2.2.2.2.2.2.1, p111.2.2.2.2.2.2.2.2.2.2.2.2.2.2.2.2.2] : List Int).getD p116.1.toNat 0) + ((x3.getD p111.2.1.toNat ((0, 0) : Int × Int)).2))) else p111.2.2.2.2.2.2.2.2.2.2.2.2.2.2.1), .int .i64 (bif p116.1 == 5 then (w64 ((([p111.2.2.2.2.2.2.2.2.2.2.1, p111.2.2.2.2.2.2.2.2.2.2.2.1, p111.2.2.2.2.2.2.2.2.2.2.2.2.1, p111.2.2.2.2.2.2.2.2.2.2.2.2.2.1, p111.2.2.2.2.2.2.2.2.2.2.2.2.2.2.1, p111.2.2.2.2.2.2.2.2.2.2.2.2.2.2.2.1, p111.2.2.2.2.2.2.2.2.2.2.2.2.2.2.2.2.1, p111.2.2.2.2.2.2.2.2.2.2.2.2.2.2.2.2.2] : List Int).getD p116.1.toNat 0) + ((x3.getD p111.2.1.toNat ((0, 0) : Int × Int)).2))) else p111.2.2.2.2.2.2.2.2.2.2.2.2.2.2.2.1), .int .i64 (bif p116.1 == 6 then (w64 ((([p111.2.2.2.2.2.2.2.2.2.2.1, p111.2.2.2.2.2.2.2.2.2.2.2.1, p111.2.2.2.2.2.2.2.2.2.2.2.2.1, p111.2.2.2.2.2.2.2.2.2.2.2.2.2.1, p111.2.2.2.2.2.2.2.2.2.2.2.2.2.2.1, p111.2.2.2.2.2.2.2.2.2.2.2.2.2.2.2.1, p111.2.2.2.2.2.2.2.2.2.2.2.2.2.2.2.2.1, p111.2.2.2.2.2.2.2.2.2.2.2.2.2.2.2.2.2] : List Int).getD p116.1.toNat 0) + ((x3.getD p111.2.1.toNat ((0, 0) : Int × Int)).2))) else p111.2.2.2.2.2.2.2.2.2.2.2.2.2.2.2.2.1), .int .i64 (bif p116.1 == 7 then (w64 ((([p111.2.2.2.2.2.2.2.2.2.2.1, p111.2.2.2.2.2.2.2.2.2.2.2.1, p111.2.2.2.2.2.2.2.2.2.2.2.2.1, p111.2.2.2.2.2.2.2.2.2.2.2.2.2.1, p111.2.2.2.2.2.2.2.2.2.2.2.2.2.2.1, p111.2.2.2.2.2.2.2.2.2.2.2.2.2.2.2.1, p111.2.2.2.2.2.2.2.2.2.2.2.2.2.2.2.2.1, p111.2.2.2.2.2.2.2.2.2.2.2.2.2.2.2.2.2] : List Int).getD p116.1.toNat 0) + ((x3.getD p111.2.1.toNat ((0, 0) : Int × Int)).2))) else p111.2.2.2.2.2.2.2.2.2.2.2.2.2.2.2.2.2)], .row 3 1 (.slice B105 p104.length d107) p104.length (p116.2.flatMap eI), .box g115 69 #[.int .i64 ((x3.getD p111.2.1.toNat ((0, 0) : Int × Int)).1), .int .i64 ((x3.getD p111.2.1.toNat ((0, 0) : Int × Int)).2)], .box g102 101 #[.int .i64 0, .int .i64 0, .int .i64 0, .int .i64 0, .int .i64 0, .int .i64 0, .int .i64 0, .int .i64 0, .int .i64 0, .int .i64 0, .int .i64 0, .int .i64 0, .int .i64 0, .int .i64 0, .int .i64 0, .int .i64 0]] := S
    clear q0 q1 q2 q3 q4 q5 q6 q7 q8 q9
    have hF := hF.region hB [(34, .int .i64 p116.1), (35, .pointer (some ⟨g103, 8, none⟩)), (36, .pointer (some ⟨g103, 8 + p116.1.toNat, none⟩)), (37, .int .i64 (([p111.2.2.2.2.2.2.2.2.2.2.1, p111.2.2.2.2.2.2.2.2.2.2.2.1, p111.2.2.2.2.2.2.2.2.2.2.2.2.1, p111.2.2.2.2.2.2.2.2.2.2.2.2.2.1, p111.2.2.2.2.2.2.2.2.2.2.2.2.2.2.1, p111.2.2.2.2.2.2.2.2.2.2.2.2.2.2.2.1, p111.2.2.2.2.2.2.2.2.2.2.2.2.2.2.2.2.1, p111.2.2.2.2.2.2.2.2.2.2.2.2.2.2.2.2.2] : List Int).getD p116.1.toNat 0)), (38, .pointer (some ⟨g115, 1, none⟩)), (39, .int .i64 ((x3.getD p111.2.1.toNat ((0, 0) : Int × Int)).2)), (40, .int .i64 (w64 ((([p111.2.2.2.2.2.2.2.2.2.2.1, p111.2.2.2.2.2.2.2.2.2.2.2.1, p111.2.2.2.2.2.2.2.2.2.2.2.2.1, p111.2.2.2.2.2.2.2.2.2.2.2.2.2.1, p111.2.2.2.2.2.2.2.2.2.2.2.2.2.2.1, p111.2.2.2.2.2.2.2.2.2.2.2.2.2.2.2.1, p111.2.2.2.2.2.2.2.2.2.2.2.2.2.2.2.2.1, p111.2.2.2.2.2.2.2.2.2.2.2.2.2.2.2.2.2] : List Int).getD p116.1.toNat 0) + ((x3.getD p111.2.1.toNat ((0, 0) : Int × Int)).2)))), (41, .pointer (some ⟨g103, 8, none⟩)), (42, .pointer (some ⟨g103, 8 + p116.1.toNat, none⟩))] (allSl_mem ⟨e34, e35, e36, e37, e38, e39, e40, e41, e42, trivial⟩) rfl
    clear hB e34 e35 e36 e37 e38 e39 e40 e41 e42
    revert a;refine rl (ov (v := .int .i64 (w64 (p111.2.1 + 1))) rfl rfl rfl (fun a hF=>run_add (z := w64 (p111.2.1 + 1)) (hF.ev rfl) rfl rfl rfl) (mv rfl rfl fun a hF=>wn ?_))
    exact ⟨f1, Nat.lt_succ_self _, (p116.2, w64 (p111.2.1 + 1), bif p116.1 == 0 then (w64 ((([p111.2.2.1, p111.2.2.2.1, p111.2.2.2.2.1, p111.2.2.2.2.2.1, p111.2.2.2.2.2.2.1, p111.2.2.2.2.2.2.2.1, p111.2.2.2.2.2.2.2.2.1, p111.2.2.2.2.2.2.2.2.2.1] : List Int).getD p116.1.toNat 0) + ((x3.getD p111.2.1.toNat ((0, 0) : Int × Int)).1))) else p111.2.2.1, bif p116.1 == 1 then (w64 ((([p111.2.2.1, p111.2.2.2.1, p111.2.2.2.2.1, p111.2.2.2.2.2.1, p111.2.2.2.2.2.2.1, p111.2.2.2.2.2.2.2.1, p111.2.2.2.2.2.2.2.2.1, p111.2.2.2.2.2.2.2.2.2.1] : List Int).getD p116.1.toNat 0) + ((x3.getD p111.2.1.toNat ((0, 0) : Int × Int)).1))) else p111.2.2.2.1, bif p116.1 == 2 then (w64 ((([p111.2.2.1, p111.2.2.2.1, p111.2.2.2.2.1, p111.2.2.2.2.2.1, p111.2.2.2.2.2.2.1, p111.2.2.2.2.2.2.2.1, p111.2.2.2.2.2.2.2.2.1, p111.2.2.2.2.2.2.2.2.2.1] : List Int).getD p116.1.toNat 0) + ((x3.getD p111.2.1.toNat ((0, 0) : Int × Int)).1))) else p111.2.2.2.2.1, bif p116.1 == 3 then (w64 ((([p111.2.2.1, p111.2.2.2.1, p111.2.2.2.2.1, p111.2.2.2.2.2.1, p111.2.2.2.2.2.2.1, p111.2.2.2.2.2.2.2.1, p111.2.2.2.2.2.2.2.2.1, p111.2.2.2.2.2.2.2.2.2.1] : List Int).getD p116.1.toNat 0) + ((x3.getD p111.2.1.toNat ((0, 0) : Int × Int)).1))) else p111.2.2.2.2.2.1, bif p116.1 == 4 then (w64 ((([p111.2.2.1, p111.2.2.2.1, p111.2.2.2.2.1, p111.2.2.2.2.2.1, p111.2.2.2.2.2.2.1, p111.2.2.2.2.2.2.2.1, p111.2.2.2.2.2.2.2.2.1, p111.2.2.2.2.2.2.2.2.2.1] : List Int).getD p116.1.toNat 0) + ((x3.getD p111.2.1.toNat ((0, 0) : Int × Int)).1))) else p111.2.2.2.2.2.2.1, bif p116.1 == 5 then (w64 ((([p111.2.2.1, p111.2.2.2.1, p111.2.2.2.2.1, p111.2.2.2.2.2.1, p111.2.2.2.2.2.2.1, p111.2.2.2.2.2.2.2.1, p111.2.2.2.2.2.2.2.2.1, p111.2.2.2.2.2.2.2.2.2.1] : List Int).getD p116.1.toNat 0) + ((x3.getD p111.2.1.toNat ((0, 0) : Int × Int)).1))) else p111.2.2.2.2.2.2.2.1, bif p116.1 == 6 then (w64 ((([p111.2.2.1, p111.2.2.2.1, p111.2.2.2.2.1, p111.2.2.2.2.2.1, p111.2.2.2.2.2.2.1, p111.2.2.2.2.2.2.2.1, p111.2.2.2.2.2.2.2.2.1, p111.2.2.2.2.2.2.2.2.2.1] : List Int).getD p116.1.toNat 0) + ((x3.getD p111.2.1.toNat ((0, 0) : Int × Int)).1))) else p111.2.2.2.2.2.2.2.2.1, bif p116.1 == 7 then (w64 ((([p111.2.2.1, p111.2.2.2.1, p111.2.2.2.2.1, p111.2.2.2.2.2.1, p111.2.2.2.2.2.2.1, p111.2.2.2.2.2.2.2.1, p111.2.2.2.2.2.2.2.2.1, p111.2.2.2.2.2.2.2.2.2.1] : List Int).getD p116.1.toNat 0) + ((x3.getD p111.2.1.toNat ((0, 0) : Int × Int)).1))) else p111.2.2.2.2.2.2.2.2.2.1, bif p116.1 == 0 then (w64 ((([p111.2.2.2.2.2.2.2.2.2.2.1, p111.2.2.2.2.2.2.2.2.2.2.2.1, p111.2.2.2.2.2.2.2.2.2.2.2.2.1, p111.2.2.2.2.2.2.2.2.2.2.2.2.2.1, p111.2.2.2.2.2.2.2.2.2.2.2.2.2.2.1, p111.2.2.2.2.2.2.2.2.2.2.2.2.2.2.2.1, p111.2.2.2.2.2.2.2.2.2.2.2.2.2.2.2.2.1, p111.2.2.2.2.2.2.2.2.2.2.2.2.2.2.2.2.2] : List Int).getD p116.1.toNat 0) + ((x3.getD p111.2.1.toNat ((0, 0) : Int × Int)).2))) else p111.2.2.2.2.2.2.2.2.2.2.1, bif p116.1 == 1 then (w64 ((([p111.2.2.2.2.2.2.2.2.2.2.1, p111.2.2.2.2.2.2.2.2.2.2.2.1, p111.2.2.2.2.2.2.2.2.2.2.2.2.1, p111.2.2.2.2.2.2.2.2.2.2.2.2.2.1, p111.2.2.2.2.2.2.2.2.2.2.2.2.2.2.1, p111.2.2.2.2.2.2.2.2.2.2.2.2.2.2.2.1, p111.2.2.2.2.2.2.2.2.2.2.2.2.2.2.2.2.1, p111.2.2.2.2.2.2.2.2.2.2.2.2.2.2.2.2.2] : List Int).getD p116.1.toNat 0) + ((x3.getD p111.2.1.toNat ((0, 0) : Int × Int)).2))) else p111.2.2.2.2.2.2.2.2.2.2.2.1, bif p116.1 == 2 then (w64 ((([p111.2.2.2.2.2.2.2.2.2.2.1, p111.2.2.2.2.2.2.2.2.2.2.2.1, p111.2.2.2.2.2.2.2.2.2.2.2.2.1, p111.2.2.2.2.2.2.2.2.2.2.2.2.2.1, p111.2.2.2.2.2.2.2.2.2.2.2.2.2.2.1, p111.2.2.2.2.2.2.2.2.2.2.2.2.2.2.2.1, p111.2.2.2.2.2.2.2.2.2.2.2.2.2.2.2.2.1, p111.2.2.2.2.2.2.2.2.2.2.2.2.2.2.2.2.2] : List Int).getD p116.1.toNat 0) + ((x3.getD p111.2.1.toNat ((0, 0) : Int × Int)).2))) else p111.2.2.2.2.2.2.2.2.2.2.2.2.1, bif p116.1 == 3 then (w64 ((([p111.2.2.2.2.2.2.2.2.2.2.1, p111.2.2.2.2.2.2.2.2.2.2.2.1, p111.2.2.2.2.2.2.2.2.2.2.2.2.1, p111.2.2.2.2.2.2.2.2.2.2.2.2.2.1, p111.2.2.2.2.2.2.2.2.2.2.2.2.2.2.1, p111.2.2.2.2.2.2.2.2.2.2.2.2.2.2.2.1, p111.2.2.2.2.2.2.2.2.2.2.2.2.2.2.2.2.1, p111.2.2.2.2.2.2.2.2.2.2.2.2.2.2.2.2.2] : List Int).getD p116.1.toNat 0) + ((x3.getD p111.2.1.toNat ((0, 0) : Int × Int)).2))) else p111.2.2.2.2.2.2.2.2.2.2.2.2.2.1, bif p116.1 == 4 then (w64 ((([p111.2.2.2.2.2.2.2.2.2.2.1, p111.2.2.2.2.2.2.2.2.2.2.2.1, p111.2.2.2.2.2.2.2.2.2.2.2.2.1, p111.2.2.2.2.2.2.2.2.2.2.2.2.2.1, p111.2.2.2.2.2.2.2.2.2.2.2.2.2.2.1, p111.2.2.2.2.2.2.2.2.2.2.2.2.2.2.2.1, p111.2.2.2.2.2.2.2.2.2.2.2.2.2.2.2.2.1, p111.2.2.2.2.2.2.2.2.2.2.2.2.2.2.2.2.2] : List Int).getD p116.1.toNat 0) + ((x3.getD p111.2.1.toNat ((0, 0) : Int × Int)).2))) else p111.2.2.2.2.2.2.2.2.2.2.2.2.2.2.1, bif p116.1 == 5 then (w64 ((([p111.2.2.2.2.2.2.2.2.2.2.1, p111.2.2.2.2.2.2.2.2.2.2.2.1, p111.2.2.2.2.2.2.2.2.2.2.2.2.1, p111.2.2.2.2.2.2.2.2.2.2.2.2.2.1, p111.2.2.2.2.2.2.2.2.2.2.2.2.2.2.1, p111.2.2.2.2.2.2.2.2.2.2.2.2.2.2.2.1, p111.2.2.2.2.2.2.2.2.2.2.2.2.2.2.2.2.1, p111.2.2.2.2.2.2.2.2.2.2.2.2.2.2.2.2.2] : List Int).getD p116.1.toNat 0) + ((x3.getD p111.2.1.toNat ((0, 0) : Int × Int)).2))) else p111.2.2.2.2.2.2.2.2.2.2.2.2.2.2.2.1, bif p116.1 == 6 then (w64 ((([p111.2.2.2.2.2.2.2.2.2.2.1, p111.2.2.2.2.2.2.2.2.2.2.2.1, p111.2.2.2.2.2.2.2.2.2.2.2.2.1, p111.2.2.2.2.2.2.2.2.2.2.2.2.2.1, p111.2.2.2.2.2.2.2.2.2.2.2.2.2.2.1, p111.2.2.2.2.2.2.2.2.2.2.2.2.2.2.2.1, p111.2.2.2.2.2.2.2.2.2.2.2.2.2.2.2.2.1, p111.2.2.2.2.2.2.2.2.2.2.2.2.2.2.2.2.2] : List Int).getD p116.1.toNat 0) + ((x3.getD p111.2.1.toNat ((0, 0) : Int × Int)).2))) else p111.2.2.2.2.2.2.2.2.2.2.2.2.2.2.2.2.1, bif p116.1 == 7 then (w64 ((([p111.2.2.2.2.2.2.2.2.2.2.1, p111.2.2.2.2.2.2.2.2.2.2.2.1, p111.2.2.2.2.2.2.2.2.2.2.2.2.1, p111.2.2.2.2.2.2.2.2.2.2.2.2.2.1, p111.2.2.2.2.2.2.2.2.2.2.2.2.2.2.1, p111.2.2.2.2.2.2.2.2.2.2.2.2.2.2.2.1, p111.2.2.2.2.2.2.2.2.2.2.2.2.2.2.2.2.1, p111.2.2.2.2.2.2.2.2.2.2.2.2.2.2.2.2.2] : List Int).getD p116.1.toNat 0) + ((x3.getD p111.2.1.toNat ((0, 0) : Int × Int)).2))) else p111.2.2.2.2.2.2.2.2.2.2.2.2.2.2.2.2.2), hM110, hn117, hF.keep _ ⟨rfl, rfl, rfl, rfl, rfl, rfl, trivial⟩, S.sel [0, 3, 1] rfl rfl⟩
  rintro a u ⟨p108, rfl, hF, S⟩
  revert a;refine sr (ov rfl rfl rfl (fun a hF=>run_loadN rfl ag101 (hF.ev rfl) rfl ((S.free 0 rfl).cells 0 #[.int .i64 p108.1, .int .i64 p108.2.1, .int .i64 p108.2.2.1, .int .i64 p108.2.2.2.1, .int .i64 p108.2.2.2.2.1, .int .i64 p108.2.2.2.2.2.1, .int .i64 p108.2.2.2.2.2.2.1, .int .i64 p108.2.2.2.2.2.2.2.1, .int .i64 p108.2.2.2.2.2.2.2.2.1, .int .i64 p108.2.2.2.2.2.2.2.2.2.1, .int .i64 p108.2.2.2.2.2.2.2.2.2.2.1, .int .i64 p108.2.2.2.2.2.2.2.2.2.2.2.1, .int .i64 p108.2.2.2.2.2.2.2.2.2.2.2.2.1, .int .i64 p108.2.2.2.2.2.2.2.2.2.2.2.2.2.1, .int .i64 p108.2.2.2.2.2.2.2.2.2.2.2.2.2.2.1, .int .i64 p108.2.2.2.2.2.2.2.2.2.2.2.2.2.2.2] rfl)) fun a hF=>?_)
  refine op_do rfl rfl (run_store (cs' := #[.int .i64 p108.1, .int .i64 p108.2.1, .int .i64 p108.2.2.1, .int .i64 p108.2.2.2.1, .int .i64 p108.2.2.2.2.1, .int .i64 p108.2.2.2.2.2.1, .int .i64 p108.2.2.2.2.2.2.1, .int .i64 p108.2.2.2.2.2.2.2.1, .int .i64 p108.2.2.2.2.2.2.2.2.1, .int .i64 p108.2.2.2.2.2.2.2.2.2.1, .int .i64 p108.2.2.2.2.2.2.2.2.2.2.1, .int .i64 p108.2.2.2.2.2.2.2.2.2.2.2.1, .int .i64 p108.2.2.2.2.2.2.2.2.2.2.2.2.1, .int .i64 p108.2.2.2.2.2.2.2.2.2.2.2.2.2.1, .int .i64 p108.2.2.2.2.2.2.2.2.2.2.2.2.2.2.1, .int .i64 p108.2.2.2.2.2.2.2.2.2.2.2.2.2.2.2]) rfl sz101 (hF.ev rfl) (hF.ev rfl) rfl rfl rfl (S.free 1 rfl) rfl rfl) ?_; replace S := S.put 1 rfl (#[.int .i64 p108.1, .int .i64 p108.2.1, .int .i64 p108.2.2.1, .int .i64 p108.2.2.2.1, .int .i64 p108.2.2.2.2.1, .int .i64 p108.2.2.2.2.2.1, .int .i64 p108.2.2.2.2.2.2.1, .int .i64 p108.2.2.2.2.2.2.2.1, .int .i64 p108.2.2.2.2.2.2.2.2.1, .int .i64 p108.2.2.2.2.2.2.2.2.2.1, .int .i64 p108.2.2.2.2.2.2.2.2.2.2.1, .int .i64 p108.2.2.2.2.2.2.2.2.2.2.2.1, .int .i64 p108.2.2.2.2.2.2.2.2.2.2.2.2.1, .int .i64 p108.2.2.2.2.2.2.2.2.2.2.2.2.2.1, .int .i64 p108.2.2.2.2.2.2.2.2.2.2.2.2.2.2.1, .int .i64 p108.2.2.2.2.2.2.2.2.2.2.2.2.2.2.2])
  generalize World.setRow _ _ _ = u at S ⊢
  refine wn ?_
  refine wp_ret ?_
  repeat with_reducible first|refine tr ?_|refine ir ?_|refine nr ?_
  refine ret1_gw (.inl rfl) hF rfl (res_cell (hF.ev rfl) (res_loadN ag101 rfl (S.cells 1 rfl 0 #[.int .i64 p108.1, .int .i64 p108.2.1, .int .i64 p108.2.2.1, .int .i64 p108.2.2.2.1, .int .i64 p108.2.2.2.2.1, .int .i64 p108.2.2.2.2.2.1, .int .i64 p108.2.2.2.2.2.2.1, .int .i64 p108.2.2.2.2.2.2.2.1, .int .i64 p108.2.2.2.2.2.2.2.2.1, .int .i64 p108.2.2.2.2.2.2.2.2.2.1, .int .i64 p108.2.2.2.2.2.2.2.2.2.2.1, .int .i64 p108.2.2.2.2.2.2.2.2.2.2.2.1, .int .i64 p108.2.2.2.2.2.2.2.2.2.2.2.2.1, .int .i64 p108.2.2.2.2.2.2.2.2.2.2.2.2.2.1, .int .i64 p108.2.2.2.2.2.2.2.2.2.2.2.2.2.2.1, .int .i64 p108.2.2.2.2.2.2.2.2.2.2.2.2.2.2.2] rfl))) ?_
  obtain rfl := Option.some.inj hM
  exact ⟨rfl, S.sel [] rfl rfl⟩
theorem c_impl_AliveBuses {x0 : Int} {x1 : List (Int × Int × Int)} {x2 : List Bool} {x3 : List (Int × Int)} {A1 : Option Addr} {n1 c1 : Nat} {A2 : Option Addr} {n2 c2 : Nat} {A3 : Option Addr} {n3 c3 : Nat} {w : World} {r : List Int} (h1 : Rt w 3 eLine A1 n1 c1 x1) (h2 : Rt w 1 eB A2 n2 c2 x2) (h3 : Rt w 2 eBus A3 n3 c3 x3) (hM : m_impl_AliveBuses x0 x1 x2 x3 = some r) :
    Calls Try.prog 37 #[.agg #[.int .i64 x0, .slice A1 n1 c1], .slice A2 n2 c2, .slice A3 n3 c3] w (fun e w' => ∃ (B0 : Option Addr) (N0 D0 : Nat), e = .returned (.slice B0 N0 D0) ∧ N0 = r.length ∧ St w w' [.row 3 1 (.slice B0 N0 D0) N0 (r.flatMap eI)]) := by
  obtain rfl := h1.len
  obtain rfl := h2.len
  obtain rfl := h3.len
  unfold m_impl_AliveBuses at hM
  refine calls_gw Try.func37 Try.ntmps37 rfl [(0, .agg #[.int .i64 x0, .slice A1 x1.length c1]), (1, .slice A2 x2.length c2), (2, .slice A3 x3.length c3)] ⟨rfl, rfl, rfl, trivial⟩ rfl ?_
  intro a hF
  have S := St.nil w
  refine wsg ?_
  refine op_new (cs := #[.int .i64 x0, .slice A1 x1.length c1]) rfl rfl hF rfl S (run_box rfl (hF.ev rfl) rfl) ?_; clear hF S; intro a g101 u hF S
  refine op_val (v := .slice none 0 0) rfl rfl hF rfl (run_assign rfl rfl) ?_;clear hF;intro a hF
  refine wn ?_
  refine ws ?_
  revert a;refine sr (ov rfl rfl rfl (fun a hF=>run_loadN rfl ag37 (hF.ev rfl) rfl ((S.free 0 rfl).cells 0 #[.int .i64 x0, .slice A1 x1.length c1] rfl)) (mv rfl rfl (mv rfl rfl fun a hF=>?_)))
  obtain ⟨p102, h102, hM⟩ := bind_ex hM
  refine op_call rfl rfl hF rfl (run_call (vs := [.agg #[.int .i64 x0, .slice A1 x1.length c1], .slice A2 x2.length c2, .slice A3 x3.length c3]) rfl rfl co63 ⟨(hF.ev rfl), (hF.ev rfl), (hF.ev rfl), trivial⟩) (c_impl_fedValid (x0 := x0) (x1 := x1) (x2 := x2) (x3 := x3) ⟨(S.rc0 h1.rc), rfl⟩ ⟨(S.rc0 h2.rc), rfl⟩ ⟨(S.rc0 h3.rc), rfl⟩ h102) ?_
  rintro e u ⟨rfl, T⟩
  refine ⟨_, rfl, ?_⟩
  clear hF; intro a hF
  replace S := S.call0 T; clear T
  refine op_val (v := .bool (!p102)) rfl rfl hF rfl (run_not rfl (hF.ev rfl)) ?_;clear hF;intro a hF
  refine wn ?_
  cases hc103 : (p102)
  · replace hM := bif_f hc103 hM
    refine cond_t hF rfl (not_t hc103) ?_
    revert a;refine sr (ov (v := .slice none 0 0) rfl rfl rfl (fun a hF=>run_assign rfl rfl) fun a hF=>wn ?_)
    refine wp_ret ?_
    repeat with_reducible first|refine tr ?_|refine ir ?_|refine nr ?_
    refine ret1_gw (.inl rfl) hF rfl (res_tmp (hF.ev rfl)) ?_
    obtain rfl := Option.some.inj hM
    replace S := S.nilrow 3 1
    exact ⟨none, 0, 0, rfl, rfl, S.sel [0] rfl rfl⟩
  replace hM := bif_t hc103 hM
  refine cond_f hF rfl (not_f hc103) ?_
  refine wp_skip ?_
  refine ws ?_
  obtain ⟨p104, h104, hM⟩ := bind_ex hM
  obtain ⟨p108, h108, hM⟩ := bind_ex hM
  refine region_gw (D := [16, 17, 18, 19, 20, 21, 22, 8, 7]) (Lr := [.box g101 37 #[.int .i64 x0, .slice A1 x1.length c1]]) (deps := (fun | 0 => [16] | 1 => [17] | 2 => [18] | 3 => [19] | 4 => [20] | 5 => [21] | 6 => [22] | 7 => [8] | 8 => [7, 18] | 9 => [8] | _ => [])) (rd := (fun _ => [])) (zr := (fun _ => []))
    (φ := fun i vs => match i, vs with | 0, [v16] => v16 = .agg #[.int .i64 x0, .slice A1 x1.length c1] | 1, [v17] => v17 = .slice A2 x2.length c2 | 2, [v18] => v18 = .slice (slA v18) p104.length (slC v18) | 3, [v19] => v19 = .agg #[.int .i64 x0, .slice A1 x1.length c1] | 4, [v20] => v20 = .slice A2 x2.length c2 | 5, [v21] => v21 = .slice A3 x3.length c3 | 6, [v22] => v22 = .agg #[.int .i64 p108.1, .int .i64 p108.2.1, .int .i64 p108.2.2.1, .int .i64 p108.2.2.2.1, .int .i64 p108.2.2.2.2.1, .int .i64 p108.2.2.2.2.2.1, .int .i64 p108.2.2.2.2.2.2.1, .int .i64 p108.2.2.2.2.2.2.2.1, .int .i64 p108.2.2.2.2.2.2.2.2.1, .int .i64 p108.2.2.2.2.2.2.2.2.2.1, .int .i64 p108.2.2.2.2.2.2.2.2.2.2.1, .int .i64 p108.2.2.2.2.2.2.2.2.2.2.2.1, .int .i64 p108.2.2.2.2.2.2.2.2.2.2.2.2.1, .int .i64 p108.2.2.2.2.2.2.2.2.2.2.2.2.2.1, .int .i64 p108.2.2.2.2.2.2.2.2.2.2.2.2.2.2.1, .int .i64 p108.2.2.2.2.2.2.2.2.2.2.2.2.2.2.2] | 7, [v8] => v8 = .pointer (some ⟨ptB v8, 0, none⟩) | 8, [v7, v18] => v7 = .slice (slA v18) p104.length (slC v18) | _, _ => True)
    (C := fun i vs => match i, vs with | 2, [v18] => [.row 3 1 (.slice (slA v18) p104.length (slC v18)) p104.length (p104.flatMap eI)] | 7, [v8] => [.box (ptB v8) 101 #[.int .i64 0, .int .i64 0, .int .i64 0, .int .i64 0, .int .i64 0, .int .i64 0, .int .i64 0, .int .i64 0, .int .i64 0, .int .i64 0, .int .i64 0, .int .i64 0, .int .i64 0, .int .i64 0, .int .i64 0, .int .i64 0]] | 9, [v8] => [.box (ptB v8) 101 #[.int .i64 p108.1, .int .i64 p108.2.1, .int .i64 p108.2.2.1, .int .i64 p108.2.2.2.1, .int .i64 p108.2.2.2.2.1, .int .i64 p108.2.2.2.2.2.1, .int .i64 p108.2.2.2.2.2.2.1, .int .i64 p108.2.2.2.2.2.2.2.1, .int .i64 p108.2.2.2.2.2.2.2.2.1, .int .i64 p108.2.2.2.2.2.2.2.2.2.1, .int .i64 p108.2.2.2.2.2.2.2.2.2.2.1, .int .i64 p108.2.2.2.2.2.2.2.2.2.2.2.1, .int .i64 p108.2.2.2.2.2.2.2.2.2.2.2.2.1, .int .i64 p108.2.2.2.2.2.2.2.2.2.2.2.2.2.1, .int .i64 p108.2.2.2.2.2.2.2.2.2.2.2.2.2.2.1, .int .i64 p108.2.2.2.2.2.2.2.2.2.2.2.2.2.2.2]] | _, _ => [])
    (κ := (fun | 7 => some 9 | _ => none)) (Z := (fun _ => [])) mixed hF (by kernel_rfl) S ?_ ?_
  · refine ⟨?_, ?_, ?_, ?_, ?_, ?_, ?_, ?_, ?_, ?_, trivial⟩
    · intro a u X hB hu hp hr hz hl S
      replace S : St w u ([] ++ X) := S
      exact .inl ⟨rfl, .agg #[.int .i64 x0, .slice A1 x1.length c1], u, (run_loadN rfl ag37 (hF.evB hB rfl rfl) rfl ((gr_box S hl 0 rfl).cells 0 #[.int .i64 x0, .slice A1 x1.length c1] rfl)), rfl, S⟩
    · intro a u X hB hu hp hr hz hl S
      replace S : St w u ([] ++ X) := S
      exact .inl ⟨rfl, .slice A2 x2.length c2, u, (run_move rfl (hF.evB hB rfl rfl)), rfl, S⟩
    · intro a u X hB hu hp hr hz hl S
      replace S : St w u ([] ++ X) := S
      have e16 : sl a 16 = .agg #[.int .i64 x0, .slice A1 x1.length c1] := hp 0 rfl
      have e17 : sl a 17 = .slice A2 x2.length c2 := hp 1 rfl
      refine .inr (.inr (.inl ⟨rfl, _, _, (run_call (vs := [.agg #[.int .i64 x0, .slice A1 x1.length c1], .slice A2 x2.length c2]) rfl rfl co64 ⟨(ev_sl e16), (ev_sl e17), trivial⟩), ?_⟩))
      refine Calls.mono (c_impl_unionOf (x0 := x0) (x1 := x1) (x2 := x2) ⟨(S.rc0 h1.rc), rfl⟩ ⟨(S.rc0 h2.rc), rfl⟩ h104) ?_
      rintro e w1 ⟨B105, n106, d107, rfl, rfl, T⟩
      exact ⟨_, rfl, rfl, S.call1 T⟩
    · intro a u X hB hu hp hr hz hl S
      replace S : St w u ([] ++ X) := S
      exact .inl ⟨rfl, .agg #[.int .i64 x0, .slice A1 x1.length c1], u, (run_loadN rfl ag37 (hF.evB hB rfl rfl) rfl ((gr_box S hl 0 rfl).cells 0 #[.int .i64 x0, .slice A1 x1.length c1] rfl)), rfl, S⟩
    · intro a u X hB hu hp hr hz hl S
      replace S : St w u ([] ++ X) := S
      exact .inl ⟨rfl, .slice A2 x2.length c2, u, (run_move rfl (hF.evB hB rfl rfl)), rfl, S⟩
    · intro a u X hB hu hp hr hz hl S
      replace S : St w u ([] ++ X) := S
      exact .inl ⟨rfl, .slice A3 x3.length c3, u, (run_move rfl (hF.evB hB rfl rfl)), rfl, S⟩
    · intro a u X hB hu hp hr hz hl S
      replace S : St w u ([] ++ X) := S
      have e19 : sl a 19 = .agg #[.int .i64 x0, .slice A1 x1.length c1] := hp 3 rfl
      have e20 : sl a 20 = .slice A2 x2.length c2 := hp 4 rfl
      have e21 : sl a 21 = .slice A3 x3.length c3 := hp 5 rfl
      refine .inr (.inr (.inl ⟨rfl, _, _, (run_call (vs := [.agg #[.int .i64 x0, .slice A1 x1.length c1], .slice A2 x2.length c2, .slice A3 x3.length c3]) rfl rfl co65 ⟨(ev_sl e19), (ev_sl e20), (ev_sl e21), trivial⟩), ?_⟩))
      refine Calls.mono (c_impl_sumsOf (x0 := x0) (x1 := x1) (x2 := x2) (x3 := x3) ⟨(S.rc0 h1.rc), rfl⟩ ⟨(S.rc0 h2.rc), rfl⟩ ⟨(S.rc0 h3.rc), rfl⟩ h108) ?_
      rintro e w1 ⟨rfl, T⟩
      exact ⟨_, rfl, rfl, S.call0 T⟩
    · intro a u X hB hu hp hr hz hl S
      replace S : St w u ([] ++ X) := S
      exact .inl ⟨rfl, _, _, (run_allocZ rfl zr101), rfl, S.alloc _ _⟩
    · intro a u X hB hu hp hr hz hl S
      replace S : St w u ([] ++ X) := S
      have e18 : sl a 18 = .slice (slA (sl a 18)) p104.length (slC (sl a 18)) := hp 2 rfl
      exact .inl ⟨rfl, .slice (slA (sl a 18)) p104.length (slC (sl a 18)), u, (run_assign rfl (ev_sl e18)), rfl, S⟩
    intro a u X hB hu hp hr hz hl S
    replace S : St w u ([.box (ptB (sl a 8)) 101 #[.int .i64 0, .int .i64 0, .int .i64 0, .int .i64 0, .int .i64 0, .int .i64 0, .int .i64 0, .int .i64 0, .int .i64 0, .int .i64 0, .int .i64 0, .int .i64 0, .int .i64 0, .int .i64 0, .int .i64 0, .int .i64 0]] ++ X) := S
    have e8 : sl a 8 = .pointer (some ⟨ptB (sl a 8), 0, none⟩) := hp 7 rfl
    have e22 : sl a 22 = .agg #[.int .i64 p108.1, .int .i64 p108.2.1, .int .i64 p108.2.2.1, .int .i64 p108.2.2.2.1, .int .i64 p108.2.2.2.2.1, .int .i64 p108.2.2.2.2.2.1, .int .i64 p108.2.2.2.2.2.2.1, .int .i64 p108.2.2.2.2.2.2.2.1, .int .i64 p108.2.2.2.2.2.2.2.2.1, .int .i64 p108.2.2.2.2.2.2.2.2.2.1, .int .i64 p108.2.2.2.2.2.2.2.2.2.2.1, .int .i64 p108.2.2.2.2.2.2.2.2.2.2.2.1, .int .i64 p108.2.2.2.2.2.2.2.2.2.2.2.2.1, .int .i64 p108.2.2.2.2.2.2.2.2.2.2.2.2.2.1, .int .i64 p108.2.2.2.2.2.2.2.2.2.2.2.2.2.2.1, .int .i64 p108.2.2.2.2.2.2.2.2.2.2.2.2.2.2.2] := hp 6 rfl
    exact .inr (.inl ⟨rfl, _, run_store (cs' := #[.int .i64 p108.1, .int .i64 p108.2.1, .int .i64 p108.2.2.1, .int .i64 p108.2.2.2.1, .int .i64 p108.2.2.2.2.1, .int .i64 p108.2.2.2.2.2.1, .int .i64 p108.2.2.2.2.2.2.1, .int .i64 p108.2.2.2.2.2.2.2.1, .int .i64 p108.2.2.2.2.2.2.2.2.1, .int .i64 p108.2.2.2.2.2.2.2.2.2.1, .int .i64 p108.2.2.2.2.2.2.2.2.2.2.1, .int .i64 p108.2.2.2.2.2.2.2.2.2.2.2.1, .int .i64 p108.2.2.2.2.2.2.2.2.2.2.2.2.1, .int .i64 p108.2.2.2.2.2.2.2.2.2.2.2.2.2.1, .int .i64 p108.2.2.2.2.2.2.2.2.2.2.2.2.2.2.1, .int .i64 p108.2.2.2.2.2.2.2.2.2.2.2.2.2.2.2]) rfl sz101 (ev_sl e8) (ev_sl e22) rfl rfl rfl (S.free 0 rfl) rfl rfl, trivial, S.put 0 rfl (#[.int .i64 p108.1, .int .i64 p108.2.1, .int .i64 p108.2.2.1, .int .i64 p108.2.2.2.1, .int .i64 p108.2.2.2.2.1, .int .i64 p108.2.2.2.2.2.1, .int .i64 p108.2.2.2.2.2.2.1, .int .i64 p108.2.2.2.2.2.2.2.1, .int .i64 p108.2.2.2.2.2.2.2.2.1, .int .i64 p108.2.2.2.2.2.2.2.2.2.1, .int .i64 p108.2.2.2.2.2.2.2.2.2.2.1, .int .i64 p108.2.2.2.2.2.2.2.2.2.2.2.1, .int .i64 p108.2.2.2.2.2.2.2.2.2.2.2.2.1, .int .i64 p108.2.2.2.2.2.2.2.2.2.2.2.2.2.1, .int .i64 p108.2.2.2.2.2.2.2.2.2.2.2.2.2.2.1, .int .i64 p108.2.2.2.2.2.2.2.2.2.2.2.2.2.2.2])⟩)
  intro a u hB hp S
  obtain ⟨q0, q1, q2, q3, q4, q5, q6, q7, q8, q9, -⟩ := hp
  have e16 : sl a 16 = .agg #[.int .i64 x0, .slice A1 x1.length c1] := q0
  have e17 : sl a 17 = .slice A2 x2.length c2 := q1
  have e18 : sl a 18 = .slice (slA (sl a 18)) p104.length (slC (sl a 18)) := q2
  have e19 : sl a 19 = .agg #[.int .i64 x0, .slice A1 x1.length c1] := q3
  have e20 : sl a 20 = .slice A2 x2.length c2 := q4
  have e21 : sl a 21 = .slice A3 x3.length c3 := q5
  have e22 : sl a 22 = .agg #[.int .i64 p108.1, .int .i64 p108.2.1, .int .i64 p108.2.2.1, .int .i64 p108.2.2.2.1, .int .i64 p108.2.2.2.2.1, .int .i64 p108.2.2.2.2.2.1, .int .i64 p108.2.2.2.2.2.2.1, .int .i64 p108.2.2.2.2.2.2.2.1, .int .i64 p108.2.2.2.2.2.2.2.2.1, .int .i64 p108.2.2.2.2.2.2.2.2.2.1, .int .i64 p108.2.2.2.2.2.2.2.2.2.2.1, .int .i64 p108.2.2.2.2.2.2.2.2.2.2.2.1, .int .i64 p108.2.2.2.2.2.2.2.2.2.2.2.2.1, .int .i64 p108.2.2.2.2.2.2.2.2.2.2.2.2.2.1, .int .i64 p108.2.2.2.2.2.2.2.2.2.2.2.2.2.2.1, .int .i64 p108.2.2.2.2.2.2.2.2.2.2.2.2.2.2.2] := q6
  have e8 : sl a 8 = .pointer (some ⟨ptB (sl a 8), 0, none⟩) := q7
  have e7 : sl a 7 = .slice (slA (sl a 18)) p104.length (slC (sl a 18)) := q8
  replace S : St w u [.row 3 1 (.slice (slA (sl a 18)) p104.length (slC (sl a 18))) p104.length (p104.flatMap eI), .box (ptB (sl a 8)) 101 #[.int .i64 p108.1, .int .i64 p108.2.1, .int .i64 p108.2.2.1, .int .i64 p108.2.2.2.1, .int .i64 p108.2.2.2.2.1, .int .i64 p108.2.2.2.2.2.1, .int .i64 p108.2.2.2.2.2.2.1, .int .i64 p108.2.2.2.2.2.2.2.1, .int .i64 p108.2.2.2.2.2.2.2.2.1, .int .i64 p108.2.2.2.2.2.2.2.2.2.1, .int .i64 p108.2.2.2.2.2.2.2.2.2.2.1, .int .i64 p108.2.2.2.2.2.2.2.2.2.2.2.1, .int .i64 p108.2.2.2.2.2.2.2.2.2.2.2.2.1, .int .i64 p108.2.2.2.2.2.2.2.2.2.2.2.2.2.1, .int .i64 p108.2.2.2.2.2.2.2.2.2.2.2.2.2.2.1, .int .i64 p108.2.2.2.2.2.2.2.2.2.2.2.2.2.2.2], .box g101 37 #[.int .i64 x0, .slice A1 x1.length c1]] := S
  clear q0 q1 q2 q3 q4 q5 q6 q7 q8 q9
  generalize slA (sl a 18) = B109 at *
  generalize slC (sl a 18) = d110 at *
  generalize ptB (sl a 8) = g111 at *
  have hF := hF.region hB [(16, .agg #[.int .i64 x0, .slice A1 x1.length c1]), (17, .slice A2 x2.length c2), (18, .slice B109 p104.length d110), (19, .agg #[.int .i64 x0, .slice A1 x1.length c1]), (20, .slice A2 x2.length c2), (21, .slice A3 x3.length c3), (22, .agg #[.int .i64 p108.1, .int .i64 p108.2.1, .int .i64 p108.2.2.1, .int .i64 p108.2.2.2.1, .int .i64 p108.2.2.2.2.1, .int .i64 p108.2.2.2.2.2.1, .int .i64 p108.2.2.2.2.2.2.1, .int .i64 p108.2.2.2.2.2.2.2.1, .int .i64 p108.2.2.2.2.2.2.2.2.1, .int .i64 p108.2.2.2.2.2.2.2.2.2.1, .int .i64 p108.2.2.2.2.2.2.2.2.2.2.1, .int .i64 p108.2.2.2.2.2.2.2.2.2.2.2.1, .int .i64 p108.2.2.2.2.2.2.2.2.2.2.2.2.1, .int .i64 p108.2.2.2.2.2.2.2.2.2.2.2.2.2.1, .int .i64 p108.2.2.2.2.2.2.2.2.2.2.2.2.2.2.1, .int .i64 p108.2.2.2.2.2.2.2.2.2.2.2.2.2.2.2]), (8, .pointer (some ⟨g111, 0, none⟩)), (7, .slice B109 p104.length d110)] (allSl_mem ⟨e16, e17, e18, e19, e20, e21, e22, e8, e7, trivial⟩) rfl
  clear hB e16 e17 e18 e19 e20 e21 e22 e8 e7
  revert a;refine sr (ov (v := .slice none 0 0) rfl rfl rfl (fun a hF=>run_assign rfl rfl) fun a hF=>wn ?_)
  refine ws ?_
  revert a;refine sr (mv rfl rfl (ov rfl rfl rfl (fun a hF=>run_lenL rfl rfl Try.underlying38 (hF.ev rfl)) (ov (v := .int .i64 0) rfl rfl rfl (fun a hF=>run_move rfl rfl) fun a hF=>wn ?_)))
  obtain ⟨o113, hM116, hM⟩ := bind_ex hM
  refine wp_cut (fun a u => ∃ (p112 : List Int) (B114 : Option Addr) (d115 : Nat), p112 = o113 ∧ Fr a 41 [(6, .slice none 0 0), (9, .slice B114 p112.length d115)] ∧ St w u [.row 3 1 (.slice B114 p112.length d115) p112.length (p112.flatMap eI)]) ?_ ?_
  · have _ := trivial
    refine wp_block ?_
    replace S := S.nilrow 3 1
    refine loop_gw (fun m a u => ∃ (p117 : List Int × List Int × Int) (B119 : Option Addr) (d120 : Nat), m_impl_AliveBuses_l1 x3 p108 m p117 = some _ ∧ p104.length = p117.1.length ∧ Fr a 41 [(6, .slice none 0 0), (7, .slice B109 p104.length d110), (8, .pointer (some ⟨g111, 0, none⟩)), (9, .slice B119 p117.2.1.length d120), (24, .int .i64 (x3.length : Int)), (25, .int .i64 p117.2.2)] ∧ St w u [.box g111 101 #[.int .i64 p108.1, .int .i64 p108.2.1, .int .i64 p108.2.2.1, .int .i64 p108.2.2.2.1, .int .i64 p108.2.2.2.2.1, .int .i64 p108.2.2.2.2.2.1, .int .i64 p108.2.2.2.2.2.2.1, .int .i64 p108.2.2.2.2.2.2.2.1, .int .i64 p108.2.2.2.2.2.2.2.2.1, .int .i64 p108.2.2.2.2.2.2.2.2.2.1, .int .i64 p108.2.2.2.2.2.2.2.2.2.2.1, .int .i64 p108.2.2.2.2.2.2.2.2.2.2.2.1, .int .i64 p108.2.2.2.2.2.2.2.2.2.2.2.2.1, .int .i64 p108.2.2.2.2.2.2.2.2.2.2.2.2.2.1, .int .i64 p108.2.2.2.2.2.2.2.2.2.2.2.2.2.2.1, .int .i64 p108.2.2.2.2.2.2.2.2.2.2.2.2.2.2.2], .row 3 1 (.slice B109 p104.length d110) p104.length (p117.1.flatMap eI), .row 3 1 (.slice B119 p117.2.1.length d120) p117.2.1.length (p117.2.1.flatMap eI)]) FUEL ⟨(p104, ([] : List Int), 0), none, 0, hM116, rfl, hF.keep _ ⟨rfl, rfl, rfl, rfl, rfl, rfl, trivial⟩, S.sel [2, 1, 0] rfl rfl⟩ ?_
    clear hF S hM116; rintro m a u ⟨p117, B119, d120, hM116, hn118, hF, S⟩
    rcases m with _ | f1
    · exact none_some hM116
    rw [m_impl_AliveBuses_l1.eq_2] at hM116
    revert a;refine sr (ov (v := .bool (ltB p117.2.2 (x3.length : Int))) rfl rfl rfl (fun a hF=>run_lss (hF.ev rfl) (hF.ev rfl) rfl) fun a hF=>wn ?_)
    refine ws ?_
    cases hc121 : (ltB p117.2.2 (x3.length : Int))
    · replace hM116 := bif_f hc121 hM116
      refine cond_f hF rfl hc121 ?_
      refine wp_exit ?_
      repeat with_reducible (first | refine then_exit ?_ | refine in_hit ?_ | refine in_miss rfl ?_)
      obtain rfl := Option.some.inj hM116
      exact ⟨p117.2.1, B119, d120, rfl, hF.keep _ ⟨rfl, rfl, trivial⟩, S.sel [2] rfl rfl⟩
    replace hM116 := bif_t hc121 hM116
    refine cond_t hF rfl hc121 ?_
    refine wp_skip ?_
    refine ws ?_
    refine wp_block ?_
    revert a;refine sr (mv rfl rfl (ag rfl rfl fun a hF=>wn ?_))
    revert a;refine sr (mv rfl rfl (mv rfl rfl fun a hF=>?_))
    obtain ⟨p122, h122, hM116⟩ := bind_ex hM116
    refine op_call rfl rfl hF rfl (run_call (vs := [.slice B109 p104.length d110, .int .i64 p117.2.2]) rfl rfl co66 ⟨(hF.ev rfl), (hF.ev rfl), trivial⟩) (c_impl_union_find (x0 := p117.1) (x1 := p117.2.2) hn118 (show St w _ [.row 3 1 (.slice B109 p104.length d110) p104.length (p117.1.flatMap eI), .box g111 101 #[.int .i64 p108.1, .int .i64 p108.2.1, .int .i64 p108.2.2.1, .int .i64 p108.2.2.2.1, .int .i64 p108.2.2.2.2.1, .int .i64 p108.2.2.2.2.2.1, .int .i64 p108.2.2.2.2.2.2.1, .int .i64 p108.2.2.2.2.2.2.2.1, .int .i64 p108.2.2.2.2.2.2.2.2.1, .int .i64 p108.2.2.2.2.2.2.2.2.2.1, .int .i64 p108.2.2.2.2.2.2.2.2.2.2.1, .int .i64 p108.2.2.2.2.2.2.2.2.2.2.2.1, .int .i64 p108.2.2.2.2.2.2.2.2.2.2.2.2.1, .int .i64 p108.2.2.2.2.2.2.2.2.2.2.2.2.2.1, .int .i64 p108.2.2.2.2.2.2.2.2.2.2.2.2.2.2.1, .int .i64 p108.2.2.2.2.2.2.2.2.2.2.2.2.2.2.2], .row 3 1 (.slice B119 p117.2.1.length d120) p117.2.1.length (p117.2.1.flatMap eI)] from S.sel [1, 0, 2] rfl rfl) h122) ?_
    rintro e u ⟨rfl, hn123, T⟩
    refine ⟨_, rfl, ?_⟩
    clear hF; intro a hF
    clear S; have S := T; clear T
    refine op_val (v := .pointer (some ⟨g111, 0, none⟩)) rfl rfl hF rfl (run_fieldAddr rfl fl101_0 (hF.ev rfl) rfl) ?_;clear hF;intro a hF
    obtain ⟨hk124, hM116⟩ := chk_ex hM116
    replace hk124 := ixB_t hk124
    revert a;refine ov (v := .pointer (some ⟨g111, 0 + p122.1.toNat, none⟩)) rfl rfl rfl (fun a hF=>run_indexArrP rfl Try.underlying99 sz3 (hF.ev rfl) (hF.ev rfl) hk124) (ov (v := .int .i64 (([p108.1, p108.2.1, p108.2.2.1, p108.2.2.2.1, p108.2.2.2.2.1, p108.2.2.2.2.2.1, p108.2.2.2.2.2.2.1, p108.2.2.2.2.2.2.2.1] : List Int).getD p122.1.toNat 0)) rfl rfl rfl (fun a hF=>run_load1 rfl one3 (hF.ev rfl) (arr_cell (S.free 1 rfl) ([p108.1, p108.2.1, p108.2.2.1, p108.2.2.2.1, p108.2.2.2.2.1, p108.2.2.2.2.2.1, p108.2.2.2.2.2.2.1, p108.2.2.2.2.2.2.2.1] : List Int) rfl hk124 rfl)) (ov (v := .bool (ltB 0 (([p108.1, p108.2.1, p108.2.2.1, p108.2.2.2.1, p108.2.2.2.2.1, p108.2.2.2.2.2.1, p108.2.2.2.2.2.2.1, p108.2.2.2.2.2.2.2.1] : List Int).getD p122.1.toNat 0))) rfl rfl rfl (fun a hF=>run_gtr (hF.ev rfl) rfl rfl) fun a hF=>wn ?_))
    obtain ⟨o126, hM129, hM116⟩ := bind_ex hM116
    refine wp_cut (fun a u => ∃ (p125 : List Int) (B127 : Option Addr) (d128 : Nat), p125 = o126 ∧ Fr a 41 [(6, .slice none 0 0), (7, .slice B109 p104.length d110), (8, .pointer (some ⟨g111, 0, none⟩)), (9, .slice B127 p125.length d128), (24, .int .i64 (x3.length : Int)), (25, .int .i64 p117.2.2)] ∧ St w u [.box g111 101 #[.int .i64 p108.1, .int .i64 p108.2.1, .int .i64 p108.2.2.1, .int .i64 p108.2.2.2.1, .int .i64 p108.2.2.2.2.1, .int .i64 p108.2.2.2.2.2.1, .int .i64 p108.2.2.2.2.2.2.1, .int .i64 p108.2.2.2.2.2.2.2.1, .int .i64 p108.2.2.2.2.2.2.2.2.1, .int .i64 p108.2.2.2.2.2.2.2.2.2.1, .int .i64 p108.2.2.2.2.2.2.2.2.2.2.1, .int .i64 p108.2.2.2.2.2.2.2.2.2.2.2.1, .int .i64 p108.2.2.2.2.2.2.2.2.2.2.2.2.1, .int .i64 p108.2.2.2.2.2.2.2.2.2.2.2.2.2.1, .int .i64 p108.2.2.2.2.2.2.2.2.2.2.2.2.2.2.1, .int .i64 p108.2.2.2.2.2.2.2.2.2.2.2.2.2.2.2], .row 3 1 (.slice B109 p104.length d110) p104.length (p122.2.flatMap eI), .row 3 1 (.slice B127 p125.length d128) p125.length (p125.flatMap eI)]) ?_ ?_
    · have _ := trivial
      cases hc130 : (ltB 0 (([p108.1, p108.2.1, p108.2.2.1, p108.2.2.2.1, p108.2.2.2.2.1, p108.2.2.2.2.2.1, p108.2.2.2.2.2.2.1, p108.2.2.2.2.2.2.2.1] : List Int).getD p122.1.toNat 0))
      · replace hM129 := bif_f hc130 hM129
        refine cond_f hF rfl hc130 ?_
        refine wp_skip ?_
        obtain rfl := Option.some.inj hM129
        exact ⟨p117.2.1, B119, d120, rfl, hF.keep _ ⟨rfl, rfl, rfl, rfl, rfl, rfl, trivial⟩, S.sel [1, 0, 2] rfl rfl⟩
      replace hM129 := bif_t hc130 hM129
      refine cond_t hF rfl hc130 ?_
      revert a;refine rl (mv rfl rfl (mv rfl rfl fun a hF=>?_))
      refine op_newrowL (ls := (([p117.2.2] : List Int) : List Int)) (e := eI) rfl rfl hF rfl S (run_buildS (vs := [(0, .int .i64 p117.2.2)]) rfl ⟨⟨rfl, (hF.ev rfl)⟩, trivial⟩ (bs30_1_0 rfl)) rfl eI_len (Nat.le_of_ble_eq_true rfl) ?_; clear hF S; intro a g131 u hF S
      obtain ⟨hk134, hM129⟩ := chk_ex hM129
      replace hk134 := apB_t hk134
      refine op_appendL (lx := p117.2.1) (ly := ([p117.2.2] : List Int)) rfl rfl hF rfl S rfl (hF.ev rfl) (hF.ev rfl) (i := 3) rfl rfl Try.underlying30 inf3 rfl (by decide) (S.rc 0 rfl).rd rfl eI_one hk134 (by decide) ?_; clear hF S; intro a B132 d133 u hF S
      refine op_val (v := .slice B132 ((p117.2.1 ++ ([p117.2.2] : List Int)).length) d133) rfl rfl hF rfl (run_assign rfl (hF.ev rfl)) ?_;clear hF;intro a hF
      refine wn ?_
      obtain rfl := Option.some.inj hM129
      exact ⟨p117.2.1 ++ ([p117.2.2] : List Int), B132, d133, rfl, hF.keep _ ⟨rfl, rfl, rfl, rfl, rfl, rfl, trivial⟩, S.sel [2, 1, 3] rfl rfl⟩
    rintro a u ⟨p125, B127, d128, rfl, hF, S⟩
    revert a;refine rl (ov (v := .int .i64 (w64 (p117.2.2 + 1))) rfl rfl rfl (fun a hF=>run_add (z := w64 (p117.2.2 + 1)) (hF.ev rfl) rfl rfl rfl) (mv rfl rfl fun a hF=>wn ?_))
    exact ⟨f1, Nat.lt_succ_self _, (p122.2, p125, w64 (p117.2.2 + 1)), B127, d128, hM116, hn123, hF.keep _ ⟨rfl, rfl, rfl, rfl, rfl, rfl, trivial⟩, S.sel [0, 1, 2] rfl rfl⟩
  rintro a u ⟨p112, B114, d115, rfl, hF, S⟩
  revert a;refine sr (mv rfl rfl (ag rfl rfl fun a hF=>wn ?_))
  refine wp_ret ?_
  repeat with_reducible first|refine tr ?_|refine ir ?_|refine nr ?_
  refine ret1_gw (.inl rfl) hF rfl (res_tmp (hF.ev rfl)) ?_
  obtain rfl := Option.some.inj hM
  exact ⟨B114, p112.length, d115, rfl, rfl, S.sel [0] rfl rfl⟩
theorem c_slices_Index_int_int {x0 : List Int} {x1 : Int} {A0 : Option Addr} {n0 c0 : Nat} {w : World} {r : Int} (h0 : Rt w 1 eI A0 n0 c0 x0) (hM : m_slices_Index_int_int x0 x1 = some r) :
    Calls Try.prog 67 #[.slice A0 n0 c0, .int .i64 x1] w (fun e w' => e = .returned (.int .i64 r) ∧ St w w' []) := by
  obtain rfl := h0.len
  unfold m_slices_Index_int_int at hM
  refine calls_gw Try.func67 Try.ntmps67 rfl [(0, .slice A0 x0.length c0), (1, .int .i64 x1)] ⟨rfl, rfl, trivial⟩ rfl ?_
  intro a hF
  have S := St.nil w
  revert a;refine sr (ov (v := .int .i64 0) rfl rfl rfl (fun a hF=>run_assign rfl rfl) fun a hF=>wn ?_)
  refine ws ?_
  revert a;refine sr (mv rfl rfl (ov rfl rfl rfl (fun a hF=>run_lenL rfl rfl Try.underlying30 (hF.ev rfl)) (ov (v := .int .i64 0) rfl rfl rfl (fun a hF=>run_move rfl rfl) fun a hF=>wn ?_)))
  obtain ⟨o102, hM103, hM⟩ := bind_ex hM
  refine wp_cut (fun a u => ∃ (p101 : Unit), (Sum.inl p101) = o102 ∧ Fr a 19 [(4, .int .i64 0)] ∧ St w u []) ?_ ?_
  · have _ := trivial
    refine wp_block ?_
    refine loop_gw (fun m a u => ∃ (p104 : Int), m_slices_Index_int_int_l1 x0 x1 m p104 = some _ ∧ Fr a 19 [(0, .slice A0 x0.length c0), (1, .int .i64 x1), (4, .int .i64 0), (7, .int .i64 (x0.length : Int)), (8, .int .i64 p104)] ∧ St w u []) FUEL ⟨0, hM103, hF.keep _ ⟨rfl, rfl, rfl, rfl, rfl, trivial⟩, S.sel [] rfl rfl⟩ ?_
    clear hF S hM103; rintro m a u ⟨p104, hM103, hF, S⟩
    rcases m with _ | f1
    · exact none_some hM103
    rw [m_slices_Index_int_int_l1.eq_2] at hM103
    revert a;refine sr (ov (v := .bool (ltB p104 (x0.length : Int))) rfl rfl rfl (fun a hF=>run_lss (hF.ev rfl) (hF.ev rfl) rfl) fun a hF=>wn ?_)
    refine ws ?_
    cases hc105 : (ltB p104 (x0.length : Int))
    · replace hM103 := bif_f hc105 hM103
      refine cond_f hF rfl hc105 ?_
      refine wp_exit ?_
      repeat with_reducible (first | refine then_exit ?_ | refine in_hit ?_ | refine in_miss rfl ?_)
      obtain rfl := Option.some.inj hM103
      exact ⟨(), rfl, hF.keep _ ⟨rfl, trivial⟩, S.sel [] rfl rfl⟩
    replace hM103 := bif_t hc105 hM103
    refine cond_t hF rfl hc105 ?_
    refine wp_skip ?_
    refine ws ?_
    refine wp_block ?_
    revert a;refine sr (mv rfl rfl (ag rfl rfl fun a hF=>wn ?_))
    revert a;refine sr (mv rfl rfl (mv rfl rfl (mv rfl rfl fun a hF=>?_)))
    obtain ⟨hk106, hM103⟩ := chk_ex hM103
    replace hk106 := ixB_t hk106
    revert a;refine ov rfl rfl rfl (fun a hF=>run_indexAddr (b := adB A0) (off := adO A0) rfl Try.underlying30 sz3 ((hF.ev rfl).trans (congrArg (fun A => Value.slice A x0.length c0) ((S.rc0 h0.rc).rd.ad (ix_pos hk106)))) (hF.ev rfl) hk106.1 hk106.2 (k' := adO A0 + p104.toNat * 1) rfl) (ov (v := .int .i64 (x0.getD p104.toNat (0 : Int))) rfl rfl rfl (fun a hF=>run_load1 rfl one3 (hF.ev rfl) (rd_el0 (l := x0) (S.rc0 h0.rc).rd rfl eI_len (0 : Int) (ix_ltn hk106 rfl) rfl)) (ov (v := .bool (x1 == (x0.getD p104.toNat (0 : Int)))) rfl rfl rfl (fun a hF=>run_eql (hF.ev rfl) (hF.ev rfl) rfl) fun a hF=>wn ?_))
    cases hc107 : (x1 == (x0.getD p104.toNat (0 : Int)))
    · replace hM103 := bif_f hc107 hM103
      refine cond_f hF rfl hc107 ?_
      refine wp_skip ?_
      revert a;refine rl (ov (v := .int .i64 (w64 (p104 + 1))) rfl rfl rfl (fun a hF=>run_add (z := w64 (p104 + 1)) (hF.ev rfl) rfl rfl rfl) (mv rfl rfl fun a hF=>wn ?_))
      exact ⟨f1, Nat.lt_succ_self _, w64 (p104 + 1), hM103, hF.keep _ ⟨rfl, rfl, rfl, rfl, rfl, trivial⟩, S.sel [] rfl rfl⟩
    replace hM103 := bif_t hc107 hM103
    refine cond_t hF rfl hc107 ?_
    revert a;refine sr (mv rfl rfl (ag rfl rfl fun a hF=>wn ?_))
    refine wp_ret ?_
    repeat with_reducible first|refine tr ?_|refine ir ?_|refine nr ?_
    refine ret1_gw (.inl rfl) hF rfl (res_tmp (hF.ev rfl)) ?_
    obtain rfl := Option.some.inj hM103
    obtain rfl := Option.some.inj hM
    exact ⟨rfl, S.sel [] rfl rfl⟩
  rintro a u ⟨p101, rfl, hF, S⟩
  replace hM := elim_l hM
  revert a;refine sr (ov (v := .int .i64 (-1)) rfl rfl rfl (fun a hF=>run_assign rfl rfl) fun a hF=>wn ?_)
  refine wp_ret ?_
  repeat with_reducible first|refine tr ?_|refine ir ?_|refine nr ?_
  refine ret1_gw (.inl rfl) hF rfl (res_tmp (hF.ev rfl)) ?_
  obtain rfl := Option.some.inj hM
  exact ⟨rfl, S.sel [] rfl rfl⟩
theorem c_slices_Contains_int_int {x0 : List Int} {x1 : Int} {A0 : Option Addr} {n0 c0 : Nat} {w : World} {r : Bool} (h0 : Rt w 1 eI A0 n0 c0 x0) (hM : m_slices_Contains_int_int x0 x1 = some r) :
    Calls Try.prog 38 #[.slice A0 n0 c0, .int .i64 x1] w (fun e w' => e = .returned (.bool r) ∧ St w w' []) := by
  obtain rfl := h0.len
  unfold m_slices_Contains_int_int at hM
  refine calls_gw Try.func38 Try.ntmps38 rfl [(0, .slice A0 x0.length c0), (1, .int .i64 x1)] ⟨rfl, rfl, trivial⟩ rfl ?_
  intro a hF
  have S := St.nil w
  revert a;refine sr (ov (v := .bool false) rfl rfl rfl (fun a hF=>run_assign rfl rfl) fun a hF=>wn ?_)
  revert a;refine sr (mv rfl rfl (mv rfl rfl fun a hF=>?_))
  obtain ⟨p101, h101, hM⟩ := bind_ex hM
  refine op_call rfl rfl hF rfl (run_call (vs := [.slice A0 x0.length c0, .int .i64 x1]) rfl rfl co67 ⟨(hF.ev rfl), (hF.ev rfl), trivial⟩) (c_slices_Index_int_int (x0 := x0) (x1 := x1) ⟨(S.rc0 h0.rc), rfl⟩ h101) ?_
  rintro e u ⟨rfl, T⟩
  refine ⟨_, rfl, ?_⟩
  clear hF; intro a hF
  replace S := S.call0 T; clear T
  revert a;refine ov (v := .bool (leB 0 p101)) rfl rfl rfl (fun a hF=>run_geq (hF.ev rfl) rfl rfl) (ag rfl rfl fun a hF=>wn ?_)
  refine wp_ret ?_
  repeat with_reducible first|refine tr ?_|refine ir ?_|refine nr ?_
  refine ret1_gw (.inl rfl) hF rfl (res_tmp (hF.ev rfl)) ?_
  obtain rfl := Option.some.inj hM
  exact ⟨rfl, S.sel [] rfl rfl⟩
theorem c_impl_WorldDark {x0 : Int} {x1 : List (Int × Int × Int)} {x2 : List (Int × Int)} {x3 : List Bool} {x4 : List Bool} {x5 : List (Int × Int)} {x6 : List Int} {A1 : Option Addr} {n1 c1 : Nat} {A2 : Option Addr} {n2 c2 : Nat} {A3 : Option Addr} {n3 c3 : Nat} {A4 : Option Addr} {n4 c4 : Nat} {A5 : Option Addr} {n5 c5 : Nat} {A6 : Option Addr} {n6 c6 : Nat} {w : World} {r : List Int} (h1 : Rt w 3 eLine A1 n1 c1 x1) (h2 : Rt w 2 eBus A2 n2 c2 x2) (h3 : Rt w 1 eB A3 n3 c3 x3) (h4 : Rt w 1 eB A4 n4 c4 x4) (h5 : Rt w 2 ePermit A5 n5 c5 x5) (h6 : Rt w 1 eI A6 n6 c6 x6) (hM : m_impl_WorldDark x0 x1 x2 x3 x4 x5 x6 = some r) :
    Calls Try.prog 11 #[.agg #[.int .i64 x0, .slice A1 n1 c1, .slice A2 n2 c2, .slice A3 n3 c3, .slice A4 n4 c4, .slice A5 n5 c5, .slice A6 n6 c6]] w (fun e w' => ∃ (B0 : Option Addr) (N0 D0 : Nat), e = .returned (.slice B0 N0 D0) ∧ N0 = r.length ∧ St w w' [.row 3 1 (.slice B0 N0 D0) N0 (r.flatMap eI)]) := by
  obtain rfl := h1.len
  obtain rfl := h2.len
  obtain rfl := h3.len
  obtain rfl := h4.len
  obtain rfl := h5.len
  obtain rfl := h6.len
  unfold m_impl_WorldDark at hM
  refine calls_gw Try.func11 Try.ntmps11 rfl [(0, .agg #[.int .i64 x0, .slice A1 x1.length c1, .slice A2 x2.length c2, .slice A3 x3.length c3, .slice A4 x4.length c4, .slice A5 x5.length c5, .slice A6 x6.length c6])] ⟨rfl, trivial⟩ rfl ?_
  intro a hF
  have S := St.nil w
  refine wsg ?_
  refine op_new (cs := #[.int .i64 x0, .slice A1 x1.length c1, .slice A2 x2.length c2, .slice A3 x3.length c3, .slice A4 x4.length c4, .slice A5 x5.length c5, .slice A6 x6.length c6]) rfl rfl hF rfl S (run_box rfl (hF.ev rfl) rfl) ?_; clear hF S; intro a g101 u hF S
  refine op_val (v := .slice none 0 0) rfl rfl hF rfl (run_assign rfl rfl) ?_;clear hF;intro a hF
  refine wn ?_
  refine ws ?_
  revert a;refine sr (ov rfl rfl rfl (fun a hF=>run_loadN rfl ag43 (hF.ev rfl) rfl ((S.free 0 rfl).cells 0 #[.int .i64 x0, .slice A1 x1.length c1, .slice A2 x2.length c2, .slice A3 x3.length c3, .slice A4 x4.length c4, .slice A5 x5.length c5, .slice A6 x6.length c6] rfl)) fun a hF=>?_)
  obtain ⟨p102, h102, hM⟩ := bind_ex hM
  refine op_call rfl rfl hF rfl (run_call (vs := [.agg #[.int .i64 x0, .slice A1 x1.length c1, .slice A2 x2.length c2, .slice A3 x3.length c3, .slice A4 x4.length c4, .slice A5 x5.length c5, .slice A6 x6.length c6]]) rfl rfl co8 ⟨(hF.ev rfl), trivial⟩) (c_impl_WorldValid (x0 := x0) (x1 := x1) (x2 := x2) (x3 := x3) (x4 := x4) (x5 := x5) (x6 := x6) ⟨(S.rc0 h1.rc), rfl⟩ ⟨(S.rc0 h2.rc), rfl⟩ ⟨(S.rc0 h3.rc), rfl⟩ ⟨(S.rc0 h4.rc), rfl⟩ ⟨(S.rc0 h5.rc), rfl⟩ ⟨(S.rc0 h6.rc), rfl⟩ h102) ?_
  rintro e u ⟨rfl, T⟩
  refine ⟨_, rfl, ?_⟩
  clear hF; intro a hF
  replace S := S.call0 T; clear T
  refine op_val (v := .bool (!p102)) rfl rfl hF rfl (run_not rfl (hF.ev rfl)) ?_;clear hF;intro a hF
  refine wn ?_
  cases hc103 : (p102)
  · replace hM := bif_f hc103 hM
    refine cond_t hF rfl (not_t hc103) ?_
    revert a;refine sr (ov (v := .slice none 0 0) rfl rfl rfl (fun a hF=>run_assign rfl rfl) fun a hF=>wn ?_)
    refine wp_ret ?_
    repeat with_reducible first|refine tr ?_|refine ir ?_|refine nr ?_
    refine ret1_gw (.inl rfl) hF rfl (res_tmp (hF.ev rfl)) ?_
    obtain rfl := Option.some.inj hM
    replace S := S.nilrow 3 1
    exact ⟨none, 0, 0, rfl, rfl, S.sel [0] rfl rfl⟩
  replace hM := bif_t hc103 hM
  refine cond_f hF rfl (not_f hc103) ?_
  refine wp_skip ?_
  revert a;refine sr (ov (v := .pointer (some ⟨g101, 0, none⟩)) rfl rfl rfl (fun a hF=>run_fieldAddr rfl fl43_0 (hF.ev rfl) rfl) (ov rfl rfl rfl (fun a hF=>run_loadN rfl ag37 (hF.ev rfl) rfl ((S.free 0 rfl).cells 0 #[.int .i64 x0, .slice A1 x1.length c1] rfl)) (ov (v := .pointer (some ⟨g101, 3, none⟩)) rfl rfl rfl (fun a hF=>run_fieldAddr rfl fl43_2 (hF.ev rfl) rfl) (ov (v := .pointer (some ⟨g101, 3, none⟩)) rfl rfl rfl (fun a hF=>run_fieldAddr rfl fl41_0 (hF.ev rfl) rfl) (ov (v := .slice A3 x3.length c3) rfl rfl rfl (fun a hF=>run_load1 rfl one26 (hF.ev rfl) ((S.free 0 rfl).cell rfl)) (ov (v := .pointer (some ⟨g101, 2, none⟩)) rfl rfl rfl (fun a hF=>run_fieldAddr rfl fl43_1 (hF.ev rfl) rfl) (ov (v := .slice A2 x2.length c2) rfl rfl rfl (fun a hF=>run_load1 rfl one38 (hF.ev rfl) ((S.free 0 rfl).cell rfl)) fun a hF=>?_)))))))
  obtain ⟨p104, h104, hM⟩ := bind_ex hM
  refine op_call rfl rfl hF rfl (run_call (vs := [.agg #[.int .i64 x0, .slice A1 x1.length c1], .slice A3 x3.length c3, .slice A2 x2.length c2]) rfl rfl co37 ⟨(hF.ev rfl), (hF.ev rfl), (hF.ev rfl), trivial⟩) (c_impl_AliveBuses (x0 := x0) (x1 := x1) (x2 := x3) (x3 := x2) ⟨(S.rc0 h1.rc), rfl⟩ ⟨(S.rc0 h3.rc), rfl⟩ ⟨(S.rc0 h2.rc), rfl⟩ h104) ?_
  rintro e u ⟨B105, n106, d107, rfl, rfl, T⟩
  refine ⟨_, rfl, ?_⟩
  clear hF; intro a hF
  replace S := S.call1 T; clear T
  refine op_val (v := .slice B105 p104.length d107) rfl rfl hF rfl (run_assign rfl (hF.ev rfl)) ?_;clear hF;intro a hF
  refine wn ?_
  revert a;refine sr (ov (v := .slice none 0 0) rfl rfl rfl (fun a hF=>run_assign rfl rfl) fun a hF=>wn ?_)
  refine ws ?_
  revert a;refine sr (ov (v := .pointer (some ⟨g101, 2, none⟩)) rfl rfl rfl (fun a hF=>run_fieldAddr rfl fl43_1 (hF.ev rfl) rfl) (ov (v := .slice A2 x2.length c2) rfl rfl rfl (fun a hF=>run_load1 rfl one38 (hF.ev rfl) ((S.free 1 rfl).cell rfl)) (ov rfl rfl rfl (fun a hF=>run_lenL rfl rfl Try.underlying38 (hF.ev rfl)) (ov (v := .int .i64 0) rfl rfl rfl (fun a hF=>run_move rfl rfl) fun a hF=>wn ?_))))
  obtain ⟨o109, hM112, hM⟩ := bind_ex hM
  refine wp_cut (fun a u => ∃ (p108 : List Int) (B110 : Option Addr) (d111 : Nat), p108 = o109 ∧ Fr a 41 [(2, .slice none 0 0), (4, .slice B110 p108.length d111)] ∧ St w u [.row 3 1 (.slice B110 p108.length d111) p108.length (p108.flatMap eI)]) ?_ ?_
  · have _ := trivial
    refine wp_block ?_
    replace S := S.nilrow 3 1
    refine loop_gw (fun m a u => ∃ (p113 : List Int × Int) (B114 : Option Addr) (d115 : Nat), m_impl_WorldDark_l1 x2 p104 m p113 = some _ ∧ Fr a 41 [(2, .slice none 0 0), (3, .slice B105 p104.length d107), (4, .slice B114 p113.1.length d115), (19, .slice A2 x2.length c2), (20, .int .i64 (x2.length : Int)), (21, .int .i64 p113.2)] ∧ St w u [.row 3 1 (.slice B105 p104.length d107) p104.length (p104.flatMap eI), .row 3 1 (.slice B114 p113.1.length d115) p113.1.length (p113.1.flatMap eI)]) FUEL ⟨(([] : List Int), 0), none, 0, hM112, hF.keep _ ⟨rfl, rfl, rfl, rfl, rfl, rfl, trivial⟩, S.sel [1, 0] rfl rfl⟩ ?_
    clear hF S hM112; rintro m a u ⟨p113, B114, d115, hM112, hF, S⟩
    rcases m with _ | f1
    · exact none_some hM112
    rw [m_impl_WorldDark_l1.eq_2] at hM112
    revert a;refine sr (ov (v := .bool (ltB p113.2 (x2.length : Int))) rfl rfl rfl (fun a hF=>run_lss (hF.ev rfl) (hF.ev rfl) rfl) fun a hF=>wn ?_)
    refine ws ?_
    cases hc116 : (ltB p113.2 (x2.length : Int))
    · replace hM112 := bif_f hc116 hM112
      refine cond_f hF rfl hc116 ?_
      refine wp_exit ?_
      repeat with_reducible (first | refine then_exit ?_ | refine in_hit ?_ | refine in_miss rfl ?_)
      obtain rfl := Option.some.inj hM112
      exact ⟨p113.1, B114, d115, rfl, hF.keep _ ⟨rfl, rfl, trivial⟩, S.sel [1] rfl rfl⟩
    replace hM112 := bif_t hc116 hM112
    refine cond_t hF rfl hc116 ?_
    refine wp_skip ?_
    refine ws ?_
    refine wp_block ?_
    revert a;refine sr (mv rfl rfl fun a hF=>?_)
    obtain ⟨hk117, hM112⟩ := chk_ex hM112
    replace hk117 := ixB_t hk117
    revert a;refine ov rfl rfl rfl (fun a hF=>run_indexAddr (b := adB A2) (off := adO A2) rfl Try.underlying38 sz69 ((hF.ev rfl).trans (congrArg (fun A => Value.slice A x2.length c2) ((S.rc0 h2.rc).rd.ad (ix_pos hk117)))) (hF.ev rfl) hk117.1 hk117.2 (k' := adO A2 + p113.2.toNat * 2) rfl) (ov rfl rfl rfl (fun a hF=>run_loadN (cs := #[.int .i64 ((x2.getD p113.2.toNat ((0, 0) : Int × Int)).1), .int .i64 ((x2.getD p113.2.toNat ((0, 0) : Int × Int)).2)]) rfl ag69 (hF.ev rfl) rfl (rd_elN (l := x2) (S.rc0 h2.rc).rd rfl eBus_len ((0, 0) : Int × Int) (ix_ltn hk117 rfl) rfl)) fun a hF=>?_)
    refine op_new (cs := #[.int .i64 0, .int .i64 0]) rfl rfl hF rfl S (run_allocZ rfl zr69) ?_; clear hF S; intro a g118 u hF S
    refine op_val (v := .int .i64 p113.2) rfl rfl hF rfl (run_assign rfl (hF.ev rfl)) ?_;clear hF;intro a hF
    refine op_do rfl rfl (run_store (cs' := #[.int .i64 ((x2.getD p113.2.toNat ((0, 0) : Int × Int)).1), .int .i64 ((x2.getD p113.2.toNat ((0, 0) : Int × Int)).2)]) rfl sz69 (hF.ev rfl) (hF.ev rfl) rfl rfl rfl (S.free 0 rfl) rfl rfl) ?_; replace S := S.put 0 rfl (#[.int .i64 ((x2.getD p113.2.toNat ((0, 0) : Int × Int)).1), .int .i64 ((x2.getD p113.2.toNat ((0, 0) : Int × Int)).2)])
    generalize World.setRow _ _ _ = u at S ⊢
    refine wn ?_
    revert a;refine sr (ov (v := .pointer (some ⟨g118, 1, none⟩)) rfl rfl rfl (fun a hF=>run_fieldAddr rfl fl69_1 (hF.ev rfl) rfl) (ov (v := .int .i64 ((x2.getD p113.2.toNat ((0, 0) : Int × Int)).2)) rfl rfl rfl (fun a hF=>run_load1 rfl one3 (hF.ev rfl) ((S.free 0 rfl).cell rfl)) (ov (v := .bool (ltB 0 ((x2.getD p113.2.toNat ((0, 0) : Int × Int)).2))) rfl rfl rfl (fun a hF=>run_gtr (hF.ev rfl) rfl rfl) (mv rfl rfl fun a hF=>?_))))
    refine op_gv (v := .slice B105 p104.length d107) rfl rfl hF rfl (yt (gw_yield hF rfl rfl rfl)) (fun hg => (run_move rfl (hF.ev rfl))) ?_;clear hF;intro a hF
    refine op_gv (v := .int .i64 p113.2) rfl rfl hF rfl (yt (gw_yield hF rfl rfl rfl)) (fun hg => (run_move rfl (hF.ev rfl))) ?_;clear hF;intro a hF
    obtain ⟨p119, h119, hM112⟩ := bind_ex hM112
    refine op_gcall (v := .bool p119) rfl rfl hF rfl S (yt (gw_yield hF rfl rfl rfl)) (fun hg => (run_call (vs := [.slice B105 p104.length d107, .int .i64 p113.2]) rfl rfl co38 ⟨((hF.ev rfl).trans (gv_t hg)), ((hF.ev rfl).trans (gv_t hg)), trivial⟩)) (fun hg => c_slices_Contains_int_int (x0 := p104) (x1 := p113.2) ⟨(S.rc 1 rfl), rfl⟩ (gb_t h119 hg)) ?_; clear hF S; intro a u hF S
    refine op_gv (v := .bool (!p119)) rfl rfl hF rfl (yt (gw_yield hF rfl rfl rfl)) (fun hg => (run_not rfl ((hF.ev rfl).trans (gv_t hg)))) ?_;clear hF;intro a hF
    refine op_val (v := .bool ((ltB 0 ((x2.getD p113.2.toNat ((0, 0) : Int × Int)).2)) && (!p119))) rfl rfl hF rfl (run_pick_and rfl (hF.ev rfl) (fun hp => ((hF.ev rfl).trans (gv_t hp))) rfl) ?_;clear hF;intro a hF
    refine wn ?_
    obtain ⟨o121, hM124, hM112⟩ := bind_ex hM112
    refine wp_cut (fun a u => ∃ (p120 : List Int) (B122 : Option Addr) (d123 : Nat), p120 = o121 ∧ Fr a 41 [(2, .slice none 0 0), (3, .slice B105 p104.length d107), (4, .slice B122 p120.length d123), (19, .slice A2 x2.length c2), (20, .int .i64 (x2.length : Int)), (21, .int .i64 p113.2)] ∧ St w u [.row 3 1 (.slice B105 p104.length d107) p104.length (p104.flatMap eI), .row 3 1 (.slice B122 p120.length d123) p120.length (p120.flatMap eI)]) ?_ ?_
    · have _ := trivial
      cases hc125 : ((ltB 0 ((x2.getD p113.2.toNat ((0, 0) : Int × Int)).2)) && (!p119))
      · replace hM124 := bif_f hc125 hM124
        refine cond_f hF rfl hc125 ?_
        refine wp_skip ?_
        obtain rfl := Option.some.inj hM124
        exact ⟨p113.1, B114, d115, rfl, hF.keep _ ⟨rfl, rfl, rfl, rfl, rfl, rfl, trivial⟩, S.sel [1, 2] rfl rfl⟩
      replace hM124 := bif_t hc125 hM124
      refine cond_t hF rfl hc125 ?_
      revert a;refine rl (mv rfl rfl (mv rfl rfl fun a hF=>?_))
      refine op_newrowL (ls := (([p113.2] : List Int) : List Int)) (e := eI) rfl rfl hF rfl S (run_buildS (vs := [(0, .int .i64 p113.2)]) rfl ⟨⟨rfl, (hF.ev rfl)⟩, trivial⟩ (bs30_1_0 rfl)) rfl eI_len (Nat.le_of_ble_eq_true rfl) ?_; clear hF S; intro a g126 u hF S
      obtain ⟨hk129, hM124⟩ := chk_ex hM124
      replace hk129 := apB_t hk129
      refine op_appendL (lx := p113.1) (ly := ([p113.2] : List Int)) rfl rfl hF rfl S rfl (hF.ev rfl) (hF.ev rfl) (i := 3) rfl rfl Try.underlying30 inf3 rfl (by decide) (S.rc 0 rfl).rd rfl eI_one hk129 (by decide) ?_; clear hF S; intro a B127 d128 u hF S
      refine op_val (v := .slice B127 ((p113.1 ++ ([p113.2] : List Int)).length) d128) rfl rfl hF rfl (run_assign rfl (hF.ev rfl)) ?_;clear hF;intro a hF
      refine wn ?_
      obtain rfl := Option.some.inj hM124
      exact ⟨p113.1 ++ ([p113.2] : List Int), B127, d128, rfl, hF.keep _ ⟨rfl, rfl, rfl, rfl, rfl, rfl, trivial⟩, S.sel [2, 3] rfl rfl⟩
    rintro a u ⟨p120, B122, d123, rfl, hF, S⟩
    revert a;refine rl (ov (v := .int .i64 (w64 (p113.2 + 1))) rfl rfl rfl (fun a hF=>run_add (z := w64 (p113.2 + 1)) (hF.ev rfl) rfl rfl rfl) (mv rfl rfl fun a hF=>wn ?_))
    exact ⟨f1, Nat.lt_succ_self _, (p120, w64 (p113.2 + 1)), B122, d123, hM112, hF.keep _ ⟨rfl, rfl, rfl, rfl, rfl, rfl, trivial⟩, S.sel [0, 1] rfl rfl⟩
  rintro a u ⟨p108, B110, d111, rfl, hF, S⟩
  revert a;refine sr (mv rfl rfl (ag rfl rfl fun a hF=>wn ?_))
  refine wp_ret ?_
  repeat with_reducible first|refine tr ?_|refine ir ?_|refine nr ?_
  refine ret1_gw (.inl rfl) hF rfl (res_tmp (hF.ev rfl)) ?_
  obtain rfl := Option.some.inj hM
  exact ⟨B110, p108.length, d111, rfl, rfl, S.sel [0] rfl rfl⟩
theorem c_laws_eqIntS {x0 : List Int} {x1 : List Int} {A0 : Option Addr} {n0 c0 : Nat} {A1 : Option Addr} {n1 c1 : Nat} {w : World} {r : Bool} (h0 : Rt w 1 eI A0 n0 c0 x0) (h1 : Rt w 1 eI A1 n1 c1 x1) (hM : m_laws_eqIntS x0 x1 = some r) :
    Calls Try.prog 12 #[.slice A0 n0 c0, .slice A1 n1 c1] w (fun e w' => e = .returned (.bool r) ∧ St w w' []) := by
  obtain rfl := h0.len
  obtain rfl := h1.len
  unfold m_laws_eqIntS at hM
  refine calls_gw Try.func12 Try.ntmps12 rfl [(0, .slice A0 x0.length c0), (1, .slice A1 x1.length c1)] ⟨rfl, rfl, trivial⟩ rfl ?_
  intro a hF
  have S := St.nil w
  revert a;refine sr (ov (v := .bool false) rfl rfl rfl (fun a hF=>run_assign rfl rfl) fun a hF=>wn ?_)
  refine ws ?_
  revert a;refine sr (mv rfl rfl (ov rfl rfl rfl (fun a hF=>run_lenL rfl rfl Try.underlying30 (hF.ev rfl)) (mv rfl rfl (ov rfl rfl rfl (fun a hF=>run_lenL rfl rfl Try.underlying30 (hF.ev rfl)) (ov (v := .bool ((x0.length : Int) != (x1.length : Int))) rfl rfl rfl (fun a hF=>run_neq (hF.ev rfl) (hF.ev rfl) rfl) fun a hF=>wn ?_)))))
  cases hc101 : ((x0.length : Int) != (x1.length : Int))
  · replace hM := bif_f hc101 hM
    refine cond_f hF rfl hc101 ?_
    refine wp_skip ?_
    refine ws ?_
    revert a;refine sr (ov (v := .int .i64 0) rfl rfl rfl (fun a hF=>run_assign rfl rfl) fun a hF=>wn ?_)
    obtain ⟨o103, hM104, hM⟩ := bind_ex hM
    refine wp_cut (fun a u => ∃ (p102 : Unit), (Sum.inl p102) = o103 ∧ Fr a 26 [(4, .bool false)] ∧ St w u []) ?_ ?_
    · have _ := trivial
      refine wp_block ?_
      refine loop_gw (fun m a u => ∃ (p105 : Int), m_laws_eqIntS_l1 x0 x1 m p105 = some _ ∧ Fr a 26 [(0, .slice A0 x0.length c0), (1, .slice A1 x1.length c1), (4, .bool false), (5, .int .i64 p105)] ∧ St w u []) FUEL ⟨0, hM104, hF.keep _ ⟨rfl, rfl, rfl, rfl, trivial⟩, S.sel [] rfl rfl⟩ ?_
      clear hF S hM104; rintro m a u ⟨p105, hM104, hF, S⟩
      rcases m with _ | f1
      · exact none_some hM104
      rw [m_laws_eqIntS_l1.eq_2] at hM104
      refine ws ?_
      revert a;refine sr (mv rfl rfl (mv rfl rfl (ov rfl rfl rfl (fun a hF=>run_lenL rfl rfl Try.underlying30 (hF.ev rfl)) (ov (v := .bool (ltB p105 (x0.length : Int))) rfl rfl rfl (fun a hF=>run_lss (hF.ev rfl) (hF.ev rfl) rfl) fun a hF=>wn ?_))))
      cases hc106 : (ltB p105 (x0.length : Int))
      · replace hM104 := bif_f hc106 hM104
        refine cond_f hF rfl hc106 ?_
        refine wp_exit ?_
        repeat with_reducible (first | refine then_exit ?_ | refine in_hit ?_ | refine in_miss rfl ?_)
        obtain rfl := Option.some.inj hM104
        exact ⟨(), rfl, hF.keep _ ⟨rfl, trivial⟩, S.sel [] rfl rfl⟩
      replace hM104 := bif_t hc106 hM104
      refine cond_t hF rfl hc106 ?_
      refine wp_skip ?_
      refine ws ?_
      refine wp_block ?_
      refine ws ?_
      obtain ⟨hk107, hM104⟩ := chk_ex hM104
      replace hk107 := ixB_t hk107
      obtain ⟨hk108, hM104⟩ := chk_ex hM104
      replace hk108 := ixB_t hk108
      refine region_gw (D := [17, 18, 19, 20, 21, 22, 23, 24, 25]) (Lr := []) (deps := (fun | 0 => [17] | 1 => [18] | 2 => [19] | 3 => [20] | 4 => [21] | 5 => [22] | 6 => [23] | 7 => [24] | 8 => [25] | _ => [])) (rd := (fun _ => [])) (zr := (fun _ => []))
        (φ := fun i vs => match i, vs with | 0, [v17] => v17 = .slice A0 x0.length c0 | 1, [v18] => v18 = .int .i64 p105 | 2, [v19] => v19 = .pointer (some ⟨adB A0, adO A0 + p105.toNat * 1, none⟩) | 3, [v20] => v20 = .int .i64 (x0.getD p105.toNat (0 : Int)) | 4, [v21] => v21 = .slice A1 x1.length c1 | 5, [v22] => v22 = .int .i64 p105 | 6, [v23] => v23 = .pointer (some ⟨adB A1, adO A1 + p105.toNat * 1, none⟩) | 7, [v24] => v24 = .int .i64 (x1.getD p105.toNat (0 : Int)) | 8, [v25] => v25 = .bool ((x0.getD p105.toNat (0 : Int)) != (x1.getD p105.toNat (0 : Int))) | _, _ => True)
        (C := fun _ _ => [])
        (κ := (fun _ => none)) (Z := (fun _ => [])) mixed hF (by kernel_rfl) S ?_ ?_
      · refine ⟨?_, ?_, ?_, ?_, ?_, ?_, ?_, ?_, ?_, trivial⟩
        · intro a u X hB hu hp hr hz hl S
          replace S : St w u ([] ++ X) := S
          exact .inl ⟨rfl, .slice A0 x0.length c0, u, (run_move rfl (hF.evB hB rfl rfl)), rfl, S⟩
        · intro a u X hB hu hp hr hz hl S
          replace S : St w u ([] ++ X) := S
          exact .inl ⟨rfl, .int .i64 p105, u, (run_move rfl (hF.evB hB rfl rfl)), rfl, S⟩
        · intro a u X hB hu hp hr hz hl S
          replace S : St w u ([] ++ X) := S
          have e17 : sl a 17 = .slice A0 x0.length c0 := hp 0 rfl
          have e18 : sl a 18 = .int .i64 p105 := hp 1 rfl
          exact .inl ⟨rfl, .pointer (some ⟨adB A0, adO A0 + p105.toNat * 1, none⟩), u, (run_indexAddr (b := adB A0) (off := adO A0) rfl Try.underlying30 sz3 ((ev_sl e17).trans (congrArg (fun A => Value.slice A x0.length c0) ((S.rc0 h0.rc).rd.ad (ix_pos hk107)))) (ev_sl e18) hk107.1 hk107.2 (k' := adO A0 + p105.toNat * 1) rfl), rfl, S⟩
        · intro a u X hB hu hp hr hz hl S
          replace S : St w u ([] ++ X) := S
          have e19 : sl a 19 = .pointer (some ⟨adB A0, adO A0 + p105.toNat * 1, none⟩) := hp 2 rfl
          exact .inl ⟨rfl, .int .i64 (x0.getD p105.toNat (0 : Int)), u, (run_load1 rfl one3 (ev_sl e19) (rd_el0 (l := x0) (S.rc0 h0.rc).rd rfl eI_len (0 : Int) (ix_ltn hk107 rfl) rfl)), rfl, S⟩
        · intro a u X hB hu hp hr hz hl S
          replace S : St w u ([] ++ X) := S
          exact .inl ⟨rfl, .slice A1 x1.length c1, u, (run_move rfl (hF.evB hB rfl rfl)), rfl, S⟩
        · intro a u X hB hu hp hr hz hl S
          replace S : St w u ([] ++ X) := S
          exact .inl ⟨rfl, .int .i64 p105, u, (run_move rfl (hF.evB hB rfl rfl)), rfl, S⟩
        · intro a u X hB hu hp hr hz hl S
          replace S : St w u ([] ++ X) := S
          have e21 : sl a 21 = .slice A1 x1.length c1 := hp 4 rfl
          have e22 : sl a 22 = .int .i64 p105 := hp 5 rfl
          exact .inl ⟨rfl, .pointer (some ⟨adB A1, adO A1 + p105.toNat * 1, none⟩), u, (run_indexAddr (b := adB A1) (off := adO A1) rfl Try.underlying30 sz3 ((ev_sl e21).trans (congrArg (fun A => Value.slice A x1.length c1) ((S.rc0 h1.rc).rd.ad (ix_pos hk108)))) (ev_sl e22) hk108.1 hk108.2 (k' := adO A1 + p105.toNat * 1) rfl), rfl, S⟩
        · intro a u X hB hu hp hr hz hl S
          replace S : St w u ([] ++ X) := S
          have e23 : sl a 23 = .pointer (some ⟨adB A1, adO A1 + p105.toNat * 1, none⟩) := hp 6 rfl
          exact .inl ⟨rfl, .int .i64 (x1.getD p105.toNat (0 : Int)), u, (run_load1 rfl one3 (ev_sl e23) (rd_el0 (l := x1) (S.rc0 h1.rc).rd rfl eI_len (0 : Int) (ix_ltn hk108 rfl) rfl)), rfl, S⟩
        intro a u X hB hu hp hr hz hl S
        replace S : St w u ([] ++ X) := S
        have e20 : sl a 20 = .int .i64 (x0.getD p105.toNat (0 : Int)) := hp 3 rfl
        have e24 : sl a 24 = .int .i64 (x1.getD p105.toNat (0 : Int)) := hp 7 rfl
        exact .inl ⟨rfl, .bool ((x0.getD p105.toNat (0 : Int)) != (x1.getD p105.toNat (0 : Int))), u, (run_neq (ev_sl e20) (ev_sl e24) rfl), rfl, S⟩
      intro a u hB hp S
      obtain ⟨q0, q1, q2, q3, q4, q5, q6, q7, q8, -⟩ := hp
      have e17 : sl a 17 = .slice A0 x0.length c0 := q0
      have e18 : sl a 18 = .int .i64 p105 := q1
      have e19 : sl a 19 = .pointer (some ⟨adB A0, adO A0 + p105.toNat * 1, none⟩) := q2
      have e20 : sl a 20 = .int .i64 (x0.getD p105.toNat (0 : Int)) := q3
      have e21 : sl a 21 = .slice A1 x1.length c1 := q4
      have e22 : sl a 22 = .int .i64 p105 := q5
      have e23 : sl a 23 = .pointer (some ⟨adB A1, adO A1 + p105.toNat * 1, none⟩) := q6
      have e24 : sl a 24 = .int .i64 (x1.getD p105.toNat (0 : Int)) := q7
      have e25 : sl a 25 = .bool ((x0.getD p105.toNat (0 : Int)) != (x1.getD p105.toNat (0 : Int))) := q8
      replace S : St w u [] := S
      clear q0 q1 q2 q3 q4 q5 q6 q7 q8
      have hF := hF.region hB [(17, .slice A0 x0.length c0), (18, .int .i64 p105), (19, .pointer (some ⟨adB A0, adO A0 + p105.toNat * 1, none⟩)), (20, .int .i64 (x0.getD p105.toNat (0 : Int))), (21, .slice A1 x1.length c1), (22, .int .i64 p105), (23, .pointer (some ⟨adB A1, adO A1 + p105.toNat * 1, none⟩)), (24, .int .i64 (x1.getD p105.toNat (0 : Int))), (25, .bool ((x0.getD p105.toNat (0 : Int)) != (x1.getD p105.toNat (0 : Int))))] (allSl_mem ⟨e17, e18, e19, e20, e21, e22, e23, e24, e25, trivial⟩) rfl
      clear hB e17 e18 e19 e20 e21 e22 e23 e24 e25
      cases hc109 : ((x0.getD p105.toNat (0 : Int)) != (x1.getD p105.toNat (0 : Int)))
      · replace hM104 := bif_f hc109 hM104
        refine cond_f hF rfl hc109 ?_
        refine wp_skip ?_
        revert a;refine rl (mv rfl rfl (ov (v := .int .i64 (w64 (p105 + 1))) rfl rfl rfl (fun a hF=>run_add (z := w64 (p105 + 1)) (hF.ev rfl) rfl rfl rfl) (ag rfl rfl fun a hF=>wn ?_)))
        exact ⟨f1, Nat.lt_succ_self _, w64 (p105 + 1), hM104, hF.keep _ ⟨rfl, rfl, rfl, rfl, trivial⟩, S.sel [] rfl rfl⟩
      replace hM104 := bif_t hc109 hM104
      refine cond_t hF rfl hc109 ?_
      revert a;refine sr (ov (v := .bool false) rfl rfl rfl (fun a hF=>run_assign rfl rfl) fun a hF=>wn ?_)
      refine wp_ret ?_
      repeat with_reducible first|refine tr ?_|refine ir ?_|refine nr ?_
      refine ret1_gw (.inl rfl) hF rfl (res_tmp (hF.ev rfl)) ?_
      obtain rfl := Option.some.inj hM104
      obtain rfl := Option.some.inj hM
      exact ⟨rfl, S.sel [] rfl rfl⟩
    rintro a u ⟨p102, rfl, hF, S⟩
    replace hM := elim_l hM
    revert a;refine sr (ov (v := .bool true) rfl rfl rfl (fun a hF=>run_assign rfl rfl) fun a hF=>wn ?_)
    refine wp_ret ?_
    repeat with_reducible first|refine tr ?_|refine ir ?_|refine nr ?_
    refine ret1_gw (.inl rfl) hF rfl (res_tmp (hF.ev rfl)) ?_
    obtain rfl := Option.some.inj hM
    exact ⟨rfl, S.sel [] rfl rfl⟩
  replace hM := bif_t hc101 hM
  refine cond_t hF rfl hc101 ?_
  revert a;refine sr (ov (v := .bool false) rfl rfl rfl (fun a hF=>run_assign rfl rfl) fun a hF=>wn ?_)
  refine wp_ret ?_
  repeat with_reducible first|refine tr ?_|refine ir ?_|refine nr ?_
  refine ret1_gw (.inl rfl) hF rfl (res_tmp (hF.ev rfl)) ?_
  obtain rfl := Option.some.inj hM
  exact ⟨rfl, S.sel [] rfl rfl⟩
theorem c_laws_eqLine {x0 : Int} {x1 : Int} {x2 : Int} {x3 : Int} {x4 : Int} {x5 : Int} {w : World} {r : Bool}  (hM : m_laws_eqLine x0 x1 x2 x3 x4 x5 = some r) :
    Calls Try.prog 80 #[.agg #[.int .i64 x0, .int .i64 x1, .int .i64 x2], .agg #[.int .i64 x3, .int .i64 x4, .int .i64 x5]] w (fun e w' => e = .returned (.bool r) ∧ St w w' []) := by
  unfold m_laws_eqLine at hM
  refine calls_gw Try.func80 Try.ntmps80 rfl [(0, .agg #[.int .i64 x0, .int .i64 x1, .int .i64 x2]), (1, .agg #[.int .i64 x3, .int .i64 x4, .int .i64 x5])] ⟨rfl, rfl, trivial⟩ rfl ?_
  intro a hF
  have S := St.nil w
  refine wsg ?_
  refine op_new (cs := #[.int .i64 x0, .int .i64 x1, .int .i64 x2]) rfl rfl hF rfl S (run_box rfl (hF.ev rfl) rfl) ?_; clear hF S; intro a g101 u hF S
  refine op_new (cs := #[.int .i64 x3, .int .i64 x4, .int .i64 x5]) rfl rfl hF rfl S (run_box rfl (hF.ev rfl) rfl) ?_; clear hF S; intro a g102 u hF S
  refine op_val (v := .bool false) rfl rfl hF rfl (run_assign rfl rfl) ?_;clear hF;intro a hF
  refine wn ?_
  refine ws ?_
  revert a;refine sr (ov (v := .pointer (some ⟨g101, 0, none⟩)) rfl rfl rfl (fun a hF=>run_fieldAddr rfl fl107_0 (hF.ev rfl) rfl) (ov (v := .int .i64 x0) rfl rfl rfl (fun a hF=>run_load1 rfl one3 (hF.ev rfl) ((S.free 1 rfl).cell rfl)) (ov (v := .pointer (some ⟨g102, 0, none⟩)) rfl rfl rfl (fun a hF=>run_fieldAddr rfl fl107_0 (hF.ev rfl) rfl) (ov (v := .int .i64 x3) rfl rfl rfl (fun a hF=>run_load1 rfl one3 (hF.ev rfl) ((S.free 0 rfl).cell rfl)) (ov (v := .bool (x0 != x3)) rfl rfl rfl (fun a hF=>run_neq (hF.ev rfl) (hF.ev rfl) rfl) fun a hF=>wn ?_)))))
  cases hc103 : (x0 != x3)
  · replace hM := bif_f hc103 hM
    refine cond_f hF rfl hc103 ?_
    refine wp_skip ?_
    refine ws ?_
    revert a;refine sr (ov (v := .pointer (some ⟨g101, 1, none⟩)) rfl rfl rfl (fun a hF=>run_fieldAddr rfl fl107_1 (hF.ev rfl) rfl) (ov (v := .int .i64 x1) rfl rfl rfl (fun a hF=>run_load1 rfl one3 (hF.ev rfl) ((S.free 1 rfl).cell rfl)) (ov (v := .pointer (some ⟨g102, 1, none⟩)) rfl rfl rfl (fun a hF=>run_fieldAddr rfl fl107_1 (hF.ev rfl) rfl) (ov (v := .int .i64 x4) rfl rfl rfl (fun a hF=>run_load1 rfl one3 (hF.ev rfl) ((S.free 0 rfl).cell rfl)) (ov (v := .bool (x1 != x4)) rfl rfl rfl (fun a hF=>run_neq (hF.ev rfl) (hF.ev rfl) rfl) fun a hF=>wn ?_)))))
    cases hc104 : (x1 != x4)
    · replace hM := bif_f hc104 hM
      refine cond_f hF rfl hc104 ?_
      refine wp_skip ?_
      refine ws ?_
      revert a;refine sr (ov (v := .pointer (some ⟨g101, 2, none⟩)) rfl rfl rfl (fun a hF=>run_fieldAddr rfl fl107_2 (hF.ev rfl) rfl) (ov (v := .int .i64 x2) rfl rfl rfl (fun a hF=>run_load1 rfl one3 (hF.ev rfl) ((S.free 1 rfl).cell rfl)) (ov (v := .pointer (some ⟨g102, 2, none⟩)) rfl rfl rfl (fun a hF=>run_fieldAddr rfl fl107_2 (hF.ev rfl) rfl) (ov (v := .int .i64 x5) rfl rfl rfl (fun a hF=>run_load1 rfl one3 (hF.ev rfl) ((S.free 0 rfl).cell rfl)) (ov (v := .bool (x2 != x5)) rfl rfl rfl (fun a hF=>run_neq (hF.ev rfl) (hF.ev rfl) rfl) fun a hF=>wn ?_)))))
      cases hc105 : (x2 != x5)
      · replace hM := bif_f hc105 hM
        refine cond_f hF rfl hc105 ?_
        refine wp_skip ?_
        revert a;refine sr (ov (v := .bool true) rfl rfl rfl (fun a hF=>run_assign rfl rfl) fun a hF=>wn ?_)
        refine wp_ret ?_
        repeat with_reducible first|refine tr ?_|refine ir ?_|refine nr ?_
        refine ret1_gw (.inl rfl) hF rfl (res_tmp (hF.ev rfl)) ?_
        obtain rfl := Option.some.inj hM
        exact ⟨rfl, S.sel [] rfl rfl⟩
      replace hM := bif_t hc105 hM
      refine cond_t hF rfl hc105 ?_
      revert a;refine sr (ov (v := .bool false) rfl rfl rfl (fun a hF=>run_assign rfl rfl) fun a hF=>wn ?_)
      refine wp_ret ?_
      repeat with_reducible first|refine tr ?_|refine ir ?_|refine nr ?_
      refine ret1_gw (.inl rfl) hF rfl (res_tmp (hF.ev rfl)) ?_
      obtain rfl := Option.some.inj hM
      exact ⟨rfl, S.sel [] rfl rfl⟩
    replace hM := bif_t hc104 hM
    refine cond_t hF rfl hc104 ?_
    revert a;refine sr (ov (v := .bool false) rfl rfl rfl (fun a hF=>run_assign rfl rfl) fun a hF=>wn ?_)
    refine wp_ret ?_
    repeat with_reducible first|refine tr ?_|refine ir ?_|refine nr ?_
    refine ret1_gw (.inl rfl) hF rfl (res_tmp (hF.ev rfl)) ?_
    obtain rfl := Option.some.inj hM
    exact ⟨rfl, S.sel [] rfl rfl⟩
  replace hM := bif_t hc103 hM
  refine cond_t hF rfl hc103 ?_
  revert a;refine sr (ov (v := .bool false) rfl rfl rfl (fun a hF=>run_assign rfl rfl) fun a hF=>wn ?_)
  refine wp_ret ?_
  repeat with_reducible first|refine tr ?_|refine ir ?_|refine nr ?_
  refine ret1_gw (.inl rfl) hF rfl (res_tmp (hF.ev rfl)) ?_
  obtain rfl := Option.some.inj hM
  exact ⟨rfl, S.sel [] rfl rfl⟩
theorem c_laws_eqLineS {x0 : List (Int × Int × Int)} {x1 : List (Int × Int × Int)} {A0 : Option Addr} {n0 c0 : Nat} {A1 : Option Addr} {n1 c1 : Nat} {w : World} {r : Bool} (h0 : Rt w 3 eLine A0 n0 c0 x0) (h1 : Rt w 3 eLine A1 n1 c1 x1) (hM : m_laws_eqLineS x0 x1 = some r) :
    Calls Try.prog 58 #[.slice A0 n0 c0, .slice A1 n1 c1] w (fun e w' => e = .returned (.bool r) ∧ St w w' []) := by
  obtain rfl := h0.len
  obtain rfl := h1.len
  unfold m_laws_eqLineS at hM
  refine calls_gw Try.func58 Try.ntmps58 rfl [(0, .slice A0 x0.length c0), (1, .slice A1 x1.length c1)] ⟨rfl, rfl, trivial⟩ rfl ?_
  intro a hF
  have S := St.nil w
  revert a;refine sr (ov (v := .bool false) rfl rfl rfl (fun a hF=>run_assign rfl rfl) fun a hF=>wn ?_)
  refine ws ?_
  revert a;refine sr (mv rfl rfl (ov rfl rfl rfl (fun a hF=>run_lenL rfl rfl Try.underlying35 (hF.ev rfl)) (mv rfl rfl (ov rfl rfl rfl (fun a hF=>run_lenL rfl rfl Try.underlying35 (hF.ev rfl)) (ov (v := .bool ((x0.length : Int) != (x1.length : Int))) rfl rfl rfl (fun a hF=>run_neq (hF.ev rfl) (hF.ev rfl) rfl) fun a hF=>wn ?_)))))
  cases hc101 : ((x0.length : Int) != (x1.length : Int))
  · replace hM := bif_f hc101 hM
    refine cond_f hF rfl hc101 ?_
    refine wp_skip ?_
    refine ws ?_
    revert a;refine sr (ov (v := .int .i64 0) rfl rfl rfl (fun a hF=>run_assign rfl rfl) fun a hF=>wn ?_)
    obtain ⟨o103, hM104, hM⟩ := bind_ex hM
    refine wp_cut (fun a u => ∃ (p102 : Unit), (Sum.inl p102) = o103 ∧ Fr a 27 [(4, .bool false)] ∧ St w u []) ?_ ?_
    · have _ := trivial
      refine wp_block ?_
      refine loop_gw (fun m a u => ∃ (p105 : Int), m_laws_eqLineS_l1 x0 x1 m p105 = some _ ∧ Fr a 27 [(0, .slice A0 x0.length c0), (1, .slice A1 x1.length c1), (4, .bool false), (5, .int .i64 p105)] ∧ St w u []) FUEL ⟨0, hM104, hF.keep _ ⟨rfl, rfl, rfl, rfl, trivial⟩, S.sel [] rfl rfl⟩ ?_
      clear hF S hM104; rintro m a u ⟨p105, hM104, hF, S⟩
      rcases m with _ | f1
      · exact none_some hM104
      rw [m_laws_eqLineS_l1.eq_2] at hM104
      refine ws ?_
      revert a;refine sr (mv rfl rfl (mv rfl rfl (ov rfl rfl rfl (fun a hF=>run_lenL rfl rfl Try.underlying35 (hF.ev rfl)) (ov (v := .bool (ltB p105 (x0.length : Int))) rfl rfl rfl (fun a hF=>run_lss (hF.ev rfl) (hF.ev rfl) rfl) fun a hF=>wn ?_))))
      cases hc106 : (ltB p105 (x0.length : Int))
      · replace hM104 := bif_f hc106 hM104
        refine cond_f hF rfl hc106 ?_
        refine wp_exit ?_
        repeat with_reducible (first | refine then_exit ?_ | refine in_hit ?_ | refine in_miss rfl ?_)
        obtain rfl := Option.some.inj hM104
        exact ⟨(), rfl, hF.keep _ ⟨rfl, trivial⟩, S.sel [] rfl rfl⟩
      replace hM104 := bif_t hc106 hM104
      refine cond_t hF rfl hc106 ?_
      refine wp_skip ?_
      refine ws ?_
      refine wp_block ?_
      refine ws ?_
      obtain ⟨hk107, hM104⟩ := chk_ex hM104
      replace hk107 := ixB_t hk107
      obtain ⟨hk108, hM104⟩ := chk_ex hM104
      replace hk108 := ixB_t hk108
      obtain ⟨p109, h109, hM104⟩ := bind_ex hM104
      refine region_gw (D := [17, 18, 19, 20, 21, 22, 23, 24, 25, 26]) (Lr := []) (deps := (fun | 0 => [17] | 1 => [18] | 2 => [19] | 3 => [20] | 4 => [21] | 5 => [22] | 6 => [23] | 7 => [24] | 8 => [25] | 9 => [26] | _ => [])) (rd := (fun _ => [])) (zr := (fun _ => []))
        (φ := fun i vs => match i, vs with | 0, [v17] => v17 = .slice A0 x0.length c0 | 1, [v18] => v18 = .int .i64 p105 | 2, [v19] => v19 = .pointer (some ⟨adB A0, adO A0 + p105.toNat * 3, none⟩) | 3, [v20] => v20 = .agg #[.int .i64 ((x0.getD p105.toNat ((0, 0, 0) : Int × Int × Int)).1), .int .i64 ((x0.getD p105.toNat ((0, 0, 0) : Int × Int × Int)).2.1), .int .i64 ((x0.getD p105.toNat ((0, 0, 0) : Int × Int × Int)).2.2)] | 4, [v21] => v21 = .slice A1 x1.length c1 | 5, [v22] => v22 = .int .i64 p105 | 6, [v23] => v23 = .pointer (some ⟨adB A1, adO A1 + p105.toNat * 3, none⟩) | 7, [v24] => v24 = .agg #[.int .i64 ((x1.getD p105.toNat ((0, 0, 0) : Int × Int × Int)).1), .int .i64 ((x1.getD p105.toNat ((0, 0, 0) : Int × Int × Int)).2.1), .int .i64 ((x1.getD p105.toNat ((0, 0, 0) : Int × Int × Int)).2.2)] | 8, [v25] => v25 = .bool p109 | 9, [v26] => v26 = .bool (!p109) | _, _ => True)
        (C := fun _ _ => [])
        (κ := (fun _ => none)) (Z := (fun _ => [])) mixed hF (by kernel_rfl) S ?_ ?_
      · refine ⟨?_, ?_, ?_, ?_, ?_, ?_, ?_, ?_, ?_, ?_, trivial⟩
        · intro a u X hB hu hp hr hz hl S
          replace S : St w u ([] ++ X) := S
          exact .inl ⟨rfl, .slice A0 x0.length c0, u, (run_move rfl (hF.evB hB rfl rfl)), rfl, S⟩
        · intro a u X hB hu hp hr hz hl S
          replace S : St w u ([] ++ X) := S
          exact .inl ⟨rfl, .int .i64 p105, u, (run_move rfl (hF.evB hB rfl rfl)), rfl, S⟩
        · intro a u X hB hu hp hr hz hl S
          replace S : St w u ([] ++ X) := S
          have e17 : sl a 17 = .slice A0 x0.length c0 := hp 0 rfl
          have e18 : sl a 18 = .int .i64 p105 := hp 1 rfl
          exact .inl ⟨rfl, .pointer (some ⟨adB A0, adO A0 + p105.toNat * 3, none⟩), u, (run_indexAddr (b := adB A0) (off := adO A0) rfl Try.underlying35 sz107 ((ev_sl e17).trans (congrArg (fun A => Value.slice A x0.length c0) ((S.rc0 h0.rc).rd.ad (ix_pos hk107)))) (ev_sl e18) hk107.1 hk107.2 (k' := adO A0 + p105.toNat * 3) rfl), rfl, S⟩
        · intro a u X hB hu hp hr hz hl S
          replace S : St w u ([] ++ X) := S
          have e19 : sl a 19 = .pointer (some ⟨adB A0, adO A0 + p105.toNat * 3, none⟩) := hp 2 rfl
          exact .inl ⟨rfl, .agg #[.int .i64 ((x0.getD p105.toNat ((0, 0, 0) : Int × Int × Int)).1), .int .i64 ((x0.getD p105.toNat ((0, 0, 0) : Int × Int × Int)).2.1), .int .i64 ((x0.getD p105.toNat ((0, 0, 0) : Int × Int × Int)).2.2)], u, (run_loadN (cs := #[.int .i64 ((x0.getD p105.toNat ((0, 0, 0) : Int × Int × Int)).1), .int .i64 ((x0.getD p105.toNat ((0, 0, 0) : Int × Int × Int)).2.1), .int .i64 ((x0.getD p105.toNat ((0, 0, 0) : Int × Int × Int)).2.2)]) rfl ag107 (ev_sl e19) rfl (rd_elN (l := x0) (S.rc0 h0.rc).rd rfl eLine_len ((0, 0, 0) : Int × Int × Int) (ix_ltn hk107 rfl) rfl)), rfl, S⟩
        · intro a u X hB hu hp hr hz hl S
          replace S : St w u ([] ++ X) := S
          exact .inl ⟨rfl, .slice A1 x1.length c1, u, (run_move rfl (hF.evB hB rfl rfl)), rfl, S⟩
        · intro a u X hB hu hp hr hz hl S
          replace S : St w u ([] ++ X) := S
          exact .inl ⟨rfl, .int .i64 p105, u, (run_move rfl (hF.evB hB rfl rfl)), rfl, S⟩
        · intro a u X hB hu hp hr hz hl S
          replace S : St w u ([] ++ X) := S
          have e21 : sl a 21 = .slice A1 x1.length c1 := hp 4 rfl
          have e22 : sl a 22 = .int .i64 p105 := hp 5 rfl
          exact .inl ⟨rfl, .pointer (some ⟨adB A1, adO A1 + p105.toNat * 3, none⟩), u, (run_indexAddr (b := adB A1) (off := adO A1) rfl Try.underlying35 sz107 ((ev_sl e21).trans (congrArg (fun A => Value.slice A x1.length c1) ((S.rc0 h1.rc).rd.ad (ix_pos hk108)))) (ev_sl e22) hk108.1 hk108.2 (k' := adO A1 + p105.toNat * 3) rfl), rfl, S⟩
        · intro a u X hB hu hp hr hz hl S
          replace S : St w u ([] ++ X) := S
          have e23 : sl a 23 = .pointer (some ⟨adB A1, adO A1 + p105.toNat * 3, none⟩) := hp 6 rfl
          exact .inl ⟨rfl, .agg #[.int .i64 ((x1.getD p105.toNat ((0, 0, 0) : Int × Int × Int)).1), .int .i64 ((x1.getD p105.toNat ((0, 0, 0) : Int × Int × Int)).2.1), .int .i64 ((x1.getD p105.toNat ((0, 0, 0) : Int × Int × Int)).2.2)], u, (run_loadN (cs := #[.int .i64 ((x1.getD p105.toNat ((0, 0, 0) : Int × Int × Int)).1), .int .i64 ((x1.getD p105.toNat ((0, 0, 0) : Int × Int × Int)).2.1), .int .i64 ((x1.getD p105.toNat ((0, 0, 0) : Int × Int × Int)).2.2)]) rfl ag107 (ev_sl e23) rfl (rd_elN (l := x1) (S.rc0 h1.rc).rd rfl eLine_len ((0, 0, 0) : Int × Int × Int) (ix_ltn hk108 rfl) rfl)), rfl, S⟩
        · intro a u X hB hu hp hr hz hl S
          replace S : St w u ([] ++ X) := S
          have e20 : sl a 20 = .agg #[.int .i64 ((x0.getD p105.toNat ((0, 0, 0) : Int × Int × Int)).1), .int .i64 ((x0.getD p105.toNat ((0, 0, 0) : Int × Int × Int)).2.1), .int .i64 ((x0.getD p105.toNat ((0, 0, 0) : Int × Int × Int)).2.2)] := hp 3 rfl
          have e24 : sl a 24 = .agg #[.int .i64 ((x1.getD p105.toNat ((0, 0, 0) : Int × Int × Int)).1), .int .i64 ((x1.getD p105.toNat ((0, 0, 0) : Int × Int × Int)).2.1), .int .i64 ((x1.getD p105.toNat ((0, 0, 0) : Int × Int × Int)).2.2)] := hp 7 rfl
          refine .inr (.inr (.inl ⟨rfl, _, _, (run_call (vs := [.agg #[.int .i64 ((x0.getD p105.toNat ((0, 0, 0) : Int × Int × Int)).1), .int .i64 ((x0.getD p105.toNat ((0, 0, 0) : Int × Int × Int)).2.1), .int .i64 ((x0.getD p105.toNat ((0, 0, 0) : Int × Int × Int)).2.2)], .agg #[.int .i64 ((x1.getD p105.toNat ((0, 0, 0) : Int × Int × Int)).1), .int .i64 ((x1.getD p105.toNat ((0, 0, 0) : Int × Int × Int)).2.1), .int .i64 ((x1.getD p105.toNat ((0, 0, 0) : Int × Int × Int)).2.2)]]) rfl rfl co80 ⟨(ev_sl e20), (ev_sl e24), trivial⟩), ?_⟩))
          refine Calls.mono (c_laws_eqLine (x0 := (x0.getD p105.toNat ((0, 0, 0) : Int × Int × Int)).1) (x1 := (x0.getD p105.toNat ((0, 0, 0) : Int × Int × Int)).2.1) (x2 := (x0.getD p105.toNat ((0, 0, 0) : Int × Int × Int)).2.2) (x3 := (x1.getD p105.toNat ((0, 0, 0) : Int × Int × Int)).1) (x4 := (x1.getD p105.toNat ((0, 0, 0) : Int × Int × Int)).2.1) (x5 := (x1.getD p105.toNat ((0, 0, 0) : Int × Int × Int)).2.2)  h109) ?_
          rintro e w1 ⟨rfl, T⟩
          exact ⟨_, rfl, rfl, S.call0 T⟩
        intro a u X hB hu hp hr hz hl S
        replace S : St w u ([] ++ X) := S
        have e25 : sl a 25 = .bool p109 := hp 8 rfl
        exact .inl ⟨rfl, .bool (!p109), u, (run_not rfl (ev_sl e25)), rfl, S⟩
      intro a u hB hp S
      obtain ⟨q0, q1, q2, q3, q4, q5, q6, q7, q8, q9, -⟩ := hp
      have e17 : sl a 17 = .slice A0 x0.length c0 := q0
      have e18 : sl a 18 = .int .i64 p105 := q1
      have e19 : sl a 19 = .pointer (some ⟨adB A0, adO A0 + p105.toNat * 3, none⟩) := q2
      have e20 : sl a 20 = .agg #[.int .i64 ((x0.getD p105.toNat ((0, 0, 0) : Int × Int × Int)).1), .int .i64 ((x0.getD p105.toNat ((0, 0, 0) : Int × Int × Int)).2.1), .int .i64 ((x0.getD p105.toNat ((0, 0, 0) : Int × Int × Int)).2.2)] := q3
      have e21 : sl a 21 = .slice A1 x1.length c1 := q4
      have e22 : sl a 22 = .int .i64 p105 := q5
      have e23 : sl a 23 = .pointer (some ⟨adB A1, adO A1 + p105.toNat * 3, none⟩) := q6
      have e24 : sl a 24 = .agg #[.int .i64 ((x1.getD p105.toNat ((0, 0, 0) : Int × Int × Int)).1), .int .i64 ((x1.getD p105.toNat ((0, 0, 0) : Int × Int × Int)).2.1), .int .i64 ((x1.getD p105.toNat ((0, 0, 0) : Int × Int × Int)).2.2)] := q7
      have e25 : sl a 25 = .bool p109 := q8
      have e26 : sl a 26 = .bool (!p109) := q9
      replace S : St w u [] := S
      clear q0 q1 q2 q3 q4 q5 q6 q7 q8 q9
      have hF := hF.region hB [(17, .slice A0 x0.length c0), (18, .int .i64 p105), (19, .pointer (some ⟨adB A0, adO A0 + p105.toNat * 3, none⟩)), (20, .agg #[.int .i64 ((x0.getD p105.toNat ((0, 0, 0) : Int × Int × Int)).1), .int .i64 ((x0.getD p105.toNat ((0, 0, 0) : Int × Int × Int)).2.1), .int .i64 ((x0.getD p105.toNat ((0, 0, 0) : Int × Int × Int)).2.2)]), (21, .slice A1 x1.length c1), (22, .int .i64 p105), (23, .pointer (some ⟨adB A1, adO A1 + p105.toNat * 3, none⟩)), (24, .agg #[.int .i64 ((x1.getD p105.toNat ((0, 0, 0) : Int × Int × Int)).1), .int .i64 ((x1.getD p105.toNat ((0, 0, 0) : Int × Int × Int)).2.1), .int .i64 ((x1.getD p105.toNat ((0, 0, 0) : Int × Int × Int)).2.2)]), (25, .bool p109), (26, .bool (!p109))] (allSl_mem ⟨e17, e18, e19, e20, e21, e22, e23, e24, e25, e26, trivial⟩) rfl
      clear hB e17 e18 e19 e20 e21 e22 e23 e24 e25 e26
      cases hc110 : (p109)
      · replace hM104 := bif_f hc110 hM104
        refine cond_t hF rfl (not_t hc110) ?_
        revert a;refine sr (ov (v := .bool false) rfl rfl rfl (fun a hF=>run_assign rfl rfl) fun a hF=>wn ?_)
        refine wp_ret ?_
        repeat with_reducible first|refine tr ?_|refine ir ?_|refine nr ?_
        refine ret1_gw (.inl rfl) hF rfl (res_tmp (hF.ev rfl)) ?_
        obtain rfl := Option.some.inj hM104
        obtain rfl := Option.some.inj hM
        exact ⟨rfl, S.sel [] rfl rfl⟩
      replace hM104 := bif_t hc110 hM104
      refine cond_f hF rfl (not_f hc110) ?_
      refine wp_skip ?_
      revert a;refine rl (mv rfl rfl (ov (v := .int .i64 (w64 (p105 + 1))) rfl rfl rfl (fun a hF=>run_add (z := w64 (p105 + 1)) (hF.ev rfl) rfl rfl rfl) (ag rfl rfl fun a hF=>wn ?_)))
      exact ⟨f1, Nat.lt_succ_self _, w64 (p105 + 1), hM104, hF.keep _ ⟨rfl, rfl, rfl, rfl, trivial⟩, S.sel [] rfl rfl⟩
    rintro a u ⟨p102, rfl, hF, S⟩
    replace hM := elim_l hM
    revert a;refine sr (ov (v := .bool true) rfl rfl rfl (fun a hF=>run_assign rfl rfl) fun a hF=>wn ?_)
    refine wp_ret ?_
    repeat with_reducible first|refine tr ?_|refine ir ?_|refine nr ?_
    refine ret1_gw (.inl rfl) hF rfl (res_tmp (hF.ev rfl)) ?_
    obtain rfl := Option.some.inj hM
    exact ⟨rfl, S.sel [] rfl rfl⟩
  replace hM := bif_t hc101 hM
  refine cond_t hF rfl hc101 ?_
  revert a;refine sr (ov (v := .bool false) rfl rfl rfl (fun a hF=>run_assign rfl rfl) fun a hF=>wn ?_)
  refine wp_ret ?_
  repeat with_reducible first|refine tr ?_|refine ir ?_|refine nr ?_
  refine ret1_gw (.inl rfl) hF rfl (res_tmp (hF.ev rfl)) ?_
  obtain rfl := Option.some.inj hM
  exact ⟨rfl, S.sel [] rfl rfl⟩
theorem c_laws_eqNet {x0 : Int} {x1 : List (Int × Int × Int)} {x2 : Int} {x3 : List (Int × Int × Int)} {A1 : Option Addr} {n1 c1 : Nat} {A3 : Option Addr} {n3 c3 : Nat} {w : World} {r : Bool} (h1 : Rt w 3 eLine A1 n1 c1 x1) (h3 : Rt w 3 eLine A3 n3 c3 x3) (hM : m_laws_eqNet x0 x1 x2 x3 = some r) :
    Calls Try.prog 32 #[.agg #[.int .i64 x0, .slice A1 n1 c1], .agg #[.int .i64 x2, .slice A3 n3 c3]] w (fun e w' => e = .returned (.bool r) ∧ St w w' []) := by
  obtain rfl := h1.len
  obtain rfl := h3.len
  unfold m_laws_eqNet at hM
  refine calls_gw Try.func32 Try.ntmps32 rfl [(0, .agg #[.int .i64 x0, .slice A1 x1.length c1]), (1, .agg #[.int .i64 x2, .slice A3 x3.length c3])] ⟨rfl, rfl, trivial⟩ rfl ?_
  intro a hF
  have S := St.nil w
  refine wsg ?_
  refine op_new (cs := #[.int .i64 x0, .slice A1 x1.length c1]) rfl rfl hF rfl S (run_box rfl (hF.ev rfl) rfl) ?_; clear hF S; intro a g101 u hF S
  refine op_new (cs := #[.int .i64 x2, .slice A3 x3.length c3]) rfl rfl hF rfl S (run_box rfl (hF.ev rfl) rfl) ?_; clear hF S; intro a g102 u hF S
  refine op_val (v := .bool false) rfl rfl hF rfl (run_assign rfl rfl) ?_;clear hF;intro a hF
  refine wn ?_
  refine ws ?_
  revert a;refine sr (ov (v := .pointer (some ⟨g101, 0, none⟩)) rfl rfl rfl (fun a hF=>run_fieldAddr rfl fl37_0 (hF.ev rfl) rfl) (ov (v := .int .i64 x0) rfl rfl rfl (fun a hF=>run_load1 rfl one3 (hF.ev rfl) ((S.free 1 rfl).cell rfl)) (ov (v := .pointer (some ⟨g102, 0, none⟩)) rfl rfl rfl (fun a hF=>run_fieldAddr rfl fl37_0 (hF.ev rfl) rfl) (ov (v := .int .i64 x2) rfl rfl rfl (fun a hF=>run_load1 rfl one3 (hF.ev rfl) ((S.free 0 rfl).cell rfl)) (ov (v := .bool (x0 != x2)) rfl rfl rfl (fun a hF=>run_neq (hF.ev rfl) (hF.ev rfl) rfl) fun a hF=>wn ?_)))))
  cases hc103 : (x0 != x2)
  · replace hM := bif_f hc103 hM
    refine cond_f hF rfl hc103 ?_
    refine wp_skip ?_
    refine ws ?_
    revert a;refine sr (ov (v := .pointer (some ⟨g101, 1, none⟩)) rfl rfl rfl (fun a hF=>run_fieldAddr rfl fl37_1 (hF.ev rfl) rfl) (ov (v := .slice A1 x1.length c1) rfl rfl rfl (fun a hF=>run_load1 rfl one35 (hF.ev rfl) ((S.free 1 rfl).cell rfl)) (ov (v := .pointer (some ⟨g102, 1, none⟩)) rfl rfl rfl (fun a hF=>run_fieldAddr rfl fl37_1 (hF.ev rfl) rfl) (ov (v := .slice A3 x3.length c3) rfl rfl rfl (fun a hF=>run_load1 rfl one35 (hF.ev rfl) ((S.free 0 rfl).cell rfl)) fun a hF=>?_))))
    obtain ⟨p104, h104, hM⟩ := bind_ex hM
    refine op_call rfl rfl hF rfl (run_call (vs := [.slice A1 x1.length c1, .slice A3 x3.length c3]) rfl rfl co58 ⟨(hF.ev rfl), (hF.ev rfl), trivial⟩) (c_laws_eqLineS (x0 := x1) (x1 := x3) ⟨(S.rc0 h1.rc), rfl⟩ ⟨(S.rc0 h3.rc), rfl⟩ h104) ?_
    rintro e u ⟨rfl, T⟩
    refine ⟨_, rfl, ?_⟩
    clear hF; intro a hF
    replace S := S.call0 T; clear T
    refine op_val (v := .bool (!p104)) rfl rfl hF rfl (run_not rfl (hF.ev rfl)) ?_;clear hF;intro a hF
    refine wn ?_
    cases hc105 : (p104)
    · replace hM := bif_f hc105 hM
      refine cond_t hF rfl (not_t hc105) ?_
      revert a;refine sr (ov (v := .bool false) rfl rfl rfl (fun a hF=>run_assign rfl rfl) fun a hF=>wn ?_)
      refine wp_ret ?_
      repeat with_reducible first|refine tr ?_|refine ir ?_|refine nr ?_
      refine ret1_gw (.inl rfl) hF rfl (res_tmp (hF.ev rfl)) ?_
      obtain rfl := Option.some.inj hM
      exact ⟨rfl, S.sel [] rfl rfl⟩
    replace hM := bif_t hc105 hM
    refine cond_f hF rfl (not_f hc105) ?_
    refine wp_skip ?_
    revert a;refine sr (ov (v := .bool true) rfl rfl rfl (fun a hF=>run_assign rfl rfl) fun a hF=>wn ?_)
    refine wp_ret ?_
    repeat with_reducible first|refine tr ?_|refine ir ?_|refine nr ?_
    refine ret1_gw (.inl rfl) hF rfl (res_tmp (hF.ev rfl)) ?_
    obtain rfl := Option.some.inj hM
    exact ⟨rfl, S.sel [] rfl rfl⟩
  replace hM := bif_t hc103 hM
  refine cond_t hF rfl hc103 ?_
  revert a;refine sr (ov (v := .bool false) rfl rfl rfl (fun a hF=>run_assign rfl rfl) fun a hF=>wn ?_)
  refine wp_ret ?_
  repeat with_reducible first|refine tr ?_|refine ir ?_|refine nr ?_
  refine ret1_gw (.inl rfl) hF rfl (res_tmp (hF.ev rfl)) ?_
  obtain rfl := Option.some.inj hM
  exact ⟨rfl, S.sel [] rfl rfl⟩
theorem c_laws_eqBus {x0 : Int} {x1 : Int} {x2 : Int} {x3 : Int} {w : World} {r : Bool}  (hM : m_laws_eqBus x0 x1 x2 x3 = some r) :
    Calls Try.prog 59 #[.agg #[.int .i64 x0, .int .i64 x1], .agg #[.int .i64 x2, .int .i64 x3]] w (fun e w' => e = .returned (.bool r) ∧ St w w' []) := by
  unfold m_laws_eqBus at hM
  refine calls_gw Try.func59 Try.ntmps59 rfl [(0, .agg #[.int .i64 x0, .int .i64 x1]), (1, .agg #[.int .i64 x2, .int .i64 x3])] ⟨rfl, rfl, trivial⟩ rfl ?_
  intro a hF
  have S := St.nil w
  refine wsg ?_
  refine op_new (cs := #[.int .i64 x0, .int .i64 x1]) rfl rfl hF rfl S (run_box rfl (hF.ev rfl) rfl) ?_; clear hF S; intro a g101 u hF S
  refine op_new (cs := #[.int .i64 x2, .int .i64 x3]) rfl rfl hF rfl S (run_box rfl (hF.ev rfl) rfl) ?_; clear hF S; intro a g102 u hF S
  refine op_val (v := .bool false) rfl rfl hF rfl (run_assign rfl rfl) ?_;clear hF;intro a hF
  refine wn ?_
  refine ws ?_
  revert a;refine sr (ov (v := .pointer (some ⟨g101, 0, none⟩)) rfl rfl rfl (fun a hF=>run_fieldAddr rfl fl69_0 (hF.ev rfl) rfl) (ov (v := .int .i64 x0) rfl rfl rfl (fun a hF=>run_load1 rfl one3 (hF.ev rfl) ((S.free 1 rfl).cell rfl)) (ov (v := .pointer (some ⟨g102, 0, none⟩)) rfl rfl rfl (fun a hF=>run_fieldAddr rfl fl69_0 (hF.ev rfl) rfl) (ov (v := .int .i64 x2) rfl rfl rfl (fun a hF=>run_load1 rfl one3 (hF.ev rfl) ((S.free 0 rfl).cell rfl)) (ov (v := .bool (x0 != x2)) rfl rfl rfl (fun a hF=>run_neq (hF.ev rfl) (hF.ev rfl) rfl) fun a hF=>wn ?_)))))
  cases hc103 : (x0 != x2)
  · replace hM := bif_f hc103 hM
    refine cond_f hF rfl hc103 ?_
    refine wp_skip ?_
    refine ws ?_
    revert a;refine sr (ov (v := .pointer (some ⟨g101, 1, none⟩)) rfl rfl rfl (fun a hF=>run_fieldAddr rfl fl69_1 (hF.ev rfl) rfl) (ov (v := .int .i64 x1) rfl rfl rfl (fun a hF=>run_load1 rfl one3 (hF.ev rfl) ((S.free 1 rfl).cell rfl)) (ov (v := .pointer (some ⟨g102, 1, none⟩)) rfl rfl rfl (fun a hF=>run_fieldAddr rfl fl69_1 (hF.ev rfl) rfl) (ov (v := .int .i64 x3) rfl rfl rfl (fun a hF=>run_load1 rfl one3 (hF.ev rfl) ((S.free 0 rfl).cell rfl)) (ov (v := .bool (x1 != x3)) rfl rfl rfl (fun a hF=>run_neq (hF.ev rfl) (hF.ev rfl) rfl) fun a hF=>wn ?_)))))
    cases hc104 : (x1 != x3)
    · replace hM := bif_f hc104 hM
      refine cond_f hF rfl hc104 ?_
      refine wp_skip ?_
      revert a;refine sr (ov (v := .bool true) rfl rfl rfl (fun a hF=>run_assign rfl rfl) fun a hF=>wn ?_)
      refine wp_ret ?_
      repeat with_reducible first|refine tr ?_|refine ir ?_|refine nr ?_
      refine ret1_gw (.inl rfl) hF rfl (res_tmp (hF.ev rfl)) ?_
      obtain rfl := Option.some.inj hM
      exact ⟨rfl, S.sel [] rfl rfl⟩
    replace hM := bif_t hc104 hM
    refine cond_t hF rfl hc104 ?_
    revert a;refine sr (ov (v := .bool false) rfl rfl rfl (fun a hF=>run_assign rfl rfl) fun a hF=>wn ?_)
    refine wp_ret ?_
    repeat with_reducible first|refine tr ?_|refine ir ?_|refine nr ?_
    refine ret1_gw (.inl rfl) hF rfl (res_tmp (hF.ev rfl)) ?_
    obtain rfl := Option.some.inj hM
    exact ⟨rfl, S.sel [] rfl rfl⟩
  replace hM := bif_t hc103 hM
  refine cond_t hF rfl hc103 ?_
  revert a;refine sr (ov (v := .bool false) rfl rfl rfl (fun a hF=>run_assign rfl rfl) fun a hF=>wn ?_)
  refine wp_ret ?_
  repeat with_reducible first|refine tr ?_|refine ir ?_|refine nr ?_
  refine ret1_gw (.inl rfl) hF rfl (res_tmp (hF.ev rfl)) ?_
  obtain rfl := Option.some.inj hM
  exact ⟨rfl, S.sel [] rfl rfl⟩
theorem c_laws_eqBusS {x0 : List (Int × Int)} {x1 : List (Int × Int)} {A0 : Option Addr} {n0 c0 : Nat} {A1 : Option Addr} {n1 c1 : Nat} {w : World} {r : Bool} (h0 : Rt w 2 eBus A0 n0 c0 x0) (h1 : Rt w 2 eBus A1 n1 c1 x1) (hM : m_laws_eqBusS x0 x1 = some r) :
    Calls Try.prog 33 #[.slice A0 n0 c0, .slice A1 n1 c1] w (fun e w' => e = .returned (.bool r) ∧ St w w' []) := by
  obtain rfl := h0.len
  obtain rfl := h1.len
  unfold m_laws_eqBusS at hM
  refine calls_gw Try.func33 Try.ntmps33 rfl [(0, .slice A0 x0.length c0), (1, .slice A1 x1.length c1)] ⟨rfl, rfl, trivial⟩ rfl ?_
  intro a hF
  have S := St.nil w
  revert a;refine sr (ov (v := .bool false) rfl rfl rfl (fun a hF=>run_assign rfl rfl) fun a hF=>wn ?_)
  refine ws ?_
  revert a;refine sr (mv rfl rfl (ov rfl rfl rfl (fun a hF=>run_lenL rfl rfl Try.underlying38 (hF.ev rfl)) (mv rfl rfl (ov rfl rfl rfl (fun a hF=>run_lenL rfl rfl Try.underlying38 (hF.ev rfl)) (ov (v := .bool ((x0.length : Int) != (x1.length : Int))) rfl rfl rfl (fun a hF=>run_neq (hF.ev rfl) (hF.ev rfl) rfl) fun a hF=>wn ?_)))))
  cases hc101 : ((x0.length : Int) != (x1.length : Int))
  · replace hM := bif_f hc101 hM
    refine cond_f hF rfl hc101 ?_
    refine wp_skip ?_
    refine ws ?_
    revert a;refine sr (ov (v := .int .i64 0) rfl rfl rfl (fun a hF=>run_assign rfl rfl) fun a hF=>wn ?_)
    obtain ⟨o103, hM104, hM⟩ := bind_ex hM
    refine wp_cut (fun a u => ∃ (p102 : Unit), (Sum.inl p102) = o103 ∧ Fr a 27 [(4, .bool false)] ∧ St w u []) ?_ ?_
    · have _ := trivial
      refine wp_block ?_
      refine loop_gw (fun m a u => ∃ (p105 : Int), m_laws_eqBusS_l1 x0 x1 m p105 = some _ ∧ Fr a 27 [(0, .slice A0 x0.length c0), (1, .slice A1 x1.length c1), (4, .bool false), (5, .int .i64 p105)] ∧ St w u []) FUEL ⟨0, hM104, hF.keep _ ⟨rfl, rfl, rfl, rfl, trivial⟩, S.sel [] rfl rfl⟩ ?_
      clear hF S hM104; rintro m a u ⟨p105, hM104, hF, S⟩
      rcases m with _ | f1
      · exact none_some hM104
      rw [m_laws_eqBusS_l1.eq_2] at hM104
      refine ws ?_
      revert a;refine sr (mv rfl rfl (mv rfl rfl (ov rfl rfl rfl (fun a hF=>run_lenL rfl rfl Try.underlying38 (hF.ev rfl)) (ov (v := .bool (ltB p105 (x0.length : Int))) rfl rfl rfl (fun a hF=>run_lss (hF.ev rfl) (hF.ev rfl) rfl) fun a hF=>wn ?_))))
      cases hc106 : (ltB p105 (x0.length : Int))
      · replace hM104 := bif_f hc106 hM104
        refine cond_f hF rfl hc106 ?_
        refine wp_exit ?_
        repeat with_reducible (first | refine then_exit ?_ | refine in_hit ?_ | refine in_miss rfl ?_)
        obtain rfl := Option.some.inj hM104
        exact ⟨(), rfl, hF.keep _ ⟨rfl, trivial⟩, S.sel [] rfl rfl⟩
      replace hM104 := bif_t hc106 hM104
      refine cond_t hF rfl hc106 ?_
      refine wp_skip ?_
      refine ws ?_
      refine wp_block ?_
      refine ws ?_
      obtain ⟨hk107, hM104⟩ := chk_ex hM104
      replace hk107 := ixB_t hk107
      obtain ⟨hk108, hM104⟩ := chk_ex hM104
      replace hk108 := ixB_t hk108
      obtain ⟨p109, h109, hM104⟩ := bind_ex hM104
      refine region_gw (D := [17, 18, 19, 20, 21, 22, 23, 24, 25, 26]) (Lr := []) (deps := (fun | 0 => [17] | 1 => [18] | 2 => [19] | 3 => [20] | 4 => [21] | 5 => [22] | 6 => [23] | 7 => [24] | 8 => [25] | 9 => [26] | _ => [])) (rd := (fun _ => [])) (zr := (fun _ => []))
        (φ := fun i vs => match i, vs with | 0, [v17] => v17 = .slice A0 x0.length c0 | 1, [v18] => v18 = .int .i64 p105 | 2, [v19] => v19 = .pointer (some ⟨adB A0, adO A0 + p105.toNat * 2, none⟩) | 3, [v20] => v20 = .agg #[.int .i64 ((x0.getD p105.toNat ((0, 0) : Int × Int)).1), .int .i64 ((x0.getD p105.toNat ((0, 0) : Int × Int)).2)] | 4, [v21] => v21 = .slice A1 x1.length c1 | 5, [v22] => v22 = .int .i64 p105 | 6, [v23] => v23 = .pointer (some ⟨adB A1, adO A1 + p105.toNat * 2, none⟩) | 7, [v24] => v24 = .agg #[.int .i64 ((x1.getD p105.toNat ((0, 0) : Int × Int)).1), .int .i64 ((x1.getD p105.toNat ((0, 0) : Int × Int)).2)] | 8, [v25] => v25 = .bool p109 | 9, [v26] => v26 = .bool (!p109) | _, _ => True)
        (C := fun _ _ => [])
        (κ := (fun _ => none)) (Z := (fun _ => [])) mixed hF (by kernel_rfl) S ?_ ?_
      · refine ⟨?_, ?_, ?_, ?_, ?_, ?_, ?_, ?_, ?_, ?_, trivial⟩
        · intro a u X hB hu hp hr hz hl S
          replace S : St w u ([] ++ X) := S
          exact .inl ⟨rfl, .slice A0 x0.length c0, u, (run_move rfl (hF.evB hB rfl rfl)), rfl, S⟩
        · intro a u X hB hu hp hr hz hl S
          replace S : St w u ([] ++ X) := S
          exact .inl ⟨rfl, .int .i64 p105, u, (run_move rfl (hF.evB hB rfl rfl)), rfl, S⟩
        · intro a u X hB hu hp hr hz hl S
          replace S : St w u ([] ++ X) := S
          have e17 : sl a 17 = .slice A0 x0.length c0 := hp 0 rfl
          have e18 : sl a 18 = .int .i64 p105 := hp 1 rfl
          exact .inl ⟨rfl, .pointer (some ⟨adB A0, adO A0 + p105.toNat * 2, none⟩), u, (run_indexAddr (b := adB A0) (off := adO A0) rfl Try.underlying38 sz69 ((ev_sl e17).trans (congrArg (fun A => Value.slice A x0.length c0) ((S.rc0 h0.rc).rd.ad (ix_pos hk107)))) (ev_sl e18) hk107.1 hk107.2 (k' := adO A0 + p105.toNat * 2) rfl), rfl, S⟩
        · intro a u X hB hu hp hr hz hl S
          replace S : St w u ([] ++ X) := S
          have e19 : sl a 19 = .pointer (some ⟨adB A0, adO A0 + p105.toNat * 2, none⟩) := hp 2 rfl
          exact .inl ⟨rfl, .agg #[.int .i64 ((x0.getD p105.toNat ((0, 0) : Int × Int)).1), .int .i64 ((x0.getD p105.toNat ((0, 0) : Int × Int)).2)], u, (run_loadN (cs := #[.int .i64 ((x0.getD p105.toNat ((0, 0) : Int × Int)).1), .int .i64 ((x0.getD p105.toNat ((0, 0) : Int × Int)).2)]) rfl ag69 (ev_sl e19) rfl (rd_elN (l := x0) (S.rc0 h0.rc).rd rfl eBus_len ((0, 0) : Int × Int) (ix_ltn hk107 rfl) rfl)), rfl, S⟩
        · intro a u X hB hu hp hr hz hl S
          replace S : St w u ([] ++ X) := S
          exact .inl ⟨rfl, .slice A1 x1.length c1, u, (run_move rfl (hF.evB hB rfl rfl)), rfl, S⟩
        · intro a u X hB hu hp hr hz hl S
          replace S : St w u ([] ++ X) := S
          exact .inl ⟨rfl, .int .i64 p105, u, (run_move rfl (hF.evB hB rfl rfl)), rfl, S⟩
        · intro a u X hB hu hp hr hz hl S
          replace S : St w u ([] ++ X) := S
          have e21 : sl a 21 = .slice A1 x1.length c1 := hp 4 rfl
          have e22 : sl a 22 = .int .i64 p105 := hp 5 rfl
          exact .inl ⟨rfl, .pointer (some ⟨adB A1, adO A1 + p105.toNat * 2, none⟩), u, (run_indexAddr (b := adB A1) (off := adO A1) rfl Try.underlying38 sz69 ((ev_sl e21).trans (congrArg (fun A => Value.slice A x1.length c1) ((S.rc0 h1.rc).rd.ad (ix_pos hk108)))) (ev_sl e22) hk108.1 hk108.2 (k' := adO A1 + p105.toNat * 2) rfl), rfl, S⟩
        · intro a u X hB hu hp hr hz hl S
          replace S : St w u ([] ++ X) := S
          have e23 : sl a 23 = .pointer (some ⟨adB A1, adO A1 + p105.toNat * 2, none⟩) := hp 6 rfl
          exact .inl ⟨rfl, .agg #[.int .i64 ((x1.getD p105.toNat ((0, 0) : Int × Int)).1), .int .i64 ((x1.getD p105.toNat ((0, 0) : Int × Int)).2)], u, (run_loadN (cs := #[.int .i64 ((x1.getD p105.toNat ((0, 0) : Int × Int)).1), .int .i64 ((x1.getD p105.toNat ((0, 0) : Int × Int)).2)]) rfl ag69 (ev_sl e23) rfl (rd_elN (l := x1) (S.rc0 h1.rc).rd rfl eBus_len ((0, 0) : Int × Int) (ix_ltn hk108 rfl) rfl)), rfl, S⟩
        · intro a u X hB hu hp hr hz hl S
          replace S : St w u ([] ++ X) := S
          have e20 : sl a 20 = .agg #[.int .i64 ((x0.getD p105.toNat ((0, 0) : Int × Int)).1), .int .i64 ((x0.getD p105.toNat ((0, 0) : Int × Int)).2)] := hp 3 rfl
          have e24 : sl a 24 = .agg #[.int .i64 ((x1.getD p105.toNat ((0, 0) : Int × Int)).1), .int .i64 ((x1.getD p105.toNat ((0, 0) : Int × Int)).2)] := hp 7 rfl
          refine .inr (.inr (.inl ⟨rfl, _, _, (run_call (vs := [.agg #[.int .i64 ((x0.getD p105.toNat ((0, 0) : Int × Int)).1), .int .i64 ((x0.getD p105.toNat ((0, 0) : Int × Int)).2)], .agg #[.int .i64 ((x1.getD p105.toNat ((0, 0) : Int × Int)).1), .int .i64 ((x1.getD p105.toNat ((0, 0) : Int × Int)).2)]]) rfl rfl co59 ⟨(ev_sl e20), (ev_sl e24), trivial⟩), ?_⟩))
          refine Calls.mono (c_laws_eqBus (x0 := (x0.getD p105.toNat ((0, 0) : Int × Int)).1) (x1 := (x0.getD p105.toNat ((0, 0) : Int × Int)).2) (x2 := (x1.getD p105.toNat ((0, 0) : Int × Int)).1) (x3 := (x1.getD p105.toNat ((0, 0) : Int × Int)).2)  h109) ?_
          rintro e w1 ⟨rfl, T⟩
          exact ⟨_, rfl, rfl, S.call0 T⟩
        intro a u X hB hu hp hr hz hl S
        replace S : St w u ([] ++ X) := S
        have e25 : sl a 25 = .bool p109 := hp 8 rfl
        exact .inl ⟨rfl, .bool (!p109), u, (run_not rfl (ev_sl e25)), rfl, S⟩
      intro a u hB hp S
      obtain ⟨q0, q1, q2, q3, q4, q5, q6, q7, q8, q9, -⟩ := hp
      have e17 : sl a 17 = .slice A0 x0.length c0 := q0
      have e18 : sl a 18 = .int .i64 p105 := q1
      have e19 : sl a 19 = .pointer (some ⟨adB A0, adO A0 + p105.toNat * 2, none⟩) := q2
      have e20 : sl a 20 = .agg #[.int .i64 ((x0.getD p105.toNat ((0, 0) : Int × Int)).1), .int .i64 ((x0.getD p105.toNat ((0, 0) : Int × Int)).2)] := q3
      have e21 : sl a 21 = .slice A1 x1.length c1 := q4
      have e22 : sl a 22 = .int .i64 p105 := q5
      have e23 : sl a 23 = .pointer (some ⟨adB A1, adO A1 + p105.toNat * 2, none⟩) := q6
      have e24 : sl a 24 = .agg #[.int .i64 ((x1.getD p105.toNat ((0, 0) : Int × Int)).1), .int .i64 ((x1.getD p105.toNat ((0, 0) : Int × Int)).2)] := q7
      have e25 : sl a 25 = .bool p109 := q8
      have e26 : sl a 26 = .bool (!p109) := q9
      replace S : St w u [] := S
      clear q0 q1 q2 q3 q4 q5 q6 q7 q8 q9
      have hF := hF.region hB [(17, .slice A0 x0.length c0), (18, .int .i64 p105), (19, .pointer (some ⟨adB A0, adO A0 + p105.toNat * 2, none⟩)), (20, .agg #[.int .i64 ((x0.getD p105.toNat ((0, 0) : Int × Int)).1), .int .i64 ((x0.getD p105.toNat ((0, 0) : Int × Int)).2)]), (21, .slice A1 x1.length c1), (22, .int .i64 p105), (23, .pointer (some ⟨adB A1, adO A1 + p105.toNat * 2, none⟩)), (24, .agg #[.int .i64 ((x1.getD p105.toNat ((0, 0) : Int × Int)).1), .int .i64 ((x1.getD p105.toNat ((0, 0) : Int × Int)).2)]), (25, .bool p109), (26, .bool (!p109))] (allSl_mem ⟨e17, e18, e19, e20, e21, e22, e23, e24, e25, e26, trivial⟩) rfl
      clear hB e17 e18 e19 e20 e21 e22 e23 e24 e25 e26
      cases hc110 : (p109)
      · replace hM104 := bif_f hc110 hM104
        refine cond_t hF rfl (not_t hc110) ?_
        revert a;refine sr (ov (v := .bool false) rfl rfl rfl (fun a hF=>run_assign rfl rfl) fun a hF=>wn ?_)
        refine wp_ret ?_
        repeat with_reducible first|refine tr ?_|refine ir ?_|refine nr ?_
        refine ret1_gw (.inl rfl) hF rfl (res_tmp (hF.ev rfl)) ?_
        obtain rfl := Option.some.inj hM104
        obtain rfl := Option.some.inj hM
        exact ⟨rfl, S.sel [] rfl rfl⟩
      replace hM104 := bif_t hc110 hM104
      refine cond_f hF rfl (not_f hc110) ?_
      refine wp_skip ?_
      revert a;refine rl (mv rfl rfl (ov (v := .int .i64 (w64 (p105 + 1))) rfl rfl rfl (fun a hF=>run_add (z := w64 (p105 + 1)) (hF.ev rfl) rfl rfl rfl) (ag rfl rfl fun a hF=>wn ?_)))
      exact ⟨f1, Nat.lt_succ_self _, w64 (p105 + 1), hM104, hF.keep _ ⟨rfl, rfl, rfl, rfl, trivial⟩, S.sel [] rfl rfl⟩
    rintro a u ⟨p102, rfl, hF, S⟩
    replace hM := elim_l hM
    revert a;refine sr (ov (v := .bool true) rfl rfl rfl (fun a hF=>run_assign rfl rfl) fun a hF=>wn ?_)
    refine wp_ret ?_
    repeat with_reducible first|refine tr ?_|refine ir ?_|refine nr ?_
    refine ret1_gw (.inl rfl) hF rfl (res_tmp (hF.ev rfl)) ?_
    obtain rfl := Option.some.inj hM
    exact ⟨rfl, S.sel [] rfl rfl⟩
  replace hM := bif_t hc101 hM
  refine cond_t hF rfl hc101 ?_
  revert a;refine sr (ov (v := .bool false) rfl rfl rfl (fun a hF=>run_assign rfl rfl) fun a hF=>wn ?_)
  refine wp_ret ?_
  repeat with_reducible first|refine tr ?_|refine ir ?_|refine nr ?_
  refine ret1_gw (.inl rfl) hF rfl (res_tmp (hF.ev rfl)) ?_
  obtain rfl := Option.some.inj hM
  exact ⟨rfl, S.sel [] rfl rfl⟩
end Go.Proofs.Ytcmnjaccapbhfaa
