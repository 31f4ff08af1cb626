/- Calls return what the models say. -/
import Derived.Test.YthpmmfbnclfbmaaDoorDa2
namespace Go.Proofs.YthpmmfbnclfbmaaDoor
open Go.ChangeShapes Go.WideShapes Go.ChangeAt Go.RowKit
set_option linter.unusedVariables false
set_option linter.unusedSimpArgs false

set_option maxHeartbeats 4000000 in
theorem c_impl_OtherEnd {x0 : Int} {x1 : List (Int × Int × Int)} {x2 : Int} {x3 : Int} {A1 : Option Addr} {n1 c1 : Nat} {w : World} {r : Int} (h1 : Rt w 3 eLine A1 n1 c1 x1) (hM : m_impl_OtherEnd x0 x1 x2 x3 = some r) :
    Calls Tryd.prog 32 #[.agg #[.int .i64 x0, .slice A1 n1 c1], .int .i64 x2, .int .i64 x3] w (fun e w' => e = .returned (.int .i64 r) ∧ St w w' []) := by
  obtain rfl := h1.len
  unfold m_impl_OtherEnd at hM
  refine calls_gw Tryd.func32 Tryd.ntmps32 rfl [(0, .agg #[.int .i64 x0, .slice A1 x1.length c1]), (1, .int .i64 x2), (2, .int .i64 x3)] ⟨rfl, rfl, rfl, trivial⟩ rfl ?_
  intro a hF
  have S := St.nil w
  refine wp_seq ?_
  refine wp_region_lit ?_
  refine op_new (cs := #[.int .i64 x0, .slice A1 x1.length c1]) rfl rfl hF rfl S (run_box rfl (hF.ev rfl) rfl) ?_; clear hF S; intro a g101 u hF S
  refine op_val (v := .int .i64 0) rfl rfl hF rfl (run_assign rfl rfl) ?_; clear hF; intro a hF
  refine wpList_nil ?_
  refine wp_seq ?_
  refine wp_seq ?_
  refine wp_region_lit ?_
  refine op_val (v := .agg #[.int .i64 x0, .slice A1 x1.length c1]) rfl rfl hF rfl (run_loadN rfl ag62 (hF.ev rfl) rfl ((S.free 0 rfl).cells 0 #[.int .i64 x0, .slice A1 x1.length c1] rfl)) ?_; clear hF; intro a hF
  obtain ⟨p102, h102, hM⟩ := bind_ex hM
  refine op_call rfl rfl hF rfl (run_call (vs := [.agg #[.int .i64 x0, .slice A1 x1.length c1]]) rfl rfl co37 ⟨(hF.ev rfl), trivial⟩) (c_impl_NetValid (x0 := x0) (x1 := x1) ⟨(S.rc0 h1.rc), rfl⟩ h102) ?_
  rintro e u ⟨rfl, T⟩
  refine ⟨_, rfl, ?_⟩
  clear hF; intro a hF
  replace S := S.call0 T; clear T
  refine op_val (v := .bool (!p102)) rfl rfl hF rfl (run_not rfl (hF.ev rfl)) ?_; clear hF; intro a hF
  refine op_val (v := .bool (!p102)) rfl rfl hF rfl (run_move rfl (hF.ev rfl)) ?_; clear hF; intro a hF
  refine op_gv (v := .agg #[.int .i64 x0, .slice A1 x1.length c1]) rfl rfl hF rfl (yf (gw_yield hF rfl rfl rfl)) (fun hg => (run_loadN rfl ag62 (hF.ev rfl) rfl ((S.free 0 rfl).cells 0 #[.int .i64 x0, .slice A1 x1.length c1] rfl))) ?_; clear hF; intro a hF
  refine op_gv (v := .int .i64 x2) rfl rfl hF rfl (yf (gw_yield hF rfl rfl rfl)) (fun hg => (run_move rfl (hF.ev rfl))) ?_; clear hF; intro a hF
  obtain ⟨p103, h103, hM⟩ := bind_ex hM
  refine op_gcall (v := .bool p103) rfl rfl hF rfl S (yf (gw_yield hF rfl rfl rfl)) (fun hg => (run_call (vs := [.agg #[.int .i64 x0, .slice A1 x1.length c1], .int .i64 x2]) rfl rfl co38 ⟨((hF.ev rfl).trans (gv_t hg)), ((hF.ev rfl).trans (gv_t hg)), trivial⟩)) (fun hg => c_impl_Net_hasLine (x0 := x0) (x1 := x1) (x2 := x2) ⟨(S.rc0 h1.rc), rfl⟩ (gb_t h103 hg)) ?_; clear hF S; intro a u hF S
  refine op_gv (v := .bool (!p103)) rfl rfl hF rfl (yf (gw_yield hF rfl rfl rfl)) (fun hg => (run_not rfl ((hF.ev rfl).trans (gv_t hg)))) ?_; clear hF; intro a hF
  refine op_val (v := .bool ((!p102) || (!p103))) rfl rfl hF rfl (run_pick_or rfl (hF.ev rfl) rfl (fun hp => ((hF.ev rfl).trans (gv_t (not_t hp))))) ?_; clear hF; intro a hF
  refine wpList_nil ?_
  cases hc104 : ((!p102) || (!p103))
  · replace hM := bif_f hc104 hM
    refine cond_f hF rfl hc104 ?_
    refine wp_skip ?_
    refine wp_seq ?_
    refine wp_region_lit ?_
    refine op_val (v := .pointer (some ⟨g101, 1, none⟩)) rfl rfl hF rfl (run_fieldAddr rfl fl62_1 (hF.ev rfl) rfl) ?_; clear hF; intro a hF
    refine op_val (v := .slice A1 x1.length c1) rfl rfl hF rfl (run_load1 rfl one60 (hF.ev rfl) ((S.free 0 rfl).cell rfl)) ?_; clear hF; intro a hF
    refine op_val (v := .int .i64 x2) rfl rfl hF rfl (run_move rfl (hF.ev rfl)) ?_; clear hF; intro a hF
    obtain ⟨hk105, hM⟩ := chk_ex hM
    replace hk105 := ixB_t hk105
    refine op_val (v := .pointer (some ⟨adB A1, adO A1 + x2.toNat * 3, none⟩)) rfl rfl hF rfl (run_indexAddr (b := adB A1) (off := adO A1) rfl Tryd.underlying60 sz59 ((hF.ev rfl).trans (congrArg (fun A => Value.slice A x1.length c1) ((S.rc0 h1.rc).rd.ad (ix_pos hk105)))) (hF.ev rfl) hk105.1 hk105.2 (k' := adO A1 + x2.toNat * 3) rfl) ?_; clear hF; intro a hF
    refine op_val (v := .agg #[.int .i64 ((x1.getD x2.toNat ((0, 0, 0) : Int × Int × Int)).1), .int .i64 ((x1.getD x2.toNat ((0, 0, 0) : Int × Int × Int)).2.1), .int .i64 ((x1.getD x2.toNat ((0, 0, 0) : Int × Int × Int)).2.2)]) rfl rfl hF rfl (run_loadN (cs := #[.int .i64 ((x1.getD x2.toNat ((0, 0, 0) : Int × Int × Int)).1), .int .i64 ((x1.getD x2.toNat ((0, 0, 0) : Int × Int × Int)).2.1), .int .i64 ((x1.getD x2.toNat ((0, 0, 0) : Int × Int × Int)).2.2)]) rfl ag59 (hF.ev rfl) rfl (rd_elN (l := x1) (S.rc0 h1.rc).rd rfl eLine_len ((0, 0, 0) : Int × Int × Int) (ix_ltn hk105 rfl) rfl)) ?_; clear hF; intro a hF
    refine op_val (v := .int .i64 x3) rfl rfl hF rfl (run_move rfl (hF.ev rfl)) ?_; clear hF; intro a hF
    obtain ⟨p106, h106, hM⟩ := bind_ex hM
    refine op_call rfl rfl hF rfl (run_call (vs := [.agg #[.int .i64 ((x1.getD x2.toNat ((0, 0, 0) : Int × Int × Int)).1), .int .i64 ((x1.getD x2.toNat ((0, 0, 0) : Int × Int × Int)).2.1), .int .i64 ((x1.getD x2.toNat ((0, 0, 0) : Int × Int × Int)).2.2)], .int .i64 x3]) rfl rfl co39 ⟨(hF.ev rfl), (hF.ev rfl), trivial⟩) (c_impl_Line_other (x0 := (x1.getD x2.toNat ((0, 0, 0) : Int × Int × Int)).1) (x1 := (x1.getD x2.toNat ((0, 0, 0) : Int × Int × Int)).2.1) (x2 := (x1.getD x2.toNat ((0, 0, 0) : Int × Int × Int)).2.2) (x3 := x3)  h106) ?_
    rintro e u ⟨rfl, T⟩
    refine ⟨_, rfl, ?_⟩
    clear hF; intro a hF
    replace S := S.call0 T; clear T
    refine op_val (v := .int .i64 p106) rfl rfl hF rfl (run_assign rfl (hF.ev rfl)) ?_; clear hF; intro a hF
    refine wpList_nil ?_
    refine wp_ret ?_
    repeat with_reducible (first | refine then_ret ?_ | refine in_ret ?_ | refine in_nrm ?_)
    refine ret1_gw (.inl rfl) hF rfl (res_tmp (hF.ev rfl)) ?_
    obtain rfl := Option.some.inj hM
    exact ⟨rfl, S.sel [] rfl rfl⟩
  · replace hM := bif_t hc104 hM
    refine cond_t hF rfl hc104 ?_
    refine wp_seq ?_
    refine wp_region_lit ?_
    refine op_val (v := .int .i64 (-1)) rfl rfl hF rfl (run_assign rfl rfl) ?_; clear hF; intro a hF
    refine wpList_nil ?_
    refine wp_ret ?_
    repeat with_reducible (first | refine then_ret ?_ | refine in_ret ?_ | refine in_nrm ?_)
    refine ret1_gw (.inl rfl) hF rfl (res_tmp (hF.ev rfl)) ?_
    obtain rfl := Option.some.inj hM
    exact ⟨rfl, S.sel [] rfl rfl⟩

set_option maxHeartbeats 4000000 in
theorem c_laws_alive {w : World} {r : Bool}  (hM : m_laws_alive = some r) :
    Calls Tryd.prog 11 #[] w (fun e w' => e = .returned (.bool r) ∧ St w w' []) := by
  unfold m_laws_alive at hM
  refine calls_gw Tryd.func11 Tryd.ntmps11 rfl [] trivial rfl ?_
  intro a hF
  have S := St.nil w
  refine wp_seq ?_
  refine wp_region_lit ?_
  refine op_val (v := .bool false) rfl rfl hF rfl (run_assign rfl rfl) ?_; clear hF; intro a hF
  refine wpList_nil ?_
  refine wp_seq ?_
  obtain ⟨o102, hM103, hM⟩ := bind_ex hM
  refine wp_cut (fun a u => ∃ (p101 : Bool), p101 = o102 ∧ Fr a 11 [(0, .bool p101)] ∧ St w u []) ?_ ?_
  · have _ := trivial
    refine wp_region_lit ?_
    refine op_val (v := .agg #[.int .i64 0, .int .i64 1, .int .i64 1]) rfl rfl hF rfl (run_build (vs := [(0, .int .i64 0), (1, .int .i64 1), (2, .int .i64 1)]) rfl ⟨⟨rfl, rfl⟩, ⟨rfl, rfl⟩, ⟨rfl, rfl⟩, trivial⟩ (bd59_0_1_2 rfl rfl rfl)) ?_; clear hF; intro a hF
    refine op_newrowL (ls := ([(0, 1, 1)] : List (Int × Int × Int))) (e := eLine) rfl rfl hF rfl S (run_buildS (vs := [(0, .agg #[.int .i64 0, .int .i64 1, .int .i64 1])]) rfl ⟨⟨rfl, (hF.ev rfl)⟩, trivial⟩ (bs60_1_3 )) rfl eLine_len (Nat.le_of_ble_eq_true rfl) ?_; clear hF S; intro a g104 u hF S
    refine op_val (v := .agg #[.int .i64 2, .slice (some ⟨g104, 0, none⟩) (([(0, 1, 1)]).length) (([(0, 1, 1)]).length)]) rfl rfl hF rfl (run_build (vs := [(0, .int .i64 2), (1, .slice (some ⟨g104, 0, none⟩) (([(0, 1, 1)]).length) (([(0, 1, 1)]).length))]) rfl ⟨⟨rfl, rfl⟩, ⟨rfl, (hF.ev rfl)⟩, trivial⟩ (bd62_0_1 rfl rfl)) ?_; clear hF; intro a hF
    obtain ⟨p105, h105, hM103⟩ := bind_ex hM103
    refine op_call rfl rfl hF rfl (run_call (vs := [.agg #[.int .i64 2, .slice (some ⟨g104, 0, none⟩) (([(0, 1, 1)]).length) (([(0, 1, 1)]).length)], .int .i64 0, .int .i64 0]) rfl rfl co32 ⟨(hF.ev rfl), rfl, rfl, trivial⟩) (c_impl_OtherEnd (x0 := 2) (x1 := [(0, 1, 1)]) (x2 := 0) (x3 := 0) ⟨(S.rc 0 rfl), rfl⟩ h105) ?_
    rintro e u ⟨rfl, T⟩
    refine ⟨_, rfl, ?_⟩
    clear hF; intro a hF
    replace S := S.call0 T; clear T
    refine op_val (v := .bool (p105 == 1)) rfl rfl hF rfl (run_eql (hF.ev rfl) rfl rfl) ?_; clear hF; intro a hF
    refine op_val (v := .bool (p105 == 1)) rfl rfl hF rfl (run_move rfl (hF.ev rfl)) ?_; clear hF; intro a hF
    refine op_gv (v := .agg #[.int .i64 0, .slice none 0 0]) rfl rfl hF rfl (yt (gw_yield hF rfl rfl rfl)) (fun hg => (run_build (vs := []) rfl trivial (bd62 ))) ?_; clear hF; intro a hF
    cases hc106 : (p105 == 1)
    · replace hM103 := bif_f hc106 hM103
      refine op_skipped rfl ((gw_yield hF rfl rfl rfl).trans (congrArg some hc106)) rfl rfl hF rfl ?_; clear hF; intro a hF
      refine op_skipped rfl ((gw_yield hF rfl rfl rfl).trans (congrArg some hc106)) rfl rfl hF rfl ?_; clear hF; intro a hF
      refine op_val (v := .bool false) rfl rfl hF rfl (run_pick_f rfl (hF.ev rfl) hc106 rfl) ?_; clear hF; intro a hF
      refine op_val (v := .bool false) rfl rfl hF rfl (run_assign rfl (hF.ev rfl)) ?_; clear hF; intro a hF
      refine wpList_nil ?_
      obtain rfl := Option.some.inj hM103
      exact ⟨false, rfl, hF.keep _ ⟨rfl, trivial⟩, S.sel [] rfl rfl⟩
    · replace hM103 := bif_t hc106 hM103
      refine op_guarded rfl ((gw_yield hF rfl rfl rfl).trans (congrArg some hc106)) ?_
      obtain ⟨p107, h107, hM103⟩ := bind_ex hM103
      obtain ⟨hk108, hM103⟩ := chk_ex hM103
      refine op_call rfl rfl hF rfl (run_call (vs := [.agg #[.int .i64 0, .slice none 0 0]]) rfl rfl co33 ⟨((hF.ev rfl).trans (gv_t hc106)), trivial⟩) (c_impl_NetText_bad (x0 := 0) (x1 := ([] : List (Int × Int × Int))) Rt.nil (h107.trans (congrArg some (of_not hk108)))) ?_
      rintro e u ⟨rfl, T⟩
      refine ⟨_, rfl, ?_⟩
      clear hF; intro a hF
      replace S := S.call0 T; clear T
      refine op_guarded rfl ((gw_yield hF rfl rfl rfl).trans (congrArg some hc106)) ?_
      refine op_val (v := .bool (({ data := #[] } : ByteArray).toList == ({ data := #[] } : ByteArray).toList)) rfl rfl hF rfl (run_eqlS (hF.ev rfl) rfl rfl) ?_; clear hF; intro a hF
      refine op_val (v := .bool (({ data := #[] } : ByteArray).toList == ({ data := #[] } : ByteArray).toList)) rfl rfl hF rfl (run_pick_t rfl (hF.ev rfl) hc106 (hF.ev rfl)) ?_; clear hF; intro a hF
      refine op_val (v := .bool (({ data := #[] } : ByteArray).toList == ({ data := #[] } : ByteArray).toList)) rfl rfl hF rfl (run_assign rfl (hF.ev rfl)) ?_; clear hF; intro a hF
      refine wpList_nil ?_
      obtain rfl := Option.some.inj hM103
      exact ⟨({ data := #[] } : ByteArray).toList == ({ data := #[] } : ByteArray).toList, rfl, hF.keep _ ⟨rfl, trivial⟩, S.sel [] rfl rfl⟩
  · rintro a u ⟨p101, rfl, hF, S⟩
    refine wp_ret ?_
    repeat with_reducible (first | refine then_ret ?_ | refine in_ret ?_ | refine in_nrm ?_)
    refine ret1_gw (.inl rfl) hF rfl (res_tmp (hF.ev rfl)) ?_
    obtain rfl := Option.some.inj hM
    exact ⟨rfl, S.sel [] rfl rfl⟩

set_option maxHeartbeats 4000000 in
theorem c_laws_FnRoomsDo {x0 : List Int} {A0 : Option Addr} {n0 c0 : Nat} {w : World} {r : Bool} (h0 : Rt w 1 eU A0 n0 c0 x0) (hM : m_laws_FnRoomsDo x0 = some r) :
    Calls Tryd.prog 3 #[.slice A0 n0 c0] w (fun e w' => e = .returned (.bool r) ∧ St w w' []) := by
  obtain rfl := h0.len
  unfold m_laws_FnRoomsDo at hM
  refine calls_gw Tryd.func3 Tryd.ntmps3 rfl [(0, .slice A0 x0.length c0)] ⟨rfl, trivial⟩ rfl ?_
  intro a hF
  have S := St.nil w
  refine wp_seq ?_
  refine wp_region_lit ?_
  refine op_val (v := .bool false) rfl rfl hF rfl (run_assign rfl rfl) ?_; clear hF; intro a hF
  refine wpList_nil ?_
  refine wp_seq ?_
  refine wp_seq ?_
  refine wp_region_lit ?_
  refine op_val (v := .slice A0 x0.length c0) rfl rfl hF rfl (run_move rfl (hF.ev rfl)) ?_; clear hF; intro a hF
  refine op_val (v := .int .i64 (x0.length : Int)) rfl rfl hF rfl (run_lenL rfl rfl Tryd.underlying22 (hF.ev rfl)) ?_; clear hF; intro a hF
  refine op_val (v := .bool (ltB 1048576 (x0.length : Int))) rfl rfl hF rfl (run_gtr (hF.ev rfl) rfl rfl) ?_; clear hF; intro a hF
  refine wpList_nil ?_
  cases hc101 : (ltB 1048576 (x0.length : Int))
  · replace hM := bif_f hc101 hM
    refine cond_f hF rfl hc101 ?_
    refine wp_skip ?_
    refine wp_seq ?_
    refine wp_region_lit ?_
    refine op_val (v := .slice A0 x0.length c0) rfl rfl hF rfl (run_move rfl (hF.ev rfl)) ?_; clear hF; intro a hF
    obtain ⟨p102, h102, hM⟩ := bind_ex hM
    refine op_call rfl rfl hF rfl (run_call (vs := [.slice A0 x0.length c0]) rfl rfl co6 ⟨(hF.ev rfl), trivial⟩) (c_spec_DrawRoomsDo (x0 := x0) ⟨(S.rc0 h0.rc), rfl⟩ h102) ?_
    rintro e u ⟨B103, n104, d105, rfl, rfl, T⟩
    refine ⟨_, rfl, ?_⟩
    clear hF; intro a hF
    replace S := S.call1 T; clear T
    refine op_val (v := .tuple #[.agg #[.int .i64 p102.1, .int .i64 p102.2.1, .slice B103 p102.2.2.1.length d105], .agg #[.int .i64 p102.2.2.2.1, .int .i64 p102.2.2.2.2.1, .int .i64 p102.2.2.2.2.2]]) rfl rfl hF rfl (run_move rfl (hF.ev rfl)) ?_; clear hF; intro a hF
    refine op_val (v := .agg #[.int .i64 p102.1, .int .i64 p102.2.1, .slice B103 p102.2.2.1.length d105]) rfl rfl hF rfl (run_extract rfl (hF.ev rfl) rfl) ?_; clear hF; intro a hF
    refine op_val (v := .agg #[.int .i64 p102.2.2.2.1, .int .i64 p102.2.2.2.2.1, .int .i64 p102.2.2.2.2.2]) rfl rfl hF rfl (run_extract rfl (hF.ev rfl) rfl) ?_; clear hF; intro a hF
    refine op_new (cs := #[.int .i64 0, .int .i64 0, .slice none 0 0]) rfl rfl hF rfl S (run_allocZ rfl zr25) ?_; clear hF S; intro a g106 u hF S
    refine op_new (cs := #[.int .i64 0, .int .i64 0, .int .i64 0]) rfl rfl hF rfl S (run_allocZ rfl zr27) ?_; clear hF S; intro a g107 u hF S
    refine op_do rfl rfl (run_store (cs' := #[.int .i64 p102.1, .int .i64 p102.2.1, .slice B103 p102.2.2.1.length d105]) rfl sz25 (hF.ev rfl) (hF.ev rfl) rfl rfl rfl (S.free 1 rfl) rfl rfl) ?_; replace S := S.put 1 rfl (#[.int .i64 p102.1, .int .i64 p102.2.1, .slice B103 p102.2.2.1.length d105])
    generalize World.setRow _ _ _ = u at S ⊢
    refine op_do rfl rfl (run_store (cs' := #[.int .i64 p102.2.2.2.1, .int .i64 p102.2.2.2.2.1, .int .i64 p102.2.2.2.2.2]) rfl sz27 (hF.ev rfl) (hF.ev rfl) rfl rfl rfl (S.free 0 rfl) rfl rfl) ?_; replace S := S.put 0 rfl (#[.int .i64 p102.2.2.2.1, .int .i64 p102.2.2.2.2.1, .int .i64 p102.2.2.2.2.2])
    generalize World.setRow _ _ _ = u at S ⊢
    refine wpList_nil ?_
    refine wp_seq ?_
    refine wp_region_lit ?_
    refine op_val (v := .agg #[.int .i64 p102.1, .int .i64 p102.2.1, .slice B103 p102.2.2.1.length d105]) rfl rfl hF rfl (run_loadN rfl ag25 (hF.ev rfl) rfl ((S.free 1 rfl).cells 0 #[.int .i64 p102.1, .int .i64 p102.2.1, .slice B103 p102.2.2.1.length d105] rfl)) ?_; clear hF; intro a hF
    refine op_val (v := .agg #[.int .i64 p102.2.2.2.1, .int .i64 p102.2.2.2.2.1, .int .i64 p102.2.2.2.2.2]) rfl rfl hF rfl (run_loadN rfl ag27 (hF.ev rfl) rfl ((S.free 0 rfl).cells 0 #[.int .i64 p102.2.2.2.1, .int .i64 p102.2.2.2.2.1, .int .i64 p102.2.2.2.2.2] rfl)) ?_; clear hF; intro a hF
    obtain ⟨p108, h108, hM⟩ := bind_ex hM
    refine op_call rfl rfl hF rfl (run_call (vs := [.agg #[.int .i64 p102.1, .int .i64 p102.2.1, .slice B103 p102.2.2.1.length d105], .agg #[.int .i64 p102.2.2.2.1, .int .i64 p102.2.2.2.2.1, .int .i64 p102.2.2.2.2.2]]) rfl rfl co7 ⟨(hF.ev rfl), (hF.ev rfl), trivial⟩) (c_impl_RoomsDo (x0 := p102.1) (x1 := p102.2.1) (x2 := p102.2.2.1) (x3 := p102.2.2.2.1) (x4 := p102.2.2.2.2.1) (x5 := p102.2.2.2.2.2) ⟨(S.rc 2 rfl), rfl⟩ h108) ?_
    rintro e u ⟨B109, n110, d111, rfl, rfl, T⟩
    refine ⟨_, rfl, ?_⟩
    clear hF; intro a hF
    replace S := S.call1 T; clear T
    refine op_val (v := .tuple #[.agg #[.int .i64 p108.1, .int .i64 p108.2.1, .slice B109 p108.2.2.1.length d111], .bool p108.2.2.2]) rfl rfl hF rfl (run_move rfl (hF.ev rfl)) ?_; clear hF; intro a hF
    refine op_val (v := .agg #[.int .i64 p108.1, .int .i64 p108.2.1, .slice B109 p108.2.2.1.length d111]) rfl rfl hF rfl (run_extract rfl (hF.ev rfl) rfl) ?_; clear hF; intro a hF
    refine op_val (v := .bool p108.2.2.2) rfl rfl hF rfl (run_extract rfl (hF.ev rfl) rfl) ?_; clear hF; intro a hF
    refine op_new (cs := #[.int .i64 0, .int .i64 0, .slice none 0 0]) rfl rfl hF rfl S (run_allocZ rfl zr25) ?_; clear hF S; intro a g112 u hF S
    refine op_do rfl rfl (run_store (cs' := #[.int .i64 p108.1, .int .i64 p108.2.1, .slice B109 p108.2.2.1.length d111]) rfl sz25 (hF.ev rfl) (hF.ev rfl) rfl rfl rfl (S.free 0 rfl) rfl rfl) ?_; replace S := S.put 0 rfl (#[.int .i64 p108.1, .int .i64 p108.2.1, .slice B109 p108.2.2.1.length d111])
    generalize World.setRow _ _ _ = u at S ⊢
    refine op_val (v := .bool p108.2.2.2) rfl rfl hF rfl (run_assign rfl (hF.ev rfl)) ?_; clear hF; intro a hF
    refine wpList_nil ?_
    refine wp_seq ?_
    refine wp_region_lit ?_
    refine op_val (v := .agg #[.int .i64 p102.1, .int .i64 p102.2.1, .slice B103 p102.2.2.1.length d105]) rfl rfl hF rfl (run_loadN rfl ag25 (hF.ev rfl) rfl ((S.free 3 rfl).cells 0 #[.int .i64 p102.1, .int .i64 p102.2.1, .slice B103 p102.2.2.1.length d105] rfl)) ?_; clear hF; intro a hF
    refine op_val (v := .agg #[.int .i64 p102.2.2.2.1, .int .i64 p102.2.2.2.2.1, .int .i64 p102.2.2.2.2.2]) rfl rfl hF rfl (run_loadN rfl ag27 (hF.ev rfl) rfl ((S.free 2 rfl).cells 0 #[.int .i64 p102.2.2.2.1, .int .i64 p102.2.2.2.2.1, .int .i64 p102.2.2.2.2.2] rfl)) ?_; clear hF; intro a hF
    obtain ⟨p113, h113, hM⟩ := bind_ex hM
    refine op_call rfl rfl hF rfl (run_call (vs := [.agg #[.int .i64 p102.1, .int .i64 p102.2.1, .slice B103 p102.2.2.1.length d105], .agg #[.int .i64 p102.2.2.2.1, .int .i64 p102.2.2.2.2.1, .int .i64 p102.2.2.2.2.2]]) rfl rfl co8 ⟨(hF.ev rfl), (hF.ev rfl), trivial⟩) (c_spec_RoomsDo (x0 := p102.1) (x1 := p102.2.1) (x2 := p102.2.2.1) (x3 := p102.2.2.2.1) (x4 := p102.2.2.2.2.1) (x5 := p102.2.2.2.2.2) ⟨(S.rc 4 rfl), rfl⟩ h113) ?_
    rintro e u ⟨B114, n115, d116, rfl, rfl, T⟩
    refine ⟨_, rfl, ?_⟩
    clear hF; intro a hF
    replace S := S.call1 T; clear T
    refine op_val (v := .tuple #[.agg #[.int .i64 p113.1, .int .i64 p113.2.1, .slice B114 p113.2.2.1.length d116], .bool p113.2.2.2]) rfl rfl hF rfl (run_move rfl (hF.ev rfl)) ?_; clear hF; intro a hF
    refine op_val (v := .agg #[.int .i64 p113.1, .int .i64 p113.2.1, .slice B114 p113.2.2.1.length d116]) rfl rfl hF rfl (run_extract rfl (hF.ev rfl) rfl) ?_; clear hF; intro a hF
    refine op_val (v := .bool p113.2.2.2) rfl rfl hF rfl (run_extract rfl (hF.ev rfl) rfl) ?_; clear hF; intro a hF
    refine op_new (cs := #[.int .i64 0, .int .i64 0, .slice none 0 0]) rfl rfl hF rfl S (run_allocZ rfl zr25) ?_; clear hF S; intro a g117 u hF S
    refine op_do rfl rfl (run_store (cs' := #[.int .i64 p113.1, .int .i64 p113.2.1, .slice B114 p113.2.2.1.length d116]) rfl sz25 (hF.ev rfl) (hF.ev rfl) rfl rfl rfl (S.free 0 rfl) rfl rfl) ?_; replace S := S.put 0 rfl (#[.int .i64 p113.1, .int .i64 p113.2.1, .slice B114 p113.2.2.1.length d116])
    generalize World.setRow _ _ _ = u at S ⊢
    refine op_val (v := .bool p113.2.2.2) rfl rfl hF rfl (run_assign rfl (hF.ev rfl)) ?_; clear hF; intro a hF
    refine wpList_nil ?_
    refine wp_seq ?_
    refine wp_seq ?_
    refine wp_region_lit ?_
    refine op_val (v := .agg #[.int .i64 p108.1, .int .i64 p108.2.1, .slice B109 p108.2.2.1.length d111]) rfl rfl hF rfl (run_loadN rfl ag25 (hF.ev rfl) rfl ((S.free 2 rfl).cells 0 #[.int .i64 p108.1, .int .i64 p108.2.1, .slice B109 p108.2.2.1.length d111] rfl)) ?_; clear hF; intro a hF
    refine op_val (v := .agg #[.int .i64 p113.1, .int .i64 p113.2.1, .slice B114 p113.2.2.1.length d116]) rfl rfl hF rfl (run_loadN rfl ag25 (hF.ev rfl) rfl ((S.free 0 rfl).cells 0 #[.int .i64 p113.1, .int .i64 p113.2.1, .slice B114 p113.2.2.1.length d116] rfl)) ?_; clear hF; intro a hF
    obtain ⟨p118, h118, hM⟩ := bind_ex hM
    refine op_call rfl rfl hF rfl (run_call (vs := [.agg #[.int .i64 p108.1, .int .i64 p108.2.1, .slice B109 p108.2.2.1.length d111], .agg #[.int .i64 p113.1, .int .i64 p113.2.1, .slice B114 p113.2.2.1.length d116]]) rfl rfl co9 ⟨(hF.ev rfl), (hF.ev rfl), trivial⟩) (c_laws_sameRooms (x0 := p108.1) (x1 := p108.2.1) (x2 := p108.2.2.1) (x3 := p113.1) (x4 := p113.2.1) (x5 := p113.2.2.1) ⟨(S.rc 3 rfl), rfl⟩ ⟨(S.rc 1 rfl), rfl⟩ h118) ?_
    rintro e u ⟨rfl, T⟩
    refine ⟨_, rfl, ?_⟩
    clear hF; intro a hF
    replace S := S.call0 T; clear T
    refine op_val (v := .bool (!p118)) rfl rfl hF rfl (run_not rfl (hF.ev rfl)) ?_; clear hF; intro a hF
    refine op_val (v := .bool (!p118)) rfl rfl hF rfl (run_move rfl (hF.ev rfl)) ?_; clear hF; intro a hF
    refine op_gv (v := .bool p108.2.2.2) rfl rfl hF rfl (yf (gw_yield hF rfl rfl rfl)) (fun hg => (run_move rfl (hF.ev rfl))) ?_; clear hF; intro a hF
    refine op_gv (v := .bool p113.2.2.2) rfl rfl hF rfl (yf (gw_yield hF rfl rfl rfl)) (fun hg => (run_move rfl (hF.ev rfl))) ?_; clear hF; intro a hF
    refine op_gv (v := .bool (p108.2.2.2 != p113.2.2.2)) rfl rfl hF rfl (yf (gw_yield hF rfl rfl rfl)) (fun hg => (run_neqB ((hF.ev rfl).trans (gv_t hg)) ((hF.ev rfl).trans (gv_t hg)) Tryd.underlying4 rfl)) ?_; clear hF; intro a hF
    refine op_val (v := .bool ((!p118) || (p108.2.2.2 != p113.2.2.2))) rfl rfl hF rfl (run_pick_or rfl (hF.ev rfl) rfl (fun hp => ((hF.ev rfl).trans (gv_t (not_t hp))))) ?_; clear hF; intro a hF
    refine wpList_nil ?_
    cases hc119 : ((!p118) || (p108.2.2.2 != p113.2.2.2))
    · replace hM := bif_f hc119 hM
      refine cond_f hF rfl hc119 ?_
      refine wp_skip ?_
      refine wp_seq ?_
      refine wp_seq ?_
      refine wp_region_lit ?_
      refine op_val (v := .bool p108.2.2.2) rfl rfl hF rfl (run_move rfl (hF.ev rfl)) ?_; clear hF; intro a hF
      refine op_val (v := .bool (!p108.2.2.2)) rfl rfl hF rfl (run_not rfl (hF.ev rfl)) ?_; clear hF; intro a hF
      refine wpList_nil ?_
      cases hc120 : (p108.2.2.2)
      · replace hM := bif_f hc120 hM
        refine cond_t hF rfl (not_t hc120) ?_
        refine wp_seq ?_
        refine wp_region_lit ?_
        refine op_val (v := .agg #[.int .i64 p108.1, .int .i64 p108.2.1, .slice B109 p108.2.2.1.length d111]) rfl rfl hF rfl (run_loadN rfl ag25 (hF.ev rfl) rfl ((S.free 2 rfl).cells 0 #[.int .i64 p108.1, .int .i64 p108.2.1, .slice B109 p108.2.2.1.length d111] rfl)) ?_; clear hF; intro a hF
        refine op_val (v := .agg #[.int .i64 p102.1, .int .i64 p102.2.1, .slice B103 p102.2.2.1.length d105]) rfl rfl hF rfl (run_loadN rfl ag25 (hF.ev rfl) rfl ((S.free 5 rfl).cells 0 #[.int .i64 p102.1, .int .i64 p102.2.1, .slice B103 p102.2.2.1.length d105] rfl)) ?_; clear hF; intro a hF
        obtain ⟨p121, h121, hM⟩ := bind_ex hM
        refine op_call rfl rfl hF rfl (run_call (vs := [.agg #[.int .i64 p108.1, .int .i64 p108.2.1, .slice B109 p108.2.2.1.length d111], .agg #[.int .i64 p102.1, .int .i64 p102.2.1, .slice B103 p102.2.2.1.length d105]]) rfl rfl co9 ⟨(hF.ev rfl), (hF.ev rfl), trivial⟩) (c_laws_sameRooms (x0 := p108.1) (x1 := p108.2.1) (x2 := p108.2.2.1) (x3 := p102.1) (x4 := p102.2.1) (x5 := p102.2.2.1) ⟨(S.rc 3 rfl), rfl⟩ ⟨(S.rc 6 rfl), rfl⟩ h121) ?_
        rintro e u ⟨rfl, T⟩
        refine ⟨_, rfl, ?_⟩
        clear hF; intro a hF
        replace S := S.call0 T; clear T
        refine op_val (v := .bool p121) rfl rfl hF rfl (run_move rfl (hF.ev rfl)) ?_; clear hF; intro a hF
        refine op_gv (v := .agg #[.int .i64 p102.1, .int .i64 p102.2.1, .slice B103 p102.2.2.1.length d105]) rfl rfl hF rfl (yf (gw_yield hF rfl rfl rfl)) (fun hg => (run_loadN rfl ag25 (hF.ev rfl) rfl ((S.free 5 rfl).cells 0 #[.int .i64 p102.1, .int .i64 p102.2.1, .slice B103 p102.2.2.1.length d105] rfl))) ?_; clear hF; intro a hF
        obtain ⟨p122, h122, hM⟩ := bind_ex hM
        refine op_gcall (v := .bool p122) rfl rfl hF rfl S (yf (gw_yield hF rfl rfl rfl)) (fun hg => (run_call (vs := [.agg #[.int .i64 p102.1, .int .i64 p102.2.1, .slice B103 p102.2.2.1.length d105]]) rfl rfl co10 ⟨((hF.ev rfl).trans (gv_t hg)), trivial⟩)) (fun hg => c_impl_RoomsValid (x0 := p102.1) (x1 := p102.2.1) (x2 := p102.2.2.1) ⟨(S.rc 6 rfl), rfl⟩ (gb_t h122 hg)) ?_; clear hF S; intro a u hF S
        refine op_gv (v := .bool (!p122)) rfl rfl hF rfl (yf (gw_yield hF rfl rfl rfl)) (fun hg => (run_not rfl ((hF.ev rfl).trans (gv_t hg)))) ?_; clear hF; intro a hF
        refine op_val (v := .bool (p121 || (!p122))) rfl rfl hF rfl (run_pick_or rfl (hF.ev rfl) rfl (fun hp => ((hF.ev rfl).trans (gv_t (not_t hp))))) ?_; clear hF; intro a hF
        refine op_val (v := .bool (p121 || (!p122))) rfl rfl hF rfl (run_move rfl (hF.ev rfl)) ?_; clear hF; intro a hF
        obtain ⟨p123, h123, hM⟩ := bind_ex hM
        refine op_gcall (v := .bool p123) rfl rfl hF rfl S (yt (gw_yield hF rfl rfl rfl)) (fun hg => (run_call (vs := []) rfl rfl co11 trivial)) (fun hg => c_laws_alive   (gb_t h123 hg)) ?_; clear hF S; intro a u hF S
        refine op_val (v := .bool ((p121 || (!p122)) && p123)) rfl rfl hF rfl (run_pick_and rfl (hF.ev rfl) (fun hp => ((hF.ev rfl).trans (gv_t hp))) rfl) ?_; clear hF; intro a hF
        refine op_val (v := .bool ((p121 || (!p122)) && p123)) rfl rfl hF rfl (run_assign rfl (hF.ev rfl)) ?_; clear hF; intro a hF
        refine wpList_nil ?_
        refine wp_ret ?_
        repeat with_reducible (first | refine then_ret ?_ | refine in_ret ?_ | refine in_nrm ?_)
        refine ret1_gw (.inl rfl) hF rfl (res_tmp (hF.ev rfl)) ?_
        obtain rfl := Option.some.inj hM
        exact ⟨rfl, S.sel [] rfl rfl⟩
      · replace hM := bif_t hc120 hM
        refine cond_f hF rfl (not_f hc120) ?_
        refine wp_skip ?_
        refine wp_seq ?_
        refine wp_seq ?_
        refine wp_region_lit ?_
        refine op_val (v := .int .i64 0) rfl rfl hF rfl (run_assign rfl rfl) ?_; clear hF; intro a hF
        refine wpList_nil ?_
        obtain ⟨o125, hM126, hM⟩ := bind_ex hM
        refine wp_cut (fun a u => ∃ (p124 : Unit), (Sum.inl p124) = o125 ∧ Fr a 86 [(2, .bool false), (3, .pointer (some ⟨g106, 0, none⟩)), (5, .pointer (some ⟨g112, 0, none⟩))] ∧ St w u [.box g117 25 #[.int .i64 p113.1, .int .i64 p113.2.1, .slice B114 p113.2.2.1.length d116], .box g112 25 #[.int .i64 p108.1, .int .i64 p108.2.1, .slice B109 p108.2.2.1.length d111], .box g107 27 #[.int .i64 p102.2.2.2.1, .int .i64 p102.2.2.2.2.1, .int .i64 p102.2.2.2.2.2], .box g106 25 #[.int .i64 p102.1, .int .i64 p102.2.1, .slice B103 p102.2.2.1.length d105], .row 3 1 (.slice B114 p113.2.2.1.length d116) p113.2.2.1.length (p113.2.2.1.flatMap eI), .row 3 1 (.slice B109 p108.2.2.1.length d111) p108.2.2.1.length (p108.2.2.1.flatMap eI), .row 3 1 (.slice B103 p102.2.2.1.length d105) p102.2.2.1.length (p102.2.2.1.flatMap eI)]) ?_ ?_
        · have _ := trivial
          refine wp_block ?_
          refine loop_gw (fun m a u => ∃ (p127 : Int), m_laws_FnRoomsDo_l1 p102 p108 m p127 = some _ ∧ Fr a 86 [(2, .bool false), (3, .pointer (some ⟨g106, 0, none⟩)), (5, .pointer (some ⟨g112, 0, none⟩)), (9, .int .i64 p127)] ∧ St w u [.box g117 25 #[.int .i64 p113.1, .int .i64 p113.2.1, .slice B114 p113.2.2.1.length d116], .box g112 25 #[.int .i64 p108.1, .int .i64 p108.2.1, .slice B109 p108.2.2.1.length d111], .box g107 27 #[.int .i64 p102.2.2.2.1, .int .i64 p102.2.2.2.2.1, .int .i64 p102.2.2.2.2.2], .box g106 25 #[.int .i64 p102.1, .int .i64 p102.2.1, .slice B103 p102.2.2.1.length d105], .row 3 1 (.slice B114 p113.2.2.1.length d116) p113.2.2.1.length (p113.2.2.1.flatMap eI), .row 3 1 (.slice B109 p108.2.2.1.length d111) p108.2.2.1.length (p108.2.2.1.flatMap eI), .row 3 1 (.slice B103 p102.2.2.1.length d105) p102.2.2.1.length (p102.2.2.1.flatMap eI)]) FUEL ⟨0, hM126, hF.keep _ ⟨rfl, rfl, rfl, rfl, trivial⟩, S.sel [0, 2, 4, 5, 1, 3, 6] rfl rfl⟩ ?_
          clear hF S hM126; rintro m a u ⟨p127, hM126, hF, S⟩
          rcases m with _ | f1
          · exact none_some hM126
          rw [m_laws_FnRoomsDo_l1.eq_2] at hM126
          refine wp_seq ?_
          refine wp_seq ?_
          refine wp_region_lit ?_
          refine op_val (v := .int .i64 p127) rfl rfl hF rfl (run_move rfl (hF.ev rfl)) ?_; clear hF; intro a hF
          refine op_val (v := .pointer (some ⟨g106, 2, none⟩)) rfl rfl hF rfl (run_fieldAddr rfl fl25_2 (hF.ev rfl) rfl) ?_; clear hF; intro a hF
          refine op_val (v := .slice B103 p102.2.2.1.length d105) rfl rfl hF rfl (run_load1 rfl one23 (hF.ev rfl) ((S.free 3 rfl).cell rfl)) ?_; clear hF; intro a hF
          refine op_val (v := .int .i64 (p102.2.2.1.length : Int)) rfl rfl hF rfl (run_lenL rfl rfl Tryd.underlying23 (hF.ev rfl)) ?_; clear hF; intro a hF
          refine op_val (v := .bool (ltB p127 (p102.2.2.1.length : Int))) rfl rfl hF rfl (run_lss (hF.ev rfl) (hF.ev rfl) rfl) ?_; clear hF; intro a hF
          refine wpList_nil ?_
          cases hc128 : (ltB p127 (p102.2.2.1.length : Int))
          · replace hM126 := bif_f hc128 hM126
            refine cond_f hF rfl hc128 ?_
            refine wp_exit ?_
            repeat with_reducible (first | refine then_exit ?_ | refine in_hit ?_ | refine in_miss rfl ?_)
            obtain rfl := Option.some.inj hM126
            exact ⟨(), rfl, hF.keep _ ⟨rfl, rfl, rfl, trivial⟩, S.sel [0, 1, 2, 3, 4, 5, 6] rfl rfl⟩
          · replace hM126 := bif_t hc128 hM126
            refine cond_t hF rfl hc128 ?_
            refine wp_skip ?_
            refine wp_seq ?_
            refine wp_block ?_
            refine wp_seq ?_
            obtain ⟨hk129, hM126⟩ := chk_ex hM126
            replace hk129 := ixB_t hk129
            obtain ⟨hk130, hM126⟩ := chk_ex hM126
            replace hk130 := ixB_t hk130
            refine region_gw (D := [59, 60, 61, 62, 63, 64, 65, 66, 67, 68, 69]) (Lr := [.box g117 25 #[.int .i64 p113.1, .int .i64 p113.2.1, .slice B114 p113.2.2.1.length d116], .box g112 25 #[.int .i64 p108.1, .int .i64 p108.2.1, .slice B109 p108.2.2.1.length d111], .box g107 27 #[.int .i64 p102.2.2.2.1, .int .i64 p102.2.2.2.2.1, .int .i64 p102.2.2.2.2.2], .box g106 25 #[.int .i64 p102.1, .int .i64 p102.2.1, .slice B103 p102.2.2.1.length d105], .row 3 1 (.slice B114 p113.2.2.1.length d116) p113.2.2.1.length (p113.2.2.1.flatMap eI), .row 3 1 (.slice B109 p108.2.2.1.length d111) p108.2.2.1.length (p108.2.2.1.flatMap eI), .row 3 1 (.slice B103 p102.2.2.1.length d105) p102.2.2.1.length (p102.2.2.1.flatMap eI)]) (deps := (fun | 0 => [59] | 1 => [60] | 2 => [61] | 3 => [62] | 4 => [63] | 5 => [64] | 6 => [65] | 7 => [66] | 8 => [67] | 9 => [68] | 10 => [69] | _ => [])) (rd := (fun _ => [])) (zr := (fun _ => []))
              (φ := fun i vs => match i, vs with | 0, [v59] => v59 = .pointer (some ⟨g112, 2, none⟩) | 1, [v60] => v60 = .slice B109 p108.2.2.1.length d111 | 2, [v61] => v61 = .int .i64 p127 | 3, [v62] => v62 = .pointer (some ⟨adB B109, adO B109 + p127.toNat * 1, none⟩) | 4, [v63] => v63 = .int .i64 (p108.2.2.1.getD p127.toNat (0 : Int)) | 5, [v64] => v64 = .pointer (some ⟨g106, 2, none⟩) | 6, [v65] => v65 = .slice B103 p102.2.2.1.length d105 | 7, [v66] => v66 = .int .i64 p127 | 8, [v67] => v67 = .pointer (some ⟨adB B103, adO B103 + p127.toNat * 1, none⟩) | 9, [v68] => v68 = .int .i64 (p102.2.2.1.getD p127.toNat (0 : Int)) | 10, [v69] => v69 = .bool (ltB (p108.2.2.1.getD p127.toNat (0 : Int)) (p102.2.2.1.getD p127.toNat (0 : Int))) | _, _ => True)
              (C := fun _ _ => [])
              (κ := (fun _ => none)) (Z := (fun _ => [])) mixed hF (by kernel_rfl) S ?_ ?_
            · refine ⟨?_, ?_, ?_, ?_, ?_, ?_, ?_, ?_, ?_, ?_, ?_, trivial⟩
              · intro a u X hB hu hp hr hz hl S
                replace S : St w u ([] ++ X) := S
                exact .inl ⟨rfl, .pointer (some ⟨g112, 2, none⟩), u, (run_fieldAddr rfl fl25_2 (hF.evB hB rfl rfl) rfl), rfl, S⟩
              · intro a u X hB hu hp hr hz hl S
                replace S : St w u ([] ++ X) := S
                have e59 : sl a 59 = .pointer (some ⟨g112, 2, none⟩) := hp 0 rfl
                exact .inl ⟨rfl, .slice B109 p108.2.2.1.length d111, u, (run_load1 rfl one23 (ev_sl e59) ((gr_box S hl 1 rfl).cell rfl)), rfl, S⟩
              · intro a u X hB hu hp hr hz hl S
                replace S : St w u ([] ++ X) := S
                exact .inl ⟨rfl, .int .i64 p127, u, (run_move rfl (hF.evB hB rfl rfl)), rfl, S⟩
              · intro a u X hB hu hp hr hz hl S
                replace S : St w u ([] ++ X) := S
                have e60 : sl a 60 = .slice B109 p108.2.2.1.length d111 := hp 1 rfl
                have e61 : sl a 61 = .int .i64 p127 := hp 2 rfl
                exact .inl ⟨rfl, .pointer (some ⟨adB B109, adO B109 + p127.toNat * 1, none⟩), u, (run_indexAddr (b := adB B109) (off := adO B109) rfl Tryd.underlying23 sz3 ((ev_sl e60).trans (congrArg (fun A => Value.slice A p108.2.2.1.length d111) ((gr_rc S hl 5 rfl).rd.ad (ix_pos hk129)))) (ev_sl e61) hk129.1 hk129.2 (k' := adO B109 + p127.toNat * 1) rfl), rfl, S⟩
              · intro a u X hB hu hp hr hz hl S
                replace S : St w u ([] ++ X) := S
                have e62 : sl a 62 = .pointer (some ⟨adB B109, adO B109 + p127.toNat * 1, none⟩) := hp 3 rfl
                exact .inl ⟨rfl, .int .i64 (p108.2.2.1.getD p127.toNat (0 : Int)), u, (run_load1 rfl one3 (ev_sl e62) (rd_el0 (l := p108.2.2.1) (gr_rc S hl 5 rfl).rd rfl eI_len (0 : Int) (ix_ltn hk129 rfl) rfl)), rfl, S⟩
              · intro a u X hB hu hp hr hz hl S
                replace S : St w u ([] ++ X) := S
                exact .inl ⟨rfl, .pointer (some ⟨g106, 2, none⟩), u, (run_fieldAddr rfl fl25_2 (hF.evB hB rfl rfl) rfl), rfl, S⟩
              · intro a u X hB hu hp hr hz hl S
                replace S : St w u ([] ++ X) := S
                have e64 : sl a 64 = .pointer (some ⟨g106, 2, none⟩) := hp 5 rfl
                exact .inl ⟨rfl, .slice B103 p102.2.2.1.length d105, u, (run_load1 rfl one23 (ev_sl e64) ((gr_box S hl 3 rfl).cell rfl)), rfl, S⟩
              · intro a u X hB hu hp hr hz hl S
                replace S : St w u ([] ++ X) := S
                exact .inl ⟨rfl, .int .i64 p127, u, (run_move rfl (hF.evB hB rfl rfl)), rfl, S⟩
              · intro a u X hB hu hp hr hz hl S
                replace S : St w u ([] ++ X) := S
                have e65 : sl a 65 = .slice B103 p102.2.2.1.length d105 := hp 6 rfl
                have e66 : sl a 66 = .int .i64 p127 := hp 7 rfl
                exact .inl ⟨rfl, .pointer (some ⟨adB B103, adO B103 + p127.toNat * 1, none⟩), u, (run_indexAddr (b := adB B103) (off := adO B103) rfl Tryd.underlying23 sz3 ((ev_sl e65).trans (congrArg (fun A => Value.slice A p102.2.2.1.length d105) ((gr_rc S hl 6 rfl).rd.ad (ix_pos hk130)))) (ev_sl e66) hk130.1 hk130.2 (k' := adO B103 + p127.toNat * 1) rfl), rfl, S⟩
              · intro a u X hB hu hp hr hz hl S
                replace S : St w u ([] ++ X) := S
                have e67 : sl a 67 = .pointer (some ⟨adB B103, adO B103 + p127.toNat * 1, none⟩) := hp 8 rfl
                exact .inl ⟨rfl, .int .i64 (p102.2.2.1.getD p127.toNat (0 : Int)), u, (run_load1 rfl one3 (ev_sl e67) (rd_el0 (l := p102.2.2.1) (gr_rc S hl 6 rfl).rd rfl eI_len (0 : Int) (ix_ltn hk130 rfl) rfl)), rfl, S⟩
              · intro a u X hB hu hp hr hz hl S
                replace S : St w u ([] ++ X) := S
                have e63 : sl a 63 = .int .i64 (p108.2.2.1.getD p127.toNat (0 : Int)) := hp 4 rfl
                have e68 : sl a 68 = .int .i64 (p102.2.2.1.getD p127.toNat (0 : Int)) := hp 9 rfl
                exact .inl ⟨rfl, .bool (ltB (p108.2.2.1.getD p127.toNat (0 : Int)) (p102.2.2.1.getD p127.toNat (0 : Int))), u, (run_lss (ev_sl e63) (ev_sl e68) rfl), rfl, S⟩
            · intro a u hB hp S
              obtain ⟨q0, q1, q2, q3, q4, q5, q6, q7, q8, q9, q10, _⟩ := hp
              have e59 : sl a 59 = .pointer (some ⟨g112, 2, none⟩) := q0
              have e60 : sl a 60 = .slice B109 p108.2.2.1.length d111 := q1
              have e61 : sl a 61 = .int .i64 p127 := q2
              have e62 : sl a 62 = .pointer (some ⟨adB B109, adO B109 + p127.toNat * 1, none⟩) := q3
              have e63 : sl a 63 = .int .i64 (p108.2.2.1.getD p127.toNat (0 : Int)) := q4
              have e64 : sl a 64 = .pointer (some ⟨g106, 2, none⟩) := q5
              have e65 : sl a 65 = .slice B103 p102.2.2.1.length d105 := q6
              have e66 : sl a 66 = .int .i64 p127 := q7
              have e67 : sl a 67 = .pointer (some ⟨adB B103, adO B103 + p127.toNat * 1, none⟩) := q8
              have e68 : sl a 68 = .int .i64 (p102.2.2.1.getD p127.toNat (0 : Int)) := q9
              have e69 : sl a 69 = .bool (ltB (p108.2.2.1.getD p127.toNat (0 : Int)) (p102.2.2.1.getD p127.toNat (0 : Int))) := q10
              replace S : St w u [.box g117 25 #[.int .i64 p113.1, .int .i64 p113.2.1, .slice B114 p113.2.2.1.length d116], .box g112 25 #[.int .i64 p108.1, .int .i64 p108.2.1, .slice B109 p108.2.2.1.length d111], .box g107 27 #[.int .i64 p102.2.2.2.1, .int .i64 p102.2.2.2.2.1, .int .i64 p102.2.2.2.2.2], .box g106 25 #[.int .i64 p102.1, .int .i64 p102.2.1, .slice B103 p102.2.2.1.length d105], .row 3 1 (.slice B114 p113.2.2.1.length d116) p113.2.2.1.length (p113.2.2.1.flatMap eI), .row 3 1 (.slice B109 p108.2.2.1.length d111) p108.2.2.1.length (p108.2.2.1.flatMap eI), .row 3 1 (.slice B103 p102.2.2.1.length d105) p102.2.2.1.length (p102.2.2.1.flatMap eI)] := S
              clear q0 q1 q2 q3 q4 q5 q6 q7 q8 q9 q10
              have hF := hF.region hB [(59, .pointer (some ⟨g112, 2, none⟩)), (60, .slice B109 p108.2.2.1.length d111), (61, .int .i64 p127), (62, .pointer (some ⟨adB B109, adO B109 + p127.toNat * 1, none⟩)), (63, .int .i64 (p108.2.2.1.getD p127.toNat (0 : Int))), (64, .pointer (some ⟨g106, 2, none⟩)), (65, .slice B103 p102.2.2.1.length d105), (66, .int .i64 p127), (67, .pointer (some ⟨adB B103, adO B103 + p127.toNat * 1, none⟩)), (68, .int .i64 (p102.2.2.1.getD p127.toNat (0 : Int))), (69, .bool (ltB (p108.2.2.1.getD p127.toNat (0 : Int)) (p102.2.2.1.getD p127.toNat (0 : Int))))] (allSl_mem ⟨e59, e60, e61, e62, e63, e64, e65, e66, e67, e68, e69, trivial⟩) rfl
              clear hB e59 e60 e61 e62 e63 e64 e65 e66 e67 e68 e69
              cases hc131 : (ltB (p108.2.2.1.getD p127.toNat (0 : Int)) (p102.2.2.1.getD p127.toNat (0 : Int)))
              · replace hM126 := bif_f hc131 hM126
                refine cond_f hF rfl hc131 ?_
                refine wp_skip ?_
                refine wp_region_lit ?_
                refine op_val (v := .int .i64 p127) rfl rfl hF rfl (run_move rfl (hF.ev rfl)) ?_; clear hF; intro a hF
                refine op_val (v := .int .i64 (w64 (p127 + 1))) rfl rfl hF rfl (run_add (z := w64 (p127 + 1)) (hF.ev rfl) rfl rfl rfl) ?_; clear hF; intro a hF
                refine op_val (v := .int .i64 (w64 (p127 + 1))) rfl rfl hF rfl (run_assign rfl (hF.ev rfl)) ?_; clear hF; intro a hF
                refine wpList_nil ?_
                exact ⟨f1, Nat.lt_succ_self _, w64 (p127 + 1), hM126, hF.keep _ ⟨rfl, rfl, rfl, rfl, trivial⟩, S.sel [0, 1, 2, 3, 4, 5, 6] rfl rfl⟩
              · replace hM126 := bif_t hc131 hM126
                refine cond_t hF rfl hc131 ?_
                refine wp_seq ?_
                refine wp_region_lit ?_
                refine op_val (v := .bool false) rfl rfl hF rfl (run_assign rfl rfl) ?_; clear hF; intro a hF
                refine wpList_nil ?_
                refine wp_ret ?_
                repeat with_reducible (first | refine then_ret ?_ | refine in_ret ?_ | refine in_nrm ?_)
                refine ret1_gw (.inl rfl) hF rfl (res_tmp (hF.ev rfl)) ?_
                obtain rfl := Option.some.inj hM126
                obtain rfl := Option.some.inj hM
                exact ⟨rfl, S.sel [] rfl rfl⟩
        · rintro a u ⟨p124, rfl, hF, S⟩
          replace hM := elim_l hM
          refine wp_seq ?_
          refine wp_region_lit ?_
          refine op_val (v := .agg #[.int .i64 p108.1, .int .i64 p108.2.1, .slice B109 p108.2.2.1.length d111]) rfl rfl hF rfl (run_loadN rfl ag25 (hF.ev rfl) rfl ((S.free 1 rfl).cells 0 #[.int .i64 p108.1, .int .i64 p108.2.1, .slice B109 p108.2.2.1.length d111] rfl)) ?_; clear hF; intro a hF
          obtain ⟨p132, h132, hM⟩ := bind_ex hM
          refine op_call rfl rfl hF rfl (run_call (vs := [.agg #[.int .i64 p108.1, .int .i64 p108.2.1, .slice B109 p108.2.2.1.length d111]]) rfl rfl co10 ⟨(hF.ev rfl), trivial⟩) (c_impl_RoomsValid (x0 := p108.1) (x1 := p108.2.1) (x2 := p108.2.2.1) ⟨(S.rc 5 rfl), rfl⟩ h132) ?_
          rintro e u ⟨rfl, T⟩
          refine ⟨_, rfl, ?_⟩
          clear hF; intro a hF
          replace S := S.call0 T; clear T
          refine op_val (v := .bool p132) rfl rfl hF rfl (run_move rfl (hF.ev rfl)) ?_; clear hF; intro a hF
          refine op_gv (v := .pointer (some ⟨g112, 0, none⟩)) rfl rfl hF rfl (yt (gw_yield hF rfl rfl rfl)) (fun hg => (run_fieldAddr rfl fl25_0 (hF.ev rfl) rfl)) ?_; clear hF; intro a hF
          refine op_gv (v := .int .i64 p108.1) rfl rfl hF rfl (yt (gw_yield hF rfl rfl rfl)) (fun hg => (run_load1 rfl one3 ((hF.ev rfl).trans (gv_t hg)) ((S.free 1 rfl).cell rfl))) ?_; clear hF; intro a hF
          refine op_gv (v := .pointer (some ⟨g106, 0, none⟩)) rfl rfl hF rfl (yt (gw_yield hF rfl rfl rfl)) (fun hg => (run_fieldAddr rfl fl25_0 (hF.ev rfl) rfl)) ?_; clear hF; intro a hF
          refine op_gv (v := .int .i64 p102.1) rfl rfl hF rfl (yt (gw_yield hF rfl rfl rfl)) (fun hg => (run_load1 rfl one3 ((hF.ev rfl).trans (gv_t hg)) ((S.free 3 rfl).cell rfl))) ?_; clear hF; intro a hF
          refine op_gv (v := .bool (leB p102.1 p108.1)) rfl rfl hF rfl (yt (gw_yield hF rfl rfl rfl)) (fun hg => (run_geq ((hF.ev rfl).trans (gv_t hg)) ((hF.ev rfl).trans (gv_t hg)) rfl)) ?_; clear hF; intro a hF
          refine op_val (v := .bool (p132 && (leB p102.1 p108.1))) rfl rfl hF rfl (run_pick_and rfl (hF.ev rfl) (fun hp => ((hF.ev rfl).trans (gv_t hp))) rfl) ?_; clear hF; intro a hF
          refine op_val (v := .bool (p132 && (leB p102.1 p108.1))) rfl rfl hF rfl (run_move rfl (hF.ev rfl)) ?_; clear hF; intro a hF
          refine op_gv (v := .pointer (some ⟨g112, 1, none⟩)) rfl rfl hF rfl (yt (gw_yield hF rfl rfl rfl)) (fun hg => (run_fieldAddr rfl fl25_1 (hF.ev rfl) rfl)) ?_; clear hF; intro a hF
          refine op_gv (v := .int .i64 p108.2.1) rfl rfl hF rfl (yt (gw_yield hF rfl rfl rfl)) (fun hg => (run_load1 rfl one3 ((hF.ev rfl).trans (gv_t hg)) ((S.free 1 rfl).cell rfl))) ?_; clear hF; intro a hF
          refine op_gv (v := .pointer (some ⟨g106, 1, none⟩)) rfl rfl hF rfl (yt (gw_yield hF rfl rfl rfl)) (fun hg => (run_fieldAddr rfl fl25_1 (hF.ev rfl) rfl)) ?_; clear hF; intro a hF
          refine op_gv (v := .int .i64 p102.2.1) rfl rfl hF rfl (yt (gw_yield hF rfl rfl rfl)) (fun hg => (run_load1 rfl one3 ((hF.ev rfl).trans (gv_t hg)) ((S.free 3 rfl).cell rfl))) ?_; clear hF; intro a hF
          refine op_gv (v := .bool (leB p102.2.1 p108.2.1)) rfl rfl hF rfl (yt (gw_yield hF rfl rfl rfl)) (fun hg => (run_geq ((hF.ev rfl).trans (gv_t hg)) ((hF.ev rfl).trans (gv_t hg)) rfl)) ?_; clear hF; intro a hF
          refine op_val (v := .bool ((p132 && (leB p102.1 p108.1)) && (leB p102.2.1 p108.2.1))) rfl rfl hF rfl (run_pick_and rfl (hF.ev rfl) (fun hp => ((hF.ev rfl).trans (gv_t hp))) rfl) ?_; clear hF; intro a hF
          refine op_val (v := .bool ((p132 && (leB p102.1 p108.1)) && (leB p102.2.1 p108.2.1))) rfl rfl hF rfl (run_assign rfl (hF.ev rfl)) ?_; clear hF; intro a hF
          refine wpList_nil ?_
          refine wp_ret ?_
          repeat with_reducible (first | refine then_ret ?_ | refine in_ret ?_ | refine in_nrm ?_)
          refine ret1_gw (.inl rfl) hF rfl (res_tmp (hF.ev rfl)) ?_
          obtain rfl := Option.some.inj hM
          exact ⟨rfl, S.sel [] rfl rfl⟩
    · replace hM := bif_t hc119 hM
      refine cond_t hF rfl hc119 ?_
      refine wp_seq ?_
      refine wp_region_lit ?_
      refine op_val (v := .bool false) rfl rfl hF rfl (run_assign rfl rfl) ?_; clear hF; intro a hF
      refine wpList_nil ?_
      refine wp_ret ?_
      repeat with_reducible (first | refine then_ret ?_ | refine in_ret ?_ | refine in_nrm ?_)
      refine ret1_gw (.inl rfl) hF rfl (res_tmp (hF.ev rfl)) ?_
      obtain rfl := Option.some.inj hM
      exact ⟨rfl, S.sel [] rfl rfl⟩
  · replace hM := bif_t hc101 hM
    refine cond_t hF rfl hc101 ?_
    refine wp_seq ?_
    refine wp_region_lit ?_
    refine op_val (v := .bool true) rfl rfl hF rfl (run_assign rfl rfl) ?_; clear hF; intro a hF
    refine wpList_nil ?_
    refine wp_ret ?_
    repeat with_reducible (first | refine then_ret ?_ | refine in_ret ?_ | refine in_nrm ?_)
    refine ret1_gw (.inl rfl) hF rfl (res_tmp (hF.ev rfl)) ?_
    obtain rfl := Option.some.inj hM
    exact ⟨rfl, S.sel [] rfl rfl⟩

set_option maxHeartbeats 4000000 in
theorem c_spec_DrawRoomsRun {x0 : List Int} {A0 : Option Addr} {n0 c0 : Nat} {w : World} {r : Int × Int × List Int × List (Int × Int × Int)} (h0 : Rt w 1 eU A0 n0 c0 x0) (hM : m_spec_DrawRoomsRun x0 = some r) :
    Calls Tryd.prog 12 #[.slice A0 n0 c0] w (fun e w' => ∃ (B0 : Option Addr) (N0 D0 : Nat) (B1 : Option Addr) (N1 D1 : Nat), e = .returned (.tuple #[.agg #[.int .i64 r.1, .int .i64 r.2.1, .slice B0 N0 D0], .slice B1 N1 D1]) ∧ N0 = r.2.2.1.length ∧ N1 = r.2.2.2.length ∧ St w w' [.row 3 1 (.slice B0 N0 D0) N0 (r.2.2.1.flatMap eI), .row 27 3 (.slice B1 N1 D1) N1 (r.2.2.2.flatMap eRoomDeed)]) := by
  obtain rfl := h0.len
  unfold m_spec_DrawRoomsRun at hM
  refine calls_gw Tryd.func12 Tryd.ntmps12 rfl [(0, .slice A0 x0.length c0)] ⟨rfl, trivial⟩ rfl ?_
  intro a hF
  have S := St.nil w
  refine wp_seq ?_
  refine wp_region_lit ?_
  refine op_new (cs := #[.int .i64 0, .int .i64 0, .slice none 0 0]) rfl rfl hF rfl S (run_allocZ rfl zr25) ?_; clear hF S; intro a g101 u hF S
  refine op_val (v := .slice none 0 0) rfl rfl hF rfl (run_assign rfl rfl) ?_; clear hF; intro a hF
  refine wpList_nil ?_
  refine wp_seq ?_
  refine wp_region_lit ?_
  refine op_val (v := .slice A0 x0.length c0) rfl rfl hF rfl (run_move rfl (hF.ev rfl)) ?_; clear hF; intro a hF
  refine op_call rfl rfl hF rfl (run_call (vs := [.slice A0 x0.length c0]) rfl rfl co20 ⟨(hF.ev rfl), trivial⟩) (c_spec_l20Open ⟨(S.rc0 h0.rc), rfl⟩) ?_
  rintro e u ⟨g102, rfl, T⟩
  refine ⟨_, rfl, ?_⟩
  clear hF; intro a hF
  replace S := S.call1 T; clear T
  refine op_val (v := .pointer (some ⟨g102, 0, none⟩)) rfl rfl hF rfl (run_assign rfl (hF.ev rfl)) ?_; clear hF; intro a hF
  refine wpList_nil ?_
  refine wp_seq ?_
  refine wp_region_lit ?_
  refine op_val (v := .pointer (some ⟨g102, 0, none⟩)) rfl rfl hF rfl (run_move rfl (hF.ev rfl)) ?_; clear hF; intro a hF
  obtain ⟨p103, h103, hM⟩ := bind_ex hM
  refine op_call rfl rfl hF rfl (run_call (vs := [.pointer (some ⟨g102, 0, none⟩), .int .i64 9]) rfl rfl co21 ⟨(hF.ev rfl), rfl, trivial⟩) (c_spec_l20Rooms (x0 := x0.take 2000) (x1 := 0) (x2 := 9) ⟨(op_rc h0.rc rfl), rfl⟩ (show St w _ [.box g102 67 #[.slice (opA c0 x0.length A0) ((x0.take 2000).length) c0, .int .i64 0], .box g101 25 #[.int .i64 0, .int .i64 0, .slice none 0 0]] from S.sel [0, 1] rfl rfl) h103) ?_
  rintro e u ⟨B104, n105, d106, rfl, rfl, T⟩
  refine ⟨_, rfl, ?_⟩
  clear hF; intro a hF
  clear S; have S := T; clear T
  refine op_new (cs := #[.int .i64 0, .int .i64 0, .slice none 0 0]) rfl rfl hF rfl S (run_allocZ rfl zr25) ?_; clear hF S; intro a g107 u hF S
  refine op_do rfl rfl (run_store (cs' := #[.int .i64 p103.1, .int .i64 p103.2.1, .slice B104 p103.2.2.1.length d106]) rfl sz25 (hF.ev rfl) (hF.ev rfl) rfl rfl rfl (S.free 0 rfl) rfl rfl) ?_; replace S := S.put 0 rfl (#[.int .i64 p103.1, .int .i64 p103.2.1, .slice B104 p103.2.2.1.length d106])
  generalize World.setRow _ _ _ = u at S ⊢
  refine wpList_nil ?_
  refine wp_seq ?_
  refine wp_region_lit ?_
  refine op_newrow (cs := #[]) (size := 3) rfl rfl hF rfl S (run_buildSlice0 rfl Tryd.underlying36 rfl) rfl (Nat.zero_le _) ?_; clear hF S; intro a g108 u hF S
  refine op_val (v := .slice (some ⟨g108, 0, none⟩) 0 0) rfl rfl hF rfl (run_assign rfl (hF.ev rfl)) ?_; clear hF; intro a hF
  refine wpList_nil ?_
  refine wp_seq ?_
  refine wp_seq ?_
  refine wp_region_lit ?_
  refine op_val (v := .pointer (some ⟨g102, 0, none⟩)) rfl rfl hF rfl (run_move rfl (hF.ev rfl)) ?_; clear hF; intro a hF
  obtain ⟨p109, h109, hM⟩ := bind_ex hM
  refine op_call rfl rfl hF rfl (run_call (vs := [.pointer (some ⟨g102, 0, none⟩), .int .i64 20]) rfl rfl co34 ⟨(hF.ev rfl), rfl, trivial⟩) (c_spec_l20Rd_pick (x0 := x0.take 2000) (x1 := p103.2.2.2) (x2 := 20) ⟨(op_rc h0.rc rfl), rfl⟩ (show St w _ [.box g102 67 #[.slice (opA c0 x0.length A0) ((x0.take 2000).length) c0, .int .i64 p103.2.2.2], .row 27 3 (.slice (some ⟨g108, 0, none⟩) 0 0) 0 (([] : List (Int × Int × Int)).flatMap eRoomDeed), .box g107 25 #[.int .i64 p103.1, .int .i64 p103.2.1, .slice B104 p103.2.2.1.length d106], .row 3 1 (.slice B104 p103.2.2.1.length d106) p103.2.2.1.length (p103.2.2.1.flatMap eI), .box g101 25 #[.int .i64 0, .int .i64 0, .slice none 0 0]] from S.sel [3, 0, 1, 2, 4] rfl rfl) h109) ?_
  rintro e u ⟨rfl, T⟩
  refine ⟨_, rfl, ?_⟩
  clear hF; intro a hF
  clear S; have S := T; clear T
  refine op_val (v := .int .i64 p109.1) rfl rfl hF rfl (run_assign rfl (hF.ev rfl)) ?_; clear hF; intro a hF
  refine wpList_nil ?_
  obtain ⟨o111, hM114, hM⟩ := bind_ex hM
  refine wp_cut (fun a u => ∃ (p110 : List (Int × Int × Int) × Int) (B112 : Option Addr) (d113 : Nat), p110 = o111 ∧ Fr a 27 [(2, .pointer (some ⟨g101, 0, none⟩)), (3, .slice none 0 0), (5, .pointer (some ⟨g107, 0, none⟩)), (6, .slice B112 p110.1.length d113)] ∧ St w u [.box g102 67 #[.slice (opA c0 x0.length A0) ((x0.take 2000).length) c0, .int .i64 p110.2], .box g107 25 #[.int .i64 p103.1, .int .i64 p103.2.1, .slice B104 p103.2.2.1.length d106], .box g101 25 #[.int .i64 0, .int .i64 0, .slice none 0 0], .row 27 3 (.slice B112 p110.1.length d113) p110.1.length (p110.1.flatMap eRoomDeed), .row 3 1 (.slice B104 p103.2.2.1.length d106) p103.2.2.1.length (p103.2.2.1.flatMap eI)]) ?_ ?_
  · have _ := trivial
    refine wp_block ?_
    refine loop_gw (fun m a u => ∃ (p115 : List (Int × Int × Int) × Int × Int) (B116 : Option Addr) (d117 : Nat), m_spec_DrawRoomsRun_l1 x0 p103 m p115 = some _ ∧ Fr a 27 [(2, .pointer (some ⟨g101, 0, none⟩)), (3, .slice none 0 0), (4, .pointer (some ⟨g102, 0, none⟩)), (5, .pointer (some ⟨g107, 0, none⟩)), (6, .slice B116 p115.1.length d117), (7, .int .i64 p115.2.1)] ∧ St w u [.box g102 67 #[.slice (opA c0 x0.length A0) ((x0.take 2000).length) c0, .int .i64 p115.2.2], .box g107 25 #[.int .i64 p103.1, .int .i64 p103.2.1, .slice B104 p103.2.2.1.length d106], .box g101 25 #[.int .i64 0, .int .i64 0, .slice none 0 0], .row 27 3 (.slice B116 p115.1.length d117) p115.1.length (p115.1.flatMap eRoomDeed), .row 3 1 (.slice B104 p103.2.2.1.length d106) p103.2.2.1.length (p103.2.2.1.flatMap eI)]) FUEL ⟨(([] : List (Int × Int × Int)), p109.1, p109.2), (some ⟨g108, 0, none⟩), 0, hM114, hF.keep _ ⟨rfl, rfl, rfl, rfl, rfl, rfl, trivial⟩, S.sel [0, 2, 4, 1, 3] rfl rfl⟩ ?_
    clear hF S hM114; rintro m a u ⟨p115, B116, d117, hM114, hF, S⟩
    rcases m with _ | f1
    · exact none_some hM114
    rw [m_spec_DrawRoomsRun_l1.eq_2] at hM114
    refine wp_seq ?_
    refine wp_seq ?_
    refine wp_region_lit ?_
    refine op_val (v := .int .i64 p115.2.1) rfl rfl hF rfl (run_move rfl (hF.ev rfl)) ?_; clear hF; intro a hF
    refine op_val (v := .bool (ltB 0 p115.2.1)) rfl rfl hF rfl (run_gtr (hF.ev rfl) rfl rfl) ?_; clear hF; intro a hF
    refine wpList_nil ?_
    cases hc118 : (ltB 0 p115.2.1)
    · replace hM114 := bif_f hc118 hM114
      refine cond_f hF rfl hc118 ?_
      refine wp_exit ?_
      repeat with_reducible (first | refine then_exit ?_ | refine in_hit ?_ | refine in_miss rfl ?_)
      obtain rfl := Option.some.inj hM114
      exact ⟨(p115.1, p115.2.2), B116, d117, rfl, hF.keep _ ⟨rfl, rfl, rfl, rfl, trivial⟩, S.sel [0, 1, 2, 3, 4] rfl rfl⟩
    · replace hM114 := bif_t hc118 hM114
      refine cond_t hF rfl hc118 ?_
      refine wp_skip ?_
      refine wp_seq ?_
      refine wp_block ?_
      refine wp_region_lit ?_
      refine op_val (v := .slice B116 p115.1.length d117) rfl rfl hF rfl (run_move rfl (hF.ev rfl)) ?_; clear hF; intro a hF
      refine op_val (v := .pointer (some ⟨g102, 0, none⟩)) rfl rfl hF rfl (run_move rfl (hF.ev rfl)) ?_; clear hF; intro a hF
      refine op_val (v := .agg #[.int .i64 p103.1, .int .i64 p103.2.1, .slice B104 p103.2.2.1.length d106]) rfl rfl hF rfl (run_loadN rfl ag25 (hF.ev rfl) rfl ((S.free 1 rfl).cells 0 #[.int .i64 p103.1, .int .i64 p103.2.1, .slice B104 p103.2.2.1.length d106] rfl)) ?_; clear hF; intro a hF
      obtain ⟨p119, h119, hM114⟩ := bind_ex hM114
      refine op_call rfl rfl hF rfl (run_call (vs := [.pointer (some ⟨g102, 0, none⟩), .agg #[.int .i64 p103.1, .int .i64 p103.2.1, .slice B104 p103.2.2.1.length d106]]) rfl rfl co22 ⟨(hF.ev rfl), (hF.ev rfl), trivial⟩) (c_spec_l20RoomDeed (x0 := x0.take 2000) (x1 := p115.2.2) (x2 := p103.1) (x3 := p103.2.1) (x4 := p103.2.2.1) ⟨(op_rc h0.rc rfl), rfl⟩ rfl (show St w _ [.box g102 67 #[.slice (opA c0 x0.length A0) ((x0.take 2000).length) c0, .int .i64 p115.2.2], .row 3 1 (.slice B104 p103.2.2.1.length d106) p103.2.2.1.length (p103.2.2.1.flatMap eI), .box g107 25 #[.int .i64 p103.1, .int .i64 p103.2.1, .slice B104 p103.2.2.1.length d106], .box g101 25 #[.int .i64 0, .int .i64 0, .slice none 0 0], .row 27 3 (.slice B116 p115.1.length d117) p115.1.length (p115.1.flatMap eRoomDeed)] from S.sel [0, 4, 1, 2, 3] rfl rfl) h119) ?_
      rintro e u ⟨rfl, T⟩
      refine ⟨_, rfl, ?_⟩
      clear hF; intro a hF
      clear S; have S := T; clear T
      refine op_newrowL (ls := ([(p119.1, p119.2.1, p119.2.2.1)] : List (Int × Int × Int))) (e := eRoomDeed) rfl rfl hF rfl S (run_buildS (vs := [(0, .agg #[.int .i64 p119.1, .int .i64 p119.2.1, .int .i64 p119.2.2.1])]) rfl ⟨⟨rfl, (hF.ev rfl)⟩, trivial⟩ (bs36_1_3 )) rfl eRoomDeed_len (Nat.le_of_ble_eq_true rfl) ?_; clear hF S; intro a g120 u hF S
      obtain ⟨hk123, hM114⟩ := chk_ex hM114
      replace hk123 := apB_t hk123
      refine op_appendL (lx := p115.1) (ly := [(p119.1, p119.2.1, p119.2.2.1)]) rfl rfl hF rfl S rfl (hF.ev rfl) (hF.ev rfl) (i := 5) rfl rfl Tryd.underlying36 inf27 rfl (by decide) (S.rc 0 rfl).rd rfl eRoomDeed_one hk123 (by decide) ?_; clear hF S; intro a B121 d122 u hF S
      refine op_val (v := .slice B121 ((p115.1 ++ ([(p119.1, p119.2.1, p119.2.2.1)])).length) d122) rfl rfl hF rfl (run_assign rfl (hF.ev rfl)) ?_; clear hF; intro a hF
      refine wpList_nil ?_
      refine wp_region_lit ?_
      refine op_val (v := .int .i64 p115.2.1) rfl rfl hF rfl (run_move rfl (hF.ev rfl)) ?_; clear hF; intro a hF
      refine op_val (v := .int .i64 (w64 (p115.2.1 - 1))) rfl rfl hF rfl (run_sub (z := w64 (p115.2.1 - 1)) (hF.ev rfl) rfl rfl rfl) ?_; clear hF; intro a hF
      refine op_val (v := .int .i64 (w64 (p115.2.1 - 1))) rfl rfl hF rfl (run_assign rfl (hF.ev rfl)) ?_; clear hF; intro a hF
      refine wpList_nil ?_
      exact ⟨f1, Nat.lt_succ_self _, (p115.1 ++ ([(p119.1, p119.2.1, p119.2.2.1)]), w64 (p115.2.1 - 1), p119.2.2.2), B121, d122, hM114, hF.keep _ ⟨rfl, rfl, rfl, rfl, rfl, rfl, trivial⟩, S.sel [1, 3, 4, 5, 2] rfl rfl⟩
  · rintro a u ⟨p110, B112, d113, rfl, hF, S⟩
    refine wp_seq ?_
    refine wp_region_lit ?_
    refine op_val (v := .agg #[.int .i64 p103.1, .int .i64 p103.2.1, .slice B104 p103.2.2.1.length d106]) rfl rfl hF rfl (run_loadN rfl ag25 (hF.ev rfl) rfl ((S.free 1 rfl).cells 0 #[.int .i64 p103.1, .int .i64 p103.2.1, .slice B104 p103.2.2.1.length d106] rfl)) ?_; clear hF; intro a hF
    refine op_val (v := .slice B112 p110.1.length d113) rfl rfl hF rfl (run_move rfl (hF.ev rfl)) ?_; clear hF; intro a hF
    refine op_do rfl rfl (run_store (cs' := #[.int .i64 p103.1, .int .i64 p103.2.1, .slice B104 p103.2.2.1.length d106]) rfl sz25 (hF.ev rfl) (hF.ev rfl) rfl rfl rfl (S.free 2 rfl) rfl rfl) ?_; replace S := S.put 2 rfl (#[.int .i64 p103.1, .int .i64 p103.2.1, .slice B104 p103.2.2.1.length d106])
    generalize World.setRow _ _ _ = u at S ⊢
    refine op_val (v := .slice B112 p110.1.length d113) rfl rfl hF rfl (run_assign rfl (hF.ev rfl)) ?_; clear hF; intro a hF
    refine wpList_nil ?_
    refine wp_ret ?_
    repeat with_reducible (first | refine then_ret ?_ | refine in_ret ?_ | refine in_nrm ?_)
    refine ret2_gw (.inl rfl) hF rfl (res_cell (hF.ev rfl) (res_loadN ag25 rfl (S.cells 2 rfl 0 #[.int .i64 p103.1, .int .i64 p103.2.1, .slice B104 p103.2.2.1.length d106] rfl))) (res_tmp (hF.ev rfl)) ?_
    obtain rfl := Option.some.inj hM
    exact ⟨B104, p103.2.2.1.length, d106, B112, p110.1.length, d113, rfl, rfl, rfl, S.sel [4, 3] rfl rfl⟩

set_option maxHeartbeats 4000000 in
theorem c_impl_RoomsRun {x0 : Int} {x1 : Int} {x2 : List Int} {x3 : List (Int × Int × Int)} {A2 : Option Addr} {n2 c2 : Nat} {A3 : Option Addr} {n3 c3 : Nat} {w : World} {r : Int × Int × List Int} (h2 : Rt w 1 eI A2 n2 c2 x2) (h3 : Rt w 3 eRoomDeed A3 n3 c3 x3) (hM : m_impl_RoomsRun x0 x1 x2 x3 = some r) :
    Calls Tryd.prog 13 #[.agg #[.int .i64 x0, .int .i64 x1, .slice A2 n2 c2], .slice A3 n3 c3] w (fun e w' => ∃ (B0 : Option Addr) (N0 D0 : Nat), e = .returned (.agg #[.int .i64 r.1, .int .i64 r.2.1, .slice B0 N0 D0]) ∧ N0 = r.2.2.length ∧ St w w' [.row 3 1 (.slice B0 N0 D0) N0 (r.2.2.flatMap eI)]) := by
  obtain rfl := h2.len
  obtain rfl := h3.len
  unfold m_impl_RoomsRun at hM
  refine calls_gw Tryd.func13 Tryd.ntmps13 rfl [(0, .agg #[.int .i64 x0, .int .i64 x1, .slice A2 x2.length c2]), (1, .slice A3 x3.length c3)] ⟨rfl, rfl, trivial⟩ rfl ?_
  intro a hF
  have S := St.nil w
  refine wp_seq ?_
  refine wp_region_lit ?_
  refine op_new (cs := #[.int .i64 x0, .int .i64 x1, .slice A2 x2.length c2]) rfl rfl hF rfl S (run_box rfl (hF.ev rfl) rfl) ?_; clear hF S; intro a g101 u hF S
  refine op_new (cs := #[.int .i64 0, .int .i64 0, .slice none 0 0]) rfl rfl hF rfl S (run_allocZ rfl zr25) ?_; clear hF S; intro a g102 u hF S
  refine wpList_nil ?_
  refine wp_seq ?_
  refine wp_seq ?_
  refine wp_region_lit ?_
  refine op_val (v := .agg #[.int .i64 x0, .int .i64 x1, .slice A2 x2.length c2]) rfl rfl hF rfl (run_loadN rfl ag25 (hF.ev rfl) rfl ((S.free 1 rfl).cells 0 #[.int .i64 x0, .int .i64 x1, .slice A2 x2.length c2] rfl)) ?_; clear hF; intro a hF
  obtain ⟨p103, h103, hM⟩ := bind_ex hM
  refine op_call rfl rfl hF rfl (run_call (vs := [.agg #[.int .i64 x0, .int .i64 x1, .slice A2 x2.length c2]]) rfl rfl co10 ⟨(hF.ev rfl), trivial⟩) (c_impl_RoomsValid (x0 := x0) (x1 := x1) (x2 := x2) ⟨(S.rc0 h2.rc), rfl⟩ h103) ?_
  rintro e u ⟨rfl, T⟩
  refine ⟨_, rfl, ?_⟩
  clear hF; intro a hF
  replace S := S.call0 T; clear T
  refine op_val (v := .bool (!p103)) rfl rfl hF rfl (run_not rfl (hF.ev rfl)) ?_; clear hF; intro a hF
  refine wpList_nil ?_
  cases hc104 : (p103)
  · replace hM := bif_f hc104 hM
    refine cond_t hF rfl (not_t hc104) ?_
    refine wp_seq ?_
    refine wp_region_lit ?_
    refine op_val (v := .agg #[.int .i64 0, .int .i64 0, .slice none 0 0]) rfl rfl hF rfl (run_build (vs := []) rfl trivial (bd25 )) ?_; clear hF; intro a hF
    refine op_do rfl rfl (run_store (cs' := #[.int .i64 0, .int .i64 0, .slice none 0 0]) rfl sz25 (hF.ev rfl) (hF.ev rfl) rfl rfl rfl (S.free 0 rfl) rfl rfl) ?_; replace S := S.put 0 rfl (#[.int .i64 0, .int .i64 0, .slice none 0 0])
    generalize World.setRow _ _ _ = u at S ⊢
    refine wpList_nil ?_
    refine wp_ret ?_
    repeat with_reducible (first | refine then_ret ?_ | refine in_ret ?_ | refine in_nrm ?_)
    refine ret1_gw (.inl rfl) hF rfl (res_cell (hF.ev rfl) (res_loadN ag25 rfl (S.cells 0 rfl 0 #[.int .i64 0, .int .i64 0, .slice none 0 0] rfl))) ?_
    obtain rfl := Option.some.inj hM
    replace S := S.nilrow 3 1
    exact ⟨none, 0, 0, rfl, rfl, S.sel [0] rfl rfl⟩
  · replace hM := bif_t hc104 hM
    refine cond_f hF rfl (not_f hc104) ?_
    refine wp_skip ?_
    refine wp_seq ?_
    refine wp_region_lit ?_
    refine op_val (v := .agg #[.int .i64 x0, .int .i64 x1, .slice A2 x2.length c2]) rfl rfl hF rfl (run_loadN rfl ag25 (hF.ev rfl) rfl ((S.free 1 rfl).cells 0 #[.int .i64 x0, .int .i64 x1, .slice A2 x2.length c2] rfl)) ?_; clear hF; intro a hF
    obtain ⟨p105, h105, hM⟩ := bind_ex hM
    refine op_call rfl rfl hF rfl (run_call (vs := [.agg #[.int .i64 x0, .int .i64 x1, .slice A2 x2.length c2]]) rfl rfl co23 ⟨(hF.ev rfl), trivial⟩) (c_impl_Rooms_clone (x0 := x0) (x1 := x1) (x2 := x2) ⟨(S.rc0 h2.rc), rfl⟩ h105) ?_
    rintro e u ⟨B106, n107, d108, rfl, rfl, T⟩
    refine ⟨_, rfl, ?_⟩
    clear hF; intro a hF
    replace S := S.call1 T; clear T
    refine op_new (cs := #[.int .i64 0, .int .i64 0, .slice none 0 0]) rfl rfl hF rfl S (run_allocZ rfl zr25) ?_; clear hF S; intro a g109 u hF S
    refine op_do rfl rfl (run_store (cs' := #[.int .i64 p105.1, .int .i64 p105.2.1, .slice B106 p105.2.2.length d108]) rfl sz25 (hF.ev rfl) (hF.ev rfl) rfl rfl rfl (S.free 0 rfl) rfl rfl) ?_; replace S := S.put 0 rfl (#[.int .i64 p105.1, .int .i64 p105.2.1, .slice B106 p105.2.2.length d108])
    generalize World.setRow _ _ _ = u at S ⊢
    refine wpList_nil ?_
    refine wp_seq ?_
    refine wp_seq ?_
    refine wp_region_lit ?_
    refine op_val (v := .slice A3 x3.length c3) rfl rfl hF rfl (run_move rfl (hF.ev rfl)) ?_; clear hF; intro a hF
    refine op_val (v := .int .i64 (x3.length : Int)) rfl rfl hF rfl (run_lenL rfl rfl Tryd.underlying36 (hF.ev rfl)) ?_; clear hF; intro a hF
    refine op_val (v := .int .i64 0) rfl rfl hF rfl (run_move rfl rfl) ?_; clear hF; intro a hF
    refine wpList_nil ?_
    obtain ⟨o111, hM114, hM⟩ := bind_ex hM
    refine wp_cut (fun a u => ∃ (p110 : Int × Int × List Int) (B112 : Option Addr) (d113 : Nat), p110 = o111 ∧ Fr a 28 [(4, .pointer (some ⟨g102, 0, none⟩)), (5, .pointer (some ⟨g109, 0, none⟩))] ∧ St w u [.box g109 25 #[.int .i64 p110.1, .int .i64 p110.2.1, .slice B112 p110.2.2.length d113], .box g102 25 #[.int .i64 0, .int .i64 0, .slice none 0 0], .box g101 25 #[.int .i64 x0, .int .i64 x1, .slice A2 x2.length c2], .row 3 1 (.slice B112 p110.2.2.length d113) p110.2.2.length (p110.2.2.flatMap eI)]) ?_ ?_
    · have _ := trivial
      refine wp_block ?_
      refine loop_gw (fun m a u => ∃ (p115 : Int × Int × Int × List Int) (B116 : Option Addr) (d117 : Nat), m_impl_RoomsRun_l1 x3 m p115 = some _ ∧ Fr a 28 [(4, .pointer (some ⟨g102, 0, none⟩)), (5, .pointer (some ⟨g109, 0, none⟩)), (14, .slice A3 x3.length c3), (15, .int .i64 (x3.length : Int)), (16, .int .i64 p115.1)] ∧ St w u [.box g109 25 #[.int .i64 p115.2.1, .int .i64 p115.2.2.1, .slice B116 p115.2.2.2.length d117], .box g102 25 #[.int .i64 0, .int .i64 0, .slice none 0 0], .box g101 25 #[.int .i64 x0, .int .i64 x1, .slice A2 x2.length c2], .row 3 1 (.slice B116 p115.2.2.2.length d117) p115.2.2.2.length (p115.2.2.2.flatMap eI)]) FUEL ⟨(0, p105.1, p105.2.1, p105.2.2), B106, d108, hM114, hF.keep _ ⟨rfl, rfl, rfl, rfl, rfl, trivial⟩, S.sel [0, 2, 3, 1] rfl rfl⟩ ?_
      clear hF S hM114; rintro m a u ⟨p115, B116, d117, hM114, hF, S⟩
      rcases m with _ | f1
      · exact none_some hM114
      rw [m_impl_RoomsRun_l1.eq_2] at hM114
      refine wp_seq ?_
      refine wp_region_lit ?_
      refine op_val (v := .bool (ltB p115.1 (x3.length : Int))) rfl rfl hF rfl (run_lss (hF.ev rfl) (hF.ev rfl) rfl) ?_; clear hF; intro a hF
      refine wpList_nil ?_
      refine wp_seq ?_
      cases hc118 : (ltB p115.1 (x3.length : Int))
      · replace hM114 := bif_f hc118 hM114
        refine cond_f hF rfl hc118 ?_
        refine wp_exit ?_
        repeat with_reducible (first | refine then_exit ?_ | refine in_hit ?_ | refine in_miss rfl ?_)
        obtain rfl := Option.some.inj hM114
        exact ⟨(p115.2.1, p115.2.2.1, p115.2.2.2), B116, d117, rfl, hF.keep _ ⟨rfl, rfl, trivial⟩, S.sel [0, 1, 2, 3] rfl rfl⟩
      · replace hM114 := bif_t hc118 hM114
        refine cond_t hF rfl hc118 ?_
        refine wp_skip ?_
        refine wp_seq ?_
        refine wp_block ?_
        refine wp_seq ?_
        refine wp_region_lit ?_
        obtain ⟨hk119, hM114⟩ := chk_ex hM114
        replace hk119 := ixB_t hk119
        refine op_val (v := .pointer (some ⟨adB A3, adO A3 + p115.1.toNat * 3, none⟩)) rfl rfl hF rfl (run_indexAddr (b := adB A3) (off := adO A3) rfl Tryd.underlying36 sz27 ((hF.ev rfl).trans (congrArg (fun A => Value.slice A x3.length c3) ((S.rc0 h3.rc).rd.ad (ix_pos hk119)))) (hF.ev rfl) hk119.1 hk119.2 (k' := adO A3 + p115.1.toNat * 3) rfl) ?_; clear hF; intro a hF
        refine op_val (v := .agg #[.int .i64 ((x3.getD p115.1.toNat ((0, 0, 0) : Int × Int × Int)).1), .int .i64 ((x3.getD p115.1.toNat ((0, 0, 0) : Int × Int × Int)).2.1), .int .i64 ((x3.getD p115.1.toNat ((0, 0, 0) : Int × Int × Int)).2.2)]) rfl rfl hF rfl (run_loadN (cs := #[.int .i64 ((x3.getD p115.1.toNat ((0, 0, 0) : Int × Int × Int)).1), .int .i64 ((x3.getD p115.1.toNat ((0, 0, 0) : Int × Int × Int)).2.1), .int .i64 ((x3.getD p115.1.toNat ((0, 0, 0) : Int × Int × Int)).2.2)]) rfl ag27 (hF.ev rfl) rfl (rd_elN (l := x3) (S.rc0 h3.rc).rd rfl eRoomDeed_len ((0, 0, 0) : Int × Int × Int) (ix_ltn hk119 rfl) rfl)) ?_; clear hF; intro a hF
        refine op_new (cs := #[.int .i64 0, .int .i64 0, .int .i64 0]) rfl rfl hF rfl S (run_allocZ rfl zr27) ?_; clear hF S; intro a g120 u hF S
        refine op_do rfl rfl (run_store (cs' := #[.int .i64 ((x3.getD p115.1.toNat ((0, 0, 0) : Int × Int × Int)).1), .int .i64 ((x3.getD p115.1.toNat ((0, 0, 0) : Int × Int × Int)).2.1), .int .i64 ((x3.getD p115.1.toNat ((0, 0, 0) : Int × Int × Int)).2.2)]) rfl sz27 (hF.ev rfl) (hF.ev rfl) rfl rfl rfl (S.free 0 rfl) rfl rfl) ?_; replace S := S.put 0 rfl (#[.int .i64 ((x3.getD p115.1.toNat ((0, 0, 0) : Int × Int × Int)).1), .int .i64 ((x3.getD p115.1.toNat ((0, 0, 0) : Int × Int × Int)).2.1), .int .i64 ((x3.getD p115.1.toNat ((0, 0, 0) : Int × Int × Int)).2.2)])
        generalize World.setRow _ _ _ = u at S ⊢
        refine wpList_nil ?_
        refine wp_region_lit ?_
        refine op_val (v := .agg #[.int .i64 p115.2.1, .int .i64 p115.2.2.1, .slice B116 p115.2.2.2.length d117]) rfl rfl hF rfl (run_loadN rfl ag25 (hF.ev rfl) rfl ((S.free 1 rfl).cells 0 #[.int .i64 p115.2.1, .int .i64 p115.2.2.1, .slice B116 p115.2.2.2.length d117] rfl)) ?_; clear hF; intro a hF
        refine op_val (v := .agg #[.int .i64 ((x3.getD p115.1.toNat ((0, 0, 0) : Int × Int × Int)).1), .int .i64 ((x3.getD p115.1.toNat ((0, 0, 0) : Int × Int × Int)).2.1), .int .i64 ((x3.getD p115.1.toNat ((0, 0, 0) : Int × Int × Int)).2.2)]) rfl rfl hF rfl (run_loadN rfl ag27 (hF.ev rfl) rfl ((S.free 0 rfl).cells 0 #[.int .i64 ((x3.getD p115.1.toNat ((0, 0, 0) : Int × Int × Int)).1), .int .i64 ((x3.getD p115.1.toNat ((0, 0, 0) : Int × Int × Int)).2.1), .int .i64 ((x3.getD p115.1.toNat ((0, 0, 0) : Int × Int × Int)).2.2)] rfl)) ?_; clear hF; intro a hF
        obtain ⟨p121, h121, hM114⟩ := bind_ex hM114
        refine op_call rfl rfl hF rfl (run_call (vs := [.agg #[.int .i64 p115.2.1, .int .i64 p115.2.2.1, .slice B116 p115.2.2.2.length d117], .agg #[.int .i64 ((x3.getD p115.1.toNat ((0, 0, 0) : Int × Int × Int)).1), .int .i64 ((x3.getD p115.1.toNat ((0, 0, 0) : Int × Int × Int)).2.1), .int .i64 ((x3.getD p115.1.toNat ((0, 0, 0) : Int × Int × Int)).2.2)]]) rfl rfl co7 ⟨(hF.ev rfl), (hF.ev rfl), trivial⟩) (c_impl_RoomsDo (x0 := p115.2.1) (x1 := p115.2.2.1) (x2 := p115.2.2.2) (x3 := (x3.getD p115.1.toNat ((0, 0, 0) : Int × Int × Int)).1) (x4 := (x3.getD p115.1.toNat ((0, 0, 0) : Int × Int × Int)).2.1) (x5 := (x3.getD p115.1.toNat ((0, 0, 0) : Int × Int × Int)).2.2) ⟨(S.rc 4 rfl), rfl⟩ h121) ?_
        rintro e u ⟨B122, n123, d124, rfl, rfl, T⟩
        refine ⟨_, rfl, ?_⟩
        clear hF; intro a hF
        replace S := S.call1 T; clear T
        refine op_val (v := .tuple #[.agg #[.int .i64 p121.1, .int .i64 p121.2.1, .slice B122 p121.2.2.1.length d124], .bool p121.2.2.2]) rfl rfl hF rfl (run_move rfl (hF.ev rfl)) ?_; clear hF; intro a hF
        refine op_val (v := .agg #[.int .i64 p121.1, .int .i64 p121.2.1, .slice B122 p121.2.2.1.length d124]) rfl rfl hF rfl (run_extract rfl (hF.ev rfl) rfl) ?_; clear hF; intro a hF
        refine op_val (v := .bool p121.2.2.2) rfl rfl hF rfl (run_extract rfl (hF.ev rfl) rfl) ?_; clear hF; intro a hF
        refine op_do rfl rfl (run_store (cs' := #[.int .i64 p121.1, .int .i64 p121.2.1, .slice B122 p121.2.2.1.length d124]) rfl sz25 (hF.ev rfl) (hF.ev rfl) rfl rfl rfl (S.free 2 rfl) rfl rfl) ?_; replace S := S.put 2 rfl (#[.int .i64 p121.1, .int .i64 p121.2.1, .slice B122 p121.2.2.1.length d124])
        generalize World.setRow _ _ _ = u at S ⊢
        refine wpList_nil ?_
        refine wp_region_lit ?_
        refine op_val (v := .int .i64 (w64 (p115.1 + 1))) rfl rfl hF rfl (run_add (z := w64 (p115.1 + 1)) (hF.ev rfl) rfl rfl rfl) ?_; clear hF; intro a hF
        refine op_val (v := .int .i64 (w64 (p115.1 + 1))) rfl rfl hF rfl (run_move rfl (hF.ev rfl)) ?_; clear hF; intro a hF
        refine wpList_nil ?_
        exact ⟨f1, Nat.lt_succ_self _, (w64 (p115.1 + 1), p121.1, p121.2.1, p121.2.2.1), B122, d124, hM114, hF.keep _ ⟨rfl, rfl, rfl, rfl, rfl, trivial⟩, S.sel [2, 3, 4, 0] rfl rfl⟩
    · rintro a u ⟨p110, B112, d113, rfl, hF, S⟩
      refine wp_seq ?_
      refine wp_region_lit ?_
      refine op_val (v := .agg #[.int .i64 p110.1, .int .i64 p110.2.1, .slice B112 p110.2.2.length d113]) rfl rfl hF rfl (run_loadN rfl ag25 (hF.ev rfl) rfl ((S.free 0 rfl).cells 0 #[.int .i64 p110.1, .int .i64 p110.2.1, .slice B112 p110.2.2.length d113] rfl)) ?_; clear hF; intro a hF
      refine op_do rfl rfl (run_store (cs' := #[.int .i64 p110.1, .int .i64 p110.2.1, .slice B112 p110.2.2.length d113]) rfl sz25 (hF.ev rfl) (hF.ev rfl) rfl rfl rfl (S.free 1 rfl) rfl rfl) ?_; replace S := S.put 1 rfl (#[.int .i64 p110.1, .int .i64 p110.2.1, .slice B112 p110.2.2.length d113])
      generalize World.setRow _ _ _ = u at S ⊢
      refine wpList_nil ?_
      refine wp_ret ?_
      repeat with_reducible (first | refine then_ret ?_ | refine in_ret ?_ | refine in_nrm ?_)
      refine ret1_gw (.inl rfl) hF rfl (res_cell (hF.ev rfl) (res_loadN ag25 rfl (S.cells 1 rfl 0 #[.int .i64 p110.1, .int .i64 p110.2.1, .slice B112 p110.2.2.length d113] rfl))) ?_
      obtain rfl := Option.some.inj hM
      exact ⟨B112, p110.2.2.length, d113, rfl, rfl, S.sel [3] rfl rfl⟩

set_option maxHeartbeats 4000000 in
theorem c_spec_RoomsRun {x0 : Int} {x1 : Int} {x2 : List Int} {x3 : List (Int × Int × Int)} {A2 : Option Addr} {n2 c2 : Nat} {A3 : Option Addr} {n3 c3 : Nat} {w : World} {r : Int × Int × List Int} (h2 : Rt w 1 eI A2 n2 c2 x2) (h3 : Rt w 3 eRoomDeed A3 n3 c3 x3) (hM : m_spec_RoomsRun x0 x1 x2 x3 = some r) :
    Calls Tryd.prog 14 #[.agg #[.int .i64 x0, .int .i64 x1, .slice A2 n2 c2], .slice A3 n3 c3] w (fun e w' => ∃ (B0 : Option Addr) (N0 D0 : Nat), e = .returned (.agg #[.int .i64 r.1, .int .i64 r.2.1, .slice B0 N0 D0]) ∧ N0 = r.2.2.length ∧ St w w' [.row 3 1 (.slice B0 N0 D0) N0 (r.2.2.flatMap eI)]) := by
  obtain rfl := h2.len
  obtain rfl := h3.len
  unfold m_spec_RoomsRun at hM
  refine calls_gw Tryd.func14 Tryd.ntmps14 rfl [(0, .agg #[.int .i64 x0, .int .i64 x1, .slice A2 x2.length c2]), (1, .slice A3 x3.length c3)] ⟨rfl, rfl, trivial⟩ rfl ?_
  intro a hF
  have S := St.nil w
  refine wp_seq ?_
  refine wp_region_lit ?_
  refine op_new (cs := #[.int .i64 x0, .int .i64 x1, .slice A2 x2.length c2]) rfl rfl hF rfl S (run_box rfl (hF.ev rfl) rfl) ?_; clear hF S; intro a g101 u hF S
  refine op_new (cs := #[.int .i64 0, .int .i64 0, .slice none 0 0]) rfl rfl hF rfl S (run_allocZ rfl zr25) ?_; clear hF S; intro a g102 u hF S
  refine wpList_nil ?_
  refine wp_seq ?_
  refine wp_seq ?_
  refine wp_region_lit ?_
  refine op_val (v := .agg #[.int .i64 x0, .int .i64 x1, .slice A2 x2.length c2]) rfl rfl hF rfl (run_loadN rfl ag25 (hF.ev rfl) rfl ((S.free 1 rfl).cells 0 #[.int .i64 x0, .int .i64 x1, .slice A2 x2.length c2] rfl)) ?_; clear hF; intro a hF
  obtain ⟨p103, h103, hM⟩ := bind_ex hM
  refine op_call rfl rfl hF rfl (run_call (vs := [.agg #[.int .i64 x0, .int .i64 x1, .slice A2 x2.length c2]]) rfl rfl co15 ⟨(hF.ev rfl), trivial⟩) (c_spec_RoomsValid (x0 := x0) (x1 := x1) (x2 := x2) ⟨(S.rc0 h2.rc), rfl⟩ h103) ?_
  rintro e u ⟨rfl, T⟩
  refine ⟨_, rfl, ?_⟩
  clear hF; intro a hF
  replace S := S.call0 T; clear T
  refine op_val (v := .bool (!p103)) rfl rfl hF rfl (run_not rfl (hF.ev rfl)) ?_; clear hF; intro a hF
  refine wpList_nil ?_
  cases hc104 : (p103)
  · replace hM := bif_f hc104 hM
    refine cond_t hF rfl (not_t hc104) ?_
    refine wp_seq ?_
    refine wp_region_lit ?_
    refine op_val (v := .agg #[.int .i64 0, .int .i64 0, .slice none 0 0]) rfl rfl hF rfl (run_build (vs := []) rfl trivial (bd25 )) ?_; clear hF; intro a hF
    refine op_do rfl rfl (run_store (cs' := #[.int .i64 0, .int .i64 0, .slice none 0 0]) rfl sz25 (hF.ev rfl) (hF.ev rfl) rfl rfl rfl (S.free 0 rfl) rfl rfl) ?_; replace S := S.put 0 rfl (#[.int .i64 0, .int .i64 0, .slice none 0 0])
    generalize World.setRow _ _ _ = u at S ⊢
    refine wpList_nil ?_
    refine wp_ret ?_
    repeat with_reducible (first | refine then_ret ?_ | refine in_ret ?_ | refine in_nrm ?_)
    refine ret1_gw (.inl rfl) hF rfl (res_cell (hF.ev rfl) (res_loadN ag25 rfl (S.cells 0 rfl 0 #[.int .i64 0, .int .i64 0, .slice none 0 0] rfl))) ?_
    obtain rfl := Option.some.inj hM
    replace S := S.nilrow 3 1
    exact ⟨none, 0, 0, rfl, rfl, S.sel [0] rfl rfl⟩
  · replace hM := bif_t hc104 hM
    refine cond_f hF rfl (not_f hc104) ?_
    refine wp_skip ?_
    refine wp_seq ?_
    refine wp_region_lit ?_
    refine op_val (v := .agg #[.int .i64 x0, .int .i64 x1, .slice A2 x2.length c2]) rfl rfl hF rfl (run_loadN rfl ag25 (hF.ev rfl) rfl ((S.free 1 rfl).cells 0 #[.int .i64 x0, .int .i64 x1, .slice A2 x2.length c2] rfl)) ?_; clear hF; intro a hF
    refine op_val (v := .pointer (some ⟨g101, 0, none⟩)) rfl rfl hF rfl (run_fieldAddr rfl fl25_0 (hF.ev rfl) rfl) ?_; clear hF; intro a hF
    refine op_val (v := .int .i64 x0) rfl rfl hF rfl (run_load1 rfl one3 (hF.ev rfl) ((S.free 1 rfl).cell rfl)) ?_; clear hF; intro a hF
    obtain ⟨p105, h105, hM⟩ := bind_ex hM
    refine op_call rfl rfl hF rfl (run_call (vs := [.agg #[.int .i64 x0, .int .i64 x1, .slice A2 x2.length c2], .int .i64 0, .int .i64 x0]) rfl rfl co26 ⟨(hF.ev rfl), rfl, (hF.ev rfl), trivial⟩) (c_spec_l32Set (x0 := x0) (x1 := x1) (x2 := x2) (x3 := 0) (x4 := x0) ⟨(S.rc0 h2.rc), rfl⟩ h105) ?_
    rintro e u ⟨B106, n107, d108, rfl, rfl, T⟩
    refine ⟨_, rfl, ?_⟩
    clear hF; intro a hF
    replace S := S.call1 T; clear T
    refine op_new (cs := #[.int .i64 0, .int .i64 0, .slice none 0 0]) rfl rfl hF rfl S (run_allocZ rfl zr25) ?_; clear hF S; intro a g109 u hF S
    refine op_do rfl rfl (run_store (cs' := #[.int .i64 p105.1, .int .i64 p105.2.1, .slice B106 p105.2.2.length d108]) rfl sz25 (hF.ev rfl) (hF.ev rfl) rfl rfl rfl (S.free 0 rfl) rfl rfl) ?_; replace S := S.put 0 rfl (#[.int .i64 p105.1, .int .i64 p105.2.1, .slice B106 p105.2.2.length d108])
    generalize World.setRow _ _ _ = u at S ⊢
    refine wpList_nil ?_
    refine wp_seq ?_
    refine wp_seq ?_
    refine wp_region_lit ?_
    refine op_val (v := .int .i64 0) rfl rfl hF rfl (run_assign rfl rfl) ?_; clear hF; intro a hF
    refine wpList_nil ?_
    obtain ⟨o111, hM114, hM⟩ := bind_ex hM
    refine wp_cut (fun a u => ∃ (p110 : Int × Int × List Int) (B112 : Option Addr) (d113 : Nat), p110 = o111 ∧ Fr a 34 [(4, .pointer (some ⟨g102, 0, none⟩)), (5, .pointer (some ⟨g109, 0, none⟩))] ∧ St w u [.box g109 25 #[.int .i64 p110.1, .int .i64 p110.2.1, .slice B112 p110.2.2.length d113], .box g102 25 #[.int .i64 0, .int .i64 0, .slice none 0 0], .box g101 25 #[.int .i64 x0, .int .i64 x1, .slice A2 x2.length c2], .row 3 1 (.slice B112 p110.2.2.length d113) p110.2.2.length (p110.2.2.flatMap eI)]) ?_ ?_
    · have _ := trivial
      refine wp_block ?_
      refine loop_gw (fun m a u => ∃ (p115 : Int × Int × Int × List Int) (B116 : Option Addr) (d117 : Nat), m_spec_RoomsRun_l1 x3 m p115 = some _ ∧ Fr a 34 [(1, .slice A3 x3.length c3), (4, .pointer (some ⟨g102, 0, none⟩)), (5, .pointer (some ⟨g109, 0, none⟩)), (6, .int .i64 p115.1)] ∧ St w u [.box g109 25 #[.int .i64 p115.2.1, .int .i64 p115.2.2.1, .slice B116 p115.2.2.2.length d117], .box g102 25 #[.int .i64 0, .int .i64 0, .slice none 0 0], .box g101 25 #[.int .i64 x0, .int .i64 x1, .slice A2 x2.length c2], .row 3 1 (.slice B116 p115.2.2.2.length d117) p115.2.2.2.length (p115.2.2.2.flatMap eI)]) FUEL ⟨(0, p105.1, p105.2.1, p105.2.2), B106, d108, hM114, hF.keep _ ⟨rfl, rfl, rfl, rfl, trivial⟩, S.sel [0, 2, 3, 1] rfl rfl⟩ ?_
      clear hF S hM114; rintro m a u ⟨p115, B116, d117, hM114, hF, S⟩
      rcases m with _ | f1
      · exact none_some hM114
      rw [m_spec_RoomsRun_l1.eq_2] at hM114
      refine wp_seq ?_
      refine wp_seq ?_
      refine wp_region_lit ?_
      refine op_val (v := .int .i64 p115.1) rfl rfl hF rfl (run_move rfl (hF.ev rfl)) ?_; clear hF; intro a hF
      refine op_val (v := .slice A3 x3.length c3) rfl rfl hF rfl (run_move rfl (hF.ev rfl)) ?_; clear hF; intro a hF
      refine op_val (v := .int .i64 (x3.length : Int)) rfl rfl hF rfl (run_lenL rfl rfl Tryd.underlying36 (hF.ev rfl)) ?_; clear hF; intro a hF
      refine op_val (v := .bool (ltB p115.1 (x3.length : Int))) rfl rfl hF rfl (run_lss (hF.ev rfl) (hF.ev rfl) rfl) ?_; clear hF; intro a hF
      refine wpList_nil ?_
      cases hc118 : (ltB p115.1 (x3.length : Int))
      · replace hM114 := bif_f hc118 hM114
        refine cond_f hF rfl hc118 ?_
        refine wp_exit ?_
        repeat with_reducible (first | refine then_exit ?_ | refine in_hit ?_ | refine in_miss rfl ?_)
        obtain rfl := Option.some.inj hM114
        exact ⟨(p115.2.1, p115.2.2.1, p115.2.2.2), B116, d117, rfl, hF.keep _ ⟨rfl, rfl, trivial⟩, S.sel [0, 1, 2, 3] rfl rfl⟩
      · replace hM114 := bif_t hc118 hM114
        refine cond_t hF rfl hc118 ?_
        refine wp_skip ?_
        refine wp_seq ?_
        refine wp_block ?_
        refine wp_seq ?_
        obtain ⟨hk119, hM114⟩ := chk_ex hM114
        replace hk119 := ixB_t hk119
        obtain ⟨p120, h120, hM114⟩ := bind_ex hM114
        refine region_gw (D := [24, 25, 26, 27, 28, 29, 23, 30, 31, 7, 8]) (Lr := [.box g109 25 #[.int .i64 p115.2.1, .int .i64 p115.2.2.1, .slice B116 p115.2.2.2.length d117], .box g102 25 #[.int .i64 0, .int .i64 0, .slice none 0 0], .box g101 25 #[.int .i64 x0, .int .i64 x1, .slice A2 x2.length c2], .row 3 1 (.slice B116 p115.2.2.2.length d117) p115.2.2.2.length (p115.2.2.2.flatMap eI)]) (deps := (fun | 0 => [24] | 1 => [25] | 2 => [26] | 3 => [27] | 4 => [28] | 5 => [29] | 6 => [23, 29] | 7 => [30, 29] | 8 => [31] | 9 => [7] | 10 => [7, 29] | 11 => [8] | _ => [])) (rd := (fun _ => [])) (zr := (fun _ => []))
          (φ := fun i vs => match i, vs with | 0, [v24] => v24 = .agg #[.int .i64 p115.2.1, .int .i64 p115.2.2.1, .slice B116 p115.2.2.2.length d117] | 1, [v25] => v25 = .slice A3 x3.length c3 | 2, [v26] => v26 = .int .i64 p115.1 | 3, [v27] => v27 = .pointer (some ⟨adB A3, adO A3 + p115.1.toNat * 3, none⟩) | 4, [v28] => v28 = .agg #[.int .i64 ((x3.getD p115.1.toNat ((0, 0, 0) : Int × Int × Int)).1), .int .i64 ((x3.getD p115.1.toNat ((0, 0, 0) : Int × Int × Int)).2.1), .int .i64 ((x3.getD p115.1.toNat ((0, 0, 0) : Int × Int × Int)).2.2)] | 5, [v29] => v29 = .tuple #[.agg #[.int .i64 p120.1, .int .i64 p120.2.1, .slice (slA (vtup (vtup v29 0) 2)) p120.2.2.1.length (slC (vtup (vtup v29 0) 2))], .bool p120.2.2.2] | 6, [v23, v29] => v23 = .tuple #[.agg #[.int .i64 p120.1, .int .i64 p120.2.1, .slice (slA (vtup (vtup v29 0) 2)) p120.2.2.1.length (slC (vtup (vtup v29 0) 2))], .bool p120.2.2.2] | 7, [v30, v29] => v30 = .agg #[.int .i64 p120.1, .int .i64 p120.2.1, .slice (slA (vtup (vtup v29 0) 2)) p120.2.2.1.length (slC (vtup (vtup v29 0) 2))] | 8, [v31] => v31 = .bool p120.2.2.2 | 9, [v7] => v7 = .pointer (some ⟨ptB v7, 0, none⟩) | 11, [v8] => v8 = .bool p120.2.2.2 | _, _ => True)
          (C := fun i vs => match i, vs with | 5, [v29] => [.row 3 1 (.slice (slA (vtup (vtup v29 0) 2)) p120.2.2.1.length (slC (vtup (vtup v29 0) 2))) p120.2.2.1.length (p120.2.2.1.flatMap eI)] | 9, [v7] => [.box (ptB v7) 25 #[.int .i64 0, .int .i64 0, .slice none 0 0]] | 10, [v7, v29] => [.box (ptB v7) 25 #[.int .i64 p120.1, .int .i64 p120.2.1, .slice (slA (vtup (vtup v29 0) 2)) p120.2.2.1.length (slC (vtup (vtup v29 0) 2))]] | _, _ => [])
          (κ := (fun | 9 => some 10 | _ => none)) (Z := (fun _ => [])) mixed hF (by kernel_rfl) S ?_ ?_
        · refine ⟨?_, ?_, ?_, ?_, ?_, ?_, ?_, ?_, ?_, ?_, ?_, ?_, trivial⟩
          · intro a u X hB hu hp hr hz hl S
            replace S : St w u ([] ++ X) := S
            exact .inl ⟨rfl, .agg #[.int .i64 p115.2.1, .int .i64 p115.2.2.1, .slice B116 p115.2.2.2.length d117], u, (run_loadN rfl ag25 (hF.evB hB rfl rfl) rfl ((gr_box S hl 0 rfl).cells 0 #[.int .i64 p115.2.1, .int .i64 p115.2.2.1, .slice B116 p115.2.2.2.length d117] rfl)), rfl, S⟩
          · intro a u X hB hu hp hr hz hl S
            replace S : St w u ([] ++ X) := S
            exact .inl ⟨rfl, .slice A3 x3.length c3, u, (run_move rfl (hF.evB hB rfl rfl)), rfl, S⟩
          · intro a u X hB hu hp hr hz hl S
            replace S : St w u ([] ++ X) := S
            exact .inl ⟨rfl, .int .i64 p115.1, u, (run_move rfl (hF.evB hB rfl rfl)), rfl, S⟩
          · intro a u X hB hu hp hr hz hl S
            replace S : St w u ([] ++ X) := S
            have e25 : sl a 25 = .slice A3 x3.length c3 := hp 1 rfl
            have e26 : sl a 26 = .int .i64 p115.1 := hp 2 rfl
            exact .inl ⟨rfl, .pointer (some ⟨adB A3, adO A3 + p115.1.toNat * 3, none⟩), u, (run_indexAddr (b := adB A3) (off := adO A3) rfl Tryd.underlying36 sz27 ((ev_sl e25).trans (congrArg (fun A => Value.slice A x3.length c3) ((S.rc0 h3.rc).rd.ad (ix_pos hk119)))) (ev_sl e26) hk119.1 hk119.2 (k' := adO A3 + p115.1.toNat * 3) rfl), rfl, S⟩
          · intro a u X hB hu hp hr hz hl S
            replace S : St w u ([] ++ X) := S
            have e27 : sl a 27 = .pointer (some ⟨adB A3, adO A3 + p115.1.toNat * 3, none⟩) := hp 3 rfl
            exact .inl ⟨rfl, .agg #[.int .i64 ((x3.getD p115.1.toNat ((0, 0, 0) : Int × Int × Int)).1), .int .i64 ((x3.getD p115.1.toNat ((0, 0, 0) : Int × Int × Int)).2.1), .int .i64 ((x3.getD p115.1.toNat ((0, 0, 0) : Int × Int × Int)).2.2)], u, (run_loadN (cs := #[.int .i64 ((x3.getD p115.1.toNat ((0, 0, 0) : Int × Int × Int)).1), .int .i64 ((x3.getD p115.1.toNat ((0, 0, 0) : Int × Int × Int)).2.1), .int .i64 ((x3.getD p115.1.toNat ((0, 0, 0) : Int × Int × Int)).2.2)]) rfl ag27 (ev_sl e27) rfl (rd_elN (l := x3) (S.rc0 h3.rc).rd rfl eRoomDeed_len ((0, 0, 0) : Int × Int × Int) (ix_ltn hk119 rfl) rfl)), rfl, S⟩
          · intro a u X hB hu hp hr hz hl S
            replace S : St w u ([] ++ X) := S
            have e24 : sl a 24 = .agg #[.int .i64 p115.2.1, .int .i64 p115.2.2.1, .slice B116 p115.2.2.2.length d117] := hp 0 rfl
            have e28 : sl a 28 = .agg #[.int .i64 ((x3.getD p115.1.toNat ((0, 0, 0) : Int × Int × Int)).1), .int .i64 ((x3.getD p115.1.toNat ((0, 0, 0) : Int × Int × Int)).2.1), .int .i64 ((x3.getD p115.1.toNat ((0, 0, 0) : Int × Int × Int)).2.2)] := hp 4 rfl
            refine .inr (.inr (.inl ⟨rfl, _, _, (run_call (vs := [.agg #[.int .i64 p115.2.1, .int .i64 p115.2.2.1, .slice B116 p115.2.2.2.length d117], .agg #[.int .i64 ((x3.getD p115.1.toNat ((0, 0, 0) : Int × Int × Int)).1), .int .i64 ((x3.getD p115.1.toNat ((0, 0, 0) : Int × Int × Int)).2.1), .int .i64 ((x3.getD p115.1.toNat ((0, 0, 0) : Int × Int × Int)).2.2)]]) rfl rfl co8 ⟨(ev_sl e24), (ev_sl e28), trivial⟩), ?_⟩))
            refine Calls.mono (c_spec_RoomsDo (x0 := p115.2.1) (x1 := p115.2.2.1) (x2 := p115.2.2.2) (x3 := (x3.getD p115.1.toNat ((0, 0, 0) : Int × Int × Int)).1) (x4 := (x3.getD p115.1.toNat ((0, 0, 0) : Int × Int × Int)).2.1) (x5 := (x3.getD p115.1.toNat ((0, 0, 0) : Int × Int × Int)).2.2) ⟨(gr_rc S hl 3 rfl), rfl⟩ h120) ?_
            rintro e w1 ⟨B121, n122, d123, rfl, rfl, T⟩
            exact ⟨_, rfl, rfl, S.call1 T⟩
          · intro a u X hB hu hp hr hz hl S
            replace S : St w u ([] ++ X) := S
            have e29 : sl a 29 = .tuple #[.agg #[.int .i64 p120.1, .int .i64 p120.2.1, .slice (slA (vtup (vtup (sl a 29) 0) 2)) p120.2.2.1.length (slC (vtup (vtup (sl a 29) 0) 2))], .bool p120.2.2.2] := hp 5 rfl
            exact .inl ⟨rfl, .tuple #[.agg #[.int .i64 p120.1, .int .i64 p120.2.1, .slice (slA (vtup (vtup (sl a 29) 0) 2)) p120.2.2.1.length (slC (vtup (vtup (sl a 29) 0) 2))], .bool p120.2.2.2], u, (run_move rfl (ev_sl e29)), rfl, S⟩
          · intro a u X hB hu hp hr hz hl S
            replace S : St w u ([] ++ X) := S
            have e23 : sl a 23 = .tuple #[.agg #[.int .i64 p120.1, .int .i64 p120.2.1, .slice (slA (vtup (vtup (sl a 29) 0) 2)) p120.2.2.1.length (slC (vtup (vtup (sl a 29) 0) 2))], .bool p120.2.2.2] := hp 6 rfl
            exact .inl ⟨rfl, .agg #[.int .i64 p120.1, .int .i64 p120.2.1, .slice (slA (vtup (vtup (sl a 29) 0) 2)) p120.2.2.1.length (slC (vtup (vtup (sl a 29) 0) 2))], u, (run_extract rfl (ev_sl e23) rfl), rfl, S⟩
          · intro a u X hB hu hp hr hz hl S
            replace S : St w u ([] ++ X) := S
            have e23 : sl a 23 = .tuple #[.agg #[.int .i64 p120.1, .int .i64 p120.2.1, .slice (slA (vtup (vtup (sl a 29) 0) 2)) p120.2.2.1.length (slC (vtup (vtup (sl a 29) 0) 2))], .bool p120.2.2.2] := hp 6 rfl
            exact .inl ⟨rfl, .bool p120.2.2.2, u, (run_extract rfl (ev_sl e23) rfl), rfl, S⟩
          · intro a u X hB hu hp hr hz hl S
            replace S : St w u ([] ++ X) := S
            exact .inl ⟨rfl, _, _, (run_allocZ rfl zr25), rfl, S.alloc _ _⟩
          · intro a u X hB hu hp hr hz hl S
            replace S : St w u ([.box (ptB (sl a 7)) 25 #[.int .i64 0, .int .i64 0, .slice none 0 0]] ++ X) := S
            have e7 : sl a 7 = .pointer (some ⟨ptB (sl a 7), 0, none⟩) := hp 9 rfl
            have e30 : sl a 30 = .agg #[.int .i64 p120.1, .int .i64 p120.2.1, .slice (slA (vtup (vtup (sl a 29) 0) 2)) p120.2.2.1.length (slC (vtup (vtup (sl a 29) 0) 2))] := hp 7 rfl
            exact .inr (.inl ⟨rfl, _, run_store (cs' := #[.int .i64 p120.1, .int .i64 p120.2.1, .slice (slA (vtup (vtup (sl a 29) 0) 2)) p120.2.2.1.length (slC (vtup (vtup (sl a 29) 0) 2))]) rfl sz25 (ev_sl e7) (ev_sl e30) rfl rfl rfl (S.free 0 rfl) rfl rfl, trivial, S.put 0 rfl (#[.int .i64 p120.1, .int .i64 p120.2.1, .slice (slA (vtup (vtup (sl a 29) 0) 2)) p120.2.2.1.length (slC (vtup (vtup (sl a 29) 0) 2))])⟩)
          · intro a u X hB hu hp hr hz hl S
            replace S : St w u ([] ++ X) := S
            have e31 : sl a 31 = .bool p120.2.2.2 := hp 8 rfl
            exact .inl ⟨rfl, .bool p120.2.2.2, u, (run_assign rfl (ev_sl e31)), rfl, S⟩
        · intro a u hB hp S
          obtain ⟨q0, q1, q2, q3, q4, q5, q6, q7, q8, q9, q10, q11, _⟩ := hp
          have e24 : sl a 24 = .agg #[.int .i64 p115.2.1, .int .i64 p115.2.2.1, .slice B116 p115.2.2.2.length d117] := q0
          have e25 : sl a 25 = .slice A3 x3.length c3 := q1
          have e26 : sl a 26 = .int .i64 p115.1 := q2
          have e27 : sl a 27 = .pointer (some ⟨adB A3, adO A3 + p115.1.toNat * 3, none⟩) := q3
          have e28 : sl a 28 = .agg #[.int .i64 ((x3.getD p115.1.toNat ((0, 0, 0) : Int × Int × Int)).1), .int .i64 ((x3.getD p115.1.toNat ((0, 0, 0) : Int × Int × Int)).2.1), .int .i64 ((x3.getD p115.1.toNat ((0, 0, 0) : Int × Int × Int)).2.2)] := q4
          have e29 : sl a 29 = .tuple #[.agg #[.int .i64 p120.1, .int .i64 p120.2.1, .slice (slA (vtup (vtup (sl a 29) 0) 2)) p120.2.2.1.length (slC (vtup (vtup (sl a 29) 0) 2))], .bool p120.2.2.2] := q5
          have e23 : sl a 23 = .tuple #[.agg #[.int .i64 p120.1, .int .i64 p120.2.1, .slice (slA (vtup (vtup (sl a 29) 0) 2)) p120.2.2.1.length (slC (vtup (vtup (sl a 29) 0) 2))], .bool p120.2.2.2] := q6
          have e30 : sl a 30 = .agg #[.int .i64 p120.1, .int .i64 p120.2.1, .slice (slA (vtup (vtup (sl a 29) 0) 2)) p120.2.2.1.length (slC (vtup (vtup (sl a 29) 0) 2))] := q7
          have e31 : sl a 31 = .bool p120.2.2.2 := q8
          have e7 : sl a 7 = .pointer (some ⟨ptB (sl a 7), 0, none⟩) := q9
          have e8 : sl a 8 = .bool p120.2.2.2 := q11
          replace S : St w u [.row 3 1 (.slice (slA (vtup (vtup (sl a 29) 0) 2)) p120.2.2.1.length (slC (vtup (vtup (sl a 29) 0) 2))) p120.2.2.1.length (p120.2.2.1.flatMap eI), .box (ptB (sl a 7)) 25 #[.int .i64 p120.1, .int .i64 p120.2.1, .slice (slA (vtup (vtup (sl a 29) 0) 2)) p120.2.2.1.length (slC (vtup (vtup (sl a 29) 0) 2))], .box g109 25 #[.int .i64 p115.2.1, .int .i64 p115.2.2.1, .slice B116 p115.2.2.2.length d117], .box g102 25 #[.int .i64 0, .int .i64 0, .slice none 0 0], .box g101 25 #[.int .i64 x0, .int .i64 x1, .slice A2 x2.length c2], .row 3 1 (.slice B116 p115.2.2.2.length d117) p115.2.2.2.length (p115.2.2.2.flatMap eI)] := S
          clear q0 q1 q2 q3 q4 q5 q6 q7 q8 q9 q10 q11
          generalize slA (vtup (vtup (sl a 29) 0) 2) = B124 at *
          generalize slC (vtup (vtup (sl a 29) 0) 2) = d125 at *
          generalize ptB (sl a 7) = g126 at *
          have hF := hF.region hB [(24, .agg #[.int .i64 p115.2.1, .int .i64 p115.2.2.1, .slice B116 p115.2.2.2.length d117]), (25, .slice A3 x3.length c3), (26, .int .i64 p115.1), (27, .pointer (some ⟨adB A3, adO A3 + p115.1.toNat * 3, none⟩)), (28, .agg #[.int .i64 ((x3.getD p115.1.toNat ((0, 0, 0) : Int × Int × Int)).1), .int .i64 ((x3.getD p115.1.toNat ((0, 0, 0) : Int × Int × Int)).2.1), .int .i64 ((x3.getD p115.1.toNat ((0, 0, 0) : Int × Int × Int)).2.2)]), (29, .tuple #[.agg #[.int .i64 p120.1, .int .i64 p120.2.1, .slice B124 p120.2.2.1.length d125], .bool p120.2.2.2]), (23, .tuple #[.agg #[.int .i64 p120.1, .int .i64 p120.2.1, .slice B124 p120.2.2.1.length d125], .bool p120.2.2.2]), (30, .agg #[.int .i64 p120.1, .int .i64 p120.2.1, .slice B124 p120.2.2.1.length d125]), (31, .bool p120.2.2.2), (7, .pointer (some ⟨g126, 0, none⟩)), (8, .bool p120.2.2.2)] (allSl_mem ⟨e24, e25, e26, e27, e28, e29, e23, e30, e31, e7, e8, trivial⟩) rfl
          clear hB e24 e25 e26 e27 e28 e29 e23 e30 e31 e7 e8
          refine wp_region_lit ?_
          refine op_val (v := .agg #[.int .i64 p120.1, .int .i64 p120.2.1, .slice B124 p120.2.2.1.length d125]) rfl rfl hF rfl (run_loadN rfl ag25 (hF.ev rfl) rfl ((S.free 1 rfl).cells 0 #[.int .i64 p120.1, .int .i64 p120.2.1, .slice B124 p120.2.2.1.length d125] rfl)) ?_; clear hF; intro a hF
          refine op_do rfl rfl (run_store (cs' := #[.int .i64 p120.1, .int .i64 p120.2.1, .slice B124 p120.2.2.1.length d125]) rfl sz25 (hF.ev rfl) (hF.ev rfl) rfl rfl rfl (S.free 2 rfl) rfl rfl) ?_; replace S := S.put 2 rfl (#[.int .i64 p120.1, .int .i64 p120.2.1, .slice B124 p120.2.2.1.length d125])
          generalize World.setRow _ _ _ = u at S ⊢
          refine wpList_nil ?_
          refine wp_region_lit ?_
          refine op_val (v := .int .i64 p115.1) rfl rfl hF rfl (run_move rfl (hF.ev rfl)) ?_; clear hF; intro a hF
          refine op_val (v := .int .i64 (w64 (p115.1 + 1))) rfl rfl hF rfl (run_add (z := w64 (p115.1 + 1)) (hF.ev rfl) rfl rfl rfl) ?_; clear hF; intro a hF
          refine op_val (v := .int .i64 (w64 (p115.1 + 1))) rfl rfl hF rfl (run_assign rfl (hF.ev rfl)) ?_; clear hF; intro a hF
          refine wpList_nil ?_
          exact ⟨f1, Nat.lt_succ_self _, (w64 (p115.1 + 1), p120.1, p120.2.1, p120.2.2.1), B124, d125, hM114, hF.keep _ ⟨rfl, rfl, rfl, rfl, trivial⟩, S.sel [2, 3, 4, 0] rfl rfl⟩
    · rintro a u ⟨p110, B112, d113, rfl, hF, S⟩
      refine wp_seq ?_
      refine wp_region_lit ?_
      refine op_val (v := .agg #[.int .i64 p110.1, .int .i64 p110.2.1, .slice B112 p110.2.2.length d113]) rfl rfl hF rfl (run_loadN rfl ag25 (hF.ev rfl) rfl ((S.free 0 rfl).cells 0 #[.int .i64 p110.1, .int .i64 p110.2.1, .slice B112 p110.2.2.length d113] rfl)) ?_; clear hF; intro a hF
      refine op_do rfl rfl (run_store (cs' := #[.int .i64 p110.1, .int .i64 p110.2.1, .slice B112 p110.2.2.length d113]) rfl sz25 (hF.ev rfl) (hF.ev rfl) rfl rfl rfl (S.free 1 rfl) rfl rfl) ?_; replace S := S.put 1 rfl (#[.int .i64 p110.1, .int .i64 p110.2.1, .slice B112 p110.2.2.length d113])
      generalize World.setRow _ _ _ = u at S ⊢
      refine wpList_nil ?_
      refine wp_ret ?_
      repeat with_reducible (first | refine then_ret ?_ | refine in_ret ?_ | refine in_nrm ?_)
      refine ret1_gw (.inl rfl) hF rfl (res_cell (hF.ev rfl) (res_loadN ag25 rfl (S.cells 1 rfl 0 #[.int .i64 p110.1, .int .i64 p110.2.1, .slice B112 p110.2.2.length d113] rfl))) ?_
      obtain rfl := Option.some.inj hM
      exact ⟨B112, p110.2.2.length, d113, rfl, rfl, S.sel [3] rfl rfl⟩

set_option maxHeartbeats 4000000 in
theorem c_impl_RoomMay {x0 : Int} {x1 : Int} {x2 : List Int} {x3 : Int} {A2 : Option Addr} {n2 c2 : Nat} {w : World} {r : Bool} (h2 : Rt w 1 eI A2 n2 c2 x2) (hM : m_impl_RoomMay x0 x1 x2 x3 = some r) :
    Calls Tryd.prog 16 #[.agg #[.int .i64 x0, .int .i64 x1, .slice A2 n2 c2], .int .i64 x3] w (fun e w' => e = .returned (.bool r) ∧ St w w' []) := by
  obtain rfl := h2.len
  unfold m_impl_RoomMay at hM
  refine calls_gw Tryd.func16 Tryd.ntmps16 rfl [(0, .agg #[.int .i64 x0, .int .i64 x1, .slice A2 x2.length c2]), (1, .int .i64 x3)] ⟨rfl, rfl, trivial⟩ rfl ?_
  intro a hF
  have S := St.nil w
  refine wp_seq ?_
  refine wp_region_lit ?_
  refine op_new (cs := #[.int .i64 x0, .int .i64 x1, .slice A2 x2.length c2]) rfl rfl hF rfl S (run_box rfl (hF.ev rfl) rfl) ?_; clear hF S; intro a g101 u hF S
  refine op_val (v := .bool false) rfl rfl hF rfl (run_assign rfl rfl) ?_; clear hF; intro a hF
  refine wpList_nil ?_
  refine wp_seq ?_
  refine wp_seq ?_
  refine wp_region_lit ?_
  refine op_val (v := .agg #[.int .i64 x0, .int .i64 x1, .slice A2 x2.length c2]) rfl rfl hF rfl (run_loadN rfl ag25 (hF.ev rfl) rfl ((S.free 0 rfl).cells 0 #[.int .i64 x0, .int .i64 x1, .slice A2 x2.length c2] rfl)) ?_; clear hF; intro a hF
  obtain ⟨p102, h102, hM⟩ := bind_ex hM
  refine op_call rfl rfl hF rfl (run_call (vs := [.agg #[.int .i64 x0, .int .i64 x1, .slice A2 x2.length c2]]) rfl rfl co10 ⟨(hF.ev rfl), trivial⟩) (c_impl_RoomsValid (x0 := x0) (x1 := x1) (x2 := x2) ⟨(S.rc0 h2.rc), rfl⟩ h102) ?_
  rintro e u ⟨rfl, T⟩
  refine ⟨_, rfl, ?_⟩
  clear hF; intro a hF
  replace S := S.call0 T; clear T
  refine op_val (v := .bool (!p102)) rfl rfl hF rfl (run_not rfl (hF.ev rfl)) ?_; clear hF; intro a hF
  refine op_val (v := .bool (!p102)) rfl rfl hF rfl (run_move rfl (hF.ev rfl)) ?_; clear hF; intro a hF
  refine op_gv (v := .int .i64 x3) rfl rfl hF rfl (yf (gw_yield hF rfl rfl rfl)) (fun hg => (run_move rfl (hF.ev rfl))) ?_; clear hF; intro a hF
  obtain ⟨p103, h103, hM⟩ := bind_ex hM
  refine op_gcall (v := .bool p103) rfl rfl hF rfl S (yf (gw_yield hF rfl rfl rfl)) (fun hg => (run_call (vs := [.int .i64 x3]) rfl rfl co24 ⟨((hF.ev rfl).trans (gv_t hg)), trivial⟩)) (fun hg => c_impl_bitValid (x0 := x3)  (gb_t h103 hg)) ?_; clear hF S; intro a u hF S
  refine op_gv (v := .bool (!p103)) rfl rfl hF rfl (yf (gw_yield hF rfl rfl rfl)) (fun hg => (run_not rfl ((hF.ev rfl).trans (gv_t hg)))) ?_; clear hF; intro a hF
  refine op_val (v := .bool ((!p102) || (!p103))) rfl rfl hF rfl (run_pick_or rfl (hF.ev rfl) rfl (fun hp => ((hF.ev rfl).trans (gv_t (not_t hp))))) ?_; clear hF; intro a hF
  refine wpList_nil ?_
  cases hc104 : ((!p102) || (!p103))
  · replace hM := bif_f hc104 hM
    refine cond_f hF rfl hc104 ?_
    refine wp_skip ?_
    refine wp_seq ?_
    refine wp_region_lit ?_
    refine op_val (v := .int .i64 0) rfl rfl hF rfl (run_assign rfl rfl) ?_; clear hF; intro a hF
    refine wpList_nil ?_
    refine wp_seq ?_
    refine wp_seq ?_
    refine wp_region_lit ?_
    refine op_val (v := .pointer (some ⟨g101, 2, none⟩)) rfl rfl hF rfl (run_fieldAddr rfl fl25_2 (hF.ev rfl) rfl) ?_; clear hF; intro a hF
    refine op_val (v := .slice A2 x2.length c2) rfl rfl hF rfl (run_load1 rfl one23 (hF.ev rfl) ((S.free 0 rfl).cell rfl)) ?_; clear hF; intro a hF
    refine op_val (v := .int .i64 (x2.length : Int)) rfl rfl hF rfl (run_lenL rfl rfl Tryd.underlying23 (hF.ev rfl)) ?_; clear hF; intro a hF
    refine op_val (v := .int .i64 0) rfl rfl hF rfl (run_move rfl rfl) ?_; clear hF; intro a hF
    refine wpList_nil ?_
    obtain ⟨o106, hM107, hM⟩ := bind_ex hM
    refine wp_cut (fun a u => ∃ (p105 : Int), p105 = o106 ∧ Fr a 38 [(2, .pointer (some ⟨g101, 0, none⟩)), (4, .bool false), (5, .int .i64 p105)] ∧ St w u [.box g101 25 #[.int .i64 x0, .int .i64 x1, .slice A2 x2.length c2]]) ?_ ?_
    · have _ := trivial
      refine wp_block ?_
      refine loop_gw (fun m a u => ∃ (p108 : Int × Int), m_impl_RoomMay_l1 x0 x1 x2 x3 m p108 = some _ ∧ Fr a 38 [(1, .int .i64 x3), (2, .pointer (some ⟨g101, 0, none⟩)), (4, .bool false), (5, .int .i64 p108.1), (17, .slice A2 x2.length c2), (18, .int .i64 (x2.length : Int)), (19, .int .i64 p108.2)] ∧ St w u [.box g101 25 #[.int .i64 x0, .int .i64 x1, .slice A2 x2.length c2]]) FUEL ⟨(0, 0), hM107, hF.keep _ ⟨rfl, rfl, rfl, rfl, rfl, rfl, rfl, trivial⟩, S.sel [0] rfl rfl⟩ ?_
      clear hF S hM107; rintro m a u ⟨p108, hM107, hF, S⟩
      rcases m with _ | f1
      · exact none_some hM107
      rw [m_impl_RoomMay_l1.eq_2] at hM107
      refine wp_seq ?_
      refine wp_region_lit ?_
      refine op_val (v := .bool (ltB p108.2 (x2.length : Int))) rfl rfl hF rfl (run_lss (hF.ev rfl) (hF.ev rfl) rfl) ?_; clear hF; intro a hF
      refine wpList_nil ?_
      refine wp_seq ?_
      cases hc109 : (ltB p108.2 (x2.length : Int))
      · replace hM107 := bif_f hc109 hM107
        refine cond_f hF rfl hc109 ?_
        refine wp_exit ?_
        repeat with_reducible (first | refine then_exit ?_ | refine in_hit ?_ | refine in_miss rfl ?_)
        obtain rfl := Option.some.inj hM107
        exact ⟨p108.1, rfl, hF.keep _ ⟨rfl, rfl, rfl, trivial⟩, S.sel [0] rfl rfl⟩
      · replace hM107 := bif_t hc109 hM107
        refine cond_t hF rfl hc109 ?_
        refine wp_skip ?_
        refine wp_seq ?_
        refine wp_block ?_
        refine wp_seq ?_
        refine wp_region_lit ?_
        obtain ⟨hk110, hM107⟩ := chk_ex hM107
        replace hk110 := ixB_t hk110
        refine op_val (v := .pointer (some ⟨adB A2, adO A2 + p108.2.toNat * 1, none⟩)) rfl rfl hF rfl (run_indexAddr (b := adB A2) (off := adO A2) rfl Tryd.underlying23 sz3 ((hF.ev rfl).trans (congrArg (fun A => Value.slice A x2.length c2) ((S.rc0 h2.rc).rd.ad (ix_pos hk110)))) (hF.ev rfl) hk110.1 hk110.2 (k' := adO A2 + p108.2.toNat * 1) rfl) ?_; clear hF; intro a hF
        refine op_val (v := .int .i64 (x2.getD p108.2.toNat (0 : Int))) rfl rfl hF rfl (run_load1 rfl one3 (hF.ev rfl) (rd_el0 (l := x2) (S.rc0 h2.rc).rd rfl eI_len (0 : Int) (ix_ltn hk110 rfl) rfl)) ?_; clear hF; intro a hF
        refine op_val (v := .int .i64 (x2.getD p108.2.toNat (0 : Int))) rfl rfl hF rfl (run_assign rfl (hF.ev rfl)) ?_; clear hF; intro a hF
        refine wpList_nil ?_
        refine wp_seq ?_
        obtain ⟨o112, hM113, hM107⟩ := bind_ex hM107
        refine wp_cut (fun a u => ∃ (p111 : Bool), p111 = o112 ∧ Fr a 38 [(1, .int .i64 x3), (2, .pointer (some ⟨g101, 0, none⟩)), (4, .bool false), (5, .int .i64 p108.1), (17, .slice A2 x2.length c2), (18, .int .i64 (x2.length : Int)), (19, .int .i64 p108.2), (28, .bool p111)] ∧ St w u [.box g101 25 #[.int .i64 x0, .int .i64 x1, .slice A2 x2.length c2]]) ?_ ?_
        · have _ := trivial
          refine wp_region_lit ?_
          refine op_val (v := .int .i64 (x2.getD p108.2.toNat (0 : Int))) rfl rfl hF rfl (run_move rfl (hF.ev rfl)) ?_; clear hF; intro a hF
          refine op_val (v := .int .i64 x3) rfl rfl hF rfl (run_move rfl (hF.ev rfl)) ?_; clear hF; intro a hF
          cases hc114 : (x3 == 0)
          · replace hM113 := bif_f hc114 hM113
            refine op_call rfl rfl hF rfl (run_call (vs := [.pointer (some ⟨g101, 0, none⟩), .int .i64 x3]) rfl rfl co31 ⟨(hF.ev rfl), (hF.ev rfl), trivial⟩) (c_impl_Rooms_epoch_1 hc114) ?_
            rintro e u ⟨rfl, T⟩
            refine ⟨_, rfl, ?_⟩
            clear hF; intro a hF
            replace S := S.call0 T; clear T
            refine op_val (v := .pointer (some ⟨g101, 1, none⟩)) rfl rfl hF rfl (run_nilCheck rfl (hF.ev rfl)) ?_; clear hF; intro a hF
            refine op_val (v := .int .i64 x1) rfl rfl hF rfl (run_load1 rfl one3 (hF.ev rfl) ((S.free 0 rfl).cell rfl)) ?_; clear hF; intro a hF
            refine op_val (v := .bool ((x2.getD p108.2.toNat (0 : Int)) == x1)) rfl rfl hF rfl (run_eql (hF.ev rfl) (hF.ev rfl) rfl) ?_; clear hF; intro a hF
            refine wpList_nil ?_
            obtain rfl := Option.some.inj hM113
            exact ⟨(x2.getD p108.2.toNat (0 : Int)) == x1, rfl, hF.keep _ ⟨rfl, rfl, rfl, rfl, rfl, rfl, rfl, rfl, trivial⟩, S.sel [0] rfl rfl⟩
          · replace hM113 := bif_t hc114 hM113
            refine op_call rfl rfl hF rfl (run_call (vs := [.pointer (some ⟨g101, 0, none⟩), .int .i64 x3]) rfl rfl co31 ⟨(hF.ev rfl), (hF.ev rfl), trivial⟩) (c_impl_Rooms_epoch_0 hc114) ?_
            rintro e u ⟨rfl, T⟩
            refine ⟨_, rfl, ?_⟩
            clear hF; intro a hF
            replace S := S.call0 T; clear T
            refine op_val (v := .pointer (some ⟨g101, 0, none⟩)) rfl rfl hF rfl (run_nilCheck rfl (hF.ev rfl)) ?_; clear hF; intro a hF
            refine op_val (v := .int .i64 x0) rfl rfl hF rfl (run_load1 rfl one3 (hF.ev rfl) ((S.free 0 rfl).cell rfl)) ?_; clear hF; intro a hF
            refine op_val (v := .bool ((x2.getD p108.2.toNat (0 : Int)) == x0)) rfl rfl hF rfl (run_eql (hF.ev rfl) (hF.ev rfl) rfl) ?_; clear hF; intro a hF
            refine wpList_nil ?_
            obtain rfl := Option.some.inj hM113
            exact ⟨(x2.getD p108.2.toNat (0 : Int)) == x0, rfl, hF.keep _ ⟨rfl, rfl, rfl, rfl, rfl, rfl, rfl, rfl, trivial⟩, S.sel [0] rfl rfl⟩
        · rintro a u ⟨p111, rfl, hF, S⟩
          obtain ⟨o116, hM117, hM107⟩ := bind_ex hM107
          refine wp_cut (fun a u => ∃ (p115 : Int), p115 = o116 ∧ Fr a 38 [(1, .int .i64 x3), (2, .pointer (some ⟨g101, 0, none⟩)), (4, .bool false), (5, .int .i64 p115), (17, .slice A2 x2.length c2), (18, .int .i64 (x2.length : Int)), (19, .int .i64 p108.2)] ∧ St w u [.box g101 25 #[.int .i64 x0, .int .i64 x1, .slice A2 x2.length c2]]) ?_ ?_
          · have _ := trivial
            cases hc118 : (p111)
            · replace hM117 := bif_f hc118 hM117
              refine cond_f hF rfl hc118 ?_
              refine wp_skip ?_
              obtain rfl := Option.some.inj hM117
              exact ⟨p108.1, rfl, hF.keep _ ⟨rfl, rfl, rfl, rfl, rfl, rfl, rfl, trivial⟩, S.sel [0] rfl rfl⟩
            · replace hM117 := bif_t hc118 hM117
              refine cond_t hF rfl hc118 ?_
              refine wp_region_lit ?_
              refine op_val (v := .int .i64 p108.1) rfl rfl hF rfl (run_move rfl (hF.ev rfl)) ?_; clear hF; intro a hF
              refine op_val (v := .int .i64 (w64 (p108.1 + 1))) rfl rfl hF rfl (run_add (z := w64 (p108.1 + 1)) (hF.ev rfl) rfl rfl rfl) ?_; clear hF; intro a hF
              refine op_val (v := .int .i64 (w64 (p108.1 + 1))) rfl rfl hF rfl (run_assign rfl (hF.ev rfl)) ?_; clear hF; intro a hF
              refine wpList_nil ?_
              obtain rfl := Option.some.inj hM117
              exact ⟨w64 (p108.1 + 1), rfl, hF.keep _ ⟨rfl, rfl, rfl, rfl, rfl, rfl, rfl, trivial⟩, S.sel [0] rfl rfl⟩
          · rintro a u ⟨p115, rfl, hF, S⟩
            refine wp_region_lit ?_
            refine op_val (v := .int .i64 (w64 (p108.2 + 1))) rfl rfl hF rfl (run_add (z := w64 (p108.2 + 1)) (hF.ev rfl) rfl rfl rfl) ?_; clear hF; intro a hF
            refine op_val (v := .int .i64 (w64 (p108.2 + 1))) rfl rfl hF rfl (run_move rfl (hF.ev rfl)) ?_; clear hF; intro a hF
            refine wpList_nil ?_
            exact ⟨f1, Nat.lt_succ_self _, (p115, w64 (p108.2 + 1)), hM107, hF.keep _ ⟨rfl, rfl, rfl, rfl, rfl, rfl, rfl, trivial⟩, S.sel [0] rfl rfl⟩
    · rintro a u ⟨p105, rfl, hF, S⟩
      refine wp_seq ?_
      refine wp_region_lit ?_
      refine op_val (v := .int .i64 p105) rfl rfl hF rfl (run_move rfl (hF.ev rfl)) ?_; clear hF; intro a hF
      refine op_val (v := .int .i64 (w64 (2 * p105))) rfl rfl hF rfl (run_mul (z := w64 (2 * p105)) rfl (hF.ev rfl) rfl rfl) ?_; clear hF; intro a hF
      refine op_val (v := .pointer (some ⟨g101, 2, none⟩)) rfl rfl hF rfl (run_fieldAddr rfl fl25_2 (hF.ev rfl) rfl) ?_; clear hF; intro a hF
      refine op_val (v := .slice A2 x2.length c2) rfl rfl hF rfl (run_load1 rfl one23 (hF.ev rfl) ((S.free 0 rfl).cell rfl)) ?_; clear hF; intro a hF
      refine op_val (v := .int .i64 (x2.length : Int)) rfl rfl hF rfl (run_lenL rfl rfl Tryd.underlying23 (hF.ev rfl)) ?_; clear hF; intro a hF
      refine op_val (v := .bool (ltB (x2.length : Int) (w64 (2 * p105)))) rfl rfl hF rfl (run_gtr (hF.ev rfl) (hF.ev rfl) rfl) ?_; clear hF; intro a hF
      refine op_val (v := .bool (ltB (x2.length : Int) (w64 (2 * p105)))) rfl rfl hF rfl (run_assign rfl (hF.ev rfl)) ?_; clear hF; intro a hF
      refine wpList_nil ?_
      refine wp_ret ?_
      repeat with_reducible (first | refine then_ret ?_ | refine in_ret ?_ | refine in_nrm ?_)
      refine ret1_gw (.inl rfl) hF rfl (res_tmp (hF.ev rfl)) ?_
      obtain rfl := Option.some.inj hM
      exact ⟨rfl, S.sel [] rfl rfl⟩
  · replace hM := bif_t hc104 hM
    refine cond_t hF rfl hc104 ?_
    refine wp_seq ?_
    refine wp_region_lit ?_
    refine op_val (v := .bool false) rfl rfl hF rfl (run_assign rfl rfl) ?_; clear hF; intro a hF
    refine wpList_nil ?_
    refine wp_ret ?_
    repeat with_reducible (first | refine then_ret ?_ | refine in_ret ?_ | refine in_nrm ?_)
    refine ret1_gw (.inl rfl) hF rfl (res_tmp (hF.ev rfl)) ?_
    obtain rfl := Option.some.inj hM
    exact ⟨rfl, S.sel [] rfl rfl⟩

set_option maxHeartbeats 4000000 in
theorem c_laws_FnRoomsRun {x0 : List Int} {A0 : Option Addr} {n0 c0 : Nat} {w : World} {r : Bool} (h0 : Rt w 1 eU A0 n0 c0 x0) (hM : m_laws_FnRoomsRun x0 = some r) :
    Calls Tryd.prog 4 #[.slice A0 n0 c0] w (fun e w' => e = .returned (.bool r) ∧ St w w' []) := by
  obtain rfl := h0.len
  unfold m_laws_FnRoomsRun at hM
  refine calls_gw Tryd.func4 Tryd.ntmps4 rfl [(0, .slice A0 x0.length c0)] ⟨rfl, trivial⟩ rfl ?_
  intro a hF
  have S := St.nil w
  refine wp_seq ?_
  refine wp_region_lit ?_
  refine op_val (v := .bool false) rfl rfl hF rfl (run_assign rfl rfl) ?_; clear hF; intro a hF
  refine wpList_nil ?_
  refine wp_seq ?_
  refine wp_seq ?_
  refine wp_region_lit ?_
  refine op_val (v := .slice A0 x0.length c0) rfl rfl hF rfl (run_move rfl (hF.ev rfl)) ?_; clear hF; intro a hF
  refine op_val (v := .int .i64 (x0.length : Int)) rfl rfl hF rfl (run_lenL rfl rfl Tryd.underlying22 (hF.ev rfl)) ?_; clear hF; intro a hF
  refine op_val (v := .bool (ltB 1048576 (x0.length : Int))) rfl rfl hF rfl (run_gtr (hF.ev rfl) rfl rfl) ?_; clear hF; intro a hF
  refine wpList_nil ?_
  cases hc101 : (ltB 1048576 (x0.length : Int))
  · replace hM := bif_f hc101 hM
    refine cond_f hF rfl hc101 ?_
    refine wp_skip ?_
    refine wp_seq ?_
    refine wp_region_lit ?_
    refine op_val (v := .slice A0 x0.length c0) rfl rfl hF rfl (run_move rfl (hF.ev rfl)) ?_; clear hF; intro a hF
    obtain ⟨p102, h102, hM⟩ := bind_ex hM
    refine op_call rfl rfl hF rfl (run_call (vs := [.slice A0 x0.length c0]) rfl rfl co12 ⟨(hF.ev rfl), trivial⟩) (c_spec_DrawRoomsRun (x0 := x0) ⟨(S.rc0 h0.rc), rfl⟩ h102) ?_
    rintro e u ⟨B103, n104, d105, B106, n107, d108, rfl, rfl, rfl, T⟩
    refine ⟨_, rfl, ?_⟩
    clear hF; intro a hF
    replace S := S.call2 T; clear T
    refine op_val (v := .tuple #[.agg #[.int .i64 p102.1, .int .i64 p102.2.1, .slice B103 p102.2.2.1.length d105], .slice B106 p102.2.2.2.length d108]) rfl rfl hF rfl (run_move rfl (hF.ev rfl)) ?_; clear hF; intro a hF
    refine op_val (v := .agg #[.int .i64 p102.1, .int .i64 p102.2.1, .slice B103 p102.2.2.1.length d105]) rfl rfl hF rfl (run_extract rfl (hF.ev rfl) rfl) ?_; clear hF; intro a hF
    refine op_val (v := .slice B106 p102.2.2.2.length d108) rfl rfl hF rfl (run_extract rfl (hF.ev rfl) rfl) ?_; clear hF; intro a hF
    refine op_new (cs := #[.int .i64 0, .int .i64 0, .slice none 0 0]) rfl rfl hF rfl S (run_allocZ rfl zr25) ?_; clear hF S; intro a g109 u hF S
    refine op_do rfl rfl (run_store (cs' := #[.int .i64 p102.1, .int .i64 p102.2.1, .slice B103 p102.2.2.1.length d105]) rfl sz25 (hF.ev rfl) (hF.ev rfl) rfl rfl rfl (S.free 0 rfl) rfl rfl) ?_; replace S := S.put 0 rfl (#[.int .i64 p102.1, .int .i64 p102.2.1, .slice B103 p102.2.2.1.length d105])
    generalize World.setRow _ _ _ = u at S ⊢
    refine op_val (v := .slice B106 p102.2.2.2.length d108) rfl rfl hF rfl (run_assign rfl (hF.ev rfl)) ?_; clear hF; intro a hF
    refine wpList_nil ?_
    refine wp_seq ?_
    refine wp_region_lit ?_
    refine op_val (v := .agg #[.int .i64 p102.1, .int .i64 p102.2.1, .slice B103 p102.2.2.1.length d105]) rfl rfl hF rfl (run_loadN rfl ag25 (hF.ev rfl) rfl ((S.free 0 rfl).cells 0 #[.int .i64 p102.1, .int .i64 p102.2.1, .slice B103 p102.2.2.1.length d105] rfl)) ?_; clear hF; intro a hF
    refine op_val (v := .slice B106 p102.2.2.2.length d108) rfl rfl hF rfl (run_move rfl (hF.ev rfl)) ?_; clear hF; intro a hF
    obtain ⟨p110, h110, hM⟩ := bind_ex hM
    refine op_call rfl rfl hF rfl (run_call (vs := [.agg #[.int .i64 p102.1, .int .i64 p102.2.1, .slice B103 p102.2.2.1.length d105], .slice B106 p102.2.2.2.length d108]) rfl rfl co13 ⟨(hF.ev rfl), (hF.ev rfl), trivial⟩) (c_impl_RoomsRun (x0 := p102.1) (x1 := p102.2.1) (x2 := p102.2.2.1) (x3 := p102.2.2.2) ⟨(S.rc 1 rfl), rfl⟩ ⟨(S.rc 2 rfl), rfl⟩ h110) ?_
    rintro e u ⟨B111, n112, d113, rfl, rfl, T⟩
    refine ⟨_, rfl, ?_⟩
    clear hF; intro a hF
    replace S := S.call1 T; clear T
    refine op_new (cs := #[.int .i64 0, .int .i64 0, .slice none 0 0]) rfl rfl hF rfl S (run_allocZ rfl zr25) ?_; clear hF S; intro a g114 u hF S
    refine op_do rfl rfl (run_store (cs' := #[.int .i64 p110.1, .int .i64 p110.2.1, .slice B111 p110.2.2.length d113]) rfl sz25 (hF.ev rfl) (hF.ev rfl) rfl rfl rfl (S.free 0 rfl) rfl rfl) ?_; replace S := S.put 0 rfl (#[.int .i64 p110.1, .int .i64 p110.2.1, .slice B111 p110.2.2.length d113])
    generalize World.setRow _ _ _ = u at S ⊢
    refine wpList_nil ?_
    refine wp_seq ?_
    refine wp_seq ?_
    obtain ⟨p115, h115, hM⟩ := bind_ex hM
    obtain ⟨p119, h119, hM⟩ := bind_ex hM
    refine region_gw (D := [19, 20, 21, 22, 23, 24]) (Lr := [.box g114 25 #[.int .i64 p110.1, .int .i64 p110.2.1, .slice B111 p110.2.2.length d113], .row 3 1 (.slice B111 p110.2.2.length d113) p110.2.2.length (p110.2.2.flatMap eI), .box g109 25 #[.int .i64 p102.1, .int .i64 p102.2.1, .slice B103 p102.2.2.1.length d105], .row 3 1 (.slice B103 p102.2.2.1.length d105) p102.2.2.1.length (p102.2.2.1.flatMap eI), .row 27 3 (.slice B106 p102.2.2.2.length d108) p102.2.2.2.length (p102.2.2.2.flatMap eRoomDeed)]) (deps := (fun | 0 => [19] | 1 => [20] | 2 => [21] | 3 => [22] | 4 => [23] | 5 => [24] | _ => [])) (rd := (fun | 4 => [3] | _ => [])) (zr := (fun _ => []))
      (φ := fun i vs => match i, vs with | 0, [v19] => v19 = .agg #[.int .i64 p110.1, .int .i64 p110.2.1, .slice B111 p110.2.2.length d113] | 1, [v20] => v20 = .agg #[.int .i64 p102.1, .int .i64 p102.2.1, .slice B103 p102.2.2.1.length d105] | 2, [v21] => v21 = .slice B106 p102.2.2.2.length d108 | 3, [v22] => v22 = .agg #[.int .i64 p115.1, .int .i64 p115.2.1, .slice (slA (vtup v22 2)) p115.2.2.length (slC (vtup v22 2))] | 4, [v23] => v23 = .bool p119 | 5, [v24] => v24 = .bool (!p119) | _, _ => True)
      (C := fun i vs => match i, vs with | 3, [v22] => [.row 3 1 (.slice (slA (vtup v22 2)) p115.2.2.length (slC (vtup v22 2))) p115.2.2.length (p115.2.2.flatMap eI)] | _, _ => [])
      (κ := (fun _ => none)) (Z := (fun _ => [])) mixed hF (by kernel_rfl) S ?_ ?_
    · refine ⟨?_, ?_, ?_, ?_, ?_, ?_, trivial⟩
      · intro a u X hB hu hp hr hz hl S
        replace S : St w u ([] ++ X) := S
        exact .inl ⟨rfl, .agg #[.int .i64 p110.1, .int .i64 p110.2.1, .slice B111 p110.2.2.length d113], u, (run_loadN rfl ag25 (hF.evB hB rfl rfl) rfl ((gr_box S hl 0 rfl).cells 0 #[.int .i64 p110.1, .int .i64 p110.2.1, .slice B111 p110.2.2.length d113] rfl)), rfl, S⟩
      · intro a u X hB hu hp hr hz hl S
        replace S : St w u ([] ++ X) := S
        exact .inl ⟨rfl, .agg #[.int .i64 p102.1, .int .i64 p102.2.1, .slice B103 p102.2.2.1.length d105], u, (run_loadN rfl ag25 (hF.evB hB rfl rfl) rfl ((gr_box S hl 2 rfl).cells 0 #[.int .i64 p102.1, .int .i64 p102.2.1, .slice B103 p102.2.2.1.length d105] rfl)), rfl, S⟩
      · intro a u X hB hu hp hr hz hl S
        replace S : St w u ([] ++ X) := S
        exact .inl ⟨rfl, .slice B106 p102.2.2.2.length d108, u, (run_move rfl (hF.evB hB rfl rfl)), rfl, S⟩
      · intro a u X hB hu hp hr hz hl S
        replace S : St w u ([] ++ X) := S
        have e20 : sl a 20 = .agg #[.int .i64 p102.1, .int .i64 p102.2.1, .slice B103 p102.2.2.1.length d105] := hp 1 rfl
        have e21 : sl a 21 = .slice B106 p102.2.2.2.length d108 := hp 2 rfl
        refine .inr (.inr (.inl ⟨rfl, _, _, (run_call (vs := [.agg #[.int .i64 p102.1, .int .i64 p102.2.1, .slice B103 p102.2.2.1.length d105], .slice B106 p102.2.2.2.length d108]) rfl rfl co14 ⟨(ev_sl e20), (ev_sl e21), trivial⟩), ?_⟩))
        refine Calls.mono (c_spec_RoomsRun (x0 := p102.1) (x1 := p102.2.1) (x2 := p102.2.2.1) (x3 := p102.2.2.2) ⟨(gr_rc S hl 3 rfl), rfl⟩ ⟨(gr_rc S hl 4 rfl), rfl⟩ h115) ?_
        rintro e w1 ⟨B116, n117, d118, rfl, rfl, T⟩
        exact ⟨_, rfl, rfl, S.call1 T⟩
      · intro a u X hB hu hp hr hz hl S
        replace S : St w u ([] ++ X) := S
        have e19 : sl a 19 = .agg #[.int .i64 p110.1, .int .i64 p110.2.1, .slice B111 p110.2.2.length d113] := hp 0 rfl
        have e22 : sl a 22 = .agg #[.int .i64 p115.1, .int .i64 p115.2.1, .slice (slA (vtup (sl a 22) 2)) p115.2.2.length (slC (vtup (sl a 22) 2))] := hp 3 rfl
        refine .inr (.inr (.inl ⟨rfl, _, _, (run_call (vs := [.agg #[.int .i64 p110.1, .int .i64 p110.2.1, .slice B111 p110.2.2.length d113], .agg #[.int .i64 p115.1, .int .i64 p115.2.1, .slice (slA (vtup (sl a 22) 2)) p115.2.2.length (slC (vtup (sl a 22) 2))]]) rfl rfl co9 ⟨(ev_sl e19), (ev_sl e22), trivial⟩), ?_⟩))
        refine Calls.mono (c_laws_sameRooms (x0 := p110.1) (x1 := p110.2.1) (x2 := p110.2.2) (x3 := p115.1) (x4 := p115.2.1) (x5 := p115.2.2) ⟨(gr_rc S hl 1 rfl), rfl⟩ ⟨(own_rc (show World.ownsRow _ 0 _ _ _ _ _ from S.mem (List.mem_append_right _ (hr 3 (List.mem_of_getElem? (i := 0) rfl) _ (List.mem_of_getElem? (i := 0) rfl))))), rfl⟩ h119) ?_
        rintro e w1 ⟨rfl, T⟩
        exact ⟨_, rfl, rfl, S.call0 T⟩
      · intro a u X hB hu hp hr hz hl S
        replace S : St w u ([] ++ X) := S
        have e23 : sl a 23 = .bool p119 := hp 4 rfl
        exact .inl ⟨rfl, .bool (!p119), u, (run_not rfl (ev_sl e23)), rfl, S⟩
    · intro a u hB hp S
      obtain ⟨q0, q1, q2, q3, q4, q5, _⟩ := hp
      have e19 : sl a 19 = .agg #[.int .i64 p110.1, .int .i64 p110.2.1, .slice B111 p110.2.2.length d113] := q0
      have e20 : sl a 20 = .agg #[.int .i64 p102.1, .int .i64 p102.2.1, .slice B103 p102.2.2.1.length d105] := q1
      have e21 : sl a 21 = .slice B106 p102.2.2.2.length d108 := q2
      have e22 : sl a 22 = .agg #[.int .i64 p115.1, .int .i64 p115.2.1, .slice (slA (vtup (sl a 22) 2)) p115.2.2.length (slC (vtup (sl a 22) 2))] := q3
      have e23 : sl a 23 = .bool p119 := q4
      have e24 : sl a 24 = .bool (!p119) := q5
      replace S : St w u [.row 3 1 (.slice (slA (vtup (sl a 22) 2)) p115.2.2.length (slC (vtup (sl a 22) 2))) p115.2.2.length (p115.2.2.flatMap eI), .box g114 25 #[.int .i64 p110.1, .int .i64 p110.2.1, .slice B111 p110.2.2.length d113], .row 3 1 (.slice B111 p110.2.2.length d113) p110.2.2.length (p110.2.2.flatMap eI), .box g109 25 #[.int .i64 p102.1, .int .i64 p102.2.1, .slice B103 p102.2.2.1.length d105], .row 3 1 (.slice B103 p102.2.2.1.length d105) p102.2.2.1.length (p102.2.2.1.flatMap eI), .row 27 3 (.slice B106 p102.2.2.2.length d108) p102.2.2.2.length (p102.2.2.2.flatMap eRoomDeed)] := S
      clear q0 q1 q2 q3 q4 q5
      generalize slA (vtup (sl a 22) 2) = B120 at *
      generalize slC (vtup (sl a 22) 2) = d121 at *
      have hF := hF.region hB [(19, .agg #[.int .i64 p110.1, .int .i64 p110.2.1, .slice B111 p110.2.2.length d113]), (20, .agg #[.int .i64 p102.1, .int .i64 p102.2.1, .slice B103 p102.2.2.1.length d105]), (21, .slice B106 p102.2.2.2.length d108), (22, .agg #[.int .i64 p115.1, .int .i64 p115.2.1, .slice B120 p115.2.2.length d121]), (23, .bool p119), (24, .bool (!p119))] (allSl_mem ⟨e19, e20, e21, e22, e23, e24, trivial⟩) rfl
      clear hB e19 e20 e21 e22 e23 e24
      cases hc122 : (p119)
      · replace hM := bif_f hc122 hM
        refine cond_t hF rfl (not_t hc122) ?_
        refine wp_seq ?_
        refine wp_region_lit ?_
        refine op_val (v := .bool false) rfl rfl hF rfl (run_assign rfl rfl) ?_; clear hF; intro a hF
        refine wpList_nil ?_
        refine wp_ret ?_
        repeat with_reducible (first | refine then_ret ?_ | refine in_ret ?_ | refine in_nrm ?_)
        refine ret1_gw (.inl rfl) hF rfl (res_tmp (hF.ev rfl)) ?_
        obtain rfl := Option.some.inj hM
        exact ⟨rfl, S.sel [] rfl rfl⟩
      · replace hM := bif_t hc122 hM
        refine cond_f hF rfl (not_f hc122) ?_
        refine wp_skip ?_
        refine wp_seq ?_
        refine wp_seq ?_
        refine wp_region_lit ?_
        refine op_val (v := .agg #[.int .i64 p102.1, .int .i64 p102.2.1, .slice B103 p102.2.2.1.length d105]) rfl rfl hF rfl (run_loadN rfl ag25 (hF.ev rfl) rfl ((S.free 3 rfl).cells 0 #[.int .i64 p102.1, .int .i64 p102.2.1, .slice B103 p102.2.2.1.length d105] rfl)) ?_; clear hF; intro a hF
        obtain ⟨p123, h123, hM⟩ := bind_ex hM
        refine op_call rfl rfl hF rfl (run_call (vs := [.agg #[.int .i64 p102.1, .int .i64 p102.2.1, .slice B103 p102.2.2.1.length d105]]) rfl rfl co15 ⟨(hF.ev rfl), trivial⟩) (c_spec_RoomsValid (x0 := p102.1) (x1 := p102.2.1) (x2 := p102.2.2.1) ⟨(S.rc 4 rfl), rfl⟩ h123) ?_
        rintro e u ⟨rfl, T⟩
        refine ⟨_, rfl, ?_⟩
        clear hF; intro a hF
        replace S := S.call0 T; clear T
        refine op_val (v := .bool (!p123)) rfl rfl hF rfl (run_not rfl (hF.ev rfl)) ?_; clear hF; intro a hF
        refine wpList_nil ?_
        cases hc124 : (p123)
        · replace hM := bif_f hc124 hM
          refine cond_t hF rfl (not_t hc124) ?_
          refine wp_seq ?_
          refine wp_region_lit ?_
          refine op_val (v := .pointer (some ⟨g114, 2, none⟩)) rfl rfl hF rfl (run_fieldAddr rfl fl25_2 (hF.ev rfl) rfl) ?_; clear hF; intro a hF
          refine op_val (v := .slice B111 p110.2.2.length d113) rfl rfl hF rfl (run_load1 rfl one23 (hF.ev rfl) ((S.free 1 rfl).cell rfl)) ?_; clear hF; intro a hF
          refine op_val (v := .int .i64 (p110.2.2.length : Int)) rfl rfl hF rfl (run_lenL rfl rfl Tryd.underlying23 (hF.ev rfl)) ?_; clear hF; intro a hF
          refine op_val (v := .bool ((p110.2.2.length : Int) == 0)) rfl rfl hF rfl (run_eql (hF.ev rfl) rfl rfl) ?_; clear hF; intro a hF
          refine op_val (v := .bool ((p110.2.2.length : Int) == 0)) rfl rfl hF rfl (run_move rfl (hF.ev rfl)) ?_; clear hF; intro a hF
          obtain ⟨p125, h125, hM⟩ := bind_ex hM
          refine op_gcall (v := .bool p125) rfl rfl hF rfl S (yt (gw_yield hF rfl rfl rfl)) (fun hg => (run_call (vs := []) rfl rfl co11 trivial)) (fun hg => c_laws_alive   (gb_t h125 hg)) ?_; clear hF S; intro a u hF S
          refine op_val (v := .bool (((p110.2.2.length : Int) == 0) && p125)) rfl rfl hF rfl (run_pick_and rfl (hF.ev rfl) (fun hp => ((hF.ev rfl).trans (gv_t hp))) rfl) ?_; clear hF; intro a hF
          refine op_val (v := .bool (((p110.2.2.length : Int) == 0) && p125)) rfl rfl hF rfl (run_assign rfl (hF.ev rfl)) ?_; clear hF; intro a hF
          refine wpList_nil ?_
          refine wp_ret ?_
          repeat with_reducible (first | refine then_ret ?_ | refine in_ret ?_ | refine in_nrm ?_)
          refine ret1_gw (.inl rfl) hF rfl (res_tmp (hF.ev rfl)) ?_
          obtain rfl := Option.some.inj hM
          exact ⟨rfl, S.sel [] rfl rfl⟩
        · replace hM := bif_t hc124 hM
          refine cond_f hF rfl (not_f hc124) ?_
          refine wp_skip ?_
          refine wp_seq ?_
          refine wp_seq ?_
          refine wp_region_lit ?_
          refine op_val (v := .int .i64 0) rfl rfl hF rfl (run_assign rfl rfl) ?_; clear hF; intro a hF
          refine wpList_nil ?_
          obtain ⟨o127, hM128, hM⟩ := bind_ex hM
          refine wp_cut (fun a u => ∃ (p126 : Unit), (Sum.inl p126) = o127 ∧ Fr a 96 [(2, .bool false), (5, .pointer (some ⟨g114, 0, none⟩))] ∧ St w u [.box g114 25 #[.int .i64 p110.1, .int .i64 p110.2.1, .slice B111 p110.2.2.length d113], .box g109 25 #[.int .i64 p102.1, .int .i64 p102.2.1, .slice B103 p102.2.2.1.length d105], .row 3 1 (.slice B111 p110.2.2.length d113) p110.2.2.length (p110.2.2.flatMap eI), .row 3 1 (.slice B103 p102.2.2.1.length d105) p102.2.2.1.length (p102.2.2.1.flatMap eI)]) ?_ ?_
          · have _ := trivial
            refine wp_block ?_
            refine loop_gw (fun m a u => ∃ (p129 : Int), m_laws_FnRoomsRun_l1 p102 p110 m p129 = some _ ∧ Fr a 96 [(2, .bool false), (3, .pointer (some ⟨g109, 0, none⟩)), (4, .slice B106 p102.2.2.2.length d108), (5, .pointer (some ⟨g114, 0, none⟩)), (6, .int .i64 p129)] ∧ St w u [.box g114 25 #[.int .i64 p110.1, .int .i64 p110.2.1, .slice B111 p110.2.2.length d113], .box g109 25 #[.int .i64 p102.1, .int .i64 p102.2.1, .slice B103 p102.2.2.1.length d105], .row 27 3 (.slice B106 p102.2.2.2.length d108) p102.2.2.2.length (p102.2.2.2.flatMap eRoomDeed), .row 3 1 (.slice B111 p110.2.2.length d113) p110.2.2.length (p110.2.2.flatMap eI), .row 3 1 (.slice B103 p102.2.2.1.length d105) p102.2.2.1.length (p102.2.2.1.flatMap eI)]) FUEL ⟨0, hM128, hF.keep _ ⟨rfl, rfl, rfl, rfl, rfl, trivial⟩, S.sel [1, 3, 5, 2, 4] rfl rfl⟩ ?_
            clear hF S hM128; rintro m a u ⟨p129, hM128, hF, S⟩
            rcases m with _ | f1
            · exact none_some hM128
            rw [m_laws_FnRoomsRun_l1.eq_2] at hM128
            refine wp_seq ?_
            refine wp_seq ?_
            refine wp_region_lit ?_
            refine op_val (v := .int .i64 p129) rfl rfl hF rfl (run_move rfl (hF.ev rfl)) ?_; clear hF; intro a hF
            refine op_val (v := .bool (ltB p129 2)) rfl rfl hF rfl (run_lss (hF.ev rfl) rfl rfl) ?_; clear hF; intro a hF
            refine wpList_nil ?_
            cases hc130 : (ltB p129 2)
            · replace hM128 := bif_f hc130 hM128
              refine cond_f hF rfl hc130 ?_
              refine wp_exit ?_
              repeat with_reducible (first | refine then_exit ?_ | refine in_hit ?_ | refine in_miss rfl ?_)
              obtain rfl := Option.some.inj hM128
              exact ⟨(), rfl, hF.keep _ ⟨rfl, rfl, trivial⟩, S.sel [0, 1, 3, 4] rfl rfl⟩
            · replace hM128 := bif_t hc130 hM128
              refine cond_t hF rfl hc130 ?_
              refine wp_skip ?_
              refine wp_seq ?_
              obtain ⟨o132, hM133, hM128⟩ := bind_ex hM128
              refine wp_cut (fun a u => ∃ (p131 : Unit), (Sum.inl p131) = o132 ∧ Fr a 96 [(2, .bool false), (3, .pointer (some ⟨g109, 0, none⟩)), (4, .slice B106 p102.2.2.2.length d108), (5, .pointer (some ⟨g114, 0, none⟩)), (6, .int .i64 p129)] ∧ St w u [.box g114 25 #[.int .i64 p110.1, .int .i64 p110.2.1, .slice B111 p110.2.2.length d113], .box g109 25 #[.int .i64 p102.1, .int .i64 p102.2.1, .slice B103 p102.2.2.1.length d105], .row 27 3 (.slice B106 p102.2.2.2.length d108) p102.2.2.2.length (p102.2.2.2.flatMap eRoomDeed), .row 3 1 (.slice B111 p110.2.2.length d113) p110.2.2.length (p110.2.2.flatMap eI), .row 3 1 (.slice B103 p102.2.2.1.length d105) p102.2.2.1.length (p102.2.2.1.flatMap eI)]) ?_ ?_
              · have _ := trivial
                refine wp_block ?_
                refine wp_seq ?_
                refine wp_seq ?_
                refine wp_region_lit ?_
                refine op_val (v := .agg #[.int .i64 p102.1, .int .i64 p102.2.1, .slice B103 p102.2.2.1.length d105]) rfl rfl hF rfl (run_loadN rfl ag25 (hF.ev rfl) rfl ((S.free 1 rfl).cells 0 #[.int .i64 p102.1, .int .i64 p102.2.1, .slice B103 p102.2.2.1.length d105] rfl)) ?_; clear hF; intro a hF
                refine op_val (v := .int .i64 p129) rfl rfl hF rfl (run_move rfl (hF.ev rfl)) ?_; clear hF; intro a hF
                obtain ⟨p134, h134, hM133⟩ := bind_ex hM133
                refine op_call rfl rfl hF rfl (run_call (vs := [.agg #[.int .i64 p102.1, .int .i64 p102.2.1, .slice B103 p102.2.2.1.length d105], .int .i64 p129]) rfl rfl co16 ⟨(hF.ev rfl), (hF.ev rfl), trivial⟩) (c_impl_RoomMay (x0 := p102.1) (x1 := p102.2.1) (x2 := p102.2.2.1) (x3 := p129) ⟨(S.rc 4 rfl), rfl⟩ h134) ?_
                rintro e u ⟨rfl, T⟩
                refine ⟨_, rfl, ?_⟩
                clear hF; intro a hF
                replace S := S.call0 T; clear T
                refine op_val (v := .bool (!p134)) rfl rfl hF rfl (run_not rfl (hF.ev rfl)) ?_; clear hF; intro a hF
                refine op_val (v := .bool (!p134)) rfl rfl hF rfl (run_move rfl (hF.ev rfl)) ?_; clear hF; intro a hF
                refine op_gv (v := .agg #[.int .i64 p110.1, .int .i64 p110.2.1, .slice B111 p110.2.2.length d113]) rfl rfl hF rfl (yf (gw_yield hF rfl rfl rfl)) (fun hg => (run_loadN rfl ag25 (hF.ev rfl) rfl ((S.free 0 rfl).cells 0 #[.int .i64 p110.1, .int .i64 p110.2.1, .slice B111 p110.2.2.length d113] rfl))) ?_; clear hF; intro a hF
                refine op_gv (v := .int .i64 p129) rfl rfl hF rfl (yf (gw_yield hF rfl rfl rfl)) (fun hg => (run_move rfl (hF.ev rfl))) ?_; clear hF; intro a hF
                obtain ⟨p135, h135, hM133⟩ := bind_ex hM133
                refine op_gcall (v := .bool p135) rfl rfl hF rfl S (yf (gw_yield hF rfl rfl rfl)) (fun hg => (run_call (vs := [.agg #[.int .i64 p110.1, .int .i64 p110.2.1, .slice B111 p110.2.2.length d113], .int .i64 p129]) rfl rfl co16 ⟨((hF.ev rfl).trans (gv_t hg)), ((hF.ev rfl).trans (gv_t hg)), trivial⟩)) (fun hg => c_impl_RoomMay (x0 := p110.1) (x1 := p110.2.1) (x2 := p110.2.2) (x3 := p129) ⟨(S.rc 3 rfl), rfl⟩ (gb_t h135 hg)) ?_; clear hF S; intro a u hF S
                refine op_gv (v := .bool (!p135)) rfl rfl hF rfl (yf (gw_yield hF rfl rfl rfl)) (fun hg => (run_not rfl ((hF.ev rfl).trans (gv_t hg)))) ?_; clear hF; intro a hF
                refine op_val (v := .bool ((!p134) || (!p135))) rfl rfl hF rfl (run_pick_or rfl (hF.ev rfl) rfl (fun hp => ((hF.ev rfl).trans (gv_t (not_t hp))))) ?_; clear hF; intro a hF
                refine op_val (v := .bool ((!p134) || (!p135))) rfl rfl hF rfl (run_move rfl (hF.ev rfl)) ?_; clear hF; intro a hF
                refine op_gv (v := .int .i64 p129) rfl rfl hF rfl (yf (gw_yield hF rfl rfl rfl)) (fun hg => (run_move rfl (hF.ev rfl))) ?_; clear hF; intro a hF
                refine op_gv (v := .bool (p129 == 0)) rfl rfl hF rfl (yf (gw_yield hF rfl rfl rfl)) (fun hg => (run_eql ((hF.ev rfl).trans (gv_t hg)) rfl rfl)) ?_; clear hF; intro a hF
                refine op_gv (v := .bool (p129 == 0)) rfl rfl hF rfl (yf (gw_yield hF rfl rfl rfl)) (fun hg => (run_move rfl ((hF.ev rfl).trans (gv_t hg)))) ?_; clear hF; intro a hF
                refine op_gv (v := .pointer (some ⟨g109, 0, none⟩)) rfl rfl hF rfl (ytG (gw_yieldG hF rfl rfl rfl)) (fun hg => (run_fieldAddr rfl fl25_0 (hF.ev rfl) rfl)) ?_; clear hF; intro a hF
                refine op_gv (v := .int .i64 p102.1) rfl rfl hF rfl (ytG (gw_yieldG hF rfl rfl rfl)) (fun hg => (run_load1 rfl one3 ((hF.ev rfl).trans (gv_t hg)) ((S.free 1 rfl).cell rfl))) ?_; clear hF; intro a hF
                refine op_gv (v := .pointer (some ⟨g114, 0, none⟩)) rfl rfl hF rfl (ytG (gw_yieldG hF rfl rfl rfl)) (fun hg => (run_fieldAddr rfl fl25_0 (hF.ev rfl) rfl)) ?_; clear hF; intro a hF
                refine op_gv (v := .int .i64 p110.1) rfl rfl hF rfl (ytG (gw_yieldG hF rfl rfl rfl)) (fun hg => (run_load1 rfl one3 ((hF.ev rfl).trans (gv_t hg)) ((S.free 0 rfl).cell rfl))) ?_; clear hF; intro a hF
                refine op_gv (v := .bool (p102.1 != p110.1)) rfl rfl hF rfl (ytG (gw_yieldG hF rfl rfl rfl)) (fun hg => (run_neq ((hF.ev rfl).trans (gv_t hg)) ((hF.ev rfl).trans (gv_t hg)) rfl)) ?_; clear hF; intro a hF
                refine op_gv (v := .bool ((p129 == 0) && (p102.1 != p110.1))) rfl rfl hF rfl (yf (gw_yield hF rfl rfl rfl)) (fun hg => (run_pick_and rfl ((hF.ev rfl).trans (gv_t hg)) (fun hp => ((hF.ev rfl).trans (gv_t (and_i hg hp)))) rfl)) ?_; clear hF; intro a hF
                refine op_val (v := .bool (((!p134) || (!p135)) || ((p129 == 0) && (p102.1 != p110.1)))) rfl rfl hF rfl (run_pick_or rfl (hF.ev rfl) rfl (fun hp => ((hF.ev rfl).trans (gv_t (not_t hp))))) ?_; clear hF; intro a hF
                refine op_val (v := .bool (((!p134) || (!p135)) || ((p129 == 0) && (p102.1 != p110.1)))) rfl rfl hF rfl (run_move rfl (hF.ev rfl)) ?_; clear hF; intro a hF
                refine op_gv (v := .int .i64 p129) rfl rfl hF rfl (yf (gw_yield hF rfl rfl rfl)) (fun hg => (run_move rfl (hF.ev rfl))) ?_; clear hF; intro a hF
                refine op_gv (v := .bool (p129 == 1)) rfl rfl hF rfl (yf (gw_yield hF rfl rfl rfl)) (fun hg => (run_eql ((hF.ev rfl).trans (gv_t hg)) rfl rfl)) ?_; clear hF; intro a hF
                refine op_gv (v := .bool (p129 == 1)) rfl rfl hF rfl (yf (gw_yield hF rfl rfl rfl)) (fun hg => (run_move rfl ((hF.ev rfl).trans (gv_t hg)))) ?_; clear hF; intro a hF
                refine op_gv (v := .pointer (some ⟨g109, 1, none⟩)) rfl rfl hF rfl (ytG (gw_yieldG hF rfl rfl rfl)) (fun hg => (run_fieldAddr rfl fl25_1 (hF.ev rfl) rfl)) ?_; clear hF; intro a hF
                refine op_gv (v := .int .i64 p102.2.1) rfl rfl hF rfl (ytG (gw_yieldG hF rfl rfl rfl)) (fun hg => (run_load1 rfl one3 ((hF.ev rfl).trans (gv_t hg)) ((S.free 1 rfl).cell rfl))) ?_; clear hF; intro a hF
                refine op_gv (v := .pointer (some ⟨g114, 1, none⟩)) rfl rfl hF rfl (ytG (gw_yieldG hF rfl rfl rfl)) (fun hg => (run_fieldAddr rfl fl25_1 (hF.ev rfl) rfl)) ?_; clear hF; intro a hF
                refine op_gv (v := .int .i64 p110.2.1) rfl rfl hF rfl (ytG (gw_yieldG hF rfl rfl rfl)) (fun hg => (run_load1 rfl one3 ((hF.ev rfl).trans (gv_t hg)) ((S.free 0 rfl).cell rfl))) ?_; clear hF; intro a hF
                refine op_gv (v := .bool (p102.2.1 != p110.2.1)) rfl rfl hF rfl (ytG (gw_yieldG hF rfl rfl rfl)) (fun hg => (run_neq ((hF.ev rfl).trans (gv_t hg)) ((hF.ev rfl).trans (gv_t hg)) rfl)) ?_; clear hF; intro a hF
                refine op_gv (v := .bool ((p129 == 1) && (p102.2.1 != p110.2.1))) rfl rfl hF rfl (yf (gw_yield hF rfl rfl rfl)) (fun hg => (run_pick_and rfl ((hF.ev rfl).trans (gv_t hg)) (fun hp => ((hF.ev rfl).trans (gv_t (and_i hg hp)))) rfl)) ?_; clear hF; intro a hF
                refine op_val (v := .bool ((((!p134) || (!p135)) || ((p129 == 0) && (p102.1 != p110.1))) || ((p129 == 1) && (p102.2.1 != p110.2.1)))) rfl rfl hF rfl (run_pick_or rfl (hF.ev rfl) rfl (fun hp => ((hF.ev rfl).trans (gv_t (not_t hp))))) ?_; clear hF; intro a hF
                refine wpList_nil ?_
                cases hc136 : ((((!p134) || (!p135)) || ((p129 == 0) && (p102.1 != p110.1))) || ((p129 == 1) && (p102.2.1 != p110.2.1)))
                · replace hM133 := bif_f hc136 hM133
                  refine cond_f hF rfl hc136 ?_
                  refine wp_skip ?_
                  refine wp_seq ?_
                  refine wp_region_lit ?_
                  refine op_val (v := .int .i64 0) rfl rfl hF rfl (run_assign rfl rfl) ?_; clear hF; intro a hF
                  refine wpList_nil ?_
                  obtain ⟨o138, hM139, hM133⟩ := bind_ex hM133
                  refine wp_cut (fun a u => ∃ (p137 : Unit), (Sum.inl p137) = o138 ∧ Fr a 96 [(2, .bool false), (3, .pointer (some ⟨g109, 0, none⟩)), (4, .slice B106 p102.2.2.2.length d108), (5, .pointer (some ⟨g114, 0, none⟩)), (6, .int .i64 p129)] ∧ St w u [.box g114 25 #[.int .i64 p110.1, .int .i64 p110.2.1, .slice B111 p110.2.2.length d113], .box g109 25 #[.int .i64 p102.1, .int .i64 p102.2.1, .slice B103 p102.2.2.1.length d105], .row 27 3 (.slice B106 p102.2.2.2.length d108) p102.2.2.2.length (p102.2.2.2.flatMap eRoomDeed), .row 3 1 (.slice B111 p110.2.2.length d113) p110.2.2.length (p110.2.2.flatMap eI), .row 3 1 (.slice B103 p102.2.2.1.length d105) p102.2.2.1.length (p102.2.2.1.flatMap eI)]) ?_ ?_
                  · have _ := trivial
                    refine wp_block ?_
                    refine loop_gw (fun m a u => ∃ (p140 : Int), m_laws_FnRoomsRun_l2 p102 p129 m p140 = some _ ∧ Fr a 96 [(2, .bool false), (3, .pointer (some ⟨g109, 0, none⟩)), (4, .slice B106 p102.2.2.2.length d108), (5, .pointer (some ⟨g114, 0, none⟩)), (6, .int .i64 p129), (7, .int .i64 p140)] ∧ St w u [.box g114 25 #[.int .i64 p110.1, .int .i64 p110.2.1, .slice B111 p110.2.2.length d113], .box g109 25 #[.int .i64 p102.1, .int .i64 p102.2.1, .slice B103 p102.2.2.1.length d105], .row 27 3 (.slice B106 p102.2.2.2.length d108) p102.2.2.2.length (p102.2.2.2.flatMap eRoomDeed), .row 3 1 (.slice B111 p110.2.2.length d113) p110.2.2.length (p110.2.2.flatMap eI), .row 3 1 (.slice B103 p102.2.2.1.length d105) p102.2.2.1.length (p102.2.2.1.flatMap eI)]) FUEL ⟨0, hM139, hF.keep _ ⟨rfl, rfl, rfl, rfl, rfl, rfl, trivial⟩, S.sel [0, 1, 2, 3, 4] rfl rfl⟩ ?_
                    clear hF S hM139; rintro m a u ⟨p140, hM139, hF, S⟩
                    rcases m with _ | f2
                    · exact none_some hM139
                    rw [m_laws_FnRoomsRun_l2.eq_2] at hM139
                    refine wp_seq ?_
                    refine wp_seq ?_
                    refine wp_region_lit ?_
                    refine op_val (v := .int .i64 p140) rfl rfl hF rfl (run_move rfl (hF.ev rfl)) ?_; clear hF; intro a hF
                    refine op_val (v := .slice B106 p102.2.2.2.length d108) rfl rfl hF rfl (run_move rfl (hF.ev rfl)) ?_; clear hF; intro a hF
                    refine op_val (v := .int .i64 (p102.2.2.2.length : Int)) rfl rfl hF rfl (run_lenL rfl rfl Tryd.underlying36 (hF.ev rfl)) ?_; clear hF; intro a hF
                    refine op_val (v := .bool (leB p140 (p102.2.2.2.length : Int))) rfl rfl hF rfl (run_leq (hF.ev rfl) (hF.ev rfl) rfl) ?_; clear hF; intro a hF
                    refine wpList_nil ?_
                    cases hc141 : (leB p140 (p102.2.2.2.length : Int))
                    · replace hM139 := bif_f hc141 hM139
                      refine cond_f hF rfl hc141 ?_
                      refine wp_exit ?_
                      repeat with_reducible (first | refine then_exit ?_ | refine in_hit ?_ | refine in_miss rfl ?_)
                      obtain rfl := Option.some.inj hM139
                      exact ⟨(), rfl, hF.keep _ ⟨rfl, rfl, rfl, rfl, rfl, trivial⟩, S.sel [0, 1, 2, 3, 4] rfl rfl⟩
                    · replace hM139 := bif_t hc141 hM139
                      refine cond_t hF rfl hc141 ?_
                      refine wp_skip ?_
                      refine wp_seq ?_
                      refine wp_block ?_
                      refine wp_seq ?_
                      obtain ⟨hk142, hM139⟩ := chk_ex hM139
                      replace hk142 := slB_t hk142
                      obtain ⟨p143, h143, hM139⟩ := bind_ex hM139
                      obtain ⟨p147, h147, hM139⟩ := bind_ex hM139
                      refine region_gw (D := [77, 78, 79, 80, 81, 82, 83, 84]) (Lr := [.box g114 25 #[.int .i64 p110.1, .int .i64 p110.2.1, .slice B111 p110.2.2.length d113], .box g109 25 #[.int .i64 p102.1, .int .i64 p102.2.1, .slice B103 p102.2.2.1.length d105], .row 27 3 (.slice B106 p102.2.2.2.length d108) p102.2.2.2.length (p102.2.2.2.flatMap eRoomDeed), .row 3 1 (.slice B111 p110.2.2.length d113) p110.2.2.length (p110.2.2.flatMap eI), .row 3 1 (.slice B103 p102.2.2.1.length d105) p102.2.2.1.length (p102.2.2.1.flatMap eI)]) (deps := (fun | 0 => [77] | 1 => [78] | 2 => [79] | 3 => [80] | 4 => [81] | 5 => [82] | 6 => [83] | 7 => [84] | _ => [])) (rd := (fun | 7 => [4] | _ => [])) (zr := (fun _ => []))
                        (φ := fun i vs => match i, vs with | 0, [v77] => v77 = .agg #[.int .i64 p102.1, .int .i64 p102.2.1, .slice B103 p102.2.2.1.length d105] | 1, [v78] => v78 = .slice B106 p102.2.2.2.length d108 | 2, [v79] => v79 = .int .i64 p140 | 3, [v80] => v80 = .slice (subA d108 ((0 : Int).toNat) 3 B106) ((subL p102.2.2.2 0 p140).length) (d108 - (0 : Int).toNat) | 4, [v81] => v81 = .agg #[.int .i64 p143.1, .int .i64 p143.2.1, .slice (slA (vtup v81 2)) p143.2.2.length (slC (vtup v81 2))] | 5, [v82] => v82 = .int .i64 p129 | 6, [v83] => v83 = .int .i64 (w64 (1 - p129)) | 7, [v84] => v84 = .bool p147 | _, _ => True)
                        (C := fun i vs => match i, vs with | 4, [v81] => [.row 3 1 (.slice (slA (vtup v81 2)) p143.2.2.length (slC (vtup v81 2))) p143.2.2.length (p143.2.2.flatMap eI)] | _, _ => [])
                        (κ := (fun _ => none)) (Z := (fun _ => [])) mixed hF (by kernel_rfl) S ?_ ?_
                      · refine ⟨?_, ?_, ?_, ?_, ?_, ?_, ?_, ?_, trivial⟩
                        · intro a u X hB hu hp hr hz hl S
                          replace S : St w u ([] ++ X) := S
                          exact .inl ⟨rfl, .agg #[.int .i64 p102.1, .int .i64 p102.2.1, .slice B103 p102.2.2.1.length d105], u, (run_loadN rfl ag25 (hF.evB hB rfl rfl) rfl ((gr_box S hl 1 rfl).cells 0 #[.int .i64 p102.1, .int .i64 p102.2.1, .slice B103 p102.2.2.1.length d105] rfl)), rfl, S⟩
                        · intro a u X hB hu hp hr hz hl S
                          replace S : St w u ([] ++ X) := S
                          exact .inl ⟨rfl, .slice B106 p102.2.2.2.length d108, u, (run_move rfl (hF.evB hB rfl rfl)), rfl, S⟩
                        · intro a u X hB hu hp hr hz hl S
                          replace S : St w u ([] ++ X) := S
                          exact .inl ⟨rfl, .int .i64 p140, u, (run_move rfl (hF.evB hB rfl rfl)), rfl, S⟩
                        · intro a u X hB hu hp hr hz hl S
                          replace S : St w u ([] ++ X) := S
                          have e78 : sl a 78 = .slice B106 p102.2.2.2.length d108 := hp 1 rfl
                          have e79 : sl a 79 = .int .i64 p140 := hp 2 rfl
                          exact .inl ⟨rfl, .slice (subA d108 ((0 : Int).toNat) 3 B106) ((subL p102.2.2.2 0 p140).length) (d108 - (0 : Int).toNat), u, (run_sliceH (l := p102.2.2.2) rfl Tryd.underlying36 sz27 (ev_sl e78) (ev_sl e79) hk142 rfl (gr_rc S hl 2 rfl).cap), rfl, S⟩
                        · intro a u X hB hu hp hr hz hl S
                          replace S : St w u ([] ++ X) := S
                          have e77 : sl a 77 = .agg #[.int .i64 p102.1, .int .i64 p102.2.1, .slice B103 p102.2.2.1.length d105] := hp 0 rfl
                          have e80 : sl a 80 = .slice (subA d108 ((0 : Int).toNat) 3 B106) ((subL p102.2.2.2 0 p140).length) (d108 - (0 : Int).toNat) := hp 3 rfl
                          refine .inr (.inr (.inl ⟨rfl, _, _, (run_call (vs := [.agg #[.int .i64 p102.1, .int .i64 p102.2.1, .slice B103 p102.2.2.1.length d105], .slice (subA d108 ((0 : Int).toNat) 3 B106) ((subL p102.2.2.2 0 p140).length) (d108 - (0 : Int).toNat)]) rfl rfl co13 ⟨(ev_sl e77), (ev_sl e80), trivial⟩), ?_⟩))
                          refine Calls.mono (c_impl_RoomsRun (x0 := p102.1) (x1 := p102.2.1) (x2 := p102.2.2.1) (x3 := subL p102.2.2.2 0 p140) ⟨(gr_rc S hl 4 rfl), rfl⟩ ⟨(rc_sub eRoomDeed_len hk142 rfl (gr_rc S hl 2 rfl)), rfl⟩ h143) ?_
                          rintro e w1 ⟨B144, n145, d146, rfl, rfl, T⟩
                          exact ⟨_, rfl, rfl, S.call1 T⟩
                        · intro a u X hB hu hp hr hz hl S
                          replace S : St w u ([] ++ X) := S
                          exact .inl ⟨rfl, .int .i64 p129, u, (run_move rfl (hF.evB hB rfl rfl)), rfl, S⟩
                        · intro a u X hB hu hp hr hz hl S
                          replace S : St w u ([] ++ X) := S
                          have e82 : sl a 82 = .int .i64 p129 := hp 5 rfl
                          exact .inl ⟨rfl, .int .i64 (w64 (1 - p129)), u, (run_sub (z := w64 (1 - p129)) (ev_const _ _) (ev_sl e82) rfl rfl), rfl, S⟩
                        · intro a u X hB hu hp hr hz hl S
                          replace S : St w u ([] ++ X) := S
                          have e81 : sl a 81 = .agg #[.int .i64 p143.1, .int .i64 p143.2.1, .slice (slA (vtup (sl a 81) 2)) p143.2.2.length (slC (vtup (sl a 81) 2))] := hp 4 rfl
                          have e83 : sl a 83 = .int .i64 (w64 (1 - p129)) := hp 6 rfl
                          refine .inr (.inr (.inl ⟨rfl, _, _, (run_call (vs := [.agg #[.int .i64 p143.1, .int .i64 p143.2.1, .slice (slA (vtup (sl a 81) 2)) p143.2.2.length (slC (vtup (sl a 81) 2))], .int .i64 (w64 (1 - p129))]) rfl rfl co16 ⟨(ev_sl e81), (ev_sl e83), trivial⟩), ?_⟩))
                          refine Calls.mono (c_impl_RoomMay (x0 := p143.1) (x1 := p143.2.1) (x2 := p143.2.2) (x3 := w64 (1 - p129)) ⟨(own_rc (show World.ownsRow _ 0 _ _ _ _ _ from S.mem (List.mem_append_right _ (hr 4 (List.mem_of_getElem? (i := 0) rfl) _ (List.mem_of_getElem? (i := 0) rfl))))), rfl⟩ h147) ?_
                          rintro e w1 ⟨rfl, T⟩
                          exact ⟨_, rfl, rfl, S.call0 T⟩
                      · intro a u hB hp S
                        obtain ⟨q0, q1, q2, q3, q4, q5, q6, q7, _⟩ := hp
                        have e77 : sl a 77 = .agg #[.int .i64 p102.1, .int .i64 p102.2.1, .slice B103 p102.2.2.1.length d105] := q0
                        have e78 : sl a 78 = .slice B106 p102.2.2.2.length d108 := q1
                        have e79 : sl a 79 = .int .i64 p140 := q2
                        have e80 : sl a 80 = .slice (subA d108 ((0 : Int).toNat) 3 B106) ((subL p102.2.2.2 0 p140).length) (d108 - (0 : Int).toNat) := q3
                        have e81 : sl a 81 = .agg #[.int .i64 p143.1, .int .i64 p143.2.1, .slice (slA (vtup (sl a 81) 2)) p143.2.2.length (slC (vtup (sl a 81) 2))] := q4
                        have e82 : sl a 82 = .int .i64 p129 := q5
                        have e83 : sl a 83 = .int .i64 (w64 (1 - p129)) := q6
                        have e84 : sl a 84 = .bool p147 := q7
                        replace S : St w u [.row 3 1 (.slice (slA (vtup (sl a 81) 2)) p143.2.2.length (slC (vtup (sl a 81) 2))) p143.2.2.length (p143.2.2.flatMap eI), .box g114 25 #[.int .i64 p110.1, .int .i64 p110.2.1, .slice B111 p110.2.2.length d113], .box g109 25 #[.int .i64 p102.1, .int .i64 p102.2.1, .slice B103 p102.2.2.1.length d105], .row 27 3 (.slice B106 p102.2.2.2.length d108) p102.2.2.2.length (p102.2.2.2.flatMap eRoomDeed), .row 3 1 (.slice B111 p110.2.2.length d113) p110.2.2.length (p110.2.2.flatMap eI), .row 3 1 (.slice B103 p102.2.2.1.length d105) p102.2.2.1.length (p102.2.2.1.flatMap eI)] := S
                        clear q0 q1 q2 q3 q4 q5 q6 q7
                        generalize slA (vtup (sl a 81) 2) = B148 at *
                        generalize slC (vtup (sl a 81) 2) = d149 at *
                        have hF := hF.region hB [(77, .agg #[.int .i64 p102.1, .int .i64 p102.2.1, .slice B103 p102.2.2.1.length d105]), (78, .slice B106 p102.2.2.2.length d108), (79, .int .i64 p140), (80, .slice (subA d108 ((0 : Int).toNat) 3 B106) ((subL p102.2.2.2 0 p140).length) (d108 - (0 : Int).toNat)), (81, .agg #[.int .i64 p143.1, .int .i64 p143.2.1, .slice B148 p143.2.2.length d149]), (82, .int .i64 p129), (83, .int .i64 (w64 (1 - p129))), (84, .bool p147)] (allSl_mem ⟨e77, e78, e79, e80, e81, e82, e83, e84, trivial⟩) rfl
                        clear hB e77 e78 e79 e80 e81 e82 e83 e84
                        cases hc150 : (p147)
                        · replace hM139 := bif_f hc150 hM139
                          refine cond_f hF rfl hc150 ?_
                          refine wp_skip ?_
                          refine wp_region_lit ?_
                          refine op_val (v := .int .i64 p140) rfl rfl hF rfl (run_move rfl (hF.ev rfl)) ?_; clear hF; intro a hF
                          refine op_val (v := .int .i64 (w64 (p140 + 1))) rfl rfl hF rfl (run_add (z := w64 (p140 + 1)) (hF.ev rfl) rfl rfl rfl) ?_; clear hF; intro a hF
                          refine op_val (v := .int .i64 (w64 (p140 + 1))) rfl rfl hF rfl (run_assign rfl (hF.ev rfl)) ?_; clear hF; intro a hF
                          refine wpList_nil ?_
                          exact ⟨f2, Nat.lt_succ_self _, w64 (p140 + 1), hM139, hF.keep _ ⟨rfl, rfl, rfl, rfl, rfl, rfl, trivial⟩, S.sel [1, 2, 3, 4, 5] rfl rfl⟩
                        · replace hM139 := bif_t hc150 hM139
                          refine cond_t hF rfl hc150 ?_
                          refine wp_seq ?_
                          refine wp_region_lit ?_
                          refine op_val (v := .bool false) rfl rfl hF rfl (run_assign rfl rfl) ?_; clear hF; intro a hF
                          refine wpList_nil ?_
                          refine wp_ret ?_
                          repeat with_reducible (first | refine then_ret ?_ | refine in_ret ?_ | refine in_nrm ?_)
                          refine ret1_gw (.inl rfl) hF rfl (res_tmp (hF.ev rfl)) ?_
                          obtain rfl := Option.some.inj hM139
                          obtain rfl := Option.some.inj hM133
                          obtain rfl := Option.some.inj hM128
                          obtain rfl := Option.some.inj hM
                          exact ⟨rfl, S.sel [] rfl rfl⟩
                  · rintro a u ⟨p137, rfl, hF, S⟩
                    replace hM133 := elim_l hM133
                    obtain rfl := Option.some.inj hM133
                    exact ⟨(), rfl, hF.keep _ ⟨rfl, rfl, rfl, rfl, rfl, trivial⟩, S.sel [0, 1, 2, 3, 4] rfl rfl⟩
                · replace hM133 := bif_t hc136 hM133
                  refine cond_t hF rfl hc136 ?_
                  refine wp_exit ?_
                  repeat with_reducible (first | refine then_exit ?_ | refine in_hit ?_ | refine in_miss rfl ?_)
                  obtain rfl := Option.some.inj hM133
                  exact ⟨(), rfl, hF.keep _ ⟨rfl, rfl, rfl, rfl, rfl, trivial⟩, S.sel [0, 1, 2, 3, 4] rfl rfl⟩
              · rintro a u ⟨p131, rfl, hF, S⟩
                replace hM128 := elim_l hM128
                refine wp_region_lit ?_
                refine op_val (v := .int .i64 p129) rfl rfl hF rfl (run_move rfl (hF.ev rfl)) ?_; clear hF; intro a hF
                refine op_val (v := .int .i64 (w64 (p129 + 1))) rfl rfl hF rfl (run_add (z := w64 (p129 + 1)) (hF.ev rfl) rfl rfl rfl) ?_; clear hF; intro a hF
                refine op_val (v := .int .i64 (w64 (p129 + 1))) rfl rfl hF rfl (run_assign rfl (hF.ev rfl)) ?_; clear hF; intro a hF
                refine wpList_nil ?_
                exact ⟨f1, Nat.lt_succ_self _, w64 (p129 + 1), hM128, hF.keep _ ⟨rfl, rfl, rfl, rfl, rfl, trivial⟩, S.sel [0, 1, 2, 3, 4] rfl rfl⟩
          · rintro a u ⟨p126, rfl, hF, S⟩
            replace hM := elim_l hM
            refine wp_seq ?_
            refine wp_region_lit ?_
            refine op_val (v := .agg #[.int .i64 p110.1, .int .i64 p110.2.1, .slice B111 p110.2.2.length d113]) rfl rfl hF rfl (run_loadN rfl ag25 (hF.ev rfl) rfl ((S.free 0 rfl).cells 0 #[.int .i64 p110.1, .int .i64 p110.2.1, .slice B111 p110.2.2.length d113] rfl)) ?_; clear hF; intro a hF
            obtain ⟨p151, h151, hM⟩ := bind_ex hM
            refine op_call rfl rfl hF rfl (run_call (vs := [.agg #[.int .i64 p110.1, .int .i64 p110.2.1, .slice B111 p110.2.2.length d113]]) rfl rfl co10 ⟨(hF.ev rfl), trivial⟩) (c_impl_RoomsValid (x0 := p110.1) (x1 := p110.2.1) (x2 := p110.2.2) ⟨(S.rc 2 rfl), rfl⟩ h151) ?_
            rintro e u ⟨rfl, T⟩
            refine ⟨_, rfl, ?_⟩
            clear hF; intro a hF
            replace S := S.call0 T; clear T
            refine op_val (v := .bool p151) rfl rfl hF rfl (run_move rfl (hF.ev rfl)) ?_; clear hF; intro a hF
            refine op_gv (v := .agg #[.int .i64 p110.1, .int .i64 p110.2.1, .slice B111 p110.2.2.length d113]) rfl rfl hF rfl (yt (gw_yield hF rfl rfl rfl)) (fun hg => (run_loadN rfl ag25 (hF.ev rfl) rfl ((S.free 0 rfl).cells 0 #[.int .i64 p110.1, .int .i64 p110.2.1, .slice B111 p110.2.2.length d113] rfl))) ?_; clear hF; intro a hF
            obtain ⟨p152, h152, hM⟩ := bind_ex hM
            refine op_gcall (v := .bool p152) rfl rfl hF rfl S (yt (gw_yield hF rfl rfl rfl)) (fun hg => (run_call (vs := [.agg #[.int .i64 p110.1, .int .i64 p110.2.1, .slice B111 p110.2.2.length d113], .int .i64 0]) rfl rfl co16 ⟨((hF.ev rfl).trans (gv_t hg)), rfl, trivial⟩)) (fun hg => c_impl_RoomMay (x0 := p110.1) (x1 := p110.2.1) (x2 := p110.2.2) (x3 := 0) ⟨(S.rc 2 rfl), rfl⟩ (gb_t h152 hg)) ?_; clear hF S; intro a u hF S
            refine op_gv (v := .bool p152) rfl rfl hF rfl (yt (gw_yield hF rfl rfl rfl)) (fun hg => (run_move rfl ((hF.ev rfl).trans (gv_t hg)))) ?_; clear hF; intro a hF
            refine op_gv (v := .agg #[.int .i64 p110.1, .int .i64 p110.2.1, .slice B111 p110.2.2.length d113]) rfl rfl hF rfl (ytG (gw_yieldG hF rfl rfl rfl)) (fun hg => (run_loadN rfl ag25 (hF.ev rfl) rfl ((S.free 0 rfl).cells 0 #[.int .i64 p110.1, .int .i64 p110.2.1, .slice B111 p110.2.2.length d113] rfl))) ?_; clear hF; intro a hF
            obtain ⟨p153, h153, hM⟩ := bind_ex hM
            refine op_gcall (v := .bool p153) rfl rfl hF rfl S (ytG (gw_yieldG hF rfl rfl rfl)) (fun hg => (run_call (vs := [.agg #[.int .i64 p110.1, .int .i64 p110.2.1, .slice B111 p110.2.2.length d113], .int .i64 1]) rfl rfl co16 ⟨((hF.ev rfl).trans (gv_t hg)), rfl, trivial⟩)) (fun hg => c_impl_RoomMay (x0 := p110.1) (x1 := p110.2.1) (x2 := p110.2.2) (x3 := 1) ⟨(S.rc 2 rfl), rfl⟩ (gb_t h153 hg)) ?_; clear hF S; intro a u hF S
            refine op_gv (v := .bool (p152 && p153)) rfl rfl hF rfl (yt (gw_yield hF rfl rfl rfl)) (fun hg => (run_pick_and rfl ((hF.ev rfl).trans (gv_t hg)) (fun hp => ((hF.ev rfl).trans (gv_t (and_i hg hp)))) rfl)) ?_; clear hF; intro a hF
            refine op_gv (v := .bool (!(p152 && p153))) rfl rfl hF rfl (yt (gw_yield hF rfl rfl rfl)) (fun hg => (run_not rfl ((hF.ev rfl).trans (gv_t hg)))) ?_; clear hF; intro a hF
            refine op_val (v := .bool (p151 && (!(p152 && p153)))) rfl rfl hF rfl (run_pick_and rfl (hF.ev rfl) (fun hp => ((hF.ev rfl).trans (gv_t hp))) rfl) ?_; clear hF; intro a hF
            refine op_val (v := .bool (p151 && (!(p152 && p153)))) rfl rfl hF rfl (run_assign rfl (hF.ev rfl)) ?_; clear hF; intro a hF
            refine wpList_nil ?_
            refine wp_ret ?_
            repeat with_reducible (first | refine then_ret ?_ | refine in_ret ?_ | refine in_nrm ?_)
            refine ret1_gw (.inl rfl) hF rfl (res_tmp (hF.ev rfl)) ?_
            obtain rfl := Option.some.inj hM
            exact ⟨rfl, S.sel [] rfl rfl⟩
  · replace hM := bif_t hc101 hM
    refine cond_t hF rfl hc101 ?_
    refine wp_seq ?_
    refine wp_region_lit ?_
    refine op_val (v := .bool true) rfl rfl hF rfl (run_assign rfl rfl) ?_; clear hF; intro a hF
    refine wpList_nil ?_
    refine wp_ret ?_
    repeat with_reducible (first | refine then_ret ?_ | refine in_ret ?_ | refine in_nrm ?_)
    refine ret1_gw (.inl rfl) hF rfl (res_tmp (hF.ev rfl)) ?_
    obtain rfl := Option.some.inj hM
    exact ⟨rfl, S.sel [] rfl rfl⟩

set_option maxHeartbeats 4000000 in
theorem c_spec_DrawRoomTake {x0 : List Int} {A0 : Option Addr} {n0 c0 : Nat} {w : World} {r : Int × Int × List Int × Int} (h0 : Rt w 1 eU A0 n0 c0 x0) (hM : m_spec_DrawRoomTake x0 = some r) :
    Calls Tryd.prog 17 #[.slice A0 n0 c0] w (fun e w' => ∃ (B0 : Option Addr) (N0 D0 : Nat), e = .returned (.tuple #[.agg #[.int .i64 r.1, .int .i64 r.2.1, .slice B0 N0 D0], .int .i64 r.2.2.2]) ∧ N0 = r.2.2.1.length ∧ St w w' [.row 3 1 (.slice B0 N0 D0) N0 (r.2.2.1.flatMap eI)]) := by
  obtain rfl := h0.len
  unfold m_spec_DrawRoomTake at hM
  refine calls_gw Tryd.func17 Tryd.ntmps17 rfl [(0, .slice A0 x0.length c0)] ⟨rfl, trivial⟩ rfl ?_
  intro a hF
  have S := St.nil w
  refine wp_seq ?_
  refine wp_region_lit ?_
  refine op_new (cs := #[.int .i64 0, .int .i64 0, .slice none 0 0]) rfl rfl hF rfl S (run_allocZ rfl zr25) ?_; clear hF S; intro a g101 u hF S
  refine op_val (v := .int .i64 0) rfl rfl hF rfl (run_assign rfl rfl) ?_; clear hF; intro a hF
  refine wpList_nil ?_
  refine wp_seq ?_
  refine wp_region_lit ?_
  refine op_val (v := .slice A0 x0.length c0) rfl rfl hF rfl (run_move rfl (hF.ev rfl)) ?_; clear hF; intro a hF
  refine op_call rfl rfl hF rfl (run_call (vs := [.slice A0 x0.length c0]) rfl rfl co20 ⟨(hF.ev rfl), trivial⟩) (c_spec_l20Open ⟨(S.rc0 h0.rc), rfl⟩) ?_
  rintro e u ⟨g102, rfl, T⟩
  refine ⟨_, rfl, ?_⟩
  clear hF; intro a hF
  replace S := S.call1 T; clear T
  refine op_val (v := .pointer (some ⟨g102, 0, none⟩)) rfl rfl hF rfl (run_assign rfl (hF.ev rfl)) ?_; clear hF; intro a hF
  refine wpList_nil ?_
  refine wp_seq ?_
  refine wp_region_lit ?_
  refine op_val (v := .pointer (some ⟨g102, 0, none⟩)) rfl rfl hF rfl (run_move rfl (hF.ev rfl)) ?_; clear hF; intro a hF
  obtain ⟨p103, h103, hM⟩ := bind_ex hM
  refine op_call rfl rfl hF rfl (run_call (vs := [.pointer (some ⟨g102, 0, none⟩), .int .i64 9]) rfl rfl co21 ⟨(hF.ev rfl), rfl, trivial⟩) (c_spec_l20Rooms (x0 := x0.take 2000) (x1 := 0) (x2 := 9) ⟨(op_rc h0.rc rfl), rfl⟩ (show St w _ [.box g102 67 #[.slice (opA c0 x0.length A0) ((x0.take 2000).length) c0, .int .i64 0], .box g101 25 #[.int .i64 0, .int .i64 0, .slice none 0 0]] from S.sel [0, 1] rfl rfl) h103) ?_
  rintro e u ⟨B104, n105, d106, rfl, rfl, T⟩
  refine ⟨_, rfl, ?_⟩
  clear hF; intro a hF
  clear S; have S := T; clear T
  refine op_val (v := .pointer (some ⟨g102, 0, none⟩)) rfl rfl hF rfl (run_move rfl (hF.ev rfl)) ?_; clear hF; intro a hF
  obtain ⟨p107, h107, hM⟩ := bind_ex hM
  refine op_call rfl rfl hF rfl (run_call (vs := [.pointer (some ⟨g102, 0, none⟩), .int .i64 2]) rfl rfl co34 ⟨(hF.ev rfl), rfl, trivial⟩) (c_spec_l20Rd_pick (x0 := x0.take 2000) (x1 := p103.2.2.2) (x2 := 2) ⟨(op_rc h0.rc rfl), rfl⟩ (show St w _ [.box g102 67 #[.slice (opA c0 x0.length A0) ((x0.take 2000).length) c0, .int .i64 p103.2.2.2], .row 3 1 (.slice B104 p103.2.2.1.length d106) p103.2.2.1.length (p103.2.2.1.flatMap eI), .box g101 25 #[.int .i64 0, .int .i64 0, .slice none 0 0]] from S.sel [1, 0, 2] rfl rfl) h107) ?_
  rintro e u ⟨rfl, T⟩
  refine ⟨_, rfl, ?_⟩
  clear hF; intro a hF
  clear S; have S := T; clear T
  refine op_val (v := .pointer (some ⟨g102, 0, none⟩)) rfl rfl hF rfl (run_move rfl (hF.ev rfl)) ?_; clear hF; intro a hF
  obtain ⟨p108, h108, hM⟩ := bind_ex hM
  refine op_call rfl rfl hF rfl (run_call (vs := [.pointer (some ⟨g102, 0, none⟩), .int .i64 12]) rfl rfl co34 ⟨(hF.ev rfl), rfl, trivial⟩) (c_spec_l20Rd_pick (x0 := x0.take 2000) (x1 := p107.2) (x2 := 12) ⟨(op_rc h0.rc rfl), rfl⟩ (show St w _ [.box g102 67 #[.slice (opA c0 x0.length A0) ((x0.take 2000).length) c0, .int .i64 p107.2], .row 3 1 (.slice B104 p103.2.2.1.length d106) p103.2.2.1.length (p103.2.2.1.flatMap eI), .box g101 25 #[.int .i64 0, .int .i64 0, .slice none 0 0]] from S.sel [0, 1, 2] rfl rfl) h108) ?_
  rintro e u ⟨rfl, T⟩
  refine ⟨_, rfl, ?_⟩
  clear hF; intro a hF
  clear S; have S := T; clear T
  refine op_val (v := .int .i64 (w64 (Int.tdiv p108.1 11))) rfl rfl hF rfl (run_quo (z := w64 (Int.tdiv p108.1 11)) (hF.ev rfl) rfl rfl (by decide) rfl) ?_; clear hF; intro a hF
  refine op_val (v := .int .i64 (w64 ((w64 (Int.tdiv p108.1 11)) * 2))) rfl rfl hF rfl (run_mul (z := w64 ((w64 (Int.tdiv p108.1 11)) * 2)) (hF.ev rfl) rfl rfl rfl) ?_; clear hF; intro a hF
  refine op_val (v := .int .i64 (w64 (p107.1 + (w64 ((w64 (Int.tdiv p108.1 11)) * 2))))) rfl rfl hF rfl (run_add (z := w64 (p107.1 + (w64 ((w64 (Int.tdiv p108.1 11)) * 2)))) (hF.ev rfl) (hF.ev rfl) rfl rfl) ?_; clear hF; intro a hF
  refine op_do rfl rfl (run_store (cs' := #[.int .i64 p103.1, .int .i64 p103.2.1, .slice B104 p103.2.2.1.length d106]) rfl sz25 (hF.ev rfl) (hF.ev rfl) rfl rfl rfl (S.free 2 rfl) rfl rfl) ?_; replace S := S.put 2 rfl (#[.int .i64 p103.1, .int .i64 p103.2.1, .slice B104 p103.2.2.1.length d106])
  generalize World.setRow _ _ _ = u at S ⊢
  refine op_val (v := .int .i64 (w64 (p107.1 + (w64 ((w64 (Int.tdiv p108.1 11)) * 2))))) rfl rfl hF rfl (run_assign rfl (hF.ev rfl)) ?_; clear hF; intro a hF
  refine wpList_nil ?_
  refine wp_ret ?_
  repeat with_reducible (first | refine then_ret ?_ | refine in_ret ?_ | refine in_nrm ?_)
  refine ret2_gw (.inl rfl) hF rfl (res_cell (hF.ev rfl) (res_loadN ag25 rfl (S.cells 2 rfl 0 #[.int .i64 p103.1, .int .i64 p103.2.1, .slice B104 p103.2.2.1.length d106] rfl))) (res_tmp (hF.ev rfl)) ?_
  obtain rfl := Option.some.inj hM
  exact ⟨B104, p103.2.2.1.length, d106, rfl, rfl, S.sel [1] rfl rfl⟩

set_option maxHeartbeats 4000000 in
theorem c_impl_RoomTake {x0 : Int} {x1 : Int} {x2 : List Int} {x3 : Int} {A2 : Option Addr} {n2 c2 : Nat} {w : World} {r : Int × Int × List Int × Bool} (h2 : Rt w 1 eI A2 n2 c2 x2) (hM : m_impl_RoomTake x0 x1 x2 x3 = some r) :
    Calls Tryd.prog 18 #[.agg #[.int .i64 x0, .int .i64 x1, .slice A2 n2 c2], .int .i64 x3] w (fun e w' => ∃ (B0 : Option Addr) (N0 D0 : Nat), e = .returned (.tuple #[.agg #[.int .i64 r.1, .int .i64 r.2.1, .slice B0 N0 D0], .bool r.2.2.2]) ∧ N0 = r.2.2.1.length ∧ St w w' [.row 3 1 (.slice B0 N0 D0) N0 (r.2.2.1.flatMap eI)]) := by
  obtain rfl := h2.len
  unfold m_impl_RoomTake at hM
  refine calls_gw Tryd.func18 Tryd.ntmps18 rfl [(0, .agg #[.int .i64 x0, .int .i64 x1, .slice A2 x2.length c2]), (1, .int .i64 x3)] ⟨rfl, rfl, trivial⟩ rfl ?_
  intro a hF
  have S := St.nil w
  refine wp_seq ?_
  refine wp_region_lit ?_
  refine op_new (cs := #[.int .i64 x0, .int .i64 x1, .slice A2 x2.length c2]) rfl rfl hF rfl S (run_box rfl (hF.ev rfl) rfl) ?_; clear hF S; intro a g101 u hF S
  refine op_new (cs := #[.int .i64 0, .int .i64 0, .slice none 0 0]) rfl rfl hF rfl S (run_allocZ rfl zr25) ?_; clear hF S; intro a g102 u hF S
  refine op_val (v := .bool false) rfl rfl hF rfl (run_assign rfl rfl) ?_; clear hF; intro a hF
  refine wpList_nil ?_
  refine wp_seq ?_
  refine wp_seq ?_
  refine wp_region_lit ?_
  refine op_val (v := .agg #[.int .i64 x0, .int .i64 x1, .slice A2 x2.length c2]) rfl rfl hF rfl (run_loadN rfl ag25 (hF.ev rfl) rfl ((S.free 1 rfl).cells 0 #[.int .i64 x0, .int .i64 x1, .slice A2 x2.length c2] rfl)) ?_; clear hF; intro a hF
  obtain ⟨p103, h103, hM⟩ := bind_ex hM
  refine op_call rfl rfl hF rfl (run_call (vs := [.agg #[.int .i64 x0, .int .i64 x1, .slice A2 x2.length c2]]) rfl rfl co10 ⟨(hF.ev rfl), trivial⟩) (c_impl_RoomsValid (x0 := x0) (x1 := x1) (x2 := x2) ⟨(S.rc0 h2.rc), rfl⟩ h103) ?_
  rintro e u ⟨rfl, T⟩
  refine ⟨_, rfl, ?_⟩
  clear hF; intro a hF
  replace S := S.call0 T; clear T
  refine op_val (v := .bool (!p103)) rfl rfl hF rfl (run_not rfl (hF.ev rfl)) ?_; clear hF; intro a hF
  refine wpList_nil ?_
  cases hc104 : (p103)
  · replace hM := bif_f hc104 hM
    refine cond_t hF rfl (not_t hc104) ?_
    refine wp_seq ?_
    refine wp_region_lit ?_
    refine op_val (v := .agg #[.int .i64 0, .int .i64 0, .slice none 0 0]) rfl rfl hF rfl (run_build (vs := []) rfl trivial (bd25 )) ?_; clear hF; intro a hF
    refine op_do rfl rfl (run_store (cs' := #[.int .i64 0, .int .i64 0, .slice none 0 0]) rfl sz25 (hF.ev rfl) (hF.ev rfl) rfl rfl rfl (S.free 0 rfl) rfl rfl) ?_; replace S := S.put 0 rfl (#[.int .i64 0, .int .i64 0, .slice none 0 0])
    generalize World.setRow _ _ _ = u at S ⊢
    refine op_val (v := .bool false) rfl rfl hF rfl (run_assign rfl rfl) ?_; clear hF; intro a hF
    refine wpList_nil ?_
    refine wp_ret ?_
    repeat with_reducible (first | refine then_ret ?_ | refine in_ret ?_ | refine in_nrm ?_)
    refine ret2_gw (.inl rfl) hF rfl (res_cell (hF.ev rfl) (res_loadN ag25 rfl (S.cells 0 rfl 0 #[.int .i64 0, .int .i64 0, .slice none 0 0] rfl))) (res_tmp (hF.ev rfl)) ?_
    obtain rfl := Option.some.inj hM
    replace S := S.nilrow 3 1
    exact ⟨none, 0, 0, rfl, rfl, S.sel [0] rfl rfl⟩
  · replace hM := bif_t hc104 hM
    refine cond_f hF rfl (not_f hc104) ?_
    refine wp_skip ?_
    refine wp_seq ?_
    refine wp_region_lit ?_
    refine op_val (v := .agg #[.int .i64 x0, .int .i64 x1, .slice A2 x2.length c2]) rfl rfl hF rfl (run_loadN rfl ag25 (hF.ev rfl) rfl ((S.free 1 rfl).cells 0 #[.int .i64 x0, .int .i64 x1, .slice A2 x2.length c2] rfl)) ?_; clear hF; intro a hF
    refine op_new (cs := #[.int .i64 0, .int .i64 0, .slice none 0 0]) rfl rfl hF rfl S (run_allocZ rfl zr25) ?_; clear hF S; intro a g105 u hF S
    refine op_do rfl rfl (run_store (cs' := #[.int .i64 x0, .int .i64 x1, .slice A2 x2.length c2]) rfl sz25 (hF.ev rfl) (hF.ev rfl) rfl rfl rfl (S.free 0 rfl) rfl rfl) ?_; replace S := S.put 0 rfl (#[.int .i64 x0, .int .i64 x1, .slice A2 x2.length c2])
    generalize World.setRow _ _ _ = u at S ⊢
    refine wpList_nil ?_
    refine wp_seq ?_
    refine wp_seq ?_
    refine wp_region_lit ?_
    refine op_val (v := .agg #[.int .i64 1, .int .i64 2]) rfl rfl hF rfl (run_build (vs := [(0, .int .i64 1), (1, .int .i64 2)]) rfl ⟨⟨rfl, rfl⟩, ⟨rfl, rfl⟩, trivial⟩ (ba65_0_1 rfl rfl)) ?_; clear hF; intro a hF
    refine op_val (v := .int .i64 0) rfl rfl hF rfl (run_move rfl rfl) ?_; clear hF; intro a hF
    refine wpList_nil ?_
    obtain ⟨o107, hM110, hM⟩ := bind_ex hM
    refine wp_cut (fun a u => ∃ (p106 : Int × Int × List Int × Bool) (B108 : Option Addr) (d109 : Nat), (Sum.inl p106) = o107 ∧ Fr a 44 [(4, .pointer (some ⟨g102, 0, none⟩)), (5, .bool false), (6, .pointer (some ⟨g105, 0, none⟩))] ∧ St w u [.box g105 25 #[.int .i64 p106.1, .int .i64 p106.2.1, .slice B108 p106.2.2.1.length d109], .box g102 25 #[.int .i64 0, .int .i64 0, .slice none 0 0], .box g101 25 #[.int .i64 x0, .int .i64 x1, .slice A2 x2.length c2], mrow p106.2.2.2 w.heap.size 3 1 (.slice B108 p106.2.2.1.length d109) p106.2.2.1.length (p106.2.2.1.flatMap eI)]) ?_ ?_
    · have _ := trivial
      refine wp_block ?_
      replace S := S.addold h2.rc (by decide)
      refine loop_gw (fun m a u => ∃ (p111 : Int × Int × Int × List Int × Bool) (B112 : Option Addr) (d113 : Nat), m_impl_RoomTake_l1 x0 x1 x2 x3 m p111 = some _ ∧ Fr a 44 [(1, .int .i64 x3), (2, .pointer (some ⟨g101, 0, none⟩)), (4, .pointer (some ⟨g102, 0, none⟩)), (5, .bool false), (6, .pointer (some ⟨g105, 0, none⟩)), (17, .agg #[.int .i64 1, .int .i64 2]), (18, .int .i64 p111.1)] ∧ St w u [.box g105 25 #[.int .i64 p111.2.1, .int .i64 p111.2.2.1, .slice B112 p111.2.2.2.1.length d113], .box g102 25 #[.int .i64 0, .int .i64 0, .slice none 0 0], .box g101 25 #[.int .i64 x0, .int .i64 x1, .slice A2 x2.length c2], mrow p111.2.2.2.2 w.heap.size 3 1 (.slice B112 p111.2.2.2.1.length d113) p111.2.2.2.1.length (p111.2.2.2.1.flatMap eI)]) FUEL ⟨(0, x0, x1, x2, false), A2, c2, hM110, hF.keep _ ⟨rfl, rfl, rfl, rfl, rfl, rfl, rfl, trivial⟩, S.sel [1, 2, 3, 0] rfl rfl⟩ ?_
      clear hF S hM110; rintro m a u ⟨p111, B112, d113, hM110, hF, S⟩
      rcases m with _ | f1
      · exact none_some hM110
      rw [m_impl_RoomTake_l1.eq_2] at hM110
      refine wp_seq ?_
      refine wp_region_lit ?_
      refine op_val (v := .bool (ltB p111.1 2)) rfl rfl hF rfl (run_lss (hF.ev rfl) rfl rfl) ?_; clear hF; intro a hF
      refine wpList_nil ?_
      refine wp_seq ?_
      cases hc114 : (ltB p111.1 2)
      · replace hM110 := bif_f hc114 hM110
        refine cond_f hF rfl hc114 ?_
        refine wp_exit ?_
        repeat with_reducible (first | refine then_exit ?_ | refine in_hit ?_ | refine in_miss rfl ?_)
        obtain rfl := Option.some.inj hM110
        exact ⟨(p111.2.1, p111.2.2.1, p111.2.2.2.1, p111.2.2.2.2), B112, d113, rfl, hF.keep _ ⟨rfl, rfl, rfl, trivial⟩, S.sel [0, 1, 2, 3] rfl rfl⟩
      · replace hM110 := bif_t hc114 hM110
        refine cond_t hF rfl hc114 ?_
        refine wp_skip ?_
        refine wp_seq ?_
        refine wp_block ?_
        refine wp_seq ?_
        refine wp_region_lit ?_
        obtain ⟨hk115, hM110⟩ := chk_ex hM110
        replace hk115 := ixB_t hk115
        refine op_val (v := .int .i64 (([1, 2] : List Int).getD p111.1.toNat (0 : Int))) rfl rfl hF rfl (run_indexArr rfl Tryd.underlying65 one3 (hF.ev rfl) (hF.ev rfl) hk115 (arr_el eI_len (l := [1, 2]) rfl (0 : Int) (ix_lt hk115) rfl)) ?_; clear hF; intro a hF
        refine op_val (v := .int .i64 (([1, 2] : List Int).getD p111.1.toNat (0 : Int))) rfl rfl hF rfl (run_assign rfl (hF.ev rfl)) ?_; clear hF; intro a hF
        refine wpList_nil ?_
        refine wp_seq ?_
        refine wp_region_lit ?_
        refine op_val (v := .pointer (some ⟨g101, 2, none⟩)) rfl rfl hF rfl (run_fieldAddr rfl fl25_2 (hF.ev rfl) rfl) ?_; clear hF; intro a hF
        refine op_val (v := .slice A2 x2.length c2) rfl rfl hF rfl (run_load1 rfl one23 (hF.ev rfl) ((S.free 2 rfl).cell rfl)) ?_; clear hF; intro a hF
        refine op_val (v := .int .i64 (x2.length : Int)) rfl rfl hF rfl (run_lenL rfl rfl Tryd.underlying23 (hF.ev rfl)) ?_; clear hF; intro a hF
        refine op_val (v := .int .i64 0) rfl rfl hF rfl (run_move rfl rfl) ?_; clear hF; intro a hF
        refine wpList_nil ?_
        obtain ⟨o117, hM120, hM110⟩ := bind_ex hM110
        refine wp_cut (fun a u => ∃ (p116 : Int × Int × List Int × Bool) (B118 : Option Addr) (d119 : Nat), (Sum.inl p116) = o117 ∧ Fr a 44 [(1, .int .i64 x3), (2, .pointer (some ⟨g101, 0, none⟩)), (4, .pointer (some ⟨g102, 0, none⟩)), (5, .bool false), (6, .pointer (some ⟨g105, 0, none⟩)), (17, .agg #[.int .i64 1, .int .i64 2]), (18, .int .i64 p111.1)] ∧ St w u [.box g105 25 #[.int .i64 p116.1, .int .i64 p116.2.1, .slice B118 p116.2.2.1.length d119], .box g102 25 #[.int .i64 0, .int .i64 0, .slice none 0 0], .box g101 25 #[.int .i64 x0, .int .i64 x1, .slice A2 x2.length c2], mrow p116.2.2.2 w.heap.size 3 1 (.slice B118 p116.2.2.1.length d119) p116.2.2.1.length (p116.2.2.1.flatMap eI)]) ?_ ?_
        · have _ := trivial
          refine wp_block ?_
          refine loop_gw (fun m a u => ∃ (p121 : Int × Int × Int × List Int × Bool) (B122 : Option Addr) (d123 : Nat), m_impl_RoomTake_l2 x0 x1 x2 x3 p111 m p121 = some _ ∧ Fr a 44 [(1, .int .i64 x3), (2, .pointer (some ⟨g101, 0, none⟩)), (4, .pointer (some ⟨g102, 0, none⟩)), (5, .bool false), (6, .pointer (some ⟨g105, 0, none⟩)), (8, .int .i64 (([1, 2] : List Int).getD p111.1.toNat (0 : Int))), (17, .agg #[.int .i64 1, .int .i64 2]), (18, .int .i64 p111.1), (23, .int .i64 (x2.length : Int)), (24, .int .i64 p121.1)] ∧ St w u [.box g105 25 #[.int .i64 p121.2.1, .int .i64 p121.2.2.1, .slice B122 p121.2.2.2.1.length d123], .box g102 25 #[.int .i64 0, .int .i64 0, .slice none 0 0], .box g101 25 #[.int .i64 x0, .int .i64 x1, .slice A2 x2.length c2], mrow p121.2.2.2.2 w.heap.size 3 1 (.slice B122 p121.2.2.2.1.length d123) p121.2.2.2.1.length (p121.2.2.2.1.flatMap eI)]) FUEL ⟨(0, p111.2.1, p111.2.2.1, p111.2.2.2.1, p111.2.2.2.2), B112, d113, hM120, hF.keep _ ⟨rfl, rfl, rfl, rfl, rfl, rfl, rfl, rfl, rfl, rfl, trivial⟩, S.sel [0, 1, 2, 3] rfl rfl⟩ ?_
          clear hF S hM120; rintro m a u ⟨p121, B122, d123, hM120, hF, S⟩
          rcases m with _ | f2
          · exact none_some hM120
          rw [m_impl_RoomTake_l2.eq_2] at hM120
          refine wp_seq ?_
          refine wp_region_lit ?_
          refine op_val (v := .bool (ltB p121.1 (x2.length : Int))) rfl rfl hF rfl (run_lss (hF.ev rfl) (hF.ev rfl) rfl) ?_; clear hF; intro a hF
          refine wpList_nil ?_
          refine wp_seq ?_
          cases hc124 : (ltB p121.1 (x2.length : Int))
          · replace hM120 := bif_f hc124 hM120
            refine cond_f hF rfl hc124 ?_
            refine wp_exit ?_
            repeat with_reducible (first | refine then_exit ?_ | refine in_hit ?_ | refine in_miss rfl ?_)
            obtain rfl := Option.some.inj hM120
            exact ⟨(p121.2.1, p121.2.2.1, p121.2.2.2.1, p121.2.2.2.2), B122, d123, rfl, hF.keep _ ⟨rfl, rfl, rfl, rfl, rfl, rfl, rfl, trivial⟩, S.sel [0, 1, 2, 3] rfl rfl⟩
          · replace hM120 := bif_t hc124 hM120
            refine cond_t hF rfl hc124 ?_
            refine wp_skip ?_
            refine wp_seq ?_
            refine wp_block ?_
            refine wp_seq ?_
            refine wp_region_lit ?_
            refine op_val (v := .int .i64 p121.1) rfl rfl hF rfl (run_move rfl (hF.ev rfl)) ?_; clear hF; intro a hF
            refine op_val (v := .int .i64 p121.1) rfl rfl hF rfl (run_assign rfl (hF.ev rfl)) ?_; clear hF; intro a hF
            refine wpList_nil ?_
            refine wp_seq ?_
            refine wp_region_lit ?_
            refine op_val (v := .agg #[.int .i64 p121.2.1, .int .i64 p121.2.2.1, .slice B122 p121.2.2.2.1.length d123]) rfl rfl hF rfl (run_loadN rfl ag25 (hF.ev rfl) rfl ((S.free 0 rfl).cells 0 #[.int .i64 p121.2.1, .int .i64 p121.2.2.1, .slice B122 p121.2.2.2.1.length d123] rfl)) ?_; clear hF; intro a hF
            refine op_val (v := .int .i64 (([1, 2] : List Int).getD p111.1.toNat (0 : Int))) rfl rfl hF rfl (run_move rfl (hF.ev rfl)) ?_; clear hF; intro a hF
            refine op_val (v := .int .i64 x3) rfl rfl hF rfl (run_move rfl (hF.ev rfl)) ?_; clear hF; intro a hF
            refine op_val (v := .int .i64 p121.1) rfl rfl hF rfl (run_move rfl (hF.ev rfl)) ?_; clear hF; intro a hF
            refine op_val (v := .agg #[.int .i64 (([1, 2] : List Int).getD p111.1.toNat (0 : Int)), .int .i64 x3, .int .i64 p121.1]) rfl rfl hF rfl (run_build (vs := [(0, .int .i64 (([1, 2] : List Int).getD p111.1.toNat (0 : Int))), (1, .int .i64 x3), (2, .int .i64 p121.1)]) rfl ⟨⟨rfl, (hF.ev rfl)⟩, ⟨rfl, (hF.ev rfl)⟩, ⟨rfl, (hF.ev rfl)⟩, trivial⟩ (bd27_0_1_2 rfl rfl rfl)) ?_; clear hF; intro a hF
            obtain ⟨p125, h125, hM120⟩ := bind_ex hM120
            refine op_call rfl rfl hF rfl (run_call (vs := [.agg #[.int .i64 p121.2.1, .int .i64 p121.2.2.1, .slice B122 p121.2.2.2.1.length d123], .agg #[.int .i64 (([1, 2] : List Int).getD p111.1.toNat (0 : Int)), .int .i64 x3, .int .i64 p121.1]]) rfl rfl co7 ⟨(hF.ev rfl), (hF.ev rfl), trivial⟩) (c_impl_RoomsDo (x0 := p121.2.1) (x1 := p121.2.2.1) (x2 := p121.2.2.2.1) (x3 := (([1, 2] : List Int).getD p111.1.toNat (0 : Int))) (x4 := x3) (x5 := p121.1) ⟨(S.rcm 3 rfl), rfl⟩ h125) ?_
            rintro e u ⟨B126, n127, d128, rfl, rfl, T⟩
            refine ⟨_, rfl, ?_⟩
            clear hF; intro a hF
            replace S := S.call1 T; clear T
            refine op_val (v := .tuple #[.agg #[.int .i64 p125.1, .int .i64 p125.2.1, .slice B126 p125.2.2.1.length d128], .bool p125.2.2.2]) rfl rfl hF rfl (run_move rfl (hF.ev rfl)) ?_; clear hF; intro a hF
            refine op_val (v := .agg #[.int .i64 p125.1, .int .i64 p125.2.1, .slice B126 p125.2.2.1.length d128]) rfl rfl hF rfl (run_extract rfl (hF.ev rfl) rfl) ?_; clear hF; intro a hF
            refine op_val (v := .bool p125.2.2.2) rfl rfl hF rfl (run_extract rfl (hF.ev rfl) rfl) ?_; clear hF; intro a hF
            refine op_new (cs := #[.int .i64 0, .int .i64 0, .slice none 0 0]) rfl rfl hF rfl S (run_allocZ rfl zr25) ?_; clear hF S; intro a g129 u hF S
            refine op_do rfl rfl (run_store (cs' := #[.int .i64 p125.1, .int .i64 p125.2.1, .slice B126 p125.2.2.1.length d128]) rfl sz25 (hF.ev rfl) (hF.ev rfl) rfl rfl rfl (S.free 0 rfl) rfl rfl) ?_; replace S := S.put 0 rfl (#[.int .i64 p125.1, .int .i64 p125.2.1, .slice B126 p125.2.2.1.length d128])
            generalize World.setRow _ _ _ = u at S ⊢
            refine op_val (v := .bool p125.2.2.2) rfl rfl hF rfl (run_assign rfl (hF.ev rfl)) ?_; clear hF; intro a hF
            refine wpList_nil ?_
            refine wp_seq ?_
            refine wp_seq ?_
            refine wp_region_lit ?_
            refine op_val (v := .bool p125.2.2.2) rfl rfl hF rfl (run_move rfl (hF.ev rfl)) ?_; clear hF; intro a hF
            refine op_val (v := .bool (!p125.2.2.2)) rfl rfl hF rfl (run_not rfl (hF.ev rfl)) ?_; clear hF; intro a hF
            refine wpList_nil ?_
            cases hc130 : (p125.2.2.2)
            · replace hM120 := bif_f hc130 hM120
              refine cond_t hF rfl (not_t hc130) ?_
              refine wp_seq ?_
              refine wp_region_lit ?_
              refine op_val (v := .agg #[.int .i64 x0, .int .i64 x1, .slice A2 x2.length c2]) rfl rfl hF rfl (run_loadN rfl ag25 (hF.ev rfl) rfl ((S.free 4 rfl).cells 0 #[.int .i64 x0, .int .i64 x1, .slice A2 x2.length c2] rfl)) ?_; clear hF; intro a hF
              obtain ⟨p131, h131, hM120⟩ := bind_ex hM120
              refine op_call rfl rfl hF rfl (run_call (vs := [.agg #[.int .i64 x0, .int .i64 x1, .slice A2 x2.length c2]]) rfl rfl co23 ⟨(hF.ev rfl), trivial⟩) (c_impl_Rooms_clone (x0 := x0) (x1 := x1) (x2 := x2) ⟨(S.rc0 h2.rc), rfl⟩ h131) ?_
              rintro e u ⟨B132, n133, d134, rfl, rfl, T⟩
              refine ⟨_, rfl, ?_⟩
              clear hF; intro a hF
              replace S := S.call1 T; clear T
              refine op_do rfl rfl (run_store (cs' := #[.int .i64 p131.1, .int .i64 p131.2.1, .slice B132 p131.2.2.length d134]) rfl sz25 (hF.ev rfl) (hF.ev rfl) rfl rfl rfl (S.free 4 rfl) rfl rfl) ?_; replace S := S.put 4 rfl (#[.int .i64 p131.1, .int .i64 p131.2.1, .slice B132 p131.2.2.length d134])
              generalize World.setRow _ _ _ = u at S ⊢
              refine op_val (v := .bool false) rfl rfl hF rfl (run_assign rfl rfl) ?_; clear hF; intro a hF
              refine wpList_nil ?_
              refine wp_ret ?_
              repeat with_reducible (first | refine then_ret ?_ | refine in_ret ?_ | refine in_nrm ?_)
              refine ret2_gw (.inl rfl) hF rfl (res_cell (hF.ev rfl) (res_loadN ag25 rfl (S.cells 4 rfl 0 #[.int .i64 p131.1, .int .i64 p131.2.1, .slice B132 p131.2.2.length d134] rfl))) (res_tmp (hF.ev rfl)) ?_
              obtain rfl := Option.some.inj hM120
              obtain rfl := Option.some.inj hM110
              obtain rfl := Option.some.inj hM
              exact ⟨B132, p131.2.2.length, d134, rfl, rfl, S.sel [0] rfl rfl⟩
            · replace hM120 := bif_t hc130 hM120
              refine cond_f hF rfl (not_f hc130) ?_
              refine wp_skip ?_
              refine wp_region_lit ?_
              refine op_val (v := .agg #[.int .i64 p125.1, .int .i64 p125.2.1, .slice B126 p125.2.2.1.length d128]) rfl rfl hF rfl (run_loadN rfl ag25 (hF.ev rfl) rfl ((S.free 0 rfl).cells 0 #[.int .i64 p125.1, .int .i64 p125.2.1, .slice B126 p125.2.2.1.length d128] rfl)) ?_; clear hF; intro a hF
              refine op_do rfl rfl (run_store (cs' := #[.int .i64 p125.1, .int .i64 p125.2.1, .slice B126 p125.2.2.1.length d128]) rfl sz25 (hF.ev rfl) (hF.ev rfl) rfl rfl rfl (S.free 2 rfl) rfl rfl) ?_; replace S := S.put 2 rfl (#[.int .i64 p125.1, .int .i64 p125.2.1, .slice B126 p125.2.2.1.length d128])
              generalize World.setRow _ _ _ = u at S ⊢
              refine wpList_nil ?_
              refine wp_region_lit ?_
              refine op_val (v := .int .i64 (w64 (p121.1 + 1))) rfl rfl hF rfl (run_add (z := w64 (p121.1 + 1)) (hF.ev rfl) rfl rfl rfl) ?_; clear hF; intro a hF
              refine op_val (v := .int .i64 (w64 (p121.1 + 1))) rfl rfl hF rfl (run_move rfl (hF.ev rfl)) ?_; clear hF; intro a hF
              refine wpList_nil ?_
              exact ⟨f2, Nat.lt_succ_self _, (w64 (p121.1 + 1), p125.1, p125.2.1, p125.2.2.1, true), B126, d128, hM120, hF.keep _ ⟨rfl, rfl, rfl, rfl, rfl, rfl, rfl, rfl, rfl, rfl, trivial⟩, S.sel [2, 3, 4, 1] rfl rfl⟩
        · rintro a u ⟨p116, B118, d119, rfl, hF, S⟩
          replace hM110 := elim_l hM110
          refine wp_region_lit ?_
          refine op_val (v := .int .i64 (w64 (p111.1 + 1))) rfl rfl hF rfl (run_add (z := w64 (p111.1 + 1)) (hF.ev rfl) rfl rfl rfl) ?_; clear hF; intro a hF
          refine op_val (v := .int .i64 (w64 (p111.1 + 1))) rfl rfl hF rfl (run_move rfl (hF.ev rfl)) ?_; clear hF; intro a hF
          refine wpList_nil ?_
          exact ⟨f1, Nat.lt_succ_self _, (w64 (p111.1 + 1), p116.1, p116.2.1, p116.2.2.1, p116.2.2.2), B118, d119, hM110, hF.keep _ ⟨rfl, rfl, rfl, rfl, rfl, rfl, rfl, trivial⟩, S.sel [0, 1, 2, 3] rfl rfl⟩
    · rintro a u ⟨p106, B108, d109, rfl, hF, S⟩
      replace hM := elim_l hM
      refine wp_seq ?_
      refine wp_region_lit ?_
      refine op_val (v := .agg #[.int .i64 p106.1, .int .i64 p106.2.1, .slice B108 p106.2.2.1.length d109]) rfl rfl hF rfl (run_loadN rfl ag25 (hF.ev rfl) rfl ((S.free 0 rfl).cells 0 #[.int .i64 p106.1, .int .i64 p106.2.1, .slice B108 p106.2.2.1.length d109] rfl)) ?_; clear hF; intro a hF
      refine op_do rfl rfl (run_store (cs' := #[.int .i64 p106.1, .int .i64 p106.2.1, .slice B108 p106.2.2.1.length d109]) rfl sz25 (hF.ev rfl) (hF.ev rfl) rfl rfl rfl (S.free 1 rfl) rfl rfl) ?_; replace S := S.put 1 rfl (#[.int .i64 p106.1, .int .i64 p106.2.1, .slice B108 p106.2.2.1.length d109])
      generalize World.setRow _ _ _ = u at S ⊢
      refine op_val (v := .bool true) rfl rfl hF rfl (run_assign rfl rfl) ?_; clear hF; intro a hF
      refine wpList_nil ?_
      refine wp_ret ?_
      repeat with_reducible (first | refine then_ret ?_ | refine in_ret ?_ | refine in_nrm ?_)
      refine ret2_gw (.inl rfl) hF rfl (res_cell (hF.ev rfl) (res_loadN ag25 rfl (S.cells 1 rfl 0 #[.int .i64 p106.1, .int .i64 p106.2.1, .slice B108 p106.2.2.1.length d109] rfl))) (res_tmp (hF.ev rfl)) ?_
      obtain ⟨hk135, hM⟩ := chk_ex hM
      obtain rfl := Option.some.inj hM
      replace S := S.mrow_t 3 rfl hk135
      exact ⟨B108, p106.2.2.1.length, d109, rfl, rfl, S.sel [3] rfl rfl⟩

set_option maxHeartbeats 4000000 in
theorem c_spec_RoomTake {x0 : Int} {x1 : Int} {x2 : List Int} {x3 : Int} {A2 : Option Addr} {n2 c2 : Nat} {w : World} {r : Int × Int × List Int × Bool} (h2 : Rt w 1 eI A2 n2 c2 x2) (hM : m_spec_RoomTake x0 x1 x2 x3 = some r) :
    Calls Tryd.prog 19 #[.agg #[.int .i64 x0, .int .i64 x1, .slice A2 n2 c2], .int .i64 x3] w (fun e w' => ∃ (B0 : Option Addr) (N0 D0 : Nat), e = .returned (.tuple #[.agg #[.int .i64 r.1, .int .i64 r.2.1, .slice B0 N0 D0], .bool r.2.2.2]) ∧ N0 = r.2.2.1.length ∧ St w w' [.row 3 1 (.slice B0 N0 D0) N0 (r.2.2.1.flatMap eI)]) := by
  obtain rfl := h2.len
  unfold m_spec_RoomTake at hM
  refine calls_gw Tryd.func19 Tryd.ntmps19 rfl [(0, .agg #[.int .i64 x0, .int .i64 x1, .slice A2 x2.length c2]), (1, .int .i64 x3)] ⟨rfl, rfl, trivial⟩ rfl ?_
  intro a hF
  have S := St.nil w
  refine wp_seq ?_
  refine wp_region_lit ?_
  refine op_new (cs := #[.int .i64 x0, .int .i64 x1, .slice A2 x2.length c2]) rfl rfl hF rfl S (run_box rfl (hF.ev rfl) rfl) ?_; clear hF S; intro a g101 u hF S
  refine op_new (cs := #[.int .i64 0, .int .i64 0, .slice none 0 0]) rfl rfl hF rfl S (run_allocZ rfl zr25) ?_; clear hF S; intro a g102 u hF S
  refine op_val (v := .bool false) rfl rfl hF rfl (run_assign rfl rfl) ?_; clear hF; intro a hF
  refine wpList_nil ?_
  refine wp_seq ?_
  refine wp_seq ?_
  refine wp_region_lit ?_
  refine op_val (v := .agg #[.int .i64 x0, .int .i64 x1, .slice A2 x2.length c2]) rfl rfl hF rfl (run_loadN rfl ag25 (hF.ev rfl) rfl ((S.free 1 rfl).cells 0 #[.int .i64 x0, .int .i64 x1, .slice A2 x2.length c2] rfl)) ?_; clear hF; intro a hF
  obtain ⟨p103, h103, hM⟩ := bind_ex hM
  refine op_call rfl rfl hF rfl (run_call (vs := [.agg #[.int .i64 x0, .int .i64 x1, .slice A2 x2.length c2]]) rfl rfl co15 ⟨(hF.ev rfl), trivial⟩) (c_spec_RoomsValid (x0 := x0) (x1 := x1) (x2 := x2) ⟨(S.rc0 h2.rc), rfl⟩ h103) ?_
  rintro e u ⟨rfl, T⟩
  refine ⟨_, rfl, ?_⟩
  clear hF; intro a hF
  replace S := S.call0 T; clear T
  refine op_val (v := .bool (!p103)) rfl rfl hF rfl (run_not rfl (hF.ev rfl)) ?_; clear hF; intro a hF
  refine wpList_nil ?_
  cases hc104 : (p103)
  · replace hM := bif_f hc104 hM
    refine cond_t hF rfl (not_t hc104) ?_
    refine wp_seq ?_
    refine wp_region_lit ?_
    refine op_val (v := .agg #[.int .i64 0, .int .i64 0, .slice none 0 0]) rfl rfl hF rfl (run_build (vs := []) rfl trivial (bd25 )) ?_; clear hF; intro a hF
    refine op_do rfl rfl (run_store (cs' := #[.int .i64 0, .int .i64 0, .slice none 0 0]) rfl sz25 (hF.ev rfl) (hF.ev rfl) rfl rfl rfl (S.free 0 rfl) rfl rfl) ?_; replace S := S.put 0 rfl (#[.int .i64 0, .int .i64 0, .slice none 0 0])
    generalize World.setRow _ _ _ = u at S ⊢
    refine op_val (v := .bool false) rfl rfl hF rfl (run_assign rfl rfl) ?_; clear hF; intro a hF
    refine wpList_nil ?_
    refine wp_ret ?_
    repeat with_reducible (first | refine then_ret ?_ | refine in_ret ?_ | refine in_nrm ?_)
    refine ret2_gw (.inl rfl) hF rfl (res_cell (hF.ev rfl) (res_loadN ag25 rfl (S.cells 0 rfl 0 #[.int .i64 0, .int .i64 0, .slice none 0 0] rfl))) (res_tmp (hF.ev rfl)) ?_
    obtain rfl := Option.some.inj hM
    replace S := S.nilrow 3 1
    exact ⟨none, 0, 0, rfl, rfl, S.sel [0] rfl rfl⟩
  · replace hM := bif_t hc104 hM
    refine cond_f hF rfl (not_f hc104) ?_
    refine wp_skip ?_
    refine wp_seq ?_
    refine wp_region_lit ?_
    refine op_val (v := .agg #[.int .i64 x0, .int .i64 x1, .slice A2 x2.length c2]) rfl rfl hF rfl (run_loadN rfl ag25 (hF.ev rfl) rfl ((S.free 1 rfl).cells 0 #[.int .i64 x0, .int .i64 x1, .slice A2 x2.length c2] rfl)) ?_; clear hF; intro a hF
    refine op_val (v := .pointer (some ⟨g101, 0, none⟩)) rfl rfl hF rfl (run_fieldAddr rfl fl25_0 (hF.ev rfl) rfl) ?_; clear hF; intro a hF
    refine op_val (v := .int .i64 x0) rfl rfl hF rfl (run_load1 rfl one3 (hF.ev rfl) ((S.free 1 rfl).cell rfl)) ?_; clear hF; intro a hF
    obtain ⟨p105, h105, hM⟩ := bind_ex hM
    refine op_call rfl rfl hF rfl (run_call (vs := [.agg #[.int .i64 x0, .int .i64 x1, .slice A2 x2.length c2], .int .i64 0, .int .i64 x0]) rfl rfl co26 ⟨(hF.ev rfl), rfl, (hF.ev rfl), trivial⟩) (c_spec_l32Set (x0 := x0) (x1 := x1) (x2 := x2) (x3 := 0) (x4 := x0) ⟨(S.rc0 h2.rc), rfl⟩ h105) ?_
    rintro e u ⟨B106, n107, d108, rfl, rfl, T⟩
    refine ⟨_, rfl, ?_⟩
    clear hF; intro a hF
    replace S := S.call1 T; clear T
    refine op_new (cs := #[.int .i64 0, .int .i64 0, .slice none 0 0]) rfl rfl hF rfl S (run_allocZ rfl zr25) ?_; clear hF S; intro a g109 u hF S
    refine op_do rfl rfl (run_store (cs' := #[.int .i64 p105.1, .int .i64 p105.2.1, .slice B106 p105.2.2.length d108]) rfl sz25 (hF.ev rfl) (hF.ev rfl) rfl rfl rfl (S.free 0 rfl) rfl rfl) ?_; replace S := S.put 0 rfl (#[.int .i64 p105.1, .int .i64 p105.2.1, .slice B106 p105.2.2.length d108])
    generalize World.setRow _ _ _ = u at S ⊢
    refine wpList_nil ?_
    refine wp_seq ?_
    refine wp_seq ?_
    refine wp_region_lit ?_
    refine op_val (v := .int .i64 1) rfl rfl hF rfl (run_assign rfl rfl) ?_; clear hF; intro a hF
    refine wpList_nil ?_
    obtain ⟨o111, hM114, hM⟩ := bind_ex hM
    refine wp_cut (fun a u => ∃ (p110 : Int × Int × List Int) (B112 : Option Addr) (d113 : Nat), (Sum.inl p110) = o111 ∧ Fr a 47 [(4, .pointer (some ⟨g102, 0, none⟩)), (5, .bool false), (6, .pointer (some ⟨g109, 0, none⟩))] ∧ St w u [.box g109 25 #[.int .i64 p110.1, .int .i64 p110.2.1, .slice B112 p110.2.2.length d113], .box g102 25 #[.int .i64 0, .int .i64 0, .slice none 0 0], .box g101 25 #[.int .i64 x0, .int .i64 x1, .slice A2 x2.length c2], .row 3 1 (.slice B112 p110.2.2.length d113) p110.2.2.length (p110.2.2.flatMap eI)]) ?_ ?_
    · have _ := trivial
      refine wp_block ?_
      refine loop_gw (fun m a u => ∃ (p115 : Int × Int × Int × List Int) (B116 : Option Addr) (d117 : Nat), m_spec_RoomTake_l1 x0 x1 x2 x3 m p115 = some _ ∧ Fr a 47 [(1, .int .i64 x3), (2, .pointer (some ⟨g101, 0, none⟩)), (4, .pointer (some ⟨g102, 0, none⟩)), (5, .bool false), (6, .pointer (some ⟨g109, 0, none⟩)), (7, .int .i64 p115.1)] ∧ St w u [.box g109 25 #[.int .i64 p115.2.1, .int .i64 p115.2.2.1, .slice B116 p115.2.2.2.length d117], .box g102 25 #[.int .i64 0, .int .i64 0, .slice none 0 0], .box g101 25 #[.int .i64 x0, .int .i64 x1, .slice A2 x2.length c2], .row 3 1 (.slice B116 p115.2.2.2.length d117) p115.2.2.2.length (p115.2.2.2.flatMap eI)]) FUEL ⟨(1, p105.1, p105.2.1, p105.2.2), B106, d108, hM114, hF.keep _ ⟨rfl, rfl, rfl, rfl, rfl, rfl, trivial⟩, S.sel [0, 2, 3, 1] rfl rfl⟩ ?_
      clear hF S hM114; rintro m a u ⟨p115, B116, d117, hM114, hF, S⟩
      rcases m with _ | f1
      · exact none_some hM114
      rw [m_spec_RoomTake_l1.eq_2] at hM114
      refine wp_seq ?_
      refine wp_seq ?_
      refine wp_region_lit ?_
      refine op_val (v := .int .i64 p115.1) rfl rfl hF rfl (run_move rfl (hF.ev rfl)) ?_; clear hF; intro a hF
      refine op_val (v := .bool (leB p115.1 2)) rfl rfl hF rfl (run_leq (hF.ev rfl) rfl rfl) ?_; clear hF; intro a hF
      refine wpList_nil ?_
      cases hc118 : (leB p115.1 2)
      · replace hM114 := bif_f hc118 hM114
        refine cond_f hF rfl hc118 ?_
        refine wp_exit ?_
        repeat with_reducible (first | refine then_exit ?_ | refine in_hit ?_ | refine in_miss rfl ?_)
        obtain rfl := Option.some.inj hM114
        exact ⟨(p115.2.1, p115.2.2.1, p115.2.2.2), B116, d117, rfl, hF.keep _ ⟨rfl, rfl, rfl, trivial⟩, S.sel [0, 1, 2, 3] rfl rfl⟩
      · replace hM114 := bif_t hc118 hM114
        refine cond_t hF rfl hc118 ?_
        refine wp_skip ?_
        refine wp_seq ?_
        refine wp_block ?_
        refine wp_seq ?_
        refine wp_region_lit ?_
        refine op_val (v := .int .i64 0) rfl rfl hF rfl (run_assign rfl rfl) ?_; clear hF; intro a hF
        refine wpList_nil ?_
        obtain ⟨o120, hM123, hM114⟩ := bind_ex hM114
        refine wp_cut (fun a u => ∃ (p119 : Int × Int × List Int) (B121 : Option Addr) (d122 : Nat), (Sum.inl p119) = o120 ∧ Fr a 47 [(1, .int .i64 x3), (2, .pointer (some ⟨g101, 0, none⟩)), (4, .pointer (some ⟨g102, 0, none⟩)), (5, .bool false), (6, .pointer (some ⟨g109, 0, none⟩)), (7, .int .i64 p115.1)] ∧ St w u [.box g109 25 #[.int .i64 p119.1, .int .i64 p119.2.1, .slice B121 p119.2.2.length d122], .box g102 25 #[.int .i64 0, .int .i64 0, .slice none 0 0], .box g101 25 #[.int .i64 x0, .int .i64 x1, .slice A2 x2.length c2], .row 3 1 (.slice B121 p119.2.2.length d122) p119.2.2.length (p119.2.2.flatMap eI)]) ?_ ?_
        · have _ := trivial
          refine wp_block ?_
          refine loop_gw (fun m a u => ∃ (p124 : Int × Int × Int × List Int) (B125 : Option Addr) (d126 : Nat), m_spec_RoomTake_l2 x0 x1 x2 x3 p115 m p124 = some _ ∧ Fr a 47 [(1, .int .i64 x3), (2, .pointer (some ⟨g101, 0, none⟩)), (4, .pointer (some ⟨g102, 0, none⟩)), (5, .bool false), (6, .pointer (some ⟨g109, 0, none⟩)), (7, .int .i64 p115.1), (8, .int .i64 p124.1)] ∧ St w u [.box g109 25 #[.int .i64 p124.2.1, .int .i64 p124.2.2.1, .slice B125 p124.2.2.2.length d126], .box g102 25 #[.int .i64 0, .int .i64 0, .slice none 0 0], .box g101 25 #[.int .i64 x0, .int .i64 x1, .slice A2 x2.length c2], .row 3 1 (.slice B125 p124.2.2.2.length d126) p124.2.2.2.length (p124.2.2.2.flatMap eI)]) FUEL ⟨(0, p115.2.1, p115.2.2.1, p115.2.2.2), B116, d117, hM123, hF.keep _ ⟨rfl, rfl, rfl, rfl, rfl, rfl, rfl, trivial⟩, S.sel [0, 1, 2, 3] rfl rfl⟩ ?_
          clear hF S hM123; rintro m a u ⟨p124, B125, d126, hM123, hF, S⟩
          rcases m with _ | f2
          · exact none_some hM123
          rw [m_spec_RoomTake_l2.eq_2] at hM123
          refine wp_seq ?_
          refine wp_seq ?_
          refine wp_region_lit ?_
          refine op_val (v := .int .i64 p124.1) rfl rfl hF rfl (run_move rfl (hF.ev rfl)) ?_; clear hF; intro a hF
          refine op_val (v := .pointer (some ⟨g101, 2, none⟩)) rfl rfl hF rfl (run_fieldAddr rfl fl25_2 (hF.ev rfl) rfl) ?_; clear hF; intro a hF
          refine op_val (v := .slice A2 x2.length c2) rfl rfl hF rfl (run_load1 rfl one23 (hF.ev rfl) ((S.free 2 rfl).cell rfl)) ?_; clear hF; intro a hF
          refine op_val (v := .int .i64 (x2.length : Int)) rfl rfl hF rfl (run_lenL rfl rfl Tryd.underlying23 (hF.ev rfl)) ?_; clear hF; intro a hF
          refine op_val (v := .bool (ltB p124.1 (x2.length : Int))) rfl rfl hF rfl (run_lss (hF.ev rfl) (hF.ev rfl) rfl) ?_; clear hF; intro a hF
          refine wpList_nil ?_
          cases hc127 : (ltB p124.1 (x2.length : Int))
          · replace hM123 := bif_f hc127 hM123
            refine cond_f hF rfl hc127 ?_
            refine wp_exit ?_
            repeat with_reducible (first | refine then_exit ?_ | refine in_hit ?_ | refine in_miss rfl ?_)
            obtain rfl := Option.some.inj hM123
            exact ⟨(p124.2.1, p124.2.2.1, p124.2.2.2), B125, d126, rfl, hF.keep _ ⟨rfl, rfl, rfl, rfl, rfl, rfl, trivial⟩, S.sel [0, 1, 2, 3] rfl rfl⟩
          · replace hM123 := bif_t hc127 hM123
            refine cond_t hF rfl hc127 ?_
            refine wp_skip ?_
            refine wp_seq ?_
            refine wp_block ?_
            refine wp_seq ?_
            refine wp_region_lit ?_
            refine op_val (v := .agg #[.int .i64 p124.2.1, .int .i64 p124.2.2.1, .slice B125 p124.2.2.2.length d126]) rfl rfl hF rfl (run_loadN rfl ag25 (hF.ev rfl) rfl ((S.free 0 rfl).cells 0 #[.int .i64 p124.2.1, .int .i64 p124.2.2.1, .slice B125 p124.2.2.2.length d126] rfl)) ?_; clear hF; intro a hF
            refine op_val (v := .int .i64 p115.1) rfl rfl hF rfl (run_move rfl (hF.ev rfl)) ?_; clear hF; intro a hF
            refine op_val (v := .int .i64 x3) rfl rfl hF rfl (run_move rfl (hF.ev rfl)) ?_; clear hF; intro a hF
            refine op_val (v := .int .i64 p124.1) rfl rfl hF rfl (run_move rfl (hF.ev rfl)) ?_; clear hF; intro a hF
            refine op_val (v := .agg #[.int .i64 p115.1, .int .i64 x3, .int .i64 p124.1]) rfl rfl hF rfl (run_build (vs := [(0, .int .i64 p115.1), (1, .int .i64 x3), (2, .int .i64 p124.1)]) rfl ⟨⟨rfl, (hF.ev rfl)⟩, ⟨rfl, (hF.ev rfl)⟩, ⟨rfl, (hF.ev rfl)⟩, trivial⟩ (bd27_0_1_2 rfl rfl rfl)) ?_; clear hF; intro a hF
            obtain ⟨p128, h128, hM123⟩ := bind_ex hM123
            refine op_call rfl rfl hF rfl (run_call (vs := [.agg #[.int .i64 p124.2.1, .int .i64 p124.2.2.1, .slice B125 p124.2.2.2.length d126], .agg #[.int .i64 p115.1, .int .i64 x3, .int .i64 p124.1]]) rfl rfl co8 ⟨(hF.ev rfl), (hF.ev rfl), trivial⟩) (c_spec_RoomsDo (x0 := p124.2.1) (x1 := p124.2.2.1) (x2 := p124.2.2.2) (x3 := p115.1) (x4 := x3) (x5 := p124.1) ⟨(S.rc 3 rfl), rfl⟩ h128) ?_
            rintro e u ⟨B129, n130, d131, rfl, rfl, T⟩
            refine ⟨_, rfl, ?_⟩
            clear hF; intro a hF
            replace S := S.call1 T; clear T
            refine op_val (v := .tuple #[.agg #[.int .i64 p128.1, .int .i64 p128.2.1, .slice B129 p128.2.2.1.length d131], .bool p128.2.2.2]) rfl rfl hF rfl (run_move rfl (hF.ev rfl)) ?_; clear hF; intro a hF
            refine op_val (v := .agg #[.int .i64 p128.1, .int .i64 p128.2.1, .slice B129 p128.2.2.1.length d131]) rfl rfl hF rfl (run_extract rfl (hF.ev rfl) rfl) ?_; clear hF; intro a hF
            refine op_val (v := .bool p128.2.2.2) rfl rfl hF rfl (run_extract rfl (hF.ev rfl) rfl) ?_; clear hF; intro a hF
            refine op_new (cs := #[.int .i64 0, .int .i64 0, .slice none 0 0]) rfl rfl hF rfl S (run_allocZ rfl zr25) ?_; clear hF S; intro a g132 u hF S
            refine op_do rfl rfl (run_store (cs' := #[.int .i64 p128.1, .int .i64 p128.2.1, .slice B129 p128.2.2.1.length d131]) rfl sz25 (hF.ev rfl) (hF.ev rfl) rfl rfl rfl (S.free 0 rfl) rfl rfl) ?_; replace S := S.put 0 rfl (#[.int .i64 p128.1, .int .i64 p128.2.1, .slice B129 p128.2.2.1.length d131])
            generalize World.setRow _ _ _ = u at S ⊢
            refine op_val (v := .bool p128.2.2.2) rfl rfl hF rfl (run_assign rfl (hF.ev rfl)) ?_; clear hF; intro a hF
            refine wpList_nil ?_
            refine wp_seq ?_
            refine wp_seq ?_
            refine wp_region_lit ?_
            refine op_val (v := .bool p128.2.2.2) rfl rfl hF rfl (run_move rfl (hF.ev rfl)) ?_; clear hF; intro a hF
            refine op_val (v := .bool (!p128.2.2.2)) rfl rfl hF rfl (run_not rfl (hF.ev rfl)) ?_; clear hF; intro a hF
            refine wpList_nil ?_
            cases hc133 : (p128.2.2.2)
            · replace hM123 := bif_f hc133 hM123
              refine cond_t hF rfl (not_t hc133) ?_
              refine wp_seq ?_
              refine wp_region_lit ?_
              refine op_val (v := .agg #[.int .i64 x0, .int .i64 x1, .slice A2 x2.length c2]) rfl rfl hF rfl (run_loadN rfl ag25 (hF.ev rfl) rfl ((S.free 4 rfl).cells 0 #[.int .i64 x0, .int .i64 x1, .slice A2 x2.length c2] rfl)) ?_; clear hF; intro a hF
              refine op_val (v := .pointer (some ⟨g101, 0, none⟩)) rfl rfl hF rfl (run_fieldAddr rfl fl25_0 (hF.ev rfl) rfl) ?_; clear hF; intro a hF
              refine op_val (v := .int .i64 x0) rfl rfl hF rfl (run_load1 rfl one3 (hF.ev rfl) ((S.free 4 rfl).cell rfl)) ?_; clear hF; intro a hF
              obtain ⟨p134, h134, hM123⟩ := bind_ex hM123
              refine op_call rfl rfl hF rfl (run_call (vs := [.agg #[.int .i64 x0, .int .i64 x1, .slice A2 x2.length c2], .int .i64 0, .int .i64 x0]) rfl rfl co26 ⟨(hF.ev rfl), rfl, (hF.ev rfl), trivial⟩) (c_spec_l32Set (x0 := x0) (x1 := x1) (x2 := x2) (x3 := 0) (x4 := x0) ⟨(S.rc0 h2.rc), rfl⟩ h134) ?_
              rintro e u ⟨B135, n136, d137, rfl, rfl, T⟩
              refine ⟨_, rfl, ?_⟩
              clear hF; intro a hF
              replace S := S.call1 T; clear T
              refine op_do rfl rfl (run_store (cs' := #[.int .i64 p134.1, .int .i64 p134.2.1, .slice B135 p134.2.2.length d137]) rfl sz25 (hF.ev rfl) (hF.ev rfl) rfl rfl rfl (S.free 4 rfl) rfl rfl) ?_; replace S := S.put 4 rfl (#[.int .i64 p134.1, .int .i64 p134.2.1, .slice B135 p134.2.2.length d137])
              generalize World.setRow _ _ _ = u at S ⊢
              refine op_val (v := .bool false) rfl rfl hF rfl (run_assign rfl rfl) ?_; clear hF; intro a hF
              refine wpList_nil ?_
              refine wp_ret ?_
              repeat with_reducible (first | refine then_ret ?_ | refine in_ret ?_ | refine in_nrm ?_)
              refine ret2_gw (.inl rfl) hF rfl (res_cell (hF.ev rfl) (res_loadN ag25 rfl (S.cells 4 rfl 0 #[.int .i64 p134.1, .int .i64 p134.2.1, .slice B135 p134.2.2.length d137] rfl))) (res_tmp (hF.ev rfl)) ?_
              obtain rfl := Option.some.inj hM123
              obtain rfl := Option.some.inj hM114
              obtain rfl := Option.some.inj hM
              exact ⟨B135, p134.2.2.length, d137, rfl, rfl, S.sel [0] rfl rfl⟩
            · replace hM123 := bif_t hc133 hM123
              refine cond_f hF rfl (not_f hc133) ?_
              refine wp_skip ?_
              refine wp_region_lit ?_
              refine op_val (v := .agg #[.int .i64 p128.1, .int .i64 p128.2.1, .slice B129 p128.2.2.1.length d131]) rfl rfl hF rfl (run_loadN rfl ag25 (hF.ev rfl) rfl ((S.free 0 rfl).cells 0 #[.int .i64 p128.1, .int .i64 p128.2.1, .slice B129 p128.2.2.1.length d131] rfl)) ?_; clear hF; intro a hF
              refine op_do rfl rfl (run_store (cs' := #[.int .i64 p128.1, .int .i64 p128.2.1, .slice B129 p128.2.2.1.length d131]) rfl sz25 (hF.ev rfl) (hF.ev rfl) rfl rfl rfl (S.free 2 rfl) rfl rfl) ?_; replace S := S.put 2 rfl (#[.int .i64 p128.1, .int .i64 p128.2.1, .slice B129 p128.2.2.1.length d131])
              generalize World.setRow _ _ _ = u at S ⊢
              refine wpList_nil ?_
              refine wp_region_lit ?_
              refine op_val (v := .int .i64 p124.1) rfl rfl hF rfl (run_move rfl (hF.ev rfl)) ?_; clear hF; intro a hF
              refine op_val (v := .int .i64 (w64 (p124.1 + 1))) rfl rfl hF rfl (run_add (z := w64 (p124.1 + 1)) (hF.ev rfl) rfl rfl rfl) ?_; clear hF; intro a hF
              refine op_val (v := .int .i64 (w64 (p124.1 + 1))) rfl rfl hF rfl (run_assign rfl (hF.ev rfl)) ?_; clear hF; intro a hF
              refine wpList_nil ?_
              exact ⟨f2, Nat.lt_succ_self _, (w64 (p124.1 + 1), p128.1, p128.2.1, p128.2.2.1), B129, d131, hM123, hF.keep _ ⟨rfl, rfl, rfl, rfl, rfl, rfl, rfl, trivial⟩, S.sel [2, 3, 4, 1] rfl rfl⟩
        · rintro a u ⟨p119, B121, d122, rfl, hF, S⟩
          replace hM114 := elim_l hM114
          refine wp_region_lit ?_
          refine op_val (v := .int .i64 p115.1) rfl rfl hF rfl (run_move rfl (hF.ev rfl)) ?_; clear hF; intro a hF
          refine op_val (v := .int .i64 (w64 (p115.1 + 1))) rfl rfl hF rfl (run_add (z := w64 (p115.1 + 1)) (hF.ev rfl) rfl rfl rfl) ?_; clear hF; intro a hF
          refine op_val (v := .int .i64 (w64 (p115.1 + 1))) rfl rfl hF rfl (run_assign rfl (hF.ev rfl)) ?_; clear hF; intro a hF
          refine wpList_nil ?_
          exact ⟨f1, Nat.lt_succ_self _, (w64 (p115.1 + 1), p119.1, p119.2.1, p119.2.2), B121, d122, hM114, hF.keep _ ⟨rfl, rfl, rfl, rfl, rfl, rfl, trivial⟩, S.sel [0, 1, 2, 3] rfl rfl⟩
    · rintro a u ⟨p110, B112, d113, rfl, hF, S⟩
      replace hM := elim_l hM
      refine wp_seq ?_
      refine wp_region_lit ?_
      refine op_val (v := .agg #[.int .i64 p110.1, .int .i64 p110.2.1, .slice B112 p110.2.2.length d113]) rfl rfl hF rfl (run_loadN rfl ag25 (hF.ev rfl) rfl ((S.free 0 rfl).cells 0 #[.int .i64 p110.1, .int .i64 p110.2.1, .slice B112 p110.2.2.length d113] rfl)) ?_; clear hF; intro a hF
      refine op_do rfl rfl (run_store (cs' := #[.int .i64 p110.1, .int .i64 p110.2.1, .slice B112 p110.2.2.length d113]) rfl sz25 (hF.ev rfl) (hF.ev rfl) rfl rfl rfl (S.free 1 rfl) rfl rfl) ?_; replace S := S.put 1 rfl (#[.int .i64 p110.1, .int .i64 p110.2.1, .slice B112 p110.2.2.length d113])
      generalize World.setRow _ _ _ = u at S ⊢
      refine op_val (v := .bool true) rfl rfl hF rfl (run_assign rfl rfl) ?_; clear hF; intro a hF
      refine wpList_nil ?_
      refine wp_ret ?_
      repeat with_reducible (first | refine then_ret ?_ | refine in_ret ?_ | refine in_nrm ?_)
      refine ret2_gw (.inl rfl) hF rfl (res_cell (hF.ev rfl) (res_loadN ag25 rfl (S.cells 1 rfl 0 #[.int .i64 p110.1, .int .i64 p110.2.1, .slice B112 p110.2.2.length d113] rfl))) (res_tmp (hF.ev rfl)) ?_
      obtain rfl := Option.some.inj hM
      exact ⟨B112, p110.2.2.length, d113, rfl, rfl, S.sel [3] rfl rfl⟩

end Go.Proofs.YthpmmfbnclfbmaaDoor
