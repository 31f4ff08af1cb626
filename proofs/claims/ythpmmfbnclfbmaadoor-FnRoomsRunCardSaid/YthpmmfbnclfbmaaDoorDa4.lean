/- Calls return what the models say. -/
import Derived.Test.YthpmmfbnclfbmaaDoorDa3
namespace Go.Proofs.YthpmmfbnclfbmaaDoor
open Go.ChangeShapes Go.WideShapes Go.ChangeAt Go.RowKit
set_option linter.unusedVariables false
set_option linter.unusedSimpArgs false

set_option maxHeartbeats 4000000 in
theorem c_laws_FnRoomTake {x0 : List Int} {A0 : Option Addr} {n0 c0 : Nat} {w : World} {r : Bool} (h0 : Rt w 1 eU A0 n0 c0 x0) (hM : m_laws_FnRoomTake x0 = some r) :
    Calls Tryd.prog 5 #[.slice A0 n0 c0] w (fun e w' => e = .returned (.bool r) ∧ St w w' []) := by
  obtain rfl := h0.len
  unfold m_laws_FnRoomTake at hM
  refine calls_gw Tryd.func5 Tryd.ntmps5 rfl [(0, .slice A0 x0.length c0)] ⟨rfl, trivial⟩ rfl ?_
  intro a hF
  have S := St.nil w
  refine wp_seq ?_
  refine wp_region_lit ?_
  refine op_val (v := .bool false) rfl rfl hF rfl (run_assign rfl rfl) ?_; clear hF; intro a hF
  refine wpList_nil ?_
  refine wp_seq ?_
  refine wp_seq ?_
  refine wp_region_lit ?_
  refine op_val (v := .slice A0 x0.length c0) rfl rfl hF rfl (run_move rfl (hF.ev rfl)) ?_; clear hF; intro a hF
  refine op_val (v := .int .i64 (x0.length : Int)) rfl rfl hF rfl (run_lenL rfl rfl Tryd.underlying22 (hF.ev rfl)) ?_; clear hF; intro a hF
  refine op_val (v := .bool (ltB 1048576 (x0.length : Int))) rfl rfl hF rfl (run_gtr (hF.ev rfl) rfl rfl) ?_; clear hF; intro a hF
  refine wpList_nil ?_
  cases hc101 : (ltB 1048576 (x0.length : Int))
  · replace hM := bif_f hc101 hM
    refine cond_f hF rfl hc101 ?_
    refine wp_skip ?_
    refine wp_seq ?_
    refine wp_region_lit ?_
    refine op_val (v := .slice A0 x0.length c0) rfl rfl hF rfl (run_move rfl (hF.ev rfl)) ?_; clear hF; intro a hF
    obtain ⟨p102, h102, hM⟩ := bind_ex hM
    refine op_call rfl rfl hF rfl (run_call (vs := [.slice A0 x0.length c0]) rfl rfl co17 ⟨(hF.ev rfl), trivial⟩) (c_spec_DrawRoomTake (x0 := x0) ⟨(S.rc0 h0.rc), rfl⟩ h102) ?_
    rintro e u ⟨B103, n104, d105, rfl, rfl, T⟩
    refine ⟨_, rfl, ?_⟩
    clear hF; intro a hF
    replace S := S.call1 T; clear T
    refine op_val (v := .tuple #[.agg #[.int .i64 p102.1, .int .i64 p102.2.1, .slice B103 p102.2.2.1.length d105], .int .i64 p102.2.2.2]) rfl rfl hF rfl (run_move rfl (hF.ev rfl)) ?_; clear hF; intro a hF
    refine op_val (v := .agg #[.int .i64 p102.1, .int .i64 p102.2.1, .slice B103 p102.2.2.1.length d105]) rfl rfl hF rfl (run_extract rfl (hF.ev rfl) rfl) ?_; clear hF; intro a hF
    refine op_val (v := .int .i64 p102.2.2.2) rfl rfl hF rfl (run_extract rfl (hF.ev rfl) rfl) ?_; clear hF; intro a hF
    refine op_new (cs := #[.int .i64 0, .int .i64 0, .slice none 0 0]) rfl rfl hF rfl S (run_allocZ rfl zr25) ?_; clear hF S; intro a g106 u hF S
    refine op_do rfl rfl (run_store (cs' := #[.int .i64 p102.1, .int .i64 p102.2.1, .slice B103 p102.2.2.1.length d105]) rfl sz25 (hF.ev rfl) (hF.ev rfl) rfl rfl rfl (S.free 0 rfl) rfl rfl) ?_; replace S := S.put 0 rfl (#[.int .i64 p102.1, .int .i64 p102.2.1, .slice B103 p102.2.2.1.length d105])
    generalize World.setRow _ _ _ = u at S ⊢
    refine op_val (v := .int .i64 p102.2.2.2) rfl rfl hF rfl (run_assign rfl (hF.ev rfl)) ?_; clear hF; intro a hF
    refine wpList_nil ?_
    refine wp_seq ?_
    refine wp_region_lit ?_
    refine op_val (v := .agg #[.int .i64 p102.1, .int .i64 p102.2.1, .slice B103 p102.2.2.1.length d105]) rfl rfl hF rfl (run_loadN rfl ag25 (hF.ev rfl) rfl ((S.free 0 rfl).cells 0 #[.int .i64 p102.1, .int .i64 p102.2.1, .slice B103 p102.2.2.1.length d105] rfl)) ?_; clear hF; intro a hF
    refine op_val (v := .int .i64 p102.2.2.2) rfl rfl hF rfl (run_move rfl (hF.ev rfl)) ?_; clear hF; intro a hF
    obtain ⟨p107, h107, hM⟩ := bind_ex hM
    refine op_call rfl rfl hF rfl (run_call (vs := [.agg #[.int .i64 p102.1, .int .i64 p102.2.1, .slice B103 p102.2.2.1.length d105], .int .i64 p102.2.2.2]) rfl rfl co18 ⟨(hF.ev rfl), (hF.ev rfl), trivial⟩) (c_impl_RoomTake (x0 := p102.1) (x1 := p102.2.1) (x2 := p102.2.2.1) (x3 := p102.2.2.2) ⟨(S.rc 1 rfl), rfl⟩ h107) ?_
    rintro e u ⟨B108, n109, d110, rfl, rfl, T⟩
    refine ⟨_, rfl, ?_⟩
    clear hF; intro a hF
    replace S := S.call1 T; clear T
    refine op_val (v := .tuple #[.agg #[.int .i64 p107.1, .int .i64 p107.2.1, .slice B108 p107.2.2.1.length d110], .bool p107.2.2.2]) rfl rfl hF rfl (run_move rfl (hF.ev rfl)) ?_; clear hF; intro a hF
    refine op_val (v := .agg #[.int .i64 p107.1, .int .i64 p107.2.1, .slice B108 p107.2.2.1.length d110]) rfl rfl hF rfl (run_extract rfl (hF.ev rfl) rfl) ?_; clear hF; intro a hF
    refine op_val (v := .bool p107.2.2.2) rfl rfl hF rfl (run_extract rfl (hF.ev rfl) rfl) ?_; clear hF; intro a hF
    refine op_new (cs := #[.int .i64 0, .int .i64 0, .slice none 0 0]) rfl rfl hF rfl S (run_allocZ rfl zr25) ?_; clear hF S; intro a g111 u hF S
    refine op_do rfl rfl (run_store (cs' := #[.int .i64 p107.1, .int .i64 p107.2.1, .slice B108 p107.2.2.1.length d110]) rfl sz25 (hF.ev rfl) (hF.ev rfl) rfl rfl rfl (S.free 0 rfl) rfl rfl) ?_; replace S := S.put 0 rfl (#[.int .i64 p107.1, .int .i64 p107.2.1, .slice B108 p107.2.2.1.length d110])
    generalize World.setRow _ _ _ = u at S ⊢
    refine op_val (v := .bool p107.2.2.2) rfl rfl hF rfl (run_assign rfl (hF.ev rfl)) ?_; clear hF; intro a hF
    refine wpList_nil ?_
    refine wp_seq ?_
    refine wp_region_lit ?_
    refine op_val (v := .agg #[.int .i64 p102.1, .int .i64 p102.2.1, .slice B103 p102.2.2.1.length d105]) rfl rfl hF rfl (run_loadN rfl ag25 (hF.ev rfl) rfl ((S.free 2 rfl).cells 0 #[.int .i64 p102.1, .int .i64 p102.2.1, .slice B103 p102.2.2.1.length d105] rfl)) ?_; clear hF; intro a hF
    refine op_val (v := .int .i64 p102.2.2.2) rfl rfl hF rfl (run_move rfl (hF.ev rfl)) ?_; clear hF; intro a hF
    obtain ⟨p112, h112, hM⟩ := bind_ex hM
    refine op_call rfl rfl hF rfl (run_call (vs := [.agg #[.int .i64 p102.1, .int .i64 p102.2.1, .slice B103 p102.2.2.1.length d105], .int .i64 p102.2.2.2]) rfl rfl co19 ⟨(hF.ev rfl), (hF.ev rfl), trivial⟩) (c_spec_RoomTake (x0 := p102.1) (x1 := p102.2.1) (x2 := p102.2.2.1) (x3 := p102.2.2.2) ⟨(S.rc 3 rfl), rfl⟩ h112) ?_
    rintro e u ⟨B113, n114, d115, rfl, rfl, T⟩
    refine ⟨_, rfl, ?_⟩
    clear hF; intro a hF
    replace S := S.call1 T; clear T
    refine op_val (v := .tuple #[.agg #[.int .i64 p112.1, .int .i64 p112.2.1, .slice B113 p112.2.2.1.length d115], .bool p112.2.2.2]) rfl rfl hF rfl (run_move rfl (hF.ev rfl)) ?_; clear hF; intro a hF
    refine op_val (v := .agg #[.int .i64 p112.1, .int .i64 p112.2.1, .slice B113 p112.2.2.1.length d115]) rfl rfl hF rfl (run_extract rfl (hF.ev rfl) rfl) ?_; clear hF; intro a hF
    refine op_val (v := .bool p112.2.2.2) rfl rfl hF rfl (run_extract rfl (hF.ev rfl) rfl) ?_; clear hF; intro a hF
    refine op_new (cs := #[.int .i64 0, .int .i64 0, .slice none 0 0]) rfl rfl hF rfl S (run_allocZ rfl zr25) ?_; clear hF S; intro a g116 u hF S
    refine op_do rfl rfl (run_store (cs' := #[.int .i64 p112.1, .int .i64 p112.2.1, .slice B113 p112.2.2.1.length d115]) rfl sz25 (hF.ev rfl) (hF.ev rfl) rfl rfl rfl (S.free 0 rfl) rfl rfl) ?_; replace S := S.put 0 rfl (#[.int .i64 p112.1, .int .i64 p112.2.1, .slice B113 p112.2.2.1.length d115])
    generalize World.setRow _ _ _ = u at S ⊢
    refine op_val (v := .bool p112.2.2.2) rfl rfl hF rfl (run_assign rfl (hF.ev rfl)) ?_; clear hF; intro a hF
    refine wpList_nil ?_
    refine wp_seq ?_
    refine wp_seq ?_
    refine wp_region_lit ?_
    refine op_val (v := .agg #[.int .i64 p107.1, .int .i64 p107.2.1, .slice B108 p107.2.2.1.length d110]) rfl rfl hF rfl (run_loadN rfl ag25 (hF.ev rfl) rfl ((S.free 2 rfl).cells 0 #[.int .i64 p107.1, .int .i64 p107.2.1, .slice B108 p107.2.2.1.length d110] rfl)) ?_; clear hF; intro a hF
    refine op_val (v := .agg #[.int .i64 p112.1, .int .i64 p112.2.1, .slice B113 p112.2.2.1.length d115]) rfl rfl hF rfl (run_loadN rfl ag25 (hF.ev rfl) rfl ((S.free 0 rfl).cells 0 #[.int .i64 p112.1, .int .i64 p112.2.1, .slice B113 p112.2.2.1.length d115] rfl)) ?_; clear hF; intro a hF
    obtain ⟨p117, h117, hM⟩ := bind_ex hM
    refine op_call rfl rfl hF rfl (run_call (vs := [.agg #[.int .i64 p107.1, .int .i64 p107.2.1, .slice B108 p107.2.2.1.length d110], .agg #[.int .i64 p112.1, .int .i64 p112.2.1, .slice B113 p112.2.2.1.length d115]]) rfl rfl co9 ⟨(hF.ev rfl), (hF.ev rfl), trivial⟩) (c_laws_sameRooms (x0 := p107.1) (x1 := p107.2.1) (x2 := p107.2.2.1) (x3 := p112.1) (x4 := p112.2.1) (x5 := p112.2.2.1) ⟨(S.rc 3 rfl), rfl⟩ ⟨(S.rc 1 rfl), rfl⟩ h117) ?_
    rintro e u ⟨rfl, T⟩
    refine ⟨_, rfl, ?_⟩
    clear hF; intro a hF
    replace S := S.call0 T; clear T
    refine op_val (v := .bool (!p117)) rfl rfl hF rfl (run_not rfl (hF.ev rfl)) ?_; clear hF; intro a hF
    refine op_val (v := .bool (!p117)) rfl rfl hF rfl (run_move rfl (hF.ev rfl)) ?_; clear hF; intro a hF
    refine op_gv (v := .bool p107.2.2.2) rfl rfl hF rfl (yf (gw_yield hF rfl rfl rfl)) (fun hg => (run_move rfl (hF.ev rfl))) ?_; clear hF; intro a hF
    refine op_gv (v := .bool p112.2.2.2) rfl rfl hF rfl (yf (gw_yield hF rfl rfl rfl)) (fun hg => (run_move rfl (hF.ev rfl))) ?_; clear hF; intro a hF
    refine op_gv (v := .bool (p107.2.2.2 != p112.2.2.2)) rfl rfl hF rfl (yf (gw_yield hF rfl rfl rfl)) (fun hg => (run_neqB ((hF.ev rfl).trans (gv_t hg)) ((hF.ev rfl).trans (gv_t hg)) Tryd.underlying4 rfl)) ?_; clear hF; intro a hF
    refine op_val (v := .bool ((!p117) || (p107.2.2.2 != p112.2.2.2))) rfl rfl hF rfl (run_pick_or rfl (hF.ev rfl) rfl (fun hp => ((hF.ev rfl).trans (gv_t (not_t hp))))) ?_; clear hF; intro a hF
    refine wpList_nil ?_
    cases hc118 : ((!p117) || (p107.2.2.2 != p112.2.2.2))
    · replace hM := bif_f hc118 hM
      refine cond_f hF rfl hc118 ?_
      refine wp_skip ?_
      refine wp_seq ?_
      refine wp_seq ?_
      refine wp_region_lit ?_
      refine op_val (v := .bool p107.2.2.2) rfl rfl hF rfl (run_move rfl (hF.ev rfl)) ?_; clear hF; intro a hF
      refine op_val (v := .bool (!p107.2.2.2)) rfl rfl hF rfl (run_not rfl (hF.ev rfl)) ?_; clear hF; intro a hF
      refine wpList_nil ?_
      cases hc119 : (p107.2.2.2)
      · replace hM := bif_f hc119 hM
        refine cond_t hF rfl (not_t hc119) ?_
        refine wp_seq ?_
        refine wp_region_lit ?_
        refine op_val (v := .agg #[.int .i64 p107.1, .int .i64 p107.2.1, .slice B108 p107.2.2.1.length d110]) rfl rfl hF rfl (run_loadN rfl ag25 (hF.ev rfl) rfl ((S.free 2 rfl).cells 0 #[.int .i64 p107.1, .int .i64 p107.2.1, .slice B108 p107.2.2.1.length d110] rfl)) ?_; clear hF; intro a hF
        refine op_val (v := .agg #[.int .i64 p102.1, .int .i64 p102.2.1, .slice B103 p102.2.2.1.length d105]) rfl rfl hF rfl (run_loadN rfl ag25 (hF.ev rfl) rfl ((S.free 4 rfl).cells 0 #[.int .i64 p102.1, .int .i64 p102.2.1, .slice B103 p102.2.2.1.length d105] rfl)) ?_; clear hF; intro a hF
        obtain ⟨p120, h120, hM⟩ := bind_ex hM
        refine op_call rfl rfl hF rfl (run_call (vs := [.agg #[.int .i64 p107.1, .int .i64 p107.2.1, .slice B108 p107.2.2.1.length d110], .agg #[.int .i64 p102.1, .int .i64 p102.2.1, .slice B103 p102.2.2.1.length d105]]) rfl rfl co9 ⟨(hF.ev rfl), (hF.ev rfl), trivial⟩) (c_laws_sameRooms (x0 := p107.1) (x1 := p107.2.1) (x2 := p107.2.2.1) (x3 := p102.1) (x4 := p102.2.1) (x5 := p102.2.2.1) ⟨(S.rc 3 rfl), rfl⟩ ⟨(S.rc 5 rfl), rfl⟩ h120) ?_
        rintro e u ⟨rfl, T⟩
        refine ⟨_, rfl, ?_⟩
        clear hF; intro a hF
        replace S := S.call0 T; clear T
        refine op_val (v := .bool p120) rfl rfl hF rfl (run_move rfl (hF.ev rfl)) ?_; clear hF; intro a hF
        refine op_gv (v := .pointer (some ⟨g111, 2, none⟩)) rfl rfl hF rfl (yf (gw_yield hF rfl rfl rfl)) (fun hg => (run_fieldAddr rfl fl25_2 (hF.ev rfl) rfl)) ?_; clear hF; intro a hF
        refine op_gv (v := .slice B108 p107.2.2.1.length d110) rfl rfl hF rfl (yf (gw_yield hF rfl rfl rfl)) (fun hg => (run_load1 rfl one23 ((hF.ev rfl).trans (gv_t hg)) ((S.free 2 rfl).cell rfl))) ?_; clear hF; intro a hF
        refine op_gv (v := .int .i64 (p107.2.2.1.length : Int)) rfl rfl hF rfl (yf (gw_yield hF rfl rfl rfl)) (fun hg => (run_lenL rfl rfl Tryd.underlying23 ((hF.ev rfl).trans (gv_t hg)))) ?_; clear hF; intro a hF
        refine op_gv (v := .bool ((p107.2.2.1.length : Int) == 0)) rfl rfl hF rfl (yf (gw_yield hF rfl rfl rfl)) (fun hg => (run_eql ((hF.ev rfl).trans (gv_t hg)) rfl rfl)) ?_; clear hF; intro a hF
        refine op_val (v := .bool (p120 || ((p107.2.2.1.length : Int) == 0))) rfl rfl hF rfl (run_pick_or rfl (hF.ev rfl) rfl (fun hp => ((hF.ev rfl).trans (gv_t (not_t hp))))) ?_; clear hF; intro a hF
        refine op_val (v := .bool (p120 || ((p107.2.2.1.length : Int) == 0))) rfl rfl hF rfl (run_move rfl (hF.ev rfl)) ?_; clear hF; intro a hF
        obtain ⟨p121, h121, hM⟩ := bind_ex hM
        refine op_gcall (v := .bool p121) rfl rfl hF rfl S (yt (gw_yield hF rfl rfl rfl)) (fun hg => (run_call (vs := []) rfl rfl co11 trivial)) (fun hg => c_laws_alive   (gb_t h121 hg)) ?_; clear hF S; intro a u hF S
        refine op_val (v := .bool ((p120 || ((p107.2.2.1.length : Int) == 0)) && p121)) rfl rfl hF rfl (run_pick_and rfl (hF.ev rfl) (fun hp => ((hF.ev rfl).trans (gv_t hp))) rfl) ?_; clear hF; intro a hF
        refine op_val (v := .bool ((p120 || ((p107.2.2.1.length : Int) == 0)) && p121)) rfl rfl hF rfl (run_assign rfl (hF.ev rfl)) ?_; clear hF; intro a hF
        refine wpList_nil ?_
        refine wp_ret ?_
        repeat with_reducible (first | refine then_ret ?_ | refine in_ret ?_ | refine in_nrm ?_)
        refine ret1_gw (.inl rfl) hF rfl (res_tmp (hF.ev rfl)) ?_
        obtain rfl := Option.some.inj hM
        exact ⟨rfl, S.sel [] rfl rfl⟩
      · replace hM := bif_t hc119 hM
        refine cond_f hF rfl (not_f hc119) ?_
        refine wp_skip ?_
        refine wp_seq ?_
        refine wp_seq ?_
        refine wp_region_lit ?_
        refine op_val (v := .int .i64 0) rfl rfl hF rfl (run_assign rfl rfl) ?_; clear hF; intro a hF
        refine wpList_nil ?_
        obtain ⟨o123, hM124, hM⟩ := bind_ex hM
        refine wp_cut (fun a u => ∃ (p122 : Unit), (Sum.inl p122) = o123 ∧ Fr a 103 [(2, .bool false), (3, .pointer (some ⟨g106, 0, none⟩)), (4, .int .i64 p102.2.2.2), (5, .pointer (some ⟨g111, 0, none⟩))] ∧ St w u [.box g116 25 #[.int .i64 p112.1, .int .i64 p112.2.1, .slice B113 p112.2.2.1.length d115], .box g111 25 #[.int .i64 p107.1, .int .i64 p107.2.1, .slice B108 p107.2.2.1.length d110], .box g106 25 #[.int .i64 p102.1, .int .i64 p102.2.1, .slice B103 p102.2.2.1.length d105], .row 3 1 (.slice B113 p112.2.2.1.length d115) p112.2.2.1.length (p112.2.2.1.flatMap eI), .row 3 1 (.slice B108 p107.2.2.1.length d110) p107.2.2.1.length (p107.2.2.1.flatMap eI), .row 3 1 (.slice B103 p102.2.2.1.length d105) p102.2.2.1.length (p102.2.2.1.flatMap eI)]) ?_ ?_
        · have _ := trivial
          refine wp_block ?_
          refine loop_gw (fun m a u => ∃ (p125 : Int), m_laws_FnRoomTake_l1 p102 p107 m p125 = some _ ∧ Fr a 103 [(2, .bool false), (3, .pointer (some ⟨g106, 0, none⟩)), (4, .int .i64 p102.2.2.2), (5, .pointer (some ⟨g111, 0, none⟩)), (9, .int .i64 p125)] ∧ St w u [.box g116 25 #[.int .i64 p112.1, .int .i64 p112.2.1, .slice B113 p112.2.2.1.length d115], .box g111 25 #[.int .i64 p107.1, .int .i64 p107.2.1, .slice B108 p107.2.2.1.length d110], .box g106 25 #[.int .i64 p102.1, .int .i64 p102.2.1, .slice B103 p102.2.2.1.length d105], .row 3 1 (.slice B113 p112.2.2.1.length d115) p112.2.2.1.length (p112.2.2.1.flatMap eI), .row 3 1 (.slice B108 p107.2.2.1.length d110) p107.2.2.1.length (p107.2.2.1.flatMap eI), .row 3 1 (.slice B103 p102.2.2.1.length d105) p102.2.2.1.length (p102.2.2.1.flatMap eI)]) FUEL ⟨0, hM124, hF.keep _ ⟨rfl, rfl, rfl, rfl, rfl, trivial⟩, S.sel [0, 2, 4, 1, 3, 5] rfl rfl⟩ ?_
          clear hF S hM124; rintro m a u ⟨p125, hM124, hF, S⟩
          rcases m with _ | f1
          · exact none_some hM124
          rw [m_laws_FnRoomTake_l1.eq_2] at hM124
          refine wp_seq ?_
          refine wp_seq ?_
          refine wp_region_lit ?_
          refine op_val (v := .int .i64 p125) rfl rfl hF rfl (run_move rfl (hF.ev rfl)) ?_; clear hF; intro a hF
          refine op_val (v := .pointer (some ⟨g111, 2, none⟩)) rfl rfl hF rfl (run_fieldAddr rfl fl25_2 (hF.ev rfl) rfl) ?_; clear hF; intro a hF
          refine op_val (v := .slice B108 p107.2.2.1.length d110) rfl rfl hF rfl (run_load1 rfl one23 (hF.ev rfl) ((S.free 1 rfl).cell rfl)) ?_; clear hF; intro a hF
          refine op_val (v := .int .i64 (p107.2.2.1.length : Int)) rfl rfl hF rfl (run_lenL rfl rfl Tryd.underlying23 (hF.ev rfl)) ?_; clear hF; intro a hF
          refine op_val (v := .bool (ltB p125 (p107.2.2.1.length : Int))) rfl rfl hF rfl (run_lss (hF.ev rfl) (hF.ev rfl) rfl) ?_; clear hF; intro a hF
          refine wpList_nil ?_
          cases hc126 : (ltB p125 (p107.2.2.1.length : Int))
          · replace hM124 := bif_f hc126 hM124
            refine cond_f hF rfl hc126 ?_
            refine wp_exit ?_
            repeat with_reducible (first | refine then_exit ?_ | refine in_hit ?_ | refine in_miss rfl ?_)
            obtain rfl := Option.some.inj hM124
            exact ⟨(), rfl, hF.keep _ ⟨rfl, rfl, rfl, rfl, trivial⟩, S.sel [0, 1, 2, 3, 4, 5] rfl rfl⟩
          · replace hM124 := bif_t hc126 hM124
            refine cond_t hF rfl hc126 ?_
            refine wp_skip ?_
            refine wp_seq ?_
            refine wp_block ?_
            refine wp_seq ?_
            obtain ⟨hk127, hM124⟩ := chk_ex hM124
            replace hk127 := ixB_t hk127
            obtain ⟨hk128, hM124⟩ := chk_ex hM124
            replace hk128 := fun hg => ixB_t (imp_t hk128 hg)
            obtain ⟨hk129, hM124⟩ := chk_ex hM124
            replace hk129 := fun hg => ixB_t (imp_t hk129 hg)
            refine region_gw (D := [60, 61, 62, 63, 64, 65, 66, 67, 68, 69, 70, 71, 72, 73, 74, 75, 76, 77, 78, 79]) (Lr := [.box g116 25 #[.int .i64 p112.1, .int .i64 p112.2.1, .slice B113 p112.2.2.1.length d115], .box g111 25 #[.int .i64 p107.1, .int .i64 p107.2.1, .slice B108 p107.2.2.1.length d110], .box g106 25 #[.int .i64 p102.1, .int .i64 p102.2.1, .slice B103 p102.2.2.1.length d105], .row 3 1 (.slice B113 p112.2.2.1.length d115) p112.2.2.1.length (p112.2.2.1.flatMap eI), .row 3 1 (.slice B108 p107.2.2.1.length d110) p107.2.2.1.length (p107.2.2.1.flatMap eI), .row 3 1 (.slice B103 p102.2.2.1.length d105) p102.2.2.1.length (p102.2.2.1.flatMap eI)]) (deps := (fun | 0 => [60] | 1 => [61] | 2 => [62] | 3 => [63] | 4 => [64] | 5 => [65] | 6 => [66] | 7 => [67] | 8 => [68] | 9 => [69] | 10 => [70] | 11 => [71] | 12 => [72] | 13 => [73] | 14 => [74] | 15 => [75] | 16 => [76] | 17 => [77] | 18 => [78] | 19 => [79] | _ => [])) (rd := (fun _ => [])) (zr := (fun _ => []))
              (φ := fun i vs => match i, vs with | 0, [v60] => v60 = .pointer (some ⟨g111, 2, none⟩) | 1, [v61] => v61 = .slice B108 p107.2.2.1.length d110 | 2, [v62] => v62 = .int .i64 p125 | 3, [v63] => v63 = .pointer (some ⟨adB B108, adO B108 + p125.toNat * 1, none⟩) | 4, [v64] => v64 = .int .i64 (p107.2.2.1.getD p125.toNat (0 : Int)) | 5, [v65] => v65 = .int .i64 (Int.tmod (p107.2.2.1.getD p125.toNat (0 : Int)) 2) | 6, [v66] => v66 = .int .i64 p102.2.2.2 | 7, [v67] => v67 = .bool ((Int.tmod (p107.2.2.1.getD p125.toNat (0 : Int)) 2) != p102.2.2.2) | 8, [v68] => v68 = .bool ((Int.tmod (p107.2.2.1.getD p125.toNat (0 : Int)) 2) != p102.2.2.2) | 9, [v69] => v69 = gv (!((Int.tmod (p107.2.2.1.getD p125.toNat (0 : Int)) 2) != p102.2.2.2)) (.pointer (some ⟨g111, 2, none⟩)) | 10, [v70] => v70 = gv (!((Int.tmod (p107.2.2.1.getD p125.toNat (0 : Int)) 2) != p102.2.2.2)) (.slice B108 p107.2.2.1.length d110) | 11, [v71] => v71 = gv (!((Int.tmod (p107.2.2.1.getD p125.toNat (0 : Int)) 2) != p102.2.2.2)) (.int .i64 p125) | 12, [v72] => v72 = gv (!((Int.tmod (p107.2.2.1.getD p125.toNat (0 : Int)) 2) != p102.2.2.2)) (.pointer (some ⟨adB B108, adO B108 + p125.toNat * 1, none⟩)) | 13, [v73] => v73 = gv (!((Int.tmod (p107.2.2.1.getD p125.toNat (0 : Int)) 2) != p102.2.2.2)) (.int .i64 (p107.2.2.1.getD p125.toNat (0 : Int))) | 14, [v74] => v74 = gv (!((Int.tmod (p107.2.2.1.getD p125.toNat (0 : Int)) 2) != p102.2.2.2)) (.pointer (some ⟨g111, 2, none⟩)) | 15, [v75] => v75 = gv (!((Int.tmod (p107.2.2.1.getD p125.toNat (0 : Int)) 2) != p102.2.2.2)) (.slice B108 p107.2.2.1.length d110) | 16, [v76] => v76 = gv (!((Int.tmod (p107.2.2.1.getD p125.toNat (0 : Int)) 2) != p102.2.2.2)) (.pointer (some ⟨adB B108, adO B108 + ((0 : Int).toNat) * 1, none⟩)) | 17, [v77] => v77 = gv (!((Int.tmod (p107.2.2.1.getD p125.toNat (0 : Int)) 2) != p102.2.2.2)) (.int .i64 (p107.2.2.1.getD ((0 : Int).toNat) (0 : Int))) | 18, [v78] => v78 = gv (!((Int.tmod (p107.2.2.1.getD p125.toNat (0 : Int)) 2) != p102.2.2.2)) (.bool ((p107.2.2.1.getD p125.toNat (0 : Int)) != (p107.2.2.1.getD ((0 : Int).toNat) (0 : Int)))) | 19, [v79] => v79 = .bool (((Int.tmod (p107.2.2.1.getD p125.toNat (0 : Int)) 2) != p102.2.2.2) || ((p107.2.2.1.getD p125.toNat (0 : Int)) != (p107.2.2.1.getD ((0 : Int).toNat) (0 : Int)))) | _, _ => True)
              (C := fun _ _ => [])
              (κ := (fun _ => none)) (Z := (fun _ => [])) mixed hF (by kernel_rfl) S ?_ ?_
            · refine ⟨?_, ?_, ?_, ?_, ?_, ?_, ?_, ?_, ?_, ?_, ?_, ?_, ?_, ?_, ?_, ?_, ?_, ?_, ?_, ?_, trivial⟩
              · intro a u X hB hu hp hr hz hl S
                replace S : St w u ([] ++ X) := S
                exact .inl ⟨rfl, .pointer (some ⟨g111, 2, none⟩), u, (run_fieldAddr rfl fl25_2 (hF.evB hB rfl rfl) rfl), rfl, S⟩
              · intro a u X hB hu hp hr hz hl S
                replace S : St w u ([] ++ X) := S
                have e60 : sl a 60 = .pointer (some ⟨g111, 2, none⟩) := hp 0 rfl
                exact .inl ⟨rfl, .slice B108 p107.2.2.1.length d110, u, (run_load1 rfl one23 (ev_sl e60) ((gr_box S hl 1 rfl).cell rfl)), rfl, S⟩
              · intro a u X hB hu hp hr hz hl S
                replace S : St w u ([] ++ X) := S
                exact .inl ⟨rfl, .int .i64 p125, u, (run_move rfl (hF.evB hB rfl rfl)), rfl, S⟩
              · intro a u X hB hu hp hr hz hl S
                replace S : St w u ([] ++ X) := S
                have e61 : sl a 61 = .slice B108 p107.2.2.1.length d110 := hp 1 rfl
                have e62 : sl a 62 = .int .i64 p125 := hp 2 rfl
                exact .inl ⟨rfl, .pointer (some ⟨adB B108, adO B108 + p125.toNat * 1, none⟩), u, (run_indexAddr (b := adB B108) (off := adO B108) rfl Tryd.underlying23 sz3 ((ev_sl e61).trans (congrArg (fun A => Value.slice A p107.2.2.1.length d110) ((gr_rc S hl 4 rfl).rd.ad (ix_pos hk127)))) (ev_sl e62) hk127.1 hk127.2 (k' := adO B108 + p125.toNat * 1) rfl), rfl, S⟩
              · intro a u X hB hu hp hr hz hl S
                replace S : St w u ([] ++ X) := S
                have e63 : sl a 63 = .pointer (some ⟨adB B108, adO B108 + p125.toNat * 1, none⟩) := hp 3 rfl
                exact .inl ⟨rfl, .int .i64 (p107.2.2.1.getD p125.toNat (0 : Int)), u, (run_load1 rfl one3 (ev_sl e63) (rd_el0 (l := p107.2.2.1) (gr_rc S hl 4 rfl).rd rfl eI_len (0 : Int) (ix_ltn hk127 rfl) rfl)), rfl, S⟩
              · intro a u X hB hu hp hr hz hl S
                replace S : St w u ([] ++ X) := S
                have e64 : sl a 64 = .int .i64 (p107.2.2.1.getD p125.toNat (0 : Int)) := hp 4 rfl
                exact .inl ⟨rfl, .int .i64 (Int.tmod (p107.2.2.1.getD p125.toNat (0 : Int)) 2), u, (run_rem (z := Int.tmod (p107.2.2.1.getD p125.toNat (0 : Int)) 2) (ev_sl e64) (ev_const _ _) rfl (by decide) rfl), rfl, S⟩
              · intro a u X hB hu hp hr hz hl S
                replace S : St w u ([] ++ X) := S
                exact .inl ⟨rfl, .int .i64 p102.2.2.2, u, (run_move rfl (hF.evB hB rfl rfl)), rfl, S⟩
              · intro a u X hB hu hp hr hz hl S
                replace S : St w u ([] ++ X) := S
                have e65 : sl a 65 = .int .i64 (Int.tmod (p107.2.2.1.getD p125.toNat (0 : Int)) 2) := hp 5 rfl
                have e66 : sl a 66 = .int .i64 p102.2.2.2 := hp 6 rfl
                exact .inl ⟨rfl, .bool ((Int.tmod (p107.2.2.1.getD p125.toNat (0 : Int)) 2) != p102.2.2.2), u, (run_neq (ev_sl e65) (ev_sl e66) rfl), rfl, S⟩
              · intro a u X hB hu hp hr hz hl S
                replace S : St w u ([] ++ X) := S
                have e67 : sl a 67 = .bool ((Int.tmod (p107.2.2.1.getD p125.toNat (0 : Int)) 2) != p102.2.2.2) := hp 7 rfl
                exact .inl ⟨rfl, .bool ((Int.tmod (p107.2.2.1.getD p125.toNat (0 : Int)) 2) != p102.2.2.2), u, (run_move rfl (ev_sl e67)), rfl, S⟩
              · intro a u X hB hu hp hr hz hl S
                replace S : St w u ([] ++ X) := S
                have e68 : sl a 68 = .bool ((Int.tmod (p107.2.2.1.getD p125.toNat (0 : Int)) 2) != p102.2.2.2) := hp 8 rfl
                rcases (Bool.eq_false_or_eq_true (!((Int.tmod (p107.2.2.1.getD p125.toNat (0 : Int)) 2) != p102.2.2.2))).symm with hg | hg
                · exact .inr (.inr (.inr ⟨gr_eg rfl (yf (gr_yield rfl rfl e68)) hg, (gv_f hg).symm, S⟩))
                · exact .inl ⟨gr_eg rfl (yf (gr_yield rfl rfl e68)) hg, .pointer (some ⟨g111, 2, none⟩), u, (run_fieldAddr rfl fl25_2 (hF.evB hB rfl rfl) rfl), (gv_t hg).symm, S⟩
              · intro a u X hB hu hp hr hz hl S
                replace S : St w u ([] ++ X) := S
                have e68 : sl a 68 = .bool ((Int.tmod (p107.2.2.1.getD p125.toNat (0 : Int)) 2) != p102.2.2.2) := hp 8 rfl
                have e69 : sl a 69 = gv (!((Int.tmod (p107.2.2.1.getD p125.toNat (0 : Int)) 2) != p102.2.2.2)) (.pointer (some ⟨g111, 2, none⟩)) := hp 9 rfl
                rcases (Bool.eq_false_or_eq_true (!((Int.tmod (p107.2.2.1.getD p125.toNat (0 : Int)) 2) != p102.2.2.2))).symm with hg | hg
                · exact .inr (.inr (.inr ⟨gr_eg rfl (yf (gr_yield rfl rfl e68)) hg, (gv_f hg).symm, S⟩))
                · exact .inl ⟨gr_eg rfl (yf (gr_yield rfl rfl e68)) hg, .slice B108 p107.2.2.1.length d110, u, (run_load1 rfl one23 ((ev_sl e69).trans (gv_t hg)) ((gr_box S hl 1 rfl).cell rfl)), (gv_t hg).symm, S⟩
              · intro a u X hB hu hp hr hz hl S
                replace S : St w u ([] ++ X) := S
                have e68 : sl a 68 = .bool ((Int.tmod (p107.2.2.1.getD p125.toNat (0 : Int)) 2) != p102.2.2.2) := hp 8 rfl
                rcases (Bool.eq_false_or_eq_true (!((Int.tmod (p107.2.2.1.getD p125.toNat (0 : Int)) 2) != p102.2.2.2))).symm with hg | hg
                · exact .inr (.inr (.inr ⟨gr_eg rfl (yf (gr_yield rfl rfl e68)) hg, (gv_f hg).symm, S⟩))
                · exact .inl ⟨gr_eg rfl (yf (gr_yield rfl rfl e68)) hg, .int .i64 p125, u, (run_move rfl (hF.evB hB rfl rfl)), (gv_t hg).symm, S⟩
              · intro a u X hB hu hp hr hz hl S
                replace S : St w u ([] ++ X) := S
                have e68 : sl a 68 = .bool ((Int.tmod (p107.2.2.1.getD p125.toNat (0 : Int)) 2) != p102.2.2.2) := hp 8 rfl
                have e70 : sl a 70 = gv (!((Int.tmod (p107.2.2.1.getD p125.toNat (0 : Int)) 2) != p102.2.2.2)) (.slice B108 p107.2.2.1.length d110) := hp 10 rfl
                have e71 : sl a 71 = gv (!((Int.tmod (p107.2.2.1.getD p125.toNat (0 : Int)) 2) != p102.2.2.2)) (.int .i64 p125) := hp 11 rfl
                rcases (Bool.eq_false_or_eq_true (!((Int.tmod (p107.2.2.1.getD p125.toNat (0 : Int)) 2) != p102.2.2.2))).symm with hg | hg
                · exact .inr (.inr (.inr ⟨gr_eg rfl (yf (gr_yield rfl rfl e68)) hg, (gv_f hg).symm, S⟩))
                · exact .inl ⟨gr_eg rfl (yf (gr_yield rfl rfl e68)) hg, .pointer (some ⟨adB B108, adO B108 + p125.toNat * 1, none⟩), u, (run_indexAddr (b := adB B108) (off := adO B108) rfl Tryd.underlying23 sz3 (((ev_sl e70).trans (gv_t hg)).trans (congrArg (fun A => Value.slice A p107.2.2.1.length d110) ((gr_rc S hl 4 rfl).rd.ad (ix_pos (hk128 hg))))) ((ev_sl e71).trans (gv_t hg)) (hk128 hg).1 (hk128 hg).2 (k' := adO B108 + p125.toNat * 1) rfl), (gv_t hg).symm, S⟩
              · intro a u X hB hu hp hr hz hl S
                replace S : St w u ([] ++ X) := S
                have e68 : sl a 68 = .bool ((Int.tmod (p107.2.2.1.getD p125.toNat (0 : Int)) 2) != p102.2.2.2) := hp 8 rfl
                have e72 : sl a 72 = gv (!((Int.tmod (p107.2.2.1.getD p125.toNat (0 : Int)) 2) != p102.2.2.2)) (.pointer (some ⟨adB B108, adO B108 + p125.toNat * 1, none⟩)) := hp 12 rfl
                rcases (Bool.eq_false_or_eq_true (!((Int.tmod (p107.2.2.1.getD p125.toNat (0 : Int)) 2) != p102.2.2.2))).symm with hg | hg
                · exact .inr (.inr (.inr ⟨gr_eg rfl (yf (gr_yield rfl rfl e68)) hg, (gv_f hg).symm, S⟩))
                · exact .inl ⟨gr_eg rfl (yf (gr_yield rfl rfl e68)) hg, .int .i64 (p107.2.2.1.getD p125.toNat (0 : Int)), u, (run_load1 rfl one3 ((ev_sl e72).trans (gv_t hg)) (rd_el0 (l := p107.2.2.1) (gr_rc S hl 4 rfl).rd rfl eI_len (0 : Int) (ix_ltn (hk128 hg) rfl) rfl)), (gv_t hg).symm, S⟩
              · intro a u X hB hu hp hr hz hl S
                replace S : St w u ([] ++ X) := S
                have e68 : sl a 68 = .bool ((Int.tmod (p107.2.2.1.getD p125.toNat (0 : Int)) 2) != p102.2.2.2) := hp 8 rfl
                rcases (Bool.eq_false_or_eq_true (!((Int.tmod (p107.2.2.1.getD p125.toNat (0 : Int)) 2) != p102.2.2.2))).symm with hg | hg
                · exact .inr (.inr (.inr ⟨gr_eg rfl (yf (gr_yield rfl rfl e68)) hg, (gv_f hg).symm, S⟩))
                · exact .inl ⟨gr_eg rfl (yf (gr_yield rfl rfl e68)) hg, .pointer (some ⟨g111, 2, none⟩), u, (run_fieldAddr rfl fl25_2 (hF.evB hB rfl rfl) rfl), (gv_t hg).symm, S⟩
              · intro a u X hB hu hp hr hz hl S
                replace S : St w u ([] ++ X) := S
                have e68 : sl a 68 = .bool ((Int.tmod (p107.2.2.1.getD p125.toNat (0 : Int)) 2) != p102.2.2.2) := hp 8 rfl
                have e74 : sl a 74 = gv (!((Int.tmod (p107.2.2.1.getD p125.toNat (0 : Int)) 2) != p102.2.2.2)) (.pointer (some ⟨g111, 2, none⟩)) := hp 14 rfl
                rcases (Bool.eq_false_or_eq_true (!((Int.tmod (p107.2.2.1.getD p125.toNat (0 : Int)) 2) != p102.2.2.2))).symm with hg | hg
                · exact .inr (.inr (.inr ⟨gr_eg rfl (yf (gr_yield rfl rfl e68)) hg, (gv_f hg).symm, S⟩))
                · exact .inl ⟨gr_eg rfl (yf (gr_yield rfl rfl e68)) hg, .slice B108 p107.2.2.1.length d110, u, (run_load1 rfl one23 ((ev_sl e74).trans (gv_t hg)) ((gr_box S hl 1 rfl).cell rfl)), (gv_t hg).symm, S⟩
              · intro a u X hB hu hp hr hz hl S
                replace S : St w u ([] ++ X) := S
                have e68 : sl a 68 = .bool ((Int.tmod (p107.2.2.1.getD p125.toNat (0 : Int)) 2) != p102.2.2.2) := hp 8 rfl
                have e75 : sl a 75 = gv (!((Int.tmod (p107.2.2.1.getD p125.toNat (0 : Int)) 2) != p102.2.2.2)) (.slice B108 p107.2.2.1.length d110) := hp 15 rfl
                rcases (Bool.eq_false_or_eq_true (!((Int.tmod (p107.2.2.1.getD p125.toNat (0 : Int)) 2) != p102.2.2.2))).symm with hg | hg
                · exact .inr (.inr (.inr ⟨gr_eg rfl (yf (gr_yield rfl rfl e68)) hg, (gv_f hg).symm, S⟩))
                · exact .inl ⟨gr_eg rfl (yf (gr_yield rfl rfl e68)) hg, .pointer (some ⟨adB B108, adO B108 + ((0 : Int).toNat) * 1, none⟩), u, (run_indexAddr (b := adB B108) (off := adO B108) rfl Tryd.underlying23 sz3 (((ev_sl e75).trans (gv_t hg)).trans (congrArg (fun A => Value.slice A p107.2.2.1.length d110) ((gr_rc S hl 4 rfl).rd.ad (ix_pos (hk129 hg))))) (ev_const _ _) (hk129 hg).1 (hk129 hg).2 (k' := adO B108 + ((0 : Int).toNat) * 1) rfl), (gv_t hg).symm, S⟩
              · intro a u X hB hu hp hr hz hl S
                replace S : St w u ([] ++ X) := S
                have e68 : sl a 68 = .bool ((Int.tmod (p107.2.2.1.getD p125.toNat (0 : Int)) 2) != p102.2.2.2) := hp 8 rfl
                have e76 : sl a 76 = gv (!((Int.tmod (p107.2.2.1.getD p125.toNat (0 : Int)) 2) != p102.2.2.2)) (.pointer (some ⟨adB B108, adO B108 + ((0 : Int).toNat) * 1, none⟩)) := hp 16 rfl
                rcases (Bool.eq_false_or_eq_true (!((Int.tmod (p107.2.2.1.getD p125.toNat (0 : Int)) 2) != p102.2.2.2))).symm with hg | hg
                · exact .inr (.inr (.inr ⟨gr_eg rfl (yf (gr_yield rfl rfl e68)) hg, (gv_f hg).symm, S⟩))
                · exact .inl ⟨gr_eg rfl (yf (gr_yield rfl rfl e68)) hg, .int .i64 (p107.2.2.1.getD ((0 : Int).toNat) (0 : Int)), u, (run_load1 rfl one3 ((ev_sl e76).trans (gv_t hg)) (rd_el0 (l := p107.2.2.1) (gr_rc S hl 4 rfl).rd rfl eI_len (0 : Int) (ix_ltn (hk129 hg) rfl) rfl)), (gv_t hg).symm, S⟩
              · intro a u X hB hu hp hr hz hl S
                replace S : St w u ([] ++ X) := S
                have e68 : sl a 68 = .bool ((Int.tmod (p107.2.2.1.getD p125.toNat (0 : Int)) 2) != p102.2.2.2) := hp 8 rfl
                have e73 : sl a 73 = gv (!((Int.tmod (p107.2.2.1.getD p125.toNat (0 : Int)) 2) != p102.2.2.2)) (.int .i64 (p107.2.2.1.getD p125.toNat (0 : Int))) := hp 13 rfl
                have e77 : sl a 77 = gv (!((Int.tmod (p107.2.2.1.getD p125.toNat (0 : Int)) 2) != p102.2.2.2)) (.int .i64 (p107.2.2.1.getD ((0 : Int).toNat) (0 : Int))) := hp 17 rfl
                rcases (Bool.eq_false_or_eq_true (!((Int.tmod (p107.2.2.1.getD p125.toNat (0 : Int)) 2) != p102.2.2.2))).symm with hg | hg
                · exact .inr (.inr (.inr ⟨gr_eg rfl (yf (gr_yield rfl rfl e68)) hg, (gv_f hg).symm, S⟩))
                · exact .inl ⟨gr_eg rfl (yf (gr_yield rfl rfl e68)) hg, .bool ((p107.2.2.1.getD p125.toNat (0 : Int)) != (p107.2.2.1.getD ((0 : Int).toNat) (0 : Int))), u, (run_neq ((ev_sl e73).trans (gv_t hg)) ((ev_sl e77).trans (gv_t hg)) rfl), (gv_t hg).symm, S⟩
              · intro a u X hB hu hp hr hz hl S
                replace S : St w u ([] ++ X) := S
                have e68 : sl a 68 = .bool ((Int.tmod (p107.2.2.1.getD p125.toNat (0 : Int)) 2) != p102.2.2.2) := hp 8 rfl
                have e78 : sl a 78 = gv (!((Int.tmod (p107.2.2.1.getD p125.toNat (0 : Int)) 2) != p102.2.2.2)) (.bool ((p107.2.2.1.getD p125.toNat (0 : Int)) != (p107.2.2.1.getD ((0 : Int).toNat) (0 : Int)))) := hp 18 rfl
                exact .inl ⟨rfl, .bool (((Int.tmod (p107.2.2.1.getD p125.toNat (0 : Int)) 2) != p102.2.2.2) || ((p107.2.2.1.getD p125.toNat (0 : Int)) != (p107.2.2.1.getD ((0 : Int).toNat) (0 : Int)))), u, (run_pick_or rfl (ev_sl e68) (ev_const _ _) (fun hp => ((ev_sl e78).trans (gv_t (not_t hp))))), rfl, S⟩
            · intro a u hB hp S
              obtain ⟨q0, q1, q2, q3, q4, q5, q6, q7, q8, q9, q10, q11, q12, q13, q14, q15, q16, q17, q18, q19, _⟩ := hp
              have e60 : sl a 60 = .pointer (some ⟨g111, 2, none⟩) := q0
              have e61 : sl a 61 = .slice B108 p107.2.2.1.length d110 := q1
              have e62 : sl a 62 = .int .i64 p125 := q2
              have e63 : sl a 63 = .pointer (some ⟨adB B108, adO B108 + p125.toNat * 1, none⟩) := q3
              have e64 : sl a 64 = .int .i64 (p107.2.2.1.getD p125.toNat (0 : Int)) := q4
              have e65 : sl a 65 = .int .i64 (Int.tmod (p107.2.2.1.getD p125.toNat (0 : Int)) 2) := q5
              have e66 : sl a 66 = .int .i64 p102.2.2.2 := q6
              have e67 : sl a 67 = .bool ((Int.tmod (p107.2.2.1.getD p125.toNat (0 : Int)) 2) != p102.2.2.2) := q7
              have e68 : sl a 68 = .bool ((Int.tmod (p107.2.2.1.getD p125.toNat (0 : Int)) 2) != p102.2.2.2) := q8
              have e69 : sl a 69 = gv (!((Int.tmod (p107.2.2.1.getD p125.toNat (0 : Int)) 2) != p102.2.2.2)) (.pointer (some ⟨g111, 2, none⟩)) := q9
              have e70 : sl a 70 = gv (!((Int.tmod (p107.2.2.1.getD p125.toNat (0 : Int)) 2) != p102.2.2.2)) (.slice B108 p107.2.2.1.length d110) := q10
              have e71 : sl a 71 = gv (!((Int.tmod (p107.2.2.1.getD p125.toNat (0 : Int)) 2) != p102.2.2.2)) (.int .i64 p125) := q11
              have e72 : sl a 72 = gv (!((Int.tmod (p107.2.2.1.getD p125.toNat (0 : Int)) 2) != p102.2.2.2)) (.pointer (some ⟨adB B108, adO B108 + p125.toNat * 1, none⟩)) := q12
              have e73 : sl a 73 = gv (!((Int.tmod (p107.2.2.1.getD p125.toNat (0 : Int)) 2) != p102.2.2.2)) (.int .i64 (p107.2.2.1.getD p125.toNat (0 : Int))) := q13
              have e74 : sl a 74 = gv (!((Int.tmod (p107.2.2.1.getD p125.toNat (0 : Int)) 2) != p102.2.2.2)) (.pointer (some ⟨g111, 2, none⟩)) := q14
              have e75 : sl a 75 = gv (!((Int.tmod (p107.2.2.1.getD p125.toNat (0 : Int)) 2) != p102.2.2.2)) (.slice B108 p107.2.2.1.length d110) := q15
              have e76 : sl a 76 = gv (!((Int.tmod (p107.2.2.1.getD p125.toNat (0 : Int)) 2) != p102.2.2.2)) (.pointer (some ⟨adB B108, adO B108 + ((0 : Int).toNat) * 1, none⟩)) := q16
              have e77 : sl a 77 = gv (!((Int.tmod (p107.2.2.1.getD p125.toNat (0 : Int)) 2) != p102.2.2.2)) (.int .i64 (p107.2.2.1.getD ((0 : Int).toNat) (0 : Int))) := q17
              have e78 : sl a 78 = gv (!((Int.tmod (p107.2.2.1.getD p125.toNat (0 : Int)) 2) != p102.2.2.2)) (.bool ((p107.2.2.1.getD p125.toNat (0 : Int)) != (p107.2.2.1.getD ((0 : Int).toNat) (0 : Int)))) := q18
              have e79 : sl a 79 = .bool (((Int.tmod (p107.2.2.1.getD p125.toNat (0 : Int)) 2) != p102.2.2.2) || ((p107.2.2.1.getD p125.toNat (0 : Int)) != (p107.2.2.1.getD ((0 : Int).toNat) (0 : Int)))) := q19
              replace S : St w u [.box g116 25 #[.int .i64 p112.1, .int .i64 p112.2.1, .slice B113 p112.2.2.1.length d115], .box g111 25 #[.int .i64 p107.1, .int .i64 p107.2.1, .slice B108 p107.2.2.1.length d110], .box g106 25 #[.int .i64 p102.1, .int .i64 p102.2.1, .slice B103 p102.2.2.1.length d105], .row 3 1 (.slice B113 p112.2.2.1.length d115) p112.2.2.1.length (p112.2.2.1.flatMap eI), .row 3 1 (.slice B108 p107.2.2.1.length d110) p107.2.2.1.length (p107.2.2.1.flatMap eI), .row 3 1 (.slice B103 p102.2.2.1.length d105) p102.2.2.1.length (p102.2.2.1.flatMap eI)] := S
              clear q0 q1 q2 q3 q4 q5 q6 q7 q8 q9 q10 q11 q12 q13 q14 q15 q16 q17 q18 q19
              have hF := hF.region hB [(60, .pointer (some ⟨g111, 2, none⟩)), (61, .slice B108 p107.2.2.1.length d110), (62, .int .i64 p125), (63, .pointer (some ⟨adB B108, adO B108 + p125.toNat * 1, none⟩)), (64, .int .i64 (p107.2.2.1.getD p125.toNat (0 : Int))), (65, .int .i64 (Int.tmod (p107.2.2.1.getD p125.toNat (0 : Int)) 2)), (66, .int .i64 p102.2.2.2), (67, .bool ((Int.tmod (p107.2.2.1.getD p125.toNat (0 : Int)) 2) != p102.2.2.2)), (68, .bool ((Int.tmod (p107.2.2.1.getD p125.toNat (0 : Int)) 2) != p102.2.2.2)), (69, gv (!((Int.tmod (p107.2.2.1.getD p125.toNat (0 : Int)) 2) != p102.2.2.2)) (.pointer (some ⟨g111, 2, none⟩))), (70, gv (!((Int.tmod (p107.2.2.1.getD p125.toNat (0 : Int)) 2) != p102.2.2.2)) (.slice B108 p107.2.2.1.length d110)), (71, gv (!((Int.tmod (p107.2.2.1.getD p125.toNat (0 : Int)) 2) != p102.2.2.2)) (.int .i64 p125)), (72, gv (!((Int.tmod (p107.2.2.1.getD p125.toNat (0 : Int)) 2) != p102.2.2.2)) (.pointer (some ⟨adB B108, adO B108 + p125.toNat * 1, none⟩))), (73, gv (!((Int.tmod (p107.2.2.1.getD p125.toNat (0 : Int)) 2) != p102.2.2.2)) (.int .i64 (p107.2.2.1.getD p125.toNat (0 : Int)))), (74, gv (!((Int.tmod (p107.2.2.1.getD p125.toNat (0 : Int)) 2) != p102.2.2.2)) (.pointer (some ⟨g111, 2, none⟩))), (75, gv (!((Int.tmod (p107.2.2.1.getD p125.toNat (0 : Int)) 2) != p102.2.2.2)) (.slice B108 p107.2.2.1.length d110)), (76, gv (!((Int.tmod (p107.2.2.1.getD p125.toNat (0 : Int)) 2) != p102.2.2.2)) (.pointer (some ⟨adB B108, adO B108 + ((0 : Int).toNat) * 1, none⟩))), (77, gv (!((Int.tmod (p107.2.2.1.getD p125.toNat (0 : Int)) 2) != p102.2.2.2)) (.int .i64 (p107.2.2.1.getD ((0 : Int).toNat) (0 : Int)))), (78, gv (!((Int.tmod (p107.2.2.1.getD p125.toNat (0 : Int)) 2) != p102.2.2.2)) (.bool ((p107.2.2.1.getD p125.toNat (0 : Int)) != (p107.2.2.1.getD ((0 : Int).toNat) (0 : Int))))), (79, .bool (((Int.tmod (p107.2.2.1.getD p125.toNat (0 : Int)) 2) != p102.2.2.2) || ((p107.2.2.1.getD p125.toNat (0 : Int)) != (p107.2.2.1.getD ((0 : Int).toNat) (0 : Int)))))] (allSl_mem ⟨e60, e61, e62, e63, e64, e65, e66, e67, e68, e69, e70, e71, e72, e73, e74, e75, e76, e77, e78, e79, trivial⟩) rfl
              clear hB e60 e61 e62 e63 e64 e65 e66 e67 e68 e69 e70 e71 e72 e73 e74 e75 e76 e77 e78 e79
              cases hc130 : (((Int.tmod (p107.2.2.1.getD p125.toNat (0 : Int)) 2) != p102.2.2.2) || ((p107.2.2.1.getD p125.toNat (0 : Int)) != (p107.2.2.1.getD ((0 : Int).toNat) (0 : Int))))
              · replace hM124 := bif_f hc130 hM124
                refine cond_f hF rfl hc130 ?_
                refine wp_skip ?_
                refine wp_region_lit ?_
                refine op_val (v := .int .i64 p125) rfl rfl hF rfl (run_move rfl (hF.ev rfl)) ?_; clear hF; intro a hF
                refine op_val (v := .int .i64 (w64 (p125 + 1))) rfl rfl hF rfl (run_add (z := w64 (p125 + 1)) (hF.ev rfl) rfl rfl rfl) ?_; clear hF; intro a hF
                refine op_val (v := .int .i64 (w64 (p125 + 1))) rfl rfl hF rfl (run_assign rfl (hF.ev rfl)) ?_; clear hF; intro a hF
                refine wpList_nil ?_
                exact ⟨f1, Nat.lt_succ_self _, w64 (p125 + 1), hM124, hF.keep _ ⟨rfl, rfl, rfl, rfl, rfl, trivial⟩, S.sel [0, 1, 2, 3, 4, 5] rfl rfl⟩
              · replace hM124 := bif_t hc130 hM124
                refine cond_t hF rfl hc130 ?_
                refine wp_seq ?_
                refine wp_region_lit ?_
                refine op_val (v := .bool false) rfl rfl hF rfl (run_assign rfl rfl) ?_; clear hF; intro a hF
                refine wpList_nil ?_
                refine wp_ret ?_
                repeat with_reducible (first | refine then_ret ?_ | refine in_ret ?_ | refine in_nrm ?_)
                refine ret1_gw (.inl rfl) hF rfl (res_tmp (hF.ev rfl)) ?_
                obtain rfl := Option.some.inj hM124
                obtain rfl := Option.some.inj hM
                exact ⟨rfl, S.sel [] rfl rfl⟩
        · rintro a u ⟨p122, rfl, hF, S⟩
          replace hM := elim_l hM
          refine wp_seq ?_
          refine wp_region_lit ?_
          refine op_val (v := .agg #[.int .i64 p107.1, .int .i64 p107.2.1, .slice B108 p107.2.2.1.length d110]) rfl rfl hF rfl (run_loadN rfl ag25 (hF.ev rfl) rfl ((S.free 1 rfl).cells 0 #[.int .i64 p107.1, .int .i64 p107.2.1, .slice B108 p107.2.2.1.length d110] rfl)) ?_; clear hF; intro a hF
          obtain ⟨p131, h131, hM⟩ := bind_ex hM
          refine op_call rfl rfl hF rfl (run_call (vs := [.agg #[.int .i64 p107.1, .int .i64 p107.2.1, .slice B108 p107.2.2.1.length d110]]) rfl rfl co10 ⟨(hF.ev rfl), trivial⟩) (c_impl_RoomsValid (x0 := p107.1) (x1 := p107.2.1) (x2 := p107.2.2.1) ⟨(S.rc 4 rfl), rfl⟩ h131) ?_
          rintro e u ⟨rfl, T⟩
          refine ⟨_, rfl, ?_⟩
          clear hF; intro a hF
          replace S := S.call0 T; clear T
          refine op_val (v := .bool p131) rfl rfl hF rfl (run_move rfl (hF.ev rfl)) ?_; clear hF; intro a hF
          refine op_gv (v := .agg #[.int .i64 p107.1, .int .i64 p107.2.1, .slice B108 p107.2.2.1.length d110]) rfl rfl hF rfl (yt (gw_yield hF rfl rfl rfl)) (fun hg => (run_loadN rfl ag25 (hF.ev rfl) rfl ((S.free 1 rfl).cells 0 #[.int .i64 p107.1, .int .i64 p107.2.1, .slice B108 p107.2.2.1.length d110] rfl))) ?_; clear hF; intro a hF
          refine op_gv (v := .int .i64 p102.2.2.2) rfl rfl hF rfl (yt (gw_yield hF rfl rfl rfl)) (fun hg => (run_move rfl (hF.ev rfl))) ?_; clear hF; intro a hF
          obtain ⟨p132, h132, hM⟩ := bind_ex hM
          refine op_gcall (v := .bool p132) rfl rfl hF rfl S (yt (gw_yield hF rfl rfl rfl)) (fun hg => (run_call (vs := [.agg #[.int .i64 p107.1, .int .i64 p107.2.1, .slice B108 p107.2.2.1.length d110], .int .i64 p102.2.2.2]) rfl rfl co16 ⟨((hF.ev rfl).trans (gv_t hg)), ((hF.ev rfl).trans (gv_t hg)), trivial⟩)) (fun hg => c_impl_RoomMay (x0 := p107.1) (x1 := p107.2.1) (x2 := p107.2.2.1) (x3 := p102.2.2.2) ⟨(S.rc 4 rfl), rfl⟩ (gb_t h132 hg)) ?_; clear hF S; intro a u hF S
          refine op_val (v := .bool (p131 && p132)) rfl rfl hF rfl (run_pick_and rfl (hF.ev rfl) (fun hp => ((hF.ev rfl).trans (gv_t hp))) rfl) ?_; clear hF; intro a hF
          refine op_val (v := .bool (p131 && p132)) rfl rfl hF rfl (run_move rfl (hF.ev rfl)) ?_; clear hF; intro a hF
          refine op_gv (v := .agg #[.int .i64 p107.1, .int .i64 p107.2.1, .slice B108 p107.2.2.1.length d110]) rfl rfl hF rfl (yt (gw_yield hF rfl rfl rfl)) (fun hg => (run_loadN rfl ag25 (hF.ev rfl) rfl ((S.free 1 rfl).cells 0 #[.int .i64 p107.1, .int .i64 p107.2.1, .slice B108 p107.2.2.1.length d110] rfl))) ?_; clear hF; intro a hF
          refine op_gv (v := .int .i64 p102.2.2.2) rfl rfl hF rfl (yt (gw_yield hF rfl rfl rfl)) (fun hg => (run_move rfl (hF.ev rfl))) ?_; clear hF; intro a hF
          refine op_gv (v := .int .i64 (w64 (1 - p102.2.2.2))) rfl rfl hF rfl (yt (gw_yield hF rfl rfl rfl)) (fun hg => (run_sub (z := w64 (1 - p102.2.2.2)) rfl ((hF.ev rfl).trans (gv_t hg)) rfl rfl)) ?_; clear hF; intro a hF
          obtain ⟨p133, h133, hM⟩ := bind_ex hM
          refine op_gcall (v := .bool p133) rfl rfl hF rfl S (yt (gw_yield hF rfl rfl rfl)) (fun hg => (run_call (vs := [.agg #[.int .i64 p107.1, .int .i64 p107.2.1, .slice B108 p107.2.2.1.length d110], .int .i64 (w64 (1 - p102.2.2.2))]) rfl rfl co16 ⟨((hF.ev rfl).trans (gv_t hg)), ((hF.ev rfl).trans (gv_t hg)), trivial⟩)) (fun hg => c_impl_RoomMay (x0 := p107.1) (x1 := p107.2.1) (x2 := p107.2.2.1) (x3 := w64 (1 - p102.2.2.2)) ⟨(S.rc 4 rfl), rfl⟩ (gb_t h133 hg)) ?_; clear hF S; intro a u hF S
          refine op_gv (v := .bool (!p133)) rfl rfl hF rfl (yt (gw_yield hF rfl rfl rfl)) (fun hg => (run_not rfl ((hF.ev rfl).trans (gv_t hg)))) ?_; clear hF; intro a hF
          refine op_val (v := .bool ((p131 && p132) && (!p133))) rfl rfl hF rfl (run_pick_and rfl (hF.ev rfl) (fun hp => ((hF.ev rfl).trans (gv_t hp))) rfl) ?_; clear hF; intro a hF
          refine op_val (v := .bool ((p131 && p132) && (!p133))) rfl rfl hF rfl (run_move rfl (hF.ev rfl)) ?_; clear hF; intro a hF
          refine op_gv (v := .pointer (some ⟨g111, 2, none⟩)) rfl rfl hF rfl (yt (gw_yield hF rfl rfl rfl)) (fun hg => (run_fieldAddr rfl fl25_2 (hF.ev rfl) rfl)) ?_; clear hF; intro a hF
          refine op_gv (v := .slice B108 p107.2.2.1.length d110) rfl rfl hF rfl (yt (gw_yield hF rfl rfl rfl)) (fun hg => (run_load1 rfl one23 ((hF.ev rfl).trans (gv_t hg)) ((S.free 1 rfl).cell rfl))) ?_; clear hF; intro a hF
          refine op_gv (v := .int .i64 (p107.2.2.1.length : Int)) rfl rfl hF rfl (yt (gw_yield hF rfl rfl rfl)) (fun hg => (run_lenL rfl rfl Tryd.underlying23 ((hF.ev rfl).trans (gv_t hg)))) ?_; clear hF; intro a hF
          refine op_gv (v := .pointer (some ⟨g106, 2, none⟩)) rfl rfl hF rfl (yt (gw_yield hF rfl rfl rfl)) (fun hg => (run_fieldAddr rfl fl25_2 (hF.ev rfl) rfl)) ?_; clear hF; intro a hF
          refine op_gv (v := .slice B103 p102.2.2.1.length d105) rfl rfl hF rfl (yt (gw_yield hF rfl rfl rfl)) (fun hg => (run_load1 rfl one23 ((hF.ev rfl).trans (gv_t hg)) ((S.free 2 rfl).cell rfl))) ?_; clear hF; intro a hF
          refine op_gv (v := .int .i64 (p102.2.2.1.length : Int)) rfl rfl hF rfl (yt (gw_yield hF rfl rfl rfl)) (fun hg => (run_lenL rfl rfl Tryd.underlying23 ((hF.ev rfl).trans (gv_t hg)))) ?_; clear hF; intro a hF
          refine op_gv (v := .bool ((p107.2.2.1.length : Int) == (p102.2.2.1.length : Int))) rfl rfl hF rfl (yt (gw_yield hF rfl rfl rfl)) (fun hg => (run_eql ((hF.ev rfl).trans (gv_t hg)) ((hF.ev rfl).trans (gv_t hg)) rfl)) ?_; clear hF; intro a hF
          refine op_val (v := .bool (((p131 && p132) && (!p133)) && ((p107.2.2.1.length : Int) == (p102.2.2.1.length : Int)))) rfl rfl hF rfl (run_pick_and rfl (hF.ev rfl) (fun hp => ((hF.ev rfl).trans (gv_t hp))) rfl) ?_; clear hF; intro a hF
          refine op_val (v := .bool (((p131 && p132) && (!p133)) && ((p107.2.2.1.length : Int) == (p102.2.2.1.length : Int)))) rfl rfl hF rfl (run_assign rfl (hF.ev rfl)) ?_; clear hF; intro a hF
          refine wpList_nil ?_
          refine wp_ret ?_
          repeat with_reducible (first | refine then_ret ?_ | refine in_ret ?_ | refine in_nrm ?_)
          refine ret1_gw (.inl rfl) hF rfl (res_tmp (hF.ev rfl)) ?_
          obtain rfl := Option.some.inj hM
          exact ⟨rfl, S.sel [] rfl rfl⟩
    · replace hM := bif_t hc118 hM
      refine cond_t hF rfl hc118 ?_
      refine wp_seq ?_
      refine wp_region_lit ?_
      refine op_val (v := .bool false) rfl rfl hF rfl (run_assign rfl rfl) ?_; clear hF; intro a hF
      refine wpList_nil ?_
      refine wp_ret ?_
      repeat with_reducible (first | refine then_ret ?_ | refine in_ret ?_ | refine in_nrm ?_)
      refine ret1_gw (.inl rfl) hF rfl (res_tmp (hF.ev rfl)) ?_
      obtain rfl := Option.some.inj hM
      exact ⟨rfl, S.sel [] rfl rfl⟩
  · replace hM := bif_t hc101 hM
    refine cond_t hF rfl hc101 ?_
    refine wp_seq ?_
    refine wp_region_lit ?_
    refine op_val (v := .bool true) rfl rfl hF rfl (run_assign rfl rfl) ?_; clear hF; intro a hF
    refine wpList_nil ?_
    refine wp_ret ?_
    repeat with_reducible (first | refine then_ret ?_ | refine in_ret ?_ | refine in_nrm ?_)
    refine ret1_gw (.inl rfl) hF rfl (res_tmp (hF.ev rfl)) ?_
    obtain rfl := Option.some.inj hM
    exact ⟨rfl, S.sel [] rfl rfl⟩

end Go.Proofs.YthpmmfbnclfbmaaDoor
