/- Calls return what the models say. -/
import Derived.Test.YthpmmfbnclfbmaaDa1
namespace Go.Proofs.Ythpmmfbnclfbmaa
open Go.ChangeShapes Go.WideShapes Go.ChangeAt Go.RowKit
set_option linter.unusedVariables false
set_option linter.unusedSimpArgs false

set_option maxHeartbeats 4000000 in
theorem c_impl_RoomsDo {x0 : Int} {x1 : Int} {x2 : List Int} {x3 : Int} {x4 : Int} {x5 : Int} {A2 : Option Addr} {n2 c2 : Nat} {w : World} {r : Int × Int × List Int × Bool} (h2 : Rt w 1 eI A2 n2 c2 x2) (hM : m_impl_RoomsDo x0 x1 x2 x3 x4 x5 = some r) :
    Calls Try.prog 10 #[.agg #[.int .i64 x0, .int .i64 x1, .slice A2 n2 c2], .agg #[.int .i64 x3, .int .i64 x4, .int .i64 x5]] w (fun e w' => ∃ (B0 : Option Addr) (N0 D0 : Nat), e = .returned (.tuple #[.agg #[.int .i64 r.1, .int .i64 r.2.1, .slice B0 N0 D0], .bool r.2.2.2]) ∧ N0 = r.2.2.1.length ∧ St w w' [.row 3 1 (.slice B0 N0 D0) N0 (r.2.2.1.flatMap eI)]) := by
  obtain rfl := h2.len
  unfold m_impl_RoomsDo at hM
  refine calls_gw Try.func10 Try.ntmps10 rfl [(0, .agg #[.int .i64 x0, .int .i64 x1, .slice A2 x2.length c2]), (1, .agg #[.int .i64 x3, .int .i64 x4, .int .i64 x5])] ⟨rfl, rfl, trivial⟩ rfl ?_
  intro a hF
  have S := St.nil w
  refine wp_seq ?_
  refine wp_region_lit ?_
  refine op_new (cs := #[.int .i64 x0, .int .i64 x1, .slice A2 x2.length c2]) rfl rfl hF rfl S (run_box rfl (hF.ev rfl) rfl) ?_; clear hF S; intro a g101 u hF S
  refine op_new (cs := #[.int .i64 x3, .int .i64 x4, .int .i64 x5]) rfl rfl hF rfl S (run_box rfl (hF.ev rfl) rfl) ?_; clear hF S; intro a g102 u hF S
  refine op_new (cs := #[.int .i64 0, .int .i64 0, .slice none 0 0]) rfl rfl hF rfl S (run_allocZ rfl zr28) ?_; clear hF S; intro a g103 u hF S
  refine op_val (v := .bool false) rfl rfl hF rfl (run_assign rfl rfl) ?_; clear hF; intro a hF
  refine wpList_nil ?_
  refine wp_seq ?_
  refine wp_seq ?_
  refine wp_region_lit ?_
  refine op_val (v := .agg #[.int .i64 x0, .int .i64 x1, .slice A2 x2.length c2]) rfl rfl hF rfl (run_loadN rfl ag28 (hF.ev rfl) rfl ((S.free 2 rfl).cells 0 #[.int .i64 x0, .int .i64 x1, .slice A2 x2.length c2] rfl)) ?_; clear hF; intro a hF
  obtain ⟨p104, h104, hM⟩ := bind_ex hM
  refine op_call rfl rfl hF rfl (run_call (vs := [.agg #[.int .i64 x0, .int .i64 x1, .slice A2 x2.length c2]]) rfl rfl co28 ⟨(hF.ev rfl), trivial⟩) (c_impl_RoomsValid (x0 := x0) (x1 := x1) (x2 := x2) ⟨(S.rc0 h2.rc), rfl⟩ h104) ?_
  rintro e u ⟨rfl, T⟩
  refine ⟨_, rfl, ?_⟩
  clear hF; intro a hF
  replace S := S.call0 T; clear T
  refine op_val (v := .bool (!p104)) rfl rfl hF rfl (run_not rfl (hF.ev rfl)) ?_; clear hF; intro a hF
  refine wpList_nil ?_
  cases hc105 : (p104)
  · replace hM := bif_f hc105 hM
    refine cond_t hF rfl (not_t hc105) ?_
    refine wp_seq ?_
    refine wp_region_lit ?_
    refine op_val (v := .agg #[.int .i64 0, .int .i64 0, .slice none 0 0]) rfl rfl hF rfl (run_build (vs := []) rfl trivial (bd28 )) ?_; clear hF; intro a hF
    refine op_do rfl rfl (run_store (cs' := #[.int .i64 0, .int .i64 0, .slice none 0 0]) rfl sz28 (hF.ev rfl) (hF.ev rfl) rfl rfl rfl (S.free 0 rfl) rfl rfl) ?_; replace S := S.put 0 rfl (#[.int .i64 0, .int .i64 0, .slice none 0 0])
    generalize World.setRow _ _ _ = u at S ⊢
    refine op_val (v := .bool false) rfl rfl hF rfl (run_assign rfl rfl) ?_; clear hF; intro a hF
    refine wpList_nil ?_
    refine wp_ret ?_
    repeat with_reducible (first | refine then_ret ?_ | refine in_ret ?_ | refine in_nrm ?_)
    refine ret2_gw (.inl rfl) hF rfl (res_cell (hF.ev rfl) (res_loadN ag28 rfl (S.cells 0 rfl 0 #[.int .i64 0, .int .i64 0, .slice none 0 0] rfl))) (res_tmp (hF.ev rfl)) ?_
    obtain rfl := Option.some.inj hM
    replace S := S.nilrow 3 1
    exact ⟨none, 0, 0, rfl, rfl, S.sel [0] rfl rfl⟩
  · replace hM := bif_t hc105 hM
    refine cond_f hF rfl (not_f hc105) ?_
    refine wp_skip ?_
    refine wp_seq ?_
    refine wp_region_lit ?_
    refine op_val (v := .agg #[.int .i64 x0, .int .i64 x1, .slice A2 x2.length c2]) rfl rfl hF rfl (run_loadN rfl ag28 (hF.ev rfl) rfl ((S.free 2 rfl).cells 0 #[.int .i64 x0, .int .i64 x1, .slice A2 x2.length c2] rfl)) ?_; clear hF; intro a hF
    obtain ⟨p106, h106, hM⟩ := bind_ex hM
    refine op_call rfl rfl hF rfl (run_call (vs := [.agg #[.int .i64 x0, .int .i64 x1, .slice A2 x2.length c2]]) rfl rfl co29 ⟨(hF.ev rfl), trivial⟩) (c_impl_Rooms_clone (x0 := x0) (x1 := x1) (x2 := x2) ⟨(S.rc0 h2.rc), rfl⟩ h106) ?_
    rintro e u ⟨B107, n108, d109, rfl, rfl, T⟩
    refine ⟨_, rfl, ?_⟩
    clear hF; intro a hF
    replace S := S.call1 T; clear T
    refine op_new (cs := #[.int .i64 0, .int .i64 0, .slice none 0 0]) rfl rfl hF rfl S (run_allocZ rfl zr28) ?_; clear hF S; intro a g110 u hF S
    refine op_do rfl rfl (run_store (cs' := #[.int .i64 p106.1, .int .i64 p106.2.1, .slice B107 p106.2.2.length d109]) rfl sz28 (hF.ev rfl) (hF.ev rfl) rfl rfl rfl (S.free 0 rfl) rfl rfl) ?_; replace S := S.put 0 rfl (#[.int .i64 p106.1, .int .i64 p106.2.1, .slice B107 p106.2.2.length d109])
    generalize World.setRow _ _ _ = u at S ⊢
    refine wpList_nil ?_
    refine wp_seq ?_
    refine wp_seq ?_
    obtain ⟨o112, hM115, hM⟩ := bind_ex hM
    refine wp_cut (fun a u => ∃ (p111 : Bool × Int × Int × List Int) (B113 : Option Addr) (d114 : Nat), p111 = o112 ∧ Fr a 25 [(2, .pointer (some ⟨g101, 0, none⟩)), (4, .pointer (some ⟨g103, 0, none⟩)), (5, .bool false), (6, .pointer (some ⟨g110, 0, none⟩)), (21, .bool p111.1)] ∧ St w u [.box g110 28 #[.int .i64 p111.2.1, .int .i64 p111.2.2.1, .slice B113 p111.2.2.2.length d114], .box g103 28 #[.int .i64 0, .int .i64 0, .slice none 0 0], .box g102 32 #[.int .i64 x3, .int .i64 x4, .int .i64 x5], .box g101 28 #[.int .i64 x0, .int .i64 x1, .slice A2 x2.length c2], .row 3 1 (.slice B113 p111.2.2.2.length d114) p111.2.2.2.length (p111.2.2.2.flatMap eI)]) ?_ ?_
    · have _ := trivial
      refine wp_region_lit ?_
      refine op_val (v := .pointer (some ⟨g102, 1, none⟩)) rfl rfl hF rfl (run_fieldAddr rfl fl32_1 (hF.ev rfl) rfl) ?_; clear hF; intro a hF
      refine op_val (v := .int .i64 x4) rfl rfl hF rfl (run_load1 rfl one3 (hF.ev rfl) ((S.free 3 rfl).cell rfl)) ?_; clear hF; intro a hF
      obtain ⟨p116, h116, hM115⟩ := bind_ex hM115
      refine op_call rfl rfl hF rfl (run_call (vs := [.int .i64 x4]) rfl rfl co30 ⟨(hF.ev rfl), trivial⟩) (c_impl_bitValid (x0 := x4)  h116) ?_
      rintro e u ⟨rfl, T⟩
      refine ⟨_, rfl, ?_⟩
      clear hF; intro a hF
      replace S := S.call0 T; clear T
      refine op_val (v := .bool (!p116)) rfl rfl hF rfl (run_not rfl (hF.ev rfl)) ?_; clear hF; intro a hF
      refine op_val (v := .bool (!p116)) rfl rfl hF rfl (run_move rfl (hF.ev rfl)) ?_; clear hF; intro a hF
      refine op_gv (v := .agg #[.int .i64 x3, .int .i64 x4, .int .i64 x5]) rfl rfl hF rfl (yf (gw_yield hF rfl rfl rfl)) (fun hg => (run_loadN rfl ag32 (hF.ev rfl) rfl ((S.free 3 rfl).cells 0 #[.int .i64 x3, .int .i64 x4, .int .i64 x5] rfl))) ?_; clear hF; intro a hF
      cases hc117 : (p116)
      · replace hM115 := bif_f hc117 hM115
        refine op_skipped rfl ((gw_yield hF rfl rfl rfl).trans (congrArg some (not_t hc117))) rfl rfl hF rfl ?_; clear hF; intro a hF
        refine op_skipped rfl ((gw_yield hF rfl rfl rfl).trans (congrArg some (not_t hc117))) rfl rfl hF rfl ?_; clear hF; intro a hF
        refine op_val (v := .bool true) rfl rfl hF rfl (run_pick_t rfl (hF.ev rfl) (not_t hc117) rfl) ?_; clear hF; intro a hF
        refine wpList_nil ?_
        obtain rfl := Option.some.inj hM115
        exact ⟨(true, p106.1, p106.2.1, p106.2.2), B107, d109, rfl, hF.keep _ ⟨rfl, rfl, rfl, rfl, rfl, trivial⟩, S.sel [0, 2, 3, 4, 1] rfl rfl⟩
      · replace hM115 := bif_t hc117 hM115
        refine op_guarded rfl ((gw_yield hF rfl rfl rfl).trans (congrArg some (not_f hc117))) ?_
        obtain ⟨p118, h118, hM115⟩ := bind_ex hM115
        refine op_call rfl rfl hF rfl (run_call (vs := [.pointer (some ⟨g110, 0, none⟩), .agg #[.int .i64 x3, .int .i64 x4, .int .i64 x5]]) rfl rfl co31 ⟨(hF.ev rfl), ((hF.ev rfl).trans (gv_t (not_t (not_f hc117)))), trivial⟩) (c_impl_Rooms_do (x0 := p106.1) (x1 := p106.2.1) (x2 := p106.2.2) (x3 := x3) (x4 := x4) (x5 := x5) rfl (show St w _ [.box g110 28 #[.int .i64 p106.1, .int .i64 p106.2.1, .slice B107 p106.2.2.length d109], .row 3 1 (.slice B107 p106.2.2.length d109) p106.2.2.length (p106.2.2.flatMap eI), .box g103 28 #[.int .i64 0, .int .i64 0, .slice none 0 0], .box g102 32 #[.int .i64 x3, .int .i64 x4, .int .i64 x5], .box g101 28 #[.int .i64 x0, .int .i64 x1, .slice A2 x2.length c2]] from S.sel [0, 1, 2, 3, 4] rfl rfl) h118) ?_
        rintro e u ⟨B119, n120, d121, rfl, rfl, T⟩
        refine ⟨_, rfl, ?_⟩
        clear hF; intro a hF
        clear S; have S := T; clear T
        refine op_guarded rfl ((gw_yield hF rfl rfl rfl).trans (congrArg some (not_f hc117))) ?_
        refine op_val (v := .bool (!p118.1)) rfl rfl hF rfl (run_not rfl (hF.ev rfl)) ?_; clear hF; intro a hF
        refine op_val (v := .bool (!p118.1)) rfl rfl hF rfl (run_pick_f rfl (hF.ev rfl) (not_f hc117) (hF.ev rfl)) ?_; clear hF; intro a hF
        refine wpList_nil ?_
        obtain rfl := Option.some.inj hM115
        exact ⟨(!p118.1, p118.2.1, p118.2.2.1, p118.2.2.2), B119, d121, rfl, hF.keep _ ⟨rfl, rfl, rfl, rfl, rfl, trivial⟩, S.sel [0, 2, 3, 4, 1] rfl rfl⟩
    · rintro a u ⟨p111, B113, d114, rfl, hF, S⟩
      cases hc122 : (p111.1)
      · replace hM := bif_f hc122 hM
        refine cond_f hF rfl hc122 ?_
        refine wp_skip ?_
        refine wp_seq ?_
        refine wp_region_lit ?_
        refine op_val (v := .agg #[.int .i64 p111.2.1, .int .i64 p111.2.2.1, .slice B113 p111.2.2.2.length d114]) rfl rfl hF rfl (run_loadN rfl ag28 (hF.ev rfl) rfl ((S.free 0 rfl).cells 0 #[.int .i64 p111.2.1, .int .i64 p111.2.2.1, .slice B113 p111.2.2.2.length d114] rfl)) ?_; clear hF; intro a hF
        refine op_do rfl rfl (run_store (cs' := #[.int .i64 p111.2.1, .int .i64 p111.2.2.1, .slice B113 p111.2.2.2.length d114]) rfl sz28 (hF.ev rfl) (hF.ev rfl) rfl rfl rfl (S.free 1 rfl) rfl rfl) ?_; replace S := S.put 1 rfl (#[.int .i64 p111.2.1, .int .i64 p111.2.2.1, .slice B113 p111.2.2.2.length d114])
        generalize World.setRow _ _ _ = u at S ⊢
        refine op_val (v := .bool true) rfl rfl hF rfl (run_assign rfl rfl) ?_; clear hF; intro a hF
        refine wpList_nil ?_
        refine wp_ret ?_
        repeat with_reducible (first | refine then_ret ?_ | refine in_ret ?_ | refine in_nrm ?_)
        refine ret2_gw (.inl rfl) hF rfl (res_cell (hF.ev rfl) (res_loadN ag28 rfl (S.cells 1 rfl 0 #[.int .i64 p111.2.1, .int .i64 p111.2.2.1, .slice B113 p111.2.2.2.length d114] rfl))) (res_tmp (hF.ev rfl)) ?_
        obtain rfl := Option.some.inj hM
        exact ⟨B113, p111.2.2.2.length, d114, rfl, rfl, S.sel [4] rfl rfl⟩
      · replace hM := bif_t hc122 hM
        refine cond_t hF rfl hc122 ?_
        refine wp_seq ?_
        refine wp_region_lit ?_
        refine op_val (v := .agg #[.int .i64 x0, .int .i64 x1, .slice A2 x2.length c2]) rfl rfl hF rfl (run_loadN rfl ag28 (hF.ev rfl) rfl ((S.free 3 rfl).cells 0 #[.int .i64 x0, .int .i64 x1, .slice A2 x2.length c2] rfl)) ?_; clear hF; intro a hF
        obtain ⟨p123, h123, hM⟩ := bind_ex hM
        refine op_call rfl rfl hF rfl (run_call (vs := [.agg #[.int .i64 x0, .int .i64 x1, .slice A2 x2.length c2]]) rfl rfl co29 ⟨(hF.ev rfl), trivial⟩) (c_impl_Rooms_clone (x0 := x0) (x1 := x1) (x2 := x2) ⟨(S.rc0 h2.rc), rfl⟩ h123) ?_
        rintro e u ⟨B124, n125, d126, rfl, rfl, T⟩
        refine ⟨_, rfl, ?_⟩
        clear hF; intro a hF
        replace S := S.call1 T; clear T
        refine op_do rfl rfl (run_store (cs' := #[.int .i64 p123.1, .int .i64 p123.2.1, .slice B124 p123.2.2.length d126]) rfl sz28 (hF.ev rfl) (hF.ev rfl) rfl rfl rfl (S.free 2 rfl) rfl rfl) ?_; replace S := S.put 2 rfl (#[.int .i64 p123.1, .int .i64 p123.2.1, .slice B124 p123.2.2.length d126])
        generalize World.setRow _ _ _ = u at S ⊢
        refine op_val (v := .bool false) rfl rfl hF rfl (run_assign rfl rfl) ?_; clear hF; intro a hF
        refine wpList_nil ?_
        refine wp_ret ?_
        repeat with_reducible (first | refine then_ret ?_ | refine in_ret ?_ | refine in_nrm ?_)
        refine ret2_gw (.inl rfl) hF rfl (res_cell (hF.ev rfl) (res_loadN ag28 rfl (S.cells 2 rfl 0 #[.int .i64 p123.1, .int .i64 p123.2.1, .slice B124 p123.2.2.length d126] rfl))) (res_tmp (hF.ev rfl)) ?_
        obtain rfl := Option.some.inj hM
        exact ⟨B124, p123.2.2.length, d126, rfl, rfl, S.sel [0] rfl rfl⟩

set_option maxHeartbeats 4000000 in
theorem c_laws_eqIntS {x0 : List Int} {x1 : List Int} {A0 : Option Addr} {n0 c0 : Nat} {A1 : Option Addr} {n1 c1 : Nat} {w : World} {r : Bool} (h0 : Rt w 1 eI A0 n0 c0 x0) (h1 : Rt w 1 eI A1 n1 c1 x1) (hM : m_laws_eqIntS x0 x1 = some r) :
    Calls Try.prog 32 #[.slice A0 n0 c0, .slice A1 n1 c1] w (fun e w' => e = .returned (.bool r) ∧ St w w' []) := by
  obtain rfl := h0.len
  obtain rfl := h1.len
  unfold m_laws_eqIntS at hM
  refine calls_gw Try.func32 Try.ntmps32 rfl [(0, .slice A0 x0.length c0), (1, .slice A1 x1.length c1)] ⟨rfl, rfl, trivial⟩ rfl ?_
  intro a hF
  have S := St.nil w
  refine wp_seq ?_
  refine wp_region_lit ?_
  refine op_val (v := .bool false) rfl rfl hF rfl (run_assign rfl rfl) ?_; clear hF; intro a hF
  refine wpList_nil ?_
  refine wp_seq ?_
  refine wp_seq ?_
  refine wp_region_lit ?_
  refine op_val (v := .slice A0 x0.length c0) rfl rfl hF rfl (run_move rfl (hF.ev rfl)) ?_; clear hF; intro a hF
  refine op_val (v := .int .i64 (x0.length : Int)) rfl rfl hF rfl (run_lenL rfl rfl Try.underlying22 (hF.ev rfl)) ?_; clear hF; intro a hF
  refine op_val (v := .slice A1 x1.length c1) rfl rfl hF rfl (run_move rfl (hF.ev rfl)) ?_; clear hF; intro a hF
  refine op_val (v := .int .i64 (x1.length : Int)) rfl rfl hF rfl (run_lenL rfl rfl Try.underlying22 (hF.ev rfl)) ?_; clear hF; intro a hF
  refine op_val (v := .bool ((x0.length : Int) != (x1.length : Int))) rfl rfl hF rfl (run_neq (hF.ev rfl) (hF.ev rfl) rfl) ?_; clear hF; intro a hF
  refine wpList_nil ?_
  cases hc101 : ((x0.length : Int) != (x1.length : Int))
  · replace hM := bif_f hc101 hM
    refine cond_f hF rfl hc101 ?_
    refine wp_skip ?_
    refine wp_seq ?_
    refine wp_seq ?_
    refine wp_region_lit ?_
    refine op_val (v := .int .i64 0) rfl rfl hF rfl (run_assign rfl rfl) ?_; clear hF; intro a hF
    refine wpList_nil ?_
    obtain ⟨o103, hM104, hM⟩ := bind_ex hM
    refine wp_cut (fun a u => ∃ (p102 : Unit), (Sum.inl p102) = o103 ∧ Fr a 26 [(4, .bool false)] ∧ St w u []) ?_ ?_
    · have _ := trivial
      refine wp_block ?_
      refine loop_gw (fun m a u => ∃ (p105 : Int), m_laws_eqIntS_l1 x0 x1 m p105 = some _ ∧ Fr a 26 [(0, .slice A0 x0.length c0), (1, .slice A1 x1.length c1), (4, .bool false), (5, .int .i64 p105)] ∧ St w u []) FUEL ⟨0, hM104, hF.keep _ ⟨rfl, rfl, rfl, rfl, trivial⟩, S.sel [] rfl rfl⟩ ?_
      clear hF S hM104; rintro m a u ⟨p105, hM104, hF, S⟩
      rcases m with _ | f1
      · exact none_some hM104
      rw [m_laws_eqIntS_l1.eq_2] at hM104
      refine wp_seq ?_
      refine wp_seq ?_
      refine wp_region_lit ?_
      refine op_val (v := .int .i64 p105) rfl rfl hF rfl (run_move rfl (hF.ev rfl)) ?_; clear hF; intro a hF
      refine op_val (v := .slice A0 x0.length c0) rfl rfl hF rfl (run_move rfl (hF.ev rfl)) ?_; clear hF; intro a hF
      refine op_val (v := .int .i64 (x0.length : Int)) rfl rfl hF rfl (run_lenL rfl rfl Try.underlying22 (hF.ev rfl)) ?_; clear hF; intro a hF
      refine op_val (v := .bool (ltB p105 (x0.length : Int))) rfl rfl hF rfl (run_lss (hF.ev rfl) (hF.ev rfl) rfl) ?_; clear hF; intro a hF
      refine wpList_nil ?_
      cases hc106 : (ltB p105 (x0.length : Int))
      · replace hM104 := bif_f hc106 hM104
        refine cond_f hF rfl hc106 ?_
        refine wp_exit ?_
        repeat with_reducible (first | refine then_exit ?_ | refine in_hit ?_ | refine in_miss rfl ?_)
        obtain rfl := Option.some.inj hM104
        exact ⟨(), rfl, hF.keep _ ⟨rfl, trivial⟩, S.sel [] rfl rfl⟩
      · replace hM104 := bif_t hc106 hM104
        refine cond_t hF rfl hc106 ?_
        refine wp_skip ?_
        refine wp_seq ?_
        refine wp_block ?_
        refine wp_seq ?_
        obtain ⟨hk107, hM104⟩ := chk_ex hM104
        replace hk107 := ixB_t hk107
        obtain ⟨hk108, hM104⟩ := chk_ex hM104
        replace hk108 := ixB_t hk108
        refine region_gw (D := [17, 18, 19, 20, 21, 22, 23, 24, 25]) (Lr := []) (deps := (fun | 0 => [17] | 1 => [18] | 2 => [19] | 3 => [20] | 4 => [21] | 5 => [22] | 6 => [23] | 7 => [24] | 8 => [25] | _ => [])) (rd := (fun _ => [])) (zr := (fun _ => []))
          (φ := fun i vs => match i, vs with | 0, [v17] => v17 = .slice A0 x0.length c0 | 1, [v18] => v18 = .int .i64 p105 | 2, [v19] => v19 = .pointer (some ⟨adB A0, adO A0 + p105.toNat * 1, none⟩) | 3, [v20] => v20 = .int .i64 (x0.getD p105.toNat (0 : Int)) | 4, [v21] => v21 = .slice A1 x1.length c1 | 5, [v22] => v22 = .int .i64 p105 | 6, [v23] => v23 = .pointer (some ⟨adB A1, adO A1 + p105.toNat * 1, none⟩) | 7, [v24] => v24 = .int .i64 (x1.getD p105.toNat (0 : Int)) | 8, [v25] => v25 = .bool ((x0.getD p105.toNat (0 : Int)) != (x1.getD p105.toNat (0 : Int))) | _, _ => True)
          (C := fun _ _ => [])
          (κ := (fun _ => none)) (Z := (fun _ => [])) mixed hF (by kernel_rfl) S ?_ ?_
        · refine ⟨?_, ?_, ?_, ?_, ?_, ?_, ?_, ?_, ?_, trivial⟩
          · intro a u X hB hp hr hz hl S
            replace S : St w u ([] ++ X) := S
            exact .inl ⟨rfl, .slice A0 x0.length c0, u, (run_move rfl (hF.evB hB rfl rfl)), rfl, S⟩
          · intro a u X hB hp hr hz hl S
            replace S : St w u ([] ++ X) := S
            exact .inl ⟨rfl, .int .i64 p105, u, (run_move rfl (hF.evB hB rfl rfl)), rfl, S⟩
          · intro a u X hB hp hr hz hl S
            replace S : St w u ([] ++ X) := S
            have e17 : sl a 17 = .slice A0 x0.length c0 := hp 0 rfl
            have e18 : sl a 18 = .int .i64 p105 := hp 1 rfl
            exact .inl ⟨rfl, .pointer (some ⟨adB A0, adO A0 + p105.toNat * 1, none⟩), u, (run_indexAddr (b := adB A0) (off := adO A0) rfl Try.underlying22 sz3 ((ev_sl e17).trans (congrArg (fun A => Value.slice A x0.length c0) ((S.rc0 h0.rc).rd.ad (ix_pos hk107)))) (ev_sl e18) hk107.1 hk107.2 (k' := adO A0 + p105.toNat * 1) rfl), rfl, S⟩
          · intro a u X hB hp hr hz hl S
            replace S : St w u ([] ++ X) := S
            have e19 : sl a 19 = .pointer (some ⟨adB A0, adO A0 + p105.toNat * 1, none⟩) := hp 2 rfl
            exact .inl ⟨rfl, .int .i64 (x0.getD p105.toNat (0 : Int)), u, (run_load1 rfl one3 (ev_sl e19) (rd_el0 (l := x0) (S.rc0 h0.rc).rd rfl eI_len (0 : Int) (ix_ltn hk107 rfl) rfl)), rfl, S⟩
          · intro a u X hB hp hr hz hl S
            replace S : St w u ([] ++ X) := S
            exact .inl ⟨rfl, .slice A1 x1.length c1, u, (run_move rfl (hF.evB hB rfl rfl)), rfl, S⟩
          · intro a u X hB hp hr hz hl S
            replace S : St w u ([] ++ X) := S
            exact .inl ⟨rfl, .int .i64 p105, u, (run_move rfl (hF.evB hB rfl rfl)), rfl, S⟩
          · intro a u X hB hp hr hz hl S
            replace S : St w u ([] ++ X) := S
            have e21 : sl a 21 = .slice A1 x1.length c1 := hp 4 rfl
            have e22 : sl a 22 = .int .i64 p105 := hp 5 rfl
            exact .inl ⟨rfl, .pointer (some ⟨adB A1, adO A1 + p105.toNat * 1, none⟩), u, (run_indexAddr (b := adB A1) (off := adO A1) rfl Try.underlying22 sz3 ((ev_sl e21).trans (congrArg (fun A => Value.slice A x1.length c1) ((S.rc0 h1.rc).rd.ad (ix_pos hk108)))) (ev_sl e22) hk108.1 hk108.2 (k' := adO A1 + p105.toNat * 1) rfl), rfl, S⟩
          · intro a u X hB hp hr hz hl S
            replace S : St w u ([] ++ X) := S
            have e23 : sl a 23 = .pointer (some ⟨adB A1, adO A1 + p105.toNat * 1, none⟩) := hp 6 rfl
            exact .inl ⟨rfl, .int .i64 (x1.getD p105.toNat (0 : Int)), u, (run_load1 rfl one3 (ev_sl e23) (rd_el0 (l := x1) (S.rc0 h1.rc).rd rfl eI_len (0 : Int) (ix_ltn hk108 rfl) rfl)), rfl, S⟩
          · intro a u X hB hp hr hz hl S
            replace S : St w u ([] ++ X) := S
            have e20 : sl a 20 = .int .i64 (x0.getD p105.toNat (0 : Int)) := hp 3 rfl
            have e24 : sl a 24 = .int .i64 (x1.getD p105.toNat (0 : Int)) := hp 7 rfl
            exact .inl ⟨rfl, .bool ((x0.getD p105.toNat (0 : Int)) != (x1.getD p105.toNat (0 : Int))), u, (run_neq (ev_sl e20) (ev_sl e24) rfl), rfl, S⟩
        · intro a u hB hp S
          obtain ⟨q0, q1, q2, q3, q4, q5, q6, q7, q8, _⟩ := hp
          have e17 : sl a 17 = .slice A0 x0.length c0 := q0
          have e18 : sl a 18 = .int .i64 p105 := q1
          have e19 : sl a 19 = .pointer (some ⟨adB A0, adO A0 + p105.toNat * 1, none⟩) := q2
          have e20 : sl a 20 = .int .i64 (x0.getD p105.toNat (0 : Int)) := q3
          have e21 : sl a 21 = .slice A1 x1.length c1 := q4
          have e22 : sl a 22 = .int .i64 p105 := q5
          have e23 : sl a 23 = .pointer (some ⟨adB A1, adO A1 + p105.toNat * 1, none⟩) := q6
          have e24 : sl a 24 = .int .i64 (x1.getD p105.toNat (0 : Int)) := q7
          have e25 : sl a 25 = .bool ((x0.getD p105.toNat (0 : Int)) != (x1.getD p105.toNat (0 : Int))) := q8
          replace S : St w u [] := S
          clear q0 q1 q2 q3 q4 q5 q6 q7 q8
          have hF := hF.region hB [(17, .slice A0 x0.length c0), (18, .int .i64 p105), (19, .pointer (some ⟨adB A0, adO A0 + p105.toNat * 1, none⟩)), (20, .int .i64 (x0.getD p105.toNat (0 : Int))), (21, .slice A1 x1.length c1), (22, .int .i64 p105), (23, .pointer (some ⟨adB A1, adO A1 + p105.toNat * 1, none⟩)), (24, .int .i64 (x1.getD p105.toNat (0 : Int))), (25, .bool ((x0.getD p105.toNat (0 : Int)) != (x1.getD p105.toNat (0 : Int))))] (allSl_mem ⟨e17, e18, e19, e20, e21, e22, e23, e24, e25, trivial⟩) rfl
          clear hB e17 e18 e19 e20 e21 e22 e23 e24 e25
          cases hc109 : ((x0.getD p105.toNat (0 : Int)) != (x1.getD p105.toNat (0 : Int)))
          · replace hM104 := bif_f hc109 hM104
            refine cond_f hF rfl hc109 ?_
            refine wp_skip ?_
            refine wp_region_lit ?_
            refine op_val (v := .int .i64 p105) rfl rfl hF rfl (run_move rfl (hF.ev rfl)) ?_; clear hF; intro a hF
            refine op_val (v := .int .i64 (w64 (p105 + 1))) rfl rfl hF rfl (run_add (z := w64 (p105 + 1)) (hF.ev rfl) rfl rfl rfl) ?_; clear hF; intro a hF
            refine op_val (v := .int .i64 (w64 (p105 + 1))) rfl rfl hF rfl (run_assign rfl (hF.ev rfl)) ?_; clear hF; intro a hF
            refine wpList_nil ?_
            exact ⟨f1, Nat.lt_succ_self _, w64 (p105 + 1), hM104, hF.keep _ ⟨rfl, rfl, rfl, rfl, trivial⟩, S.sel [] rfl rfl⟩
          · replace hM104 := bif_t hc109 hM104
            refine cond_t hF rfl hc109 ?_
            refine wp_seq ?_
            refine wp_region_lit ?_
            refine op_val (v := .bool false) rfl rfl hF rfl (run_assign rfl rfl) ?_; clear hF; intro a hF
            refine wpList_nil ?_
            refine wp_ret ?_
            repeat with_reducible (first | refine then_ret ?_ | refine in_ret ?_ | refine in_nrm ?_)
            refine ret1_gw (.inl rfl) hF rfl (res_tmp (hF.ev rfl)) ?_
            obtain rfl := Option.some.inj hM104
            obtain rfl := Option.some.inj hM
            exact ⟨rfl, S.sel [] rfl rfl⟩
    · rintro a u ⟨p102, rfl, hF, S⟩
      replace hM := elim_l hM
      refine wp_seq ?_
      refine wp_region_lit ?_
      refine op_val (v := .bool true) rfl rfl hF rfl (run_assign rfl rfl) ?_; clear hF; intro a hF
      refine wpList_nil ?_
      refine wp_ret ?_
      repeat with_reducible (first | refine then_ret ?_ | refine in_ret ?_ | refine in_nrm ?_)
      refine ret1_gw (.inl rfl) hF rfl (res_tmp (hF.ev rfl)) ?_
      obtain rfl := Option.some.inj hM
      exact ⟨rfl, S.sel [] rfl rfl⟩
  · replace hM := bif_t hc101 hM
    refine cond_t hF rfl hc101 ?_
    refine wp_seq ?_
    refine wp_region_lit ?_
    refine op_val (v := .bool false) rfl rfl hF rfl (run_assign rfl rfl) ?_; clear hF; intro a hF
    refine wpList_nil ?_
    refine wp_ret ?_
    repeat with_reducible (first | refine then_ret ?_ | refine in_ret ?_ | refine in_nrm ?_)
    refine ret1_gw (.inl rfl) hF rfl (res_tmp (hF.ev rfl)) ?_
    obtain rfl := Option.some.inj hM
    exact ⟨rfl, S.sel [] rfl rfl⟩

set_option maxHeartbeats 4000000 in
theorem c_laws_eqRooms {x0 : Int} {x1 : Int} {x2 : List Int} {x3 : Int} {x4 : Int} {x5 : List Int} {A2 : Option Addr} {n2 c2 : Nat} {A5 : Option Addr} {n5 c5 : Nat} {w : World} {r : Bool} (h2 : Rt w 1 eI A2 n2 c2 x2) (h5 : Rt w 1 eI A5 n5 c5 x5) (hM : m_laws_eqRooms x0 x1 x2 x3 x4 x5 = some r) :
    Calls Try.prog 11 #[.agg #[.int .i64 x0, .int .i64 x1, .slice A2 n2 c2], .agg #[.int .i64 x3, .int .i64 x4, .slice A5 n5 c5]] w (fun e w' => e = .returned (.bool r) ∧ St w w' []) := by
  obtain rfl := h2.len
  obtain rfl := h5.len
  unfold m_laws_eqRooms at hM
  refine calls_gw Try.func11 Try.ntmps11 rfl [(0, .agg #[.int .i64 x0, .int .i64 x1, .slice A2 x2.length c2]), (1, .agg #[.int .i64 x3, .int .i64 x4, .slice A5 x5.length c5])] ⟨rfl, rfl, trivial⟩ rfl ?_
  intro a hF
  have S := St.nil w
  refine wp_seq ?_
  refine wp_region_lit ?_
  refine op_new (cs := #[.int .i64 x0, .int .i64 x1, .slice A2 x2.length c2]) rfl rfl hF rfl S (run_box rfl (hF.ev rfl) rfl) ?_; clear hF S; intro a g101 u hF S
  refine op_new (cs := #[.int .i64 x3, .int .i64 x4, .slice A5 x5.length c5]) rfl rfl hF rfl S (run_box rfl (hF.ev rfl) rfl) ?_; clear hF S; intro a g102 u hF S
  refine op_val (v := .bool false) rfl rfl hF rfl (run_assign rfl rfl) ?_; clear hF; intro a hF
  refine wpList_nil ?_
  refine wp_seq ?_
  refine wp_seq ?_
  refine wp_region_lit ?_
  refine op_val (v := .pointer (some ⟨g101, 0, none⟩)) rfl rfl hF rfl (run_fieldAddr rfl fl28_0 (hF.ev rfl) rfl) ?_; clear hF; intro a hF
  refine op_val (v := .int .i64 x0) rfl rfl hF rfl (run_load1 rfl one3 (hF.ev rfl) ((S.free 1 rfl).cell rfl)) ?_; clear hF; intro a hF
  refine op_val (v := .pointer (some ⟨g102, 0, none⟩)) rfl rfl hF rfl (run_fieldAddr rfl fl28_0 (hF.ev rfl) rfl) ?_; clear hF; intro a hF
  refine op_val (v := .int .i64 x3) rfl rfl hF rfl (run_load1 rfl one3 (hF.ev rfl) ((S.free 0 rfl).cell rfl)) ?_; clear hF; intro a hF
  refine op_val (v := .bool (x0 != x3)) rfl rfl hF rfl (run_neq (hF.ev rfl) (hF.ev rfl) rfl) ?_; clear hF; intro a hF
  refine wpList_nil ?_
  cases hc103 : (x0 != x3)
  · replace hM := bif_f hc103 hM
    refine cond_f hF rfl hc103 ?_
    refine wp_skip ?_
    refine wp_seq ?_
    refine wp_seq ?_
    refine wp_region_lit ?_
    refine op_val (v := .pointer (some ⟨g101, 1, none⟩)) rfl rfl hF rfl (run_fieldAddr rfl fl28_1 (hF.ev rfl) rfl) ?_; clear hF; intro a hF
    refine op_val (v := .int .i64 x1) rfl rfl hF rfl (run_load1 rfl one3 (hF.ev rfl) ((S.free 1 rfl).cell rfl)) ?_; clear hF; intro a hF
    refine op_val (v := .pointer (some ⟨g102, 1, none⟩)) rfl rfl hF rfl (run_fieldAddr rfl fl28_1 (hF.ev rfl) rfl) ?_; clear hF; intro a hF
    refine op_val (v := .int .i64 x4) rfl rfl hF rfl (run_load1 rfl one3 (hF.ev rfl) ((S.free 0 rfl).cell rfl)) ?_; clear hF; intro a hF
    refine op_val (v := .bool (x1 != x4)) rfl rfl hF rfl (run_neq (hF.ev rfl) (hF.ev rfl) rfl) ?_; clear hF; intro a hF
    refine wpList_nil ?_
    cases hc104 : (x1 != x4)
    · replace hM := bif_f hc104 hM
      refine cond_f hF rfl hc104 ?_
      refine wp_skip ?_
      refine wp_seq ?_
      refine wp_seq ?_
      refine wp_region_lit ?_
      refine op_val (v := .pointer (some ⟨g101, 2, none⟩)) rfl rfl hF rfl (run_fieldAddr rfl fl28_2 (hF.ev rfl) rfl) ?_; clear hF; intro a hF
      refine op_val (v := .slice A2 x2.length c2) rfl rfl hF rfl (run_load1 rfl one22 (hF.ev rfl) ((S.free 1 rfl).cell rfl)) ?_; clear hF; intro a hF
      refine op_val (v := .pointer (some ⟨g102, 2, none⟩)) rfl rfl hF rfl (run_fieldAddr rfl fl28_2 (hF.ev rfl) rfl) ?_; clear hF; intro a hF
      refine op_val (v := .slice A5 x5.length c5) rfl rfl hF rfl (run_load1 rfl one22 (hF.ev rfl) ((S.free 0 rfl).cell rfl)) ?_; clear hF; intro a hF
      obtain ⟨p105, h105, hM⟩ := bind_ex hM
      refine op_call rfl rfl hF rfl (run_call (vs := [.slice A2 x2.length c2, .slice A5 x5.length c5]) rfl rfl co32 ⟨(hF.ev rfl), (hF.ev rfl), trivial⟩) (c_laws_eqIntS (x0 := x2) (x1 := x5) ⟨(S.rc0 h2.rc), rfl⟩ ⟨(S.rc0 h5.rc), rfl⟩ h105) ?_
      rintro e u ⟨rfl, T⟩
      refine ⟨_, rfl, ?_⟩
      clear hF; intro a hF
      replace S := S.call0 T; clear T
      refine op_val (v := .bool (!p105)) rfl rfl hF rfl (run_not rfl (hF.ev rfl)) ?_; clear hF; intro a hF
      refine wpList_nil ?_
      cases hc106 : (p105)
      · replace hM := bif_f hc106 hM
        refine cond_t hF rfl (not_t hc106) ?_
        refine wp_seq ?_
        refine wp_region_lit ?_
        refine op_val (v := .bool false) rfl rfl hF rfl (run_assign rfl rfl) ?_; clear hF; intro a hF
        refine wpList_nil ?_
        refine wp_ret ?_
        repeat with_reducible (first | refine then_ret ?_ | refine in_ret ?_ | refine in_nrm ?_)
        refine ret1_gw (.inl rfl) hF rfl (res_tmp (hF.ev rfl)) ?_
        obtain rfl := Option.some.inj hM
        exact ⟨rfl, S.sel [] rfl rfl⟩
      · replace hM := bif_t hc106 hM
        refine cond_f hF rfl (not_f hc106) ?_
        refine wp_skip ?_
        refine wp_seq ?_
        refine wp_region_lit ?_
        refine op_val (v := .bool true) rfl rfl hF rfl (run_assign rfl rfl) ?_; clear hF; intro a hF
        refine wpList_nil ?_
        refine wp_ret ?_
        repeat with_reducible (first | refine then_ret ?_ | refine in_ret ?_ | refine in_nrm ?_)
        refine ret1_gw (.inl rfl) hF rfl (res_tmp (hF.ev rfl)) ?_
        obtain rfl := Option.some.inj hM
        exact ⟨rfl, S.sel [] rfl rfl⟩
    · replace hM := bif_t hc104 hM
      refine cond_t hF rfl hc104 ?_
      refine wp_seq ?_
      refine wp_region_lit ?_
      refine op_val (v := .bool false) rfl rfl hF rfl (run_assign rfl rfl) ?_; clear hF; intro a hF
      refine wpList_nil ?_
      refine wp_ret ?_
      repeat with_reducible (first | refine then_ret ?_ | refine in_ret ?_ | refine in_nrm ?_)
      refine ret1_gw (.inl rfl) hF rfl (res_tmp (hF.ev rfl)) ?_
      obtain rfl := Option.some.inj hM
      exact ⟨rfl, S.sel [] rfl rfl⟩
  · replace hM := bif_t hc103 hM
    refine cond_t hF rfl hc103 ?_
    refine wp_seq ?_
    refine wp_region_lit ?_
    refine op_val (v := .bool false) rfl rfl hF rfl (run_assign rfl rfl) ?_; clear hF; intro a hF
    refine wpList_nil ?_
    refine wp_ret ?_
    repeat with_reducible (first | refine then_ret ?_ | refine in_ret ?_ | refine in_nrm ?_)
    refine ret1_gw (.inl rfl) hF rfl (res_tmp (hF.ev rfl)) ?_
    obtain rfl := Option.some.inj hM
    exact ⟨rfl, S.sel [] rfl rfl⟩

set_option maxHeartbeats 4000000 in
theorem c_laws_markIntS {x0 : List Int} {x1 : Int} {A0 : Option Addr} {n0 c0 : Nat} {w : World} {r : Int × List Int} {w0 : World} {X : List Asn} (h0 : n0 = x0.length) (S : St w0 w (Asn.row 3 1 (.slice A0 n0 c0) n0 (x0.flatMap eI) :: X)) (hM : m_laws_markIntS x0 x1 = some r) :
    Calls Try.prog 33 #[.slice A0 n0 c0, .int .i64 x1] w (fun e w' => e = .returned (.int .i64 r.1) ∧ n0 = r.2.length ∧ St w0 w' (Asn.row 3 1 (.slice A0 n0 c0) n0 (r.2.flatMap eI) :: X)) := by
  obtain rfl := h0
  unfold m_laws_markIntS at hM
  refine calls_gw Try.func33 Try.ntmps33 rfl [(0, .slice A0 x0.length c0), (1, .int .i64 x1)] ⟨rfl, rfl, trivial⟩ rfl ?_
  intro a hF
  refine wp_seq ?_
  refine wp_region_lit ?_
  refine op_val (v := .int .i64 0) rfl rfl hF rfl (run_assign rfl rfl) ?_; clear hF; intro a hF
  refine wpList_nil ?_
  refine wp_seq ?_
  refine wp_seq ?_
  refine wp_region_lit ?_
  refine op_val (v := .int .i64 0) rfl rfl hF rfl (run_assign rfl rfl) ?_; clear hF; intro a hF
  refine wpList_nil ?_
  obtain ⟨o102, hM104, hM⟩ := bind_ex hM
  refine wp_cut (fun a u => ∃ (p101 : Int × List Int), p101 = o102 ∧ x0.length = p101.2.length ∧ Fr a 19 [(1, .int .i64 p101.1), (4, .int .i64 0)] ∧ St w0 u (Asn.row 3 1 (.slice A0 x0.length c0) x0.length (p101.2.flatMap eI) :: X)) ?_ ?_
  · have _ := trivial
    refine wp_block ?_
    refine loop_gw (fun m a u => ∃ (p105 : List Int × Int × Int), m_laws_markIntS_l1 x0 m p105 = some _ ∧ x0.length = p105.1.length ∧ Fr a 19 [(0, .slice A0 x0.length c0), (1, .int .i64 p105.2.1), (4, .int .i64 0), (5, .int .i64 p105.2.2)] ∧ St w0 u (Asn.row 3 1 (.slice A0 x0.length c0) x0.length (p105.1.flatMap eI) :: X)) FUEL ⟨(x0, x1, 0), hM104, rfl, hF.keep _ ⟨rfl, rfl, rfl, rfl, trivial⟩, S.selT (M := [.row 3 1 (.slice A0 x0.length c0) x0.length (x0.flatMap eI)]) 1 [0] rfl rfl rfl⟩ ?_
    clear hF S hM104; rintro m a u ⟨p105, hM104, hn106, hF, S⟩
    rcases m with _ | f1
    · exact none_some hM104
    rw [m_laws_markIntS_l1.eq_2] at hM104
    refine wp_seq ?_
    refine wp_seq ?_
    refine wp_region_lit ?_
    refine op_val (v := .int .i64 p105.2.2) rfl rfl hF rfl (run_move rfl (hF.ev rfl)) ?_; clear hF; intro a hF
    refine op_val (v := .slice A0 x0.length c0) rfl rfl hF rfl (run_move rfl (hF.ev rfl)) ?_; clear hF; intro a hF
    refine op_val (v := .int .i64 (x0.length : Int)) rfl rfl hF rfl (run_lenL rfl rfl Try.underlying22 (hF.ev rfl)) ?_; clear hF; intro a hF
    refine op_val (v := .bool (ltB p105.2.2 (x0.length : Int))) rfl rfl hF rfl (run_lss (hF.ev rfl) (hF.ev rfl) rfl) ?_; clear hF; intro a hF
    refine wpList_nil ?_
    cases hc107 : (ltB p105.2.2 (x0.length : Int))
    · replace hM104 := bif_f hc107 hM104
      refine cond_f hF rfl hc107 ?_
      refine wp_exit ?_
      repeat with_reducible (first | refine then_exit ?_ | refine in_hit ?_ | refine in_miss rfl ?_)
      obtain rfl := Option.some.inj hM104
      exact ⟨(p105.2.1, p105.1), rfl, hn106, hF.keep _ ⟨rfl, rfl, trivial⟩, S.selT (M := [.row 3 1 (.slice A0 x0.length c0) x0.length (p105.1.flatMap eI)]) 1 [0] rfl rfl rfl⟩
    · replace hM104 := bif_t hc107 hM104
      refine cond_t hF rfl hc107 ?_
      refine wp_skip ?_
      refine wp_seq ?_
      refine wp_block ?_
      refine wp_seq ?_
      refine wp_region_lit ?_
      refine op_val (v := .slice A0 x0.length c0) rfl rfl hF rfl (run_move rfl (hF.ev rfl)) ?_; clear hF; intro a hF
      refine op_val (v := .int .i64 p105.2.2) rfl rfl hF rfl (run_move rfl (hF.ev rfl)) ?_; clear hF; intro a hF
      refine op_val (v := .int .i64 p105.2.1) rfl rfl hF rfl (run_move rfl (hF.ev rfl)) ?_; clear hF; intro a hF
      obtain ⟨hk108, hM104⟩ := chk_ex hM104
      replace hk108 := ixB_t hk108
      refine op_val (v := .pointer (some ⟨adB A0, adO A0 + p105.2.2.toNat * 1, none⟩)) rfl rfl hF rfl (run_indexAddr (b := adB A0) (off := adO A0) rfl Try.underlying22 sz3 ((hF.ev rfl).trans (congrArg (fun A => Value.slice A x0.length c0) ((S.rc 0 rfl).rd.ad (ix_pos hk108)))) (hF.ev rfl) hk108.1 hk108.2 (k' := adO A0 + p105.2.2.toNat * 1) rfl) ?_; clear hF; intro a hF
      obtain ⟨w', hrun, S'⟩ := run_storeElN (P := Try.prog) (ρ := a.eval) (y0 := p105.2.1) (off := 0) S 3 (.tmp 15) (.tmp 14) (i := 0) sz3 (hF.ev rfl) (hF.ev rfl) rfl rfl rfl rfl hn106 eI_len (0 : Int) (ix_ltn hk108 hn106) rfl rfl
      refine op_do rfl rfl (hrun _ rfl) ?_; clear hrun S; have S := S'; clear S'; generalize w' = u at S ⊢
      refine wpList_nil ?_
      refine wp_region_lit ?_
      refine op_val (v := .int .i64 p105.2.1) rfl rfl hF rfl (run_move rfl (hF.ev rfl)) ?_; clear hF; intro a hF
      refine op_val (v := .int .i64 (w64 (p105.2.1 + 1))) rfl rfl hF rfl (run_add (z := w64 (p105.2.1 + 1)) (hF.ev rfl) rfl rfl rfl) ?_; clear hF; intro a hF
      refine op_val (v := .int .i64 (w64 (p105.2.1 + 1))) rfl rfl hF rfl (run_assign rfl (hF.ev rfl)) ?_; clear hF; intro a hF
      refine wpList_nil ?_
      refine wp_region_lit ?_
      refine op_val (v := .int .i64 p105.2.2) rfl rfl hF rfl (run_move rfl (hF.ev rfl)) ?_; clear hF; intro a hF
      refine op_val (v := .int .i64 (w64 (p105.2.2 + 1))) rfl rfl hF rfl (run_add (z := w64 (p105.2.2 + 1)) (hF.ev rfl) rfl rfl rfl) ?_; clear hF; intro a hF
      refine op_val (v := .int .i64 (w64 (p105.2.2 + 1))) rfl rfl hF rfl (run_assign rfl (hF.ev rfl)) ?_; clear hF; intro a hF
      refine wpList_nil ?_
      exact ⟨f1, Nat.lt_succ_self _, (p105.1.set p105.2.2.toNat p105.2.1, w64 (p105.2.1 + 1), w64 (p105.2.2 + 1)), hM104, (len_set hn106), hF.keep _ ⟨rfl, rfl, rfl, rfl, trivial⟩, S.selT (M := [.row 3 1 (.slice A0 x0.length c0) x0.length ((p105.1.set p105.2.2.toNat p105.2.1).flatMap eI)]) 1 [0] rfl rfl rfl⟩
  · rintro a u ⟨p101, rfl, hn103, hF, S⟩
    refine wp_seq ?_
    refine wp_region_lit ?_
    refine op_val (v := .int .i64 p101.1) rfl rfl hF rfl (run_move rfl (hF.ev rfl)) ?_; clear hF; intro a hF
    refine op_val (v := .int .i64 p101.1) rfl rfl hF rfl (run_assign rfl (hF.ev rfl)) ?_; clear hF; intro a hF
    refine wpList_nil ?_
    refine wp_ret ?_
    repeat with_reducible (first | refine then_ret ?_ | refine in_ret ?_ | refine in_nrm ?_)
    refine ret1_gw (.inl rfl) hF rfl (res_tmp (hF.ev rfl)) ?_
    obtain rfl := Option.some.inj hM
    exact ⟨rfl, hn103, S.selT (M := [.row 3 1 (.slice A0 x0.length c0) x0.length (p101.2.flatMap eI)]) 1 [0] rfl rfl rfl⟩

set_option maxHeartbeats 4000000 in
theorem c_laws_markRooms {x0 : Int} {x1 : Int} {x2 : List Int} {x3 : Int} {A2 : Option Addr} {n2 c2 : Nat} {w : World} {r : Int × List Int} {w0 : World} {X : List Asn} (h2 : n2 = x2.length) (S : St w0 w (Asn.row 3 1 (.slice A2 n2 c2) n2 (x2.flatMap eI) :: X)) (hM : m_laws_markRooms x0 x1 x2 x3 = some r) :
    Calls Try.prog 12 #[.agg #[.int .i64 x0, .int .i64 x1, .slice A2 n2 c2], .int .i64 x3] w (fun e w' => e = .returned (.int .i64 r.1) ∧ n2 = r.2.length ∧ St w0 w' (Asn.row 3 1 (.slice A2 n2 c2) n2 (r.2.flatMap eI) :: X)) := by
  obtain rfl := h2
  unfold m_laws_markRooms at hM
  refine calls_gw Try.func12 Try.ntmps12 rfl [(0, .agg #[.int .i64 x0, .int .i64 x1, .slice A2 x2.length c2]), (1, .int .i64 x3)] ⟨rfl, rfl, trivial⟩ rfl ?_
  intro a hF
  refine wp_seq ?_
  refine wp_region_lit ?_
  refine op_new (cs := #[.int .i64 x0, .int .i64 x1, .slice A2 x2.length c2]) rfl rfl hF rfl S (run_box rfl (hF.ev rfl) rfl) ?_; clear hF S; intro a g101 u hF S
  refine op_val (v := .int .i64 0) rfl rfl hF rfl (run_assign rfl rfl) ?_; clear hF; intro a hF
  refine wpList_nil ?_
  refine wp_seq ?_
  refine wp_region_lit ?_
  refine op_val (v := .pointer (some ⟨g101, 2, none⟩)) rfl rfl hF rfl (run_fieldAddr rfl fl28_2 (hF.ev rfl) rfl) ?_; clear hF; intro a hF
  refine op_val (v := .slice A2 x2.length c2) rfl rfl hF rfl (run_load1 rfl one22 (hF.ev rfl) ((S.free 0 rfl).cell rfl)) ?_; clear hF; intro a hF
  refine op_val (v := .int .i64 x3) rfl rfl hF rfl (run_move rfl (hF.ev rfl)) ?_; clear hF; intro a hF
  obtain ⟨p102, h102, hM⟩ := bind_ex hM
  refine op_call rfl rfl hF rfl (run_call (vs := [.slice A2 x2.length c2, .int .i64 x3]) rfl rfl co33 ⟨(hF.ev rfl), (hF.ev rfl), trivial⟩) (c_laws_markIntS (x0 := x2) (x1 := x3) rfl (show St w0 _ (Asn.row 3 1 (.slice A2 x2.length c2) x2.length (x2.flatMap eI) :: Asn.box g101 28 #[.int .i64 x0, .int .i64 x1, .slice A2 x2.length c2] :: X) from S.selT (M := [.row 3 1 (.slice A2 x2.length c2) x2.length (x2.flatMap eI), .box g101 28 #[.int .i64 x0, .int .i64 x1, .slice A2 x2.length c2]]) 2 [1, 0] rfl rfl rfl) h102) ?_
  rintro e u ⟨rfl, hn103, T⟩
  refine ⟨_, rfl, ?_⟩
  clear hF; intro a hF
  clear S; have S := T; clear T
  refine op_val (v := .int .i64 p102.1) rfl rfl hF rfl (run_assign rfl (hF.ev rfl)) ?_; clear hF; intro a hF
  refine wpList_nil ?_
  refine wp_seq ?_
  refine wp_region_lit ?_
  refine op_val (v := .int .i64 p102.1) rfl rfl hF rfl (run_move rfl (hF.ev rfl)) ?_; clear hF; intro a hF
  refine op_val (v := .int .i64 p102.1) rfl rfl hF rfl (run_assign rfl (hF.ev rfl)) ?_; clear hF; intro a hF
  refine wpList_nil ?_
  refine wp_ret ?_
  repeat with_reducible (first | refine then_ret ?_ | refine in_ret ?_ | refine in_nrm ?_)
  refine ret1_gw (.inl rfl) hF rfl (res_tmp (hF.ev rfl)) ?_
  obtain rfl := Option.some.inj hM
  exact ⟨rfl, hn103, S.selT (M := [.row 3 1 (.slice A2 x2.length c2) x2.length (p102.2.flatMap eI)]) 2 [0] rfl rfl rfl⟩

set_option maxHeartbeats 4000000 in
theorem c_laws_heldIntS {x0 : List Int} {x1 : Int} {A0 : Option Addr} {n0 c0 : Nat} {w : World} {r : Int} (h0 : Rt w 1 eI A0 n0 c0 x0) (hM : m_laws_heldIntS x0 x1 = some r) :
    Calls Try.prog 34 #[.slice A0 n0 c0, .int .i64 x1] w (fun e w' => e = .returned (.int .i64 r) ∧ St w w' []) := by
  obtain rfl := h0.len
  unfold m_laws_heldIntS at hM
  refine calls_gw Try.func34 Try.ntmps34 rfl [(0, .slice A0 x0.length c0), (1, .int .i64 x1)] ⟨rfl, rfl, trivial⟩ rfl ?_
  intro a hF
  have S := St.nil w
  refine wp_seq ?_
  refine wp_region_lit ?_
  refine op_val (v := .int .i64 0) rfl rfl hF rfl (run_assign rfl rfl) ?_; clear hF; intro a hF
  refine wpList_nil ?_
  refine wp_seq ?_
  refine wp_seq ?_
  refine wp_region_lit ?_
  refine op_val (v := .int .i64 0) rfl rfl hF rfl (run_assign rfl rfl) ?_; clear hF; intro a hF
  refine wpList_nil ?_
  obtain ⟨o102, hM103, hM⟩ := bind_ex hM
  refine wp_cut (fun a u => ∃ (p101 : Int), (Sum.inl p101) = o102 ∧ Fr a 21 [(1, .int .i64 p101), (4, .int .i64 0)] ∧ St w u []) ?_ ?_
  · have _ := trivial
    refine wp_block ?_
    refine loop_gw (fun m a u => ∃ (p104 : Int × Int), m_laws_heldIntS_l1 x0 m p104 = some _ ∧ Fr a 21 [(0, .slice A0 x0.length c0), (1, .int .i64 p104.1), (4, .int .i64 0), (5, .int .i64 p104.2)] ∧ St w u []) FUEL ⟨(x1, 0), hM103, hF.keep _ ⟨rfl, rfl, rfl, rfl, trivial⟩, S.sel [] rfl rfl⟩ ?_
    clear hF S hM103; rintro m a u ⟨p104, hM103, hF, S⟩
    rcases m with _ | f1
    · exact none_some hM103
    rw [m_laws_heldIntS_l1.eq_2] at hM103
    refine wp_seq ?_
    refine wp_seq ?_
    refine wp_region_lit ?_
    refine op_val (v := .int .i64 p104.2) rfl rfl hF rfl (run_move rfl (hF.ev rfl)) ?_; clear hF; intro a hF
    refine op_val (v := .slice A0 x0.length c0) rfl rfl hF rfl (run_move rfl (hF.ev rfl)) ?_; clear hF; intro a hF
    refine op_val (v := .int .i64 (x0.length : Int)) rfl rfl hF rfl (run_lenL rfl rfl Try.underlying22 (hF.ev rfl)) ?_; clear hF; intro a hF
    refine op_val (v := .bool (ltB p104.2 (x0.length : Int))) rfl rfl hF rfl (run_lss (hF.ev rfl) (hF.ev rfl) rfl) ?_; clear hF; intro a hF
    refine wpList_nil ?_
    cases hc105 : (ltB p104.2 (x0.length : Int))
    · replace hM103 := bif_f hc105 hM103
      refine cond_f hF rfl hc105 ?_
      refine wp_exit ?_
      repeat with_reducible (first | refine then_exit ?_ | refine in_hit ?_ | refine in_miss rfl ?_)
      obtain rfl := Option.some.inj hM103
      exact ⟨p104.1, rfl, hF.keep _ ⟨rfl, rfl, trivial⟩, S.sel [] rfl rfl⟩
    · replace hM103 := bif_t hc105 hM103
      refine cond_t hF rfl hc105 ?_
      refine wp_skip ?_
      refine wp_seq ?_
      refine wp_block ?_
      refine wp_seq ?_
      refine wp_seq ?_
      refine wp_region_lit ?_
      refine op_val (v := .slice A0 x0.length c0) rfl rfl hF rfl (run_move rfl (hF.ev rfl)) ?_; clear hF; intro a hF
      refine op_val (v := .int .i64 p104.2) rfl rfl hF rfl (run_move rfl (hF.ev rfl)) ?_; clear hF; intro a hF
      obtain ⟨hk106, hM103⟩ := chk_ex hM103
      replace hk106 := ixB_t hk106
      refine op_val (v := .pointer (some ⟨adB A0, adO A0 + p104.2.toNat * 1, none⟩)) rfl rfl hF rfl (run_indexAddr (b := adB A0) (off := adO A0) rfl Try.underlying22 sz3 ((hF.ev rfl).trans (congrArg (fun A => Value.slice A x0.length c0) ((S.rc0 h0.rc).rd.ad (ix_pos hk106)))) (hF.ev rfl) hk106.1 hk106.2 (k' := adO A0 + p104.2.toNat * 1) rfl) ?_; clear hF; intro a hF
      refine op_val (v := .int .i64 (x0.getD p104.2.toNat (0 : Int))) rfl rfl hF rfl (run_load1 rfl one3 (hF.ev rfl) (rd_el0 (l := x0) (S.rc0 h0.rc).rd rfl eI_len (0 : Int) (ix_ltn hk106 rfl) rfl)) ?_; clear hF; intro a hF
      refine op_val (v := .int .i64 p104.1) rfl rfl hF rfl (run_move rfl (hF.ev rfl)) ?_; clear hF; intro a hF
      refine op_val (v := .bool ((x0.getD p104.2.toNat (0 : Int)) != p104.1)) rfl rfl hF rfl (run_neq (hF.ev rfl) (hF.ev rfl) rfl) ?_; clear hF; intro a hF
      refine wpList_nil ?_
      cases hc107 : ((x0.getD p104.2.toNat (0 : Int)) != p104.1)
      · replace hM103 := bif_f hc107 hM103
        refine cond_f hF rfl hc107 ?_
        refine wp_skip ?_
        refine wp_region_lit ?_
        refine op_val (v := .int .i64 p104.1) rfl rfl hF rfl (run_move rfl (hF.ev rfl)) ?_; clear hF; intro a hF
        refine op_val (v := .int .i64 (w64 (p104.1 + 1))) rfl rfl hF rfl (run_add (z := w64 (p104.1 + 1)) (hF.ev rfl) rfl rfl rfl) ?_; clear hF; intro a hF
        refine op_val (v := .int .i64 (w64 (p104.1 + 1))) rfl rfl hF rfl (run_assign rfl (hF.ev rfl)) ?_; clear hF; intro a hF
        refine wpList_nil ?_
        refine wp_region_lit ?_
        refine op_val (v := .int .i64 p104.2) rfl rfl hF rfl (run_move rfl (hF.ev rfl)) ?_; clear hF; intro a hF
        refine op_val (v := .int .i64 (w64 (p104.2 + 1))) rfl rfl hF rfl (run_add (z := w64 (p104.2 + 1)) (hF.ev rfl) rfl rfl rfl) ?_; clear hF; intro a hF
        refine op_val (v := .int .i64 (w64 (p104.2 + 1))) rfl rfl hF rfl (run_assign rfl (hF.ev rfl)) ?_; clear hF; intro a hF
        refine wpList_nil ?_
        exact ⟨f1, Nat.lt_succ_self _, (w64 (p104.1 + 1), w64 (p104.2 + 1)), hM103, hF.keep _ ⟨rfl, rfl, rfl, rfl, trivial⟩, S.sel [] rfl rfl⟩
      · replace hM103 := bif_t hc107 hM103
        refine cond_t hF rfl hc107 ?_
        refine wp_seq ?_
        refine wp_region_lit ?_
        refine op_val (v := .int .i64 (-1)) rfl rfl hF rfl (run_assign rfl rfl) ?_; clear hF; intro a hF
        refine wpList_nil ?_
        refine wp_ret ?_
        repeat with_reducible (first | refine then_ret ?_ | refine in_ret ?_ | refine in_nrm ?_)
        refine ret1_gw (.inl rfl) hF rfl (res_tmp (hF.ev rfl)) ?_
        obtain rfl := Option.some.inj hM103
        obtain rfl := Option.some.inj hM
        exact ⟨rfl, S.sel [] rfl rfl⟩
  · rintro a u ⟨p101, rfl, hF, S⟩
    replace hM := elim_l hM
    refine wp_seq ?_
    refine wp_region_lit ?_
    refine op_val (v := .int .i64 p101) rfl rfl hF rfl (run_move rfl (hF.ev rfl)) ?_; clear hF; intro a hF
    refine op_val (v := .int .i64 p101) rfl rfl hF rfl (run_assign rfl (hF.ev rfl)) ?_; clear hF; intro a hF
    refine wpList_nil ?_
    refine wp_ret ?_
    repeat with_reducible (first | refine then_ret ?_ | refine in_ret ?_ | refine in_nrm ?_)
    refine ret1_gw (.inl rfl) hF rfl (res_tmp (hF.ev rfl)) ?_
    obtain rfl := Option.some.inj hM
    exact ⟨rfl, S.sel [] rfl rfl⟩

set_option maxHeartbeats 4000000 in
theorem c_laws_heldRooms {x0 : Int} {x1 : Int} {x2 : List Int} {x3 : Int} {A2 : Option Addr} {n2 c2 : Nat} {w : World} {r : Int} (h2 : Rt w 1 eI A2 n2 c2 x2) (hM : m_laws_heldRooms x0 x1 x2 x3 = some r) :
    Calls Try.prog 13 #[.agg #[.int .i64 x0, .int .i64 x1, .slice A2 n2 c2], .int .i64 x3] w (fun e w' => e = .returned (.int .i64 r) ∧ St w w' []) := by
  obtain rfl := h2.len
  unfold m_laws_heldRooms at hM
  refine calls_gw Try.func13 Try.ntmps13 rfl [(0, .agg #[.int .i64 x0, .int .i64 x1, .slice A2 x2.length c2]), (1, .int .i64 x3)] ⟨rfl, rfl, trivial⟩ rfl ?_
  intro a hF
  have S := St.nil w
  refine wp_seq ?_
  refine wp_region_lit ?_
  refine op_new (cs := #[.int .i64 x0, .int .i64 x1, .slice A2 x2.length c2]) rfl rfl hF rfl S (run_box rfl (hF.ev rfl) rfl) ?_; clear hF S; intro a g101 u hF S
  refine op_val (v := .int .i64 0) rfl rfl hF rfl (run_assign rfl rfl) ?_; clear hF; intro a hF
  refine wpList_nil ?_
  refine wp_seq ?_
  refine wp_region_lit ?_
  refine op_val (v := .pointer (some ⟨g101, 2, none⟩)) rfl rfl hF rfl (run_fieldAddr rfl fl28_2 (hF.ev rfl) rfl) ?_; clear hF; intro a hF
  refine op_val (v := .slice A2 x2.length c2) rfl rfl hF rfl (run_load1 rfl one22 (hF.ev rfl) ((S.free 0 rfl).cell rfl)) ?_; clear hF; intro a hF
  refine op_val (v := .int .i64 x3) rfl rfl hF rfl (run_move rfl (hF.ev rfl)) ?_; clear hF; intro a hF
  obtain ⟨p102, h102, hM⟩ := bind_ex hM
  refine op_call rfl rfl hF rfl (run_call (vs := [.slice A2 x2.length c2, .int .i64 x3]) rfl rfl co34 ⟨(hF.ev rfl), (hF.ev rfl), trivial⟩) (c_laws_heldIntS (x0 := x2) (x1 := x3) ⟨(S.rc0 h2.rc), rfl⟩ h102) ?_
  rintro e u ⟨rfl, T⟩
  refine ⟨_, rfl, ?_⟩
  clear hF; intro a hF
  replace S := S.call0 T; clear T
  refine op_val (v := .int .i64 p102) rfl rfl hF rfl (run_assign rfl (hF.ev rfl)) ?_; clear hF; intro a hF
  refine wpList_nil ?_
  refine wp_seq ?_
  refine wp_seq ?_
  refine wp_region_lit ?_
  refine op_val (v := .int .i64 p102) rfl rfl hF rfl (run_move rfl (hF.ev rfl)) ?_; clear hF; intro a hF
  refine op_val (v := .bool (ltB p102 0)) rfl rfl hF rfl (run_lss (hF.ev rfl) rfl rfl) ?_; clear hF; intro a hF
  refine wpList_nil ?_
  cases hc103 : (ltB p102 0)
  · replace hM := bif_f hc103 hM
    refine cond_f hF rfl hc103 ?_
    refine wp_skip ?_
    refine wp_seq ?_
    refine wp_region_lit ?_
    refine op_val (v := .int .i64 p102) rfl rfl hF rfl (run_move rfl (hF.ev rfl)) ?_; clear hF; intro a hF
    refine op_val (v := .int .i64 p102) rfl rfl hF rfl (run_assign rfl (hF.ev rfl)) ?_; clear hF; intro a hF
    refine wpList_nil ?_
    refine wp_ret ?_
    repeat with_reducible (first | refine then_ret ?_ | refine in_ret ?_ | refine in_nrm ?_)
    refine ret1_gw (.inl rfl) hF rfl (res_tmp (hF.ev rfl)) ?_
    obtain rfl := Option.some.inj hM
    exact ⟨rfl, S.sel [] rfl rfl⟩
  · replace hM := bif_t hc103 hM
    refine cond_t hF rfl hc103 ?_
    refine wp_seq ?_
    refine wp_region_lit ?_
    refine op_val (v := .int .i64 (-1)) rfl rfl hF rfl (run_assign rfl rfl) ?_; clear hF; intro a hF
    refine wpList_nil ?_
    refine wp_ret ?_
    repeat with_reducible (first | refine then_ret ?_ | refine in_ret ?_ | refine in_nrm ?_)
    refine ret1_gw (.inl rfl) hF rfl (res_tmp (hF.ev rfl)) ?_
    obtain rfl := Option.some.inj hM
    exact ⟨rfl, S.sel [] rfl rfl⟩

set_option maxHeartbeats 4000000 in
theorem c_laws_FnExactRoomsDo {x0 : Int} {x1 : Int} {x2 : List Int} {x3 : Int} {x4 : Int} {x5 : Int} {A2 : Option Addr} {n2 c2 : Nat} {w : World} {r : Bool} (h2 : Rt w 1 eI A2 n2 c2 x2) (hM : m_laws_FnExactRoomsDo x0 x1 x2 x3 x4 x5 = some r) :
    Calls Try.prog 3 #[.agg #[.int .i64 x0, .int .i64 x1, .slice A2 n2 c2], .agg #[.int .i64 x3, .int .i64 x4, .int .i64 x5]] w (fun e w' => e = .returned (.bool r) ∧ St w w' []) := by
  obtain rfl := h2.len
  unfold m_laws_FnExactRoomsDo at hM
  refine calls_gw Try.func3 Try.ntmps3 rfl [(0, .agg #[.int .i64 x0, .int .i64 x1, .slice A2 x2.length c2]), (1, .agg #[.int .i64 x3, .int .i64 x4, .int .i64 x5])] ⟨rfl, rfl, trivial⟩ rfl ?_
  intro a hF
  have S := St.nil w
  refine wp_seq ?_
  refine wp_region_lit ?_
  refine op_new (cs := #[.int .i64 x0, .int .i64 x1, .slice A2 x2.length c2]) rfl rfl hF rfl S (run_box rfl (hF.ev rfl) rfl) ?_; clear hF S; intro a g101 u hF S
  refine op_new (cs := #[.int .i64 x3, .int .i64 x4, .int .i64 x5]) rfl rfl hF rfl S (run_box rfl (hF.ev rfl) rfl) ?_; clear hF S; intro a g102 u hF S
  refine op_val (v := .bool false) rfl rfl hF rfl (run_assign rfl rfl) ?_; clear hF; intro a hF
  refine wpList_nil ?_
  refine wp_seq ?_
  refine wp_region_lit ?_
  refine op_val (v := .int .i64 1048576) rfl rfl hF rfl (run_assign rfl rfl) ?_; clear hF; intro a hF
  refine wpList_nil ?_
  refine wp_seq ?_
  refine wp_region_lit ?_
  refine op_val (v := .agg #[.int .i64 x0, .int .i64 x1, .slice A2 x2.length c2]) rfl rfl hF rfl (run_loadN rfl ag24 (hF.ev rfl) rfl ((S.free 1 rfl).cells 0 #[.int .i64 x0, .int .i64 x1, .slice A2 x2.length c2] rfl)) ?_; clear hF; intro a hF
  refine op_val (v := .int .i64 1048576) rfl rfl hF rfl (run_move rfl (hF.ev rfl)) ?_; clear hF; intro a hF
  obtain ⟨p103, h103, hM⟩ := bind_ex hM
  refine op_call rfl rfl hF rfl (run_call (vs := [.agg #[.int .i64 x0, .int .i64 x1, .slice A2 x2.length c2], .int .i64 1048576]) rfl rfl co6 ⟨(hF.ev rfl), (hF.ev rfl), trivial⟩) (c_laws_szRooms (x0 := x0) (x1 := x1) (x2 := x2) (x3 := 1048576) ⟨(S.rc0 h2.rc), rfl⟩ h103) ?_
  rintro e u ⟨rfl, T⟩
  refine ⟨_, rfl, ?_⟩
  clear hF; intro a hF
  replace S := S.call0 T; clear T
  refine op_val (v := .int .i64 p103) rfl rfl hF rfl (run_assign rfl (hF.ev rfl)) ?_; clear hF; intro a hF
  refine wpList_nil ?_
  refine wp_seq ?_
  refine wp_seq ?_
  refine wp_region_lit ?_
  refine op_val (v := .int .i64 p103) rfl rfl hF rfl (run_move rfl (hF.ev rfl)) ?_; clear hF; intro a hF
  refine op_val (v := .bool (ltB p103 0)) rfl rfl hF rfl (run_lss (hF.ev rfl) rfl rfl) ?_; clear hF; intro a hF
  refine wpList_nil ?_
  cases hc104 : (ltB p103 0)
  · replace hM := bif_f hc104 hM
    refine cond_f hF rfl hc104 ?_
    refine wp_skip ?_
    refine wp_seq ?_
    obtain ⟨p105, h105, hM⟩ := bind_ex hM
    obtain ⟨p109, h109, hM⟩ := bind_ex hM
    obtain ⟨p110, h110, hM⟩ := bind_ex hM
    refine region_gw (D := [22, 23, 24, 25, 26, 21, 27, 28, 6, 7]) (Lr := [.box g102 26 #[.int .i64 x3, .int .i64 x4, .int .i64 x5], .box g101 24 #[.int .i64 x0, .int .i64 x1, .slice A2 x2.length c2]]) (deps := (fun | 0 => [22] | 1 => [23] | 2 => [24] | 3 => [25] | 4 => [26] | 5 => [21, 26] | 6 => [27, 26] | 7 => [28] | 8 => [6] | 9 => [6, 26] | 10 => [7] | _ => [])) (rd := (fun | 4 => [1] | _ => [])) (zr := (fun _ => []))
      (φ := fun i vs => match i, vs with | 0, [v22] => v22 = .agg #[.int .i64 x0, .int .i64 x1, .slice A2 x2.length c2] | 1, [v23] => v23 = .agg #[.int .i64 p105.1, .int .i64 p105.2.1, .slice (slA (vtup v23 2)) p105.2.2.length (slC (vtup v23 2))] | 2, [v24] => v24 = .agg #[.int .i64 x3, .int .i64 x4, .int .i64 x5] | 3, [v25] => v25 = .agg #[.int .i64 p109.1, .int .i64 p109.2.1, .int .i64 p109.2.2] | 4, [v26] => v26 = .tuple #[.agg #[.int .i64 p110.1, .int .i64 p110.2.1, .slice (slA (vtup (vtup v26 0) 2)) p110.2.2.1.length (slC (vtup (vtup v26 0) 2))], .bool p110.2.2.2] | 5, [v21, v26] => v21 = .tuple #[.agg #[.int .i64 p110.1, .int .i64 p110.2.1, .slice (slA (vtup (vtup v26 0) 2)) p110.2.2.1.length (slC (vtup (vtup v26 0) 2))], .bool p110.2.2.2] | 6, [v27, v26] => v27 = .agg #[.int .i64 p110.1, .int .i64 p110.2.1, .slice (slA (vtup (vtup v26 0) 2)) p110.2.2.1.length (slC (vtup (vtup v26 0) 2))] | 7, [v28] => v28 = .bool p110.2.2.2 | 8, [v6] => v6 = .pointer (some ⟨ptB v6, 0, none⟩) | 10, [v7] => v7 = .bool p110.2.2.2 | _, _ => True)
      (C := fun i vs => match i, vs with | 1, [v23] => [.row 3 1 (.slice (slA (vtup v23 2)) p105.2.2.length (slC (vtup v23 2))) p105.2.2.length (p105.2.2.flatMap eI)] | 4, [v26] => [.row 3 1 (.slice (slA (vtup (vtup v26 0) 2)) p110.2.2.1.length (slC (vtup (vtup v26 0) 2))) p110.2.2.1.length (p110.2.2.1.flatMap eI)] | 8, [v6] => [.box (ptB v6) 28 #[.int .i64 0, .int .i64 0, .slice none 0 0]] | 9, [v6, v26] => [.box (ptB v6) 28 #[.int .i64 p110.1, .int .i64 p110.2.1, .slice (slA (vtup (vtup v26 0) 2)) p110.2.2.1.length (slC (vtup (vtup v26 0) 2))]] | _, _ => [])
      (κ := (fun | 8 => some 9 | _ => none)) (Z := (fun _ => [])) mixed hF (by kernel_rfl) S ?_ ?_
    · refine ⟨?_, ?_, ?_, ?_, ?_, ?_, ?_, ?_, ?_, ?_, ?_, trivial⟩
      · intro a u X hB hp hr hz hl S
        replace S : St w u ([] ++ X) := S
        exact .inl ⟨rfl, .agg #[.int .i64 x0, .int .i64 x1, .slice A2 x2.length c2], u, (run_loadN rfl ag24 (hF.evB hB rfl rfl) rfl ((gr_box S hl 1 rfl).cells 0 #[.int .i64 x0, .int .i64 x1, .slice A2 x2.length c2] rfl)), rfl, S⟩
      · intro a u X hB hp hr hz hl S
        replace S : St w u ([] ++ X) := S
        have e22 : sl a 22 = .agg #[.int .i64 x0, .int .i64 x1, .slice A2 x2.length c2] := hp 0 rfl
        refine .inr (.inr (.inl ⟨rfl, _, _, (run_call (vs := [.agg #[.int .i64 x0, .int .i64 x1, .slice A2 x2.length c2]]) rfl rfl co8 ⟨(ev_sl e22), trivial⟩), ?_⟩))
        refine Calls.mono (c_laws_toRooms (x0 := x0) (x1 := x1) (x2 := x2) ⟨(S.rc0 h2.rc), rfl⟩ h105) ?_
        rintro e w1 ⟨B106, n107, d108, rfl, rfl, T⟩
        exact ⟨_, rfl, rfl, S.call1 T⟩
      · intro a u X hB hp hr hz hl S
        replace S : St w u ([] ++ X) := S
        exact .inl ⟨rfl, .agg #[.int .i64 x3, .int .i64 x4, .int .i64 x5], u, (run_loadN rfl ag26 (hF.evB hB rfl rfl) rfl ((gr_box S hl 0 rfl).cells 0 #[.int .i64 x3, .int .i64 x4, .int .i64 x5] rfl)), rfl, S⟩
      · intro a u X hB hp hr hz hl S
        replace S : St w u ([] ++ X) := S
        have e24 : sl a 24 = .agg #[.int .i64 x3, .int .i64 x4, .int .i64 x5] := hp 2 rfl
        refine .inr (.inr (.inl ⟨rfl, _, _, (run_call (vs := [.agg #[.int .i64 x3, .int .i64 x4, .int .i64 x5]]) rfl rfl co9 ⟨(ev_sl e24), trivial⟩), ?_⟩))
        refine Calls.mono (c_laws_toRoomDeed (x0 := x3) (x1 := x4) (x2 := x5)  h109) ?_
        rintro e w1 ⟨rfl, T⟩
        exact ⟨_, rfl, rfl, S.call0 T⟩
      · intro a u X hB hp hr hz hl S
        replace S : St w u ([] ++ X) := S
        have e23 : sl a 23 = .agg #[.int .i64 p105.1, .int .i64 p105.2.1, .slice (slA (vtup (sl a 23) 2)) p105.2.2.length (slC (vtup (sl a 23) 2))] := hp 1 rfl
        have e25 : sl a 25 = .agg #[.int .i64 p109.1, .int .i64 p109.2.1, .int .i64 p109.2.2] := hp 3 rfl
        refine .inr (.inr (.inl ⟨rfl, _, _, (run_call (vs := [.agg #[.int .i64 p105.1, .int .i64 p105.2.1, .slice (slA (vtup (sl a 23) 2)) p105.2.2.length (slC (vtup (sl a 23) 2))], .agg #[.int .i64 p109.1, .int .i64 p109.2.1, .int .i64 p109.2.2]]) rfl rfl co7 ⟨(ev_sl e23), (ev_sl e25), trivial⟩), ?_⟩))
        refine Calls.mono (c_spec_RoomsDo (x0 := p105.1) (x1 := p105.2.1) (x2 := p105.2.2) (x3 := p109.1) (x4 := p109.2.1) (x5 := p109.2.2) ⟨(own_rc (show World.ownsRow _ 0 _ _ _ _ _ from S.mem (List.mem_append_right _ (hr 1 (List.mem_of_getElem? (i := 0) rfl) _ (List.mem_of_getElem? (i := 0) rfl))))), rfl⟩ h110) ?_
        rintro e w1 ⟨B111, n112, d113, rfl, rfl, T⟩
        exact ⟨_, rfl, rfl, S.call1 T⟩
      · intro a u X hB hp hr hz hl S
        replace S : St w u ([] ++ X) := S
        have e26 : sl a 26 = .tuple #[.agg #[.int .i64 p110.1, .int .i64 p110.2.1, .slice (slA (vtup (vtup (sl a 26) 0) 2)) p110.2.2.1.length (slC (vtup (vtup (sl a 26) 0) 2))], .bool p110.2.2.2] := hp 4 rfl
        exact .inl ⟨rfl, .tuple #[.agg #[.int .i64 p110.1, .int .i64 p110.2.1, .slice (slA (vtup (vtup (sl a 26) 0) 2)) p110.2.2.1.length (slC (vtup (vtup (sl a 26) 0) 2))], .bool p110.2.2.2], u, (run_move rfl (ev_sl e26)), rfl, S⟩
      · intro a u X hB hp hr hz hl S
        replace S : St w u ([] ++ X) := S
        have e21 : sl a 21 = .tuple #[.agg #[.int .i64 p110.1, .int .i64 p110.2.1, .slice (slA (vtup (vtup (sl a 26) 0) 2)) p110.2.2.1.length (slC (vtup (vtup (sl a 26) 0) 2))], .bool p110.2.2.2] := hp 5 rfl
        exact .inl ⟨rfl, .agg #[.int .i64 p110.1, .int .i64 p110.2.1, .slice (slA (vtup (vtup (sl a 26) 0) 2)) p110.2.2.1.length (slC (vtup (vtup (sl a 26) 0) 2))], u, (run_extract rfl (ev_sl e21) rfl), rfl, S⟩
      · intro a u X hB hp hr hz hl S
        replace S : St w u ([] ++ X) := S
        have e21 : sl a 21 = .tuple #[.agg #[.int .i64 p110.1, .int .i64 p110.2.1, .slice (slA (vtup (vtup (sl a 26) 0) 2)) p110.2.2.1.length (slC (vtup (vtup (sl a 26) 0) 2))], .bool p110.2.2.2] := hp 5 rfl
        exact .inl ⟨rfl, .bool p110.2.2.2, u, (run_extract rfl (ev_sl e21) rfl), rfl, S⟩
      · intro a u X hB hp hr hz hl S
        replace S : St w u ([] ++ X) := S
        exact .inl ⟨rfl, _, _, (run_allocZ rfl zr28), rfl, S.alloc _ _⟩
      · intro a u X hB hp hr hz hl S
        replace S : St w u ([.box (ptB (sl a 6)) 28 #[.int .i64 0, .int .i64 0, .slice none 0 0]] ++ X) := S
        have e6 : sl a 6 = .pointer (some ⟨ptB (sl a 6), 0, none⟩) := hp 8 rfl
        have e27 : sl a 27 = .agg #[.int .i64 p110.1, .int .i64 p110.2.1, .slice (slA (vtup (vtup (sl a 26) 0) 2)) p110.2.2.1.length (slC (vtup (vtup (sl a 26) 0) 2))] := hp 6 rfl
        exact .inr (.inl ⟨rfl, _, run_store (cs' := #[.int .i64 p110.1, .int .i64 p110.2.1, .slice (slA (vtup (vtup (sl a 26) 0) 2)) p110.2.2.1.length (slC (vtup (vtup (sl a 26) 0) 2))]) rfl sz28 (ev_sl e6) (ev_sl e27) rfl rfl rfl (S.free 0 rfl) rfl rfl, trivial, S.put 0 rfl (#[.int .i64 p110.1, .int .i64 p110.2.1, .slice (slA (vtup (vtup (sl a 26) 0) 2)) p110.2.2.1.length (slC (vtup (vtup (sl a 26) 0) 2))])⟩)
      · intro a u X hB hp hr hz hl S
        replace S : St w u ([] ++ X) := S
        have e28 : sl a 28 = .bool p110.2.2.2 := hp 7 rfl
        exact .inl ⟨rfl, .bool p110.2.2.2, u, (run_assign rfl (ev_sl e28)), rfl, S⟩
    · intro a u hB hp S
      obtain ⟨q0, q1, q2, q3, q4, q5, q6, q7, q8, q9, q10, _⟩ := hp
      have e22 : sl a 22 = .agg #[.int .i64 x0, .int .i64 x1, .slice A2 x2.length c2] := q0
      have e23 : sl a 23 = .agg #[.int .i64 p105.1, .int .i64 p105.2.1, .slice (slA (vtup (sl a 23) 2)) p105.2.2.length (slC (vtup (sl a 23) 2))] := q1
      have e24 : sl a 24 = .agg #[.int .i64 x3, .int .i64 x4, .int .i64 x5] := q2
      have e25 : sl a 25 = .agg #[.int .i64 p109.1, .int .i64 p109.2.1, .int .i64 p109.2.2] := q3
      have e26 : sl a 26 = .tuple #[.agg #[.int .i64 p110.1, .int .i64 p110.2.1, .slice (slA (vtup (vtup (sl a 26) 0) 2)) p110.2.2.1.length (slC (vtup (vtup (sl a 26) 0) 2))], .bool p110.2.2.2] := q4
      have e21 : sl a 21 = .tuple #[.agg #[.int .i64 p110.1, .int .i64 p110.2.1, .slice (slA (vtup (vtup (sl a 26) 0) 2)) p110.2.2.1.length (slC (vtup (vtup (sl a 26) 0) 2))], .bool p110.2.2.2] := q5
      have e27 : sl a 27 = .agg #[.int .i64 p110.1, .int .i64 p110.2.1, .slice (slA (vtup (vtup (sl a 26) 0) 2)) p110.2.2.1.length (slC (vtup (vtup (sl a 26) 0) 2))] := q6
      have e28 : sl a 28 = .bool p110.2.2.2 := q7
      have e6 : sl a 6 = .pointer (some ⟨ptB (sl a 6), 0, none⟩) := q8
      have e7 : sl a 7 = .bool p110.2.2.2 := q10
      replace S : St w u [.row 3 1 (.slice (slA (vtup (sl a 23) 2)) p105.2.2.length (slC (vtup (sl a 23) 2))) p105.2.2.length (p105.2.2.flatMap eI), .row 3 1 (.slice (slA (vtup (vtup (sl a 26) 0) 2)) p110.2.2.1.length (slC (vtup (vtup (sl a 26) 0) 2))) p110.2.2.1.length (p110.2.2.1.flatMap eI), .box (ptB (sl a 6)) 28 #[.int .i64 p110.1, .int .i64 p110.2.1, .slice (slA (vtup (vtup (sl a 26) 0) 2)) p110.2.2.1.length (slC (vtup (vtup (sl a 26) 0) 2))], .box g102 26 #[.int .i64 x3, .int .i64 x4, .int .i64 x5], .box g101 24 #[.int .i64 x0, .int .i64 x1, .slice A2 x2.length c2]] := S
      clear q0 q1 q2 q3 q4 q5 q6 q7 q8 q9 q10
      generalize slA (vtup (sl a 23) 2) = B114 at *
      generalize slC (vtup (sl a 23) 2) = d115 at *
      generalize slA (vtup (vtup (sl a 26) 0) 2) = B116 at *
      generalize slC (vtup (vtup (sl a 26) 0) 2) = d117 at *
      generalize ptB (sl a 6) = g118 at *
      have hF := hF.region hB [(22, .agg #[.int .i64 x0, .int .i64 x1, .slice A2 x2.length c2]), (23, .agg #[.int .i64 p105.1, .int .i64 p105.2.1, .slice B114 p105.2.2.length d115]), (24, .agg #[.int .i64 x3, .int .i64 x4, .int .i64 x5]), (25, .agg #[.int .i64 p109.1, .int .i64 p109.2.1, .int .i64 p109.2.2]), (26, .tuple #[.agg #[.int .i64 p110.1, .int .i64 p110.2.1, .slice B116 p110.2.2.1.length d117], .bool p110.2.2.2]), (21, .tuple #[.agg #[.int .i64 p110.1, .int .i64 p110.2.1, .slice B116 p110.2.2.1.length d117], .bool p110.2.2.2]), (27, .agg #[.int .i64 p110.1, .int .i64 p110.2.1, .slice B116 p110.2.2.1.length d117]), (28, .bool p110.2.2.2), (6, .pointer (some ⟨g118, 0, none⟩)), (7, .bool p110.2.2.2)] (allSl_mem ⟨e22, e23, e24, e25, e26, e21, e27, e28, e6, e7, trivial⟩) rfl
      clear hB e22 e23 e24 e25 e26 e21 e27 e28 e6 e7
      refine wp_seq ?_
      refine wp_region_lit ?_
      refine op_val (v := .agg #[.int .i64 x0, .int .i64 x1, .slice A2 x2.length c2]) rfl rfl hF rfl (run_loadN rfl ag24 (hF.ev rfl) rfl ((S.free 4 rfl).cells 0 #[.int .i64 x0, .int .i64 x1, .slice A2 x2.length c2] rfl)) ?_; clear hF; intro a hF
      obtain ⟨p119, h119, hM⟩ := bind_ex hM
      refine op_call rfl rfl hF rfl (run_call (vs := [.agg #[.int .i64 x0, .int .i64 x1, .slice A2 x2.length c2]]) rfl rfl co8 ⟨(hF.ev rfl), trivial⟩) (c_laws_toRooms (x0 := x0) (x1 := x1) (x2 := x2) ⟨(S.rc0 h2.rc), rfl⟩ h119) ?_
      rintro e u ⟨B120, n121, d122, rfl, rfl, T⟩
      refine ⟨_, rfl, ?_⟩
      clear hF; intro a hF
      replace S := S.call1 T; clear T
      refine op_new (cs := #[.int .i64 0, .int .i64 0, .slice none 0 0]) rfl rfl hF rfl S (run_allocZ rfl zr28) ?_; clear hF S; intro a g123 u hF S
      refine op_do rfl rfl (run_store (cs' := #[.int .i64 p119.1, .int .i64 p119.2.1, .slice B120 p119.2.2.length d122]) rfl sz28 (hF.ev rfl) (hF.ev rfl) rfl rfl rfl (S.free 0 rfl) rfl rfl) ?_; replace S := S.put 0 rfl (#[.int .i64 p119.1, .int .i64 p119.2.1, .slice B120 p119.2.2.length d122])
      generalize World.setRow _ _ _ = u at S ⊢
      refine wpList_nil ?_
      refine wp_seq ?_
      obtain ⟨p124, h124, hM⟩ := bind_ex hM
      obtain ⟨p125, h125, hM⟩ := bind_ex hM
      refine region_gw (D := [32, 33, 34, 35, 31, 36, 37, 9, 10]) (Lr := [.box g123 28 #[.int .i64 p119.1, .int .i64 p119.2.1, .slice B120 p119.2.2.length d122], .row 3 1 (.slice B120 p119.2.2.length d122) p119.2.2.length (p119.2.2.flatMap eI), .row 3 1 (.slice B114 p105.2.2.length d115) p105.2.2.length (p105.2.2.flatMap eI), .row 3 1 (.slice B116 p110.2.2.1.length d117) p110.2.2.1.length (p110.2.2.1.flatMap eI), .box g118 28 #[.int .i64 p110.1, .int .i64 p110.2.1, .slice B116 p110.2.2.1.length d117], .box g102 26 #[.int .i64 x3, .int .i64 x4, .int .i64 x5], .box g101 24 #[.int .i64 x0, .int .i64 x1, .slice A2 x2.length c2]]) (deps := (fun | 0 => [32] | 1 => [33] | 2 => [34] | 3 => [35] | 4 => [31, 35] | 5 => [36, 35] | 6 => [37] | 7 => [9] | 8 => [9, 35] | 9 => [10] | _ => [])) (rd := (fun _ => [])) (zr := (fun _ => []))
        (φ := fun i vs => match i, vs with | 0, [v32] => v32 = .agg #[.int .i64 p119.1, .int .i64 p119.2.1, .slice B120 p119.2.2.length d122] | 1, [v33] => v33 = .agg #[.int .i64 x3, .int .i64 x4, .int .i64 x5] | 2, [v34] => v34 = .agg #[.int .i64 p124.1, .int .i64 p124.2.1, .int .i64 p124.2.2] | 3, [v35] => v35 = .tuple #[.agg #[.int .i64 p125.1, .int .i64 p125.2.1, .slice (slA (vtup (vtup v35 0) 2)) p125.2.2.1.length (slC (vtup (vtup v35 0) 2))], .bool p125.2.2.2] | 4, [v31, v35] => v31 = .tuple #[.agg #[.int .i64 p125.1, .int .i64 p125.2.1, .slice (slA (vtup (vtup v35 0) 2)) p125.2.2.1.length (slC (vtup (vtup v35 0) 2))], .bool p125.2.2.2] | 5, [v36, v35] => v36 = .agg #[.int .i64 p125.1, .int .i64 p125.2.1, .slice (slA (vtup (vtup v35 0) 2)) p125.2.2.1.length (slC (vtup (vtup v35 0) 2))] | 6, [v37] => v37 = .bool p125.2.2.2 | 7, [v9] => v9 = .pointer (some ⟨ptB v9, 0, none⟩) | 9, [v10] => v10 = .bool p125.2.2.2 | _, _ => True)
        (C := fun i vs => match i, vs with | 3, [v35] => [.row 3 1 (.slice (slA (vtup (vtup v35 0) 2)) p125.2.2.1.length (slC (vtup (vtup v35 0) 2))) p125.2.2.1.length (p125.2.2.1.flatMap eI)] | 7, [v9] => [.box (ptB v9) 28 #[.int .i64 0, .int .i64 0, .slice none 0 0]] | 8, [v9, v35] => [.box (ptB v9) 28 #[.int .i64 p125.1, .int .i64 p125.2.1, .slice (slA (vtup (vtup v35 0) 2)) p125.2.2.1.length (slC (vtup (vtup v35 0) 2))]] | _, _ => [])
        (κ := (fun | 7 => some 8 | _ => none)) (Z := (fun _ => [])) mixed hF (by kernel_rfl) S ?_ ?_
      · refine ⟨?_, ?_, ?_, ?_, ?_, ?_, ?_, ?_, ?_, ?_, trivial⟩
        · intro a u X hB hp hr hz hl S
          replace S : St w u ([] ++ X) := S
          exact .inl ⟨rfl, .agg #[.int .i64 p119.1, .int .i64 p119.2.1, .slice B120 p119.2.2.length d122], u, (run_loadN rfl ag28 (hF.evB hB rfl rfl) rfl ((gr_box S hl 0 rfl).cells 0 #[.int .i64 p119.1, .int .i64 p119.2.1, .slice B120 p119.2.2.length d122] rfl)), rfl, S⟩
        · intro a u X hB hp hr hz hl S
          replace S : St w u ([] ++ X) := S
          exact .inl ⟨rfl, .agg #[.int .i64 x3, .int .i64 x4, .int .i64 x5], u, (run_loadN rfl ag26 (hF.evB hB rfl rfl) rfl ((gr_box S hl 5 rfl).cells 0 #[.int .i64 x3, .int .i64 x4, .int .i64 x5] rfl)), rfl, S⟩
        · intro a u X hB hp hr hz hl S
          replace S : St w u ([] ++ X) := S
          have e33 : sl a 33 = .agg #[.int .i64 x3, .int .i64 x4, .int .i64 x5] := hp 1 rfl
          refine .inr (.inr (.inl ⟨rfl, _, _, (run_call (vs := [.agg #[.int .i64 x3, .int .i64 x4, .int .i64 x5]]) rfl rfl co9 ⟨(ev_sl e33), trivial⟩), ?_⟩))
          refine Calls.mono (c_laws_toRoomDeed (x0 := x3) (x1 := x4) (x2 := x5)  h124) ?_
          rintro e w1 ⟨rfl, T⟩
          exact ⟨_, rfl, rfl, S.call0 T⟩
        · intro a u X hB hp hr hz hl S
          replace S : St w u ([] ++ X) := S
          have e32 : sl a 32 = .agg #[.int .i64 p119.1, .int .i64 p119.2.1, .slice B120 p119.2.2.length d122] := hp 0 rfl
          have e34 : sl a 34 = .agg #[.int .i64 p124.1, .int .i64 p124.2.1, .int .i64 p124.2.2] := hp 2 rfl
          refine .inr (.inr (.inl ⟨rfl, _, _, (run_call (vs := [.agg #[.int .i64 p119.1, .int .i64 p119.2.1, .slice B120 p119.2.2.length d122], .agg #[.int .i64 p124.1, .int .i64 p124.2.1, .int .i64 p124.2.2]]) rfl rfl co10 ⟨(ev_sl e32), (ev_sl e34), trivial⟩), ?_⟩))
          refine Calls.mono (c_impl_RoomsDo (x0 := p119.1) (x1 := p119.2.1) (x2 := p119.2.2) (x3 := p124.1) (x4 := p124.2.1) (x5 := p124.2.2) ⟨(gr_rc S hl 1 rfl), rfl⟩ h125) ?_
          rintro e w1 ⟨B126, n127, d128, rfl, rfl, T⟩
          exact ⟨_, rfl, rfl, S.call1 T⟩
        · intro a u X hB hp hr hz hl S
          replace S : St w u ([] ++ X) := S
          have e35 : sl a 35 = .tuple #[.agg #[.int .i64 p125.1, .int .i64 p125.2.1, .slice (slA (vtup (vtup (sl a 35) 0) 2)) p125.2.2.1.length (slC (vtup (vtup (sl a 35) 0) 2))], .bool p125.2.2.2] := hp 3 rfl
          exact .inl ⟨rfl, .tuple #[.agg #[.int .i64 p125.1, .int .i64 p125.2.1, .slice (slA (vtup (vtup (sl a 35) 0) 2)) p125.2.2.1.length (slC (vtup (vtup (sl a 35) 0) 2))], .bool p125.2.2.2], u, (run_move rfl (ev_sl e35)), rfl, S⟩
        · intro a u X hB hp hr hz hl S
          replace S : St w u ([] ++ X) := S
          have e31 : sl a 31 = .tuple #[.agg #[.int .i64 p125.1, .int .i64 p125.2.1, .slice (slA (vtup (vtup (sl a 35) 0) 2)) p125.2.2.1.length (slC (vtup (vtup (sl a 35) 0) 2))], .bool p125.2.2.2] := hp 4 rfl
          exact .inl ⟨rfl, .agg #[.int .i64 p125.1, .int .i64 p125.2.1, .slice (slA (vtup (vtup (sl a 35) 0) 2)) p125.2.2.1.length (slC (vtup (vtup (sl a 35) 0) 2))], u, (run_extract rfl (ev_sl e31) rfl), rfl, S⟩
        · intro a u X hB hp hr hz hl S
          replace S : St w u ([] ++ X) := S
          have e31 : sl a 31 = .tuple #[.agg #[.int .i64 p125.1, .int .i64 p125.2.1, .slice (slA (vtup (vtup (sl a 35) 0) 2)) p125.2.2.1.length (slC (vtup (vtup (sl a 35) 0) 2))], .bool p125.2.2.2] := hp 4 rfl
          exact .inl ⟨rfl, .bool p125.2.2.2, u, (run_extract rfl (ev_sl e31) rfl), rfl, S⟩
        · intro a u X hB hp hr hz hl S
          replace S : St w u ([] ++ X) := S
          exact .inl ⟨rfl, _, _, (run_allocZ rfl zr28), rfl, S.alloc _ _⟩
        · intro a u X hB hp hr hz hl S
          replace S : St w u ([.box (ptB (sl a 9)) 28 #[.int .i64 0, .int .i64 0, .slice none 0 0]] ++ X) := S
          have e9 : sl a 9 = .pointer (some ⟨ptB (sl a 9), 0, none⟩) := hp 7 rfl
          have e36 : sl a 36 = .agg #[.int .i64 p125.1, .int .i64 p125.2.1, .slice (slA (vtup (vtup (sl a 35) 0) 2)) p125.2.2.1.length (slC (vtup (vtup (sl a 35) 0) 2))] := hp 5 rfl
          exact .inr (.inl ⟨rfl, _, run_store (cs' := #[.int .i64 p125.1, .int .i64 p125.2.1, .slice (slA (vtup (vtup (sl a 35) 0) 2)) p125.2.2.1.length (slC (vtup (vtup (sl a 35) 0) 2))]) rfl sz28 (ev_sl e9) (ev_sl e36) rfl rfl rfl (S.free 0 rfl) rfl rfl, trivial, S.put 0 rfl (#[.int .i64 p125.1, .int .i64 p125.2.1, .slice (slA (vtup (vtup (sl a 35) 0) 2)) p125.2.2.1.length (slC (vtup (vtup (sl a 35) 0) 2))])⟩)
        · intro a u X hB hp hr hz hl S
          replace S : St w u ([] ++ X) := S
          have e37 : sl a 37 = .bool p125.2.2.2 := hp 6 rfl
          exact .inl ⟨rfl, .bool p125.2.2.2, u, (run_assign rfl (ev_sl e37)), rfl, S⟩
      · intro a u hB hp S
        obtain ⟨q0, q1, q2, q3, q4, q5, q6, q7, q8, q9, _⟩ := hp
        have e32 : sl a 32 = .agg #[.int .i64 p119.1, .int .i64 p119.2.1, .slice B120 p119.2.2.length d122] := q0
        have e33 : sl a 33 = .agg #[.int .i64 x3, .int .i64 x4, .int .i64 x5] := q1
        have e34 : sl a 34 = .agg #[.int .i64 p124.1, .int .i64 p124.2.1, .int .i64 p124.2.2] := q2
        have e35 : sl a 35 = .tuple #[.agg #[.int .i64 p125.1, .int .i64 p125.2.1, .slice (slA (vtup (vtup (sl a 35) 0) 2)) p125.2.2.1.length (slC (vtup (vtup (sl a 35) 0) 2))], .bool p125.2.2.2] := q3
        have e31 : sl a 31 = .tuple #[.agg #[.int .i64 p125.1, .int .i64 p125.2.1, .slice (slA (vtup (vtup (sl a 35) 0) 2)) p125.2.2.1.length (slC (vtup (vtup (sl a 35) 0) 2))], .bool p125.2.2.2] := q4
        have e36 : sl a 36 = .agg #[.int .i64 p125.1, .int .i64 p125.2.1, .slice (slA (vtup (vtup (sl a 35) 0) 2)) p125.2.2.1.length (slC (vtup (vtup (sl a 35) 0) 2))] := q5
        have e37 : sl a 37 = .bool p125.2.2.2 := q6
        have e9 : sl a 9 = .pointer (some ⟨ptB (sl a 9), 0, none⟩) := q7
        have e10 : sl a 10 = .bool p125.2.2.2 := q9
        replace S : St w u [.row 3 1 (.slice (slA (vtup (vtup (sl a 35) 0) 2)) p125.2.2.1.length (slC (vtup (vtup (sl a 35) 0) 2))) p125.2.2.1.length (p125.2.2.1.flatMap eI), .box (ptB (sl a 9)) 28 #[.int .i64 p125.1, .int .i64 p125.2.1, .slice (slA (vtup (vtup (sl a 35) 0) 2)) p125.2.2.1.length (slC (vtup (vtup (sl a 35) 0) 2))], .box g123 28 #[.int .i64 p119.1, .int .i64 p119.2.1, .slice B120 p119.2.2.length d122], .row 3 1 (.slice B120 p119.2.2.length d122) p119.2.2.length (p119.2.2.flatMap eI), .row 3 1 (.slice B114 p105.2.2.length d115) p105.2.2.length (p105.2.2.flatMap eI), .row 3 1 (.slice B116 p110.2.2.1.length d117) p110.2.2.1.length (p110.2.2.1.flatMap eI), .box g118 28 #[.int .i64 p110.1, .int .i64 p110.2.1, .slice B116 p110.2.2.1.length d117], .box g102 26 #[.int .i64 x3, .int .i64 x4, .int .i64 x5], .box g101 24 #[.int .i64 x0, .int .i64 x1, .slice A2 x2.length c2]] := S
        clear q0 q1 q2 q3 q4 q5 q6 q7 q8 q9
        generalize slA (vtup (vtup (sl a 35) 0) 2) = B129 at *
        generalize slC (vtup (vtup (sl a 35) 0) 2) = d130 at *
        generalize ptB (sl a 9) = g131 at *
        have hF := hF.region hB [(32, .agg #[.int .i64 p119.1, .int .i64 p119.2.1, .slice B120 p119.2.2.length d122]), (33, .agg #[.int .i64 x3, .int .i64 x4, .int .i64 x5]), (34, .agg #[.int .i64 p124.1, .int .i64 p124.2.1, .int .i64 p124.2.2]), (35, .tuple #[.agg #[.int .i64 p125.1, .int .i64 p125.2.1, .slice B129 p125.2.2.1.length d130], .bool p125.2.2.2]), (31, .tuple #[.agg #[.int .i64 p125.1, .int .i64 p125.2.1, .slice B129 p125.2.2.1.length d130], .bool p125.2.2.2]), (36, .agg #[.int .i64 p125.1, .int .i64 p125.2.1, .slice B129 p125.2.2.1.length d130]), (37, .bool p125.2.2.2), (9, .pointer (some ⟨g131, 0, none⟩)), (10, .bool p125.2.2.2)] (allSl_mem ⟨e32, e33, e34, e35, e31, e36, e37, e9, e10, trivial⟩) rfl
        clear hB e32 e33 e34 e35 e31 e36 e37 e9 e10
        refine wp_seq ?_
        refine wp_seq ?_
        refine wp_region_lit ?_
        refine op_val (v := .agg #[.int .i64 p125.1, .int .i64 p125.2.1, .slice B129 p125.2.2.1.length d130]) rfl rfl hF rfl (run_loadN rfl ag28 (hF.ev rfl) rfl ((S.free 1 rfl).cells 0 #[.int .i64 p125.1, .int .i64 p125.2.1, .slice B129 p125.2.2.1.length d130] rfl)) ?_; clear hF; intro a hF
        refine op_val (v := .agg #[.int .i64 p110.1, .int .i64 p110.2.1, .slice B116 p110.2.2.1.length d117]) rfl rfl hF rfl (run_loadN rfl ag28 (hF.ev rfl) rfl ((S.free 6 rfl).cells 0 #[.int .i64 p110.1, .int .i64 p110.2.1, .slice B116 p110.2.2.1.length d117] rfl)) ?_; clear hF; intro a hF
        obtain ⟨p132, h132, hM⟩ := bind_ex hM
        refine op_call rfl rfl hF rfl (run_call (vs := [.agg #[.int .i64 p125.1, .int .i64 p125.2.1, .slice B129 p125.2.2.1.length d130], .agg #[.int .i64 p110.1, .int .i64 p110.2.1, .slice B116 p110.2.2.1.length d117]]) rfl rfl co11 ⟨(hF.ev rfl), (hF.ev rfl), trivial⟩) (c_laws_eqRooms (x0 := p125.1) (x1 := p125.2.1) (x2 := p125.2.2.1) (x3 := p110.1) (x4 := p110.2.1) (x5 := p110.2.2.1) ⟨(S.rc 0 rfl), rfl⟩ ⟨(S.rc 5 rfl), rfl⟩ h132) ?_
        rintro e u ⟨rfl, T⟩
        refine ⟨_, rfl, ?_⟩
        clear hF; intro a hF
        replace S := S.call0 T; clear T
        refine op_val (v := .bool (!p132)) rfl rfl hF rfl (run_not rfl (hF.ev rfl)) ?_; clear hF; intro a hF
        refine op_val (v := .bool (!p132)) rfl rfl hF rfl (run_move rfl (hF.ev rfl)) ?_; clear hF; intro a hF
        refine op_gv (v := .bool p125.2.2.2) rfl rfl hF rfl (yf (gw_yield hF rfl rfl rfl)) (fun hg => (run_move rfl (hF.ev rfl))) ?_; clear hF; intro a hF
        refine op_gv (v := .bool p110.2.2.2) rfl rfl hF rfl (yf (gw_yield hF rfl rfl rfl)) (fun hg => (run_move rfl (hF.ev rfl))) ?_; clear hF; intro a hF
        refine op_gv (v := .bool (p125.2.2.2 != p110.2.2.2)) rfl rfl hF rfl (yf (gw_yield hF rfl rfl rfl)) (fun hg => (run_neqB ((hF.ev rfl).trans (gv_t hg)) ((hF.ev rfl).trans (gv_t hg)) Try.underlying4 rfl)) ?_; clear hF; intro a hF
        refine op_val (v := .bool ((!p132) || (p125.2.2.2 != p110.2.2.2))) rfl rfl hF rfl (run_pick_or rfl (hF.ev rfl) rfl (fun hp => ((hF.ev rfl).trans (gv_t (not_t hp))))) ?_; clear hF; intro a hF
        refine wpList_nil ?_
        cases hc133 : ((!p132) || (p125.2.2.2 != p110.2.2.2))
        · replace hM := bif_f hc133 hM
          refine cond_f hF rfl hc133 ?_
          refine wp_skip ?_
          refine wp_seq ?_
          refine wp_seq ?_
          obtain ⟨p134, h134, hM⟩ := bind_ex hM
          obtain ⟨p138, h138, hM⟩ := bind_ex hM
          refine region_gw (D := [47, 48, 49, 50, 51]) (Lr := [.row 3 1 (.slice B129 p125.2.2.1.length d130) p125.2.2.1.length (p125.2.2.1.flatMap eI), .box g131 28 #[.int .i64 p125.1, .int .i64 p125.2.1, .slice B129 p125.2.2.1.length d130], .box g123 28 #[.int .i64 p119.1, .int .i64 p119.2.1, .slice B120 p119.2.2.length d122], .row 3 1 (.slice B120 p119.2.2.length d122) p119.2.2.length (p119.2.2.flatMap eI), .row 3 1 (.slice B114 p105.2.2.length d115) p105.2.2.length (p105.2.2.flatMap eI), .row 3 1 (.slice B116 p110.2.2.1.length d117) p110.2.2.1.length (p110.2.2.1.flatMap eI), .box g118 28 #[.int .i64 p110.1, .int .i64 p110.2.1, .slice B116 p110.2.2.1.length d117], .box g102 26 #[.int .i64 x3, .int .i64 x4, .int .i64 x5], .box g101 24 #[.int .i64 x0, .int .i64 x1, .slice A2 x2.length c2]]) (deps := (fun | 0 => [47] | 1 => [48] | 2 => [49] | 3 => [50] | 4 => [51] | _ => [])) (rd := (fun | 3 => [2] | _ => [])) (zr := (fun _ => []))
            (φ := fun i vs => match i, vs with | 0, [v47] => v47 = .agg #[.int .i64 p119.1, .int .i64 p119.2.1, .slice B120 p119.2.2.length d122] | 1, [v48] => v48 = .agg #[.int .i64 x0, .int .i64 x1, .slice A2 x2.length c2] | 2, [v49] => v49 = .agg #[.int .i64 p134.1, .int .i64 p134.2.1, .slice (slA (vtup v49 2)) p134.2.2.length (slC (vtup v49 2))] | 3, [v50] => v50 = .bool p138 | 4, [v51] => v51 = .bool (!p138) | _, _ => True)
            (C := fun i vs => match i, vs with | 2, [v49] => [.row 3 1 (.slice (slA (vtup v49 2)) p134.2.2.length (slC (vtup v49 2))) p134.2.2.length (p134.2.2.flatMap eI)] | _, _ => [])
            (κ := (fun _ => none)) (Z := (fun _ => [])) mixed hF (by kernel_rfl) S ?_ ?_
          · refine ⟨?_, ?_, ?_, ?_, ?_, trivial⟩
            · intro a u X hB hp hr hz hl S
              replace S : St w u ([] ++ X) := S
              exact .inl ⟨rfl, .agg #[.int .i64 p119.1, .int .i64 p119.2.1, .slice B120 p119.2.2.length d122], u, (run_loadN rfl ag28 (hF.evB hB rfl rfl) rfl ((gr_box S hl 2 rfl).cells 0 #[.int .i64 p119.1, .int .i64 p119.2.1, .slice B120 p119.2.2.length d122] rfl)), rfl, S⟩
            · intro a u X hB hp hr hz hl S
              replace S : St w u ([] ++ X) := S
              exact .inl ⟨rfl, .agg #[.int .i64 x0, .int .i64 x1, .slice A2 x2.length c2], u, (run_loadN rfl ag24 (hF.evB hB rfl rfl) rfl ((gr_box S hl 8 rfl).cells 0 #[.int .i64 x0, .int .i64 x1, .slice A2 x2.length c2] rfl)), rfl, S⟩
            · intro a u X hB hp hr hz hl S
              replace S : St w u ([] ++ X) := S
              have e48 : sl a 48 = .agg #[.int .i64 x0, .int .i64 x1, .slice A2 x2.length c2] := hp 1 rfl
              refine .inr (.inr (.inl ⟨rfl, _, _, (run_call (vs := [.agg #[.int .i64 x0, .int .i64 x1, .slice A2 x2.length c2]]) rfl rfl co8 ⟨(ev_sl e48), trivial⟩), ?_⟩))
              refine Calls.mono (c_laws_toRooms (x0 := x0) (x1 := x1) (x2 := x2) ⟨(S.rc0 h2.rc), rfl⟩ h134) ?_
              rintro e w1 ⟨B135, n136, d137, rfl, rfl, T⟩
              exact ⟨_, rfl, rfl, S.call1 T⟩
            · intro a u X hB hp hr hz hl S
              replace S : St w u ([] ++ X) := S
              have e47 : sl a 47 = .agg #[.int .i64 p119.1, .int .i64 p119.2.1, .slice B120 p119.2.2.length d122] := hp 0 rfl
              have e49 : sl a 49 = .agg #[.int .i64 p134.1, .int .i64 p134.2.1, .slice (slA (vtup (sl a 49) 2)) p134.2.2.length (slC (vtup (sl a 49) 2))] := hp 2 rfl
              refine .inr (.inr (.inl ⟨rfl, _, _, (run_call (vs := [.agg #[.int .i64 p119.1, .int .i64 p119.2.1, .slice B120 p119.2.2.length d122], .agg #[.int .i64 p134.1, .int .i64 p134.2.1, .slice (slA (vtup (sl a 49) 2)) p134.2.2.length (slC (vtup (sl a 49) 2))]]) rfl rfl co11 ⟨(ev_sl e47), (ev_sl e49), trivial⟩), ?_⟩))
              refine Calls.mono (c_laws_eqRooms (x0 := p119.1) (x1 := p119.2.1) (x2 := p119.2.2) (x3 := p134.1) (x4 := p134.2.1) (x5 := p134.2.2) ⟨(gr_rc S hl 3 rfl), rfl⟩ ⟨(own_rc (show World.ownsRow _ 0 _ _ _ _ _ from S.mem (List.mem_append_right _ (hr 2 (List.mem_of_getElem? (i := 0) rfl) _ (List.mem_of_getElem? (i := 0) rfl))))), rfl⟩ h138) ?_
              rintro e w1 ⟨rfl, T⟩
              exact ⟨_, rfl, rfl, S.call0 T⟩
            · intro a u X hB hp hr hz hl S
              replace S : St w u ([] ++ X) := S
              have e50 : sl a 50 = .bool p138 := hp 3 rfl
              exact .inl ⟨rfl, .bool (!p138), u, (run_not rfl (ev_sl e50)), rfl, S⟩
          · intro a u hB hp S
            obtain ⟨q0, q1, q2, q3, q4, _⟩ := hp
            have e47 : sl a 47 = .agg #[.int .i64 p119.1, .int .i64 p119.2.1, .slice B120 p119.2.2.length d122] := q0
            have e48 : sl a 48 = .agg #[.int .i64 x0, .int .i64 x1, .slice A2 x2.length c2] := q1
            have e49 : sl a 49 = .agg #[.int .i64 p134.1, .int .i64 p134.2.1, .slice (slA (vtup (sl a 49) 2)) p134.2.2.length (slC (vtup (sl a 49) 2))] := q2
            have e50 : sl a 50 = .bool p138 := q3
            have e51 : sl a 51 = .bool (!p138) := q4
            replace S : St w u [.row 3 1 (.slice (slA (vtup (sl a 49) 2)) p134.2.2.length (slC (vtup (sl a 49) 2))) p134.2.2.length (p134.2.2.flatMap eI), .row 3 1 (.slice B129 p125.2.2.1.length d130) p125.2.2.1.length (p125.2.2.1.flatMap eI), .box g131 28 #[.int .i64 p125.1, .int .i64 p125.2.1, .slice B129 p125.2.2.1.length d130], .box g123 28 #[.int .i64 p119.1, .int .i64 p119.2.1, .slice B120 p119.2.2.length d122], .row 3 1 (.slice B120 p119.2.2.length d122) p119.2.2.length (p119.2.2.flatMap eI), .row 3 1 (.slice B114 p105.2.2.length d115) p105.2.2.length (p105.2.2.flatMap eI), .row 3 1 (.slice B116 p110.2.2.1.length d117) p110.2.2.1.length (p110.2.2.1.flatMap eI), .box g118 28 #[.int .i64 p110.1, .int .i64 p110.2.1, .slice B116 p110.2.2.1.length d117], .box g102 26 #[.int .i64 x3, .int .i64 x4, .int .i64 x5], .box g101 24 #[.int .i64 x0, .int .i64 x1, .slice A2 x2.length c2]] := S
            clear q0 q1 q2 q3 q4
            generalize slA (vtup (sl a 49) 2) = B139 at *
            generalize slC (vtup (sl a 49) 2) = d140 at *
            have hF := hF.region hB [(47, .agg #[.int .i64 p119.1, .int .i64 p119.2.1, .slice B120 p119.2.2.length d122]), (48, .agg #[.int .i64 x0, .int .i64 x1, .slice A2 x2.length c2]), (49, .agg #[.int .i64 p134.1, .int .i64 p134.2.1, .slice B139 p134.2.2.length d140]), (50, .bool p138), (51, .bool (!p138))] (allSl_mem ⟨e47, e48, e49, e50, e51, trivial⟩) rfl
            clear hB e47 e48 e49 e50 e51
            cases hc141 : (p138)
            · replace hM := bif_f hc141 hM
              refine cond_t hF rfl (not_t hc141) ?_
              refine wp_seq ?_
              refine wp_region_lit ?_
              refine op_val (v := .bool false) rfl rfl hF rfl (run_assign rfl rfl) ?_; clear hF; intro a hF
              refine wpList_nil ?_
              refine wp_ret ?_
              repeat with_reducible (first | refine then_ret ?_ | refine in_ret ?_ | refine in_nrm ?_)
              refine ret1_gw (.inl rfl) hF rfl (res_tmp (hF.ev rfl)) ?_
              obtain rfl := Option.some.inj hM
              exact ⟨rfl, S.sel [] rfl rfl⟩
            · replace hM := bif_t hc141 hM
              refine cond_f hF rfl (not_f hc141) ?_
              refine wp_skip ?_
              refine wp_seq ?_
              refine wp_region_lit ?_
              refine op_val (v := .int .i64 1) rfl rfl hF rfl (run_assign rfl rfl) ?_; clear hF; intro a hF
              refine wpList_nil ?_
              refine wp_seq ?_
              refine wp_region_lit ?_
              refine op_val (v := .agg #[.int .i64 p119.1, .int .i64 p119.2.1, .slice B120 p119.2.2.length d122]) rfl rfl hF rfl (run_loadN rfl ag28 (hF.ev rfl) rfl ((S.free 3 rfl).cells 0 #[.int .i64 p119.1, .int .i64 p119.2.1, .slice B120 p119.2.2.length d122] rfl)) ?_; clear hF; intro a hF
              refine op_val (v := .int .i64 1) rfl rfl hF rfl (run_move rfl (hF.ev rfl)) ?_; clear hF; intro a hF
              obtain ⟨p142, h142, hM⟩ := bind_ex hM
              refine op_call rfl rfl hF rfl (run_call (vs := [.agg #[.int .i64 p119.1, .int .i64 p119.2.1, .slice B120 p119.2.2.length d122], .int .i64 1]) rfl rfl co12 ⟨(hF.ev rfl), (hF.ev rfl), trivial⟩) (c_laws_markRooms (x0 := p119.1) (x1 := p119.2.1) (x2 := p119.2.2) (x3 := 1) rfl (show St w _ [.row 3 1 (.slice B120 p119.2.2.length d122) p119.2.2.length (p119.2.2.flatMap eI), .row 3 1 (.slice B139 p134.2.2.length d140) p134.2.2.length (p134.2.2.flatMap eI), .row 3 1 (.slice B129 p125.2.2.1.length d130) p125.2.2.1.length (p125.2.2.1.flatMap eI), .box g131 28 #[.int .i64 p125.1, .int .i64 p125.2.1, .slice B129 p125.2.2.1.length d130], .box g123 28 #[.int .i64 p119.1, .int .i64 p119.2.1, .slice B120 p119.2.2.length d122], .row 3 1 (.slice B114 p105.2.2.length d115) p105.2.2.length (p105.2.2.flatMap eI), .row 3 1 (.slice B116 p110.2.2.1.length d117) p110.2.2.1.length (p110.2.2.1.flatMap eI), .box g118 28 #[.int .i64 p110.1, .int .i64 p110.2.1, .slice B116 p110.2.2.1.length d117], .box g102 26 #[.int .i64 x3, .int .i64 x4, .int .i64 x5], .box g101 24 #[.int .i64 x0, .int .i64 x1, .slice A2 x2.length c2]] from S.sel [4, 0, 1, 2, 3, 5, 6, 7, 8, 9] rfl rfl) h142) ?_
              rintro e u ⟨rfl, hn143, T⟩
              refine ⟨_, rfl, ?_⟩
              clear hF; intro a hF
              clear S; have S := T; clear T
              refine op_val (v := .int .i64 p142.1) rfl rfl hF rfl (run_assign rfl (hF.ev rfl)) ?_; clear hF; intro a hF
              refine wpList_nil ?_
              refine wp_seq ?_
              refine wp_seq ?_
              refine wp_region_lit ?_
              refine op_val (v := .int .i64 p142.1) rfl rfl hF rfl (run_move rfl (hF.ev rfl)) ?_; clear hF; intro a hF
              refine op_val (v := .bool (ltB p142.1 0)) rfl rfl hF rfl (run_lss (hF.ev rfl) rfl rfl) ?_; clear hF; intro a hF
              refine op_val (v := .bool (ltB p142.1 0)) rfl rfl hF rfl (run_move rfl (hF.ev rfl)) ?_; clear hF; intro a hF
              refine op_gv (v := .agg #[.int .i64 p125.1, .int .i64 p125.2.1, .slice B129 p125.2.2.1.length d130]) rfl rfl hF rfl (yf (gw_yield hF rfl rfl rfl)) (fun hg => (run_loadN rfl ag28 (hF.ev rfl) rfl ((S.free 3 rfl).cells 0 #[.int .i64 p125.1, .int .i64 p125.2.1, .slice B129 p125.2.2.1.length d130] rfl))) ?_; clear hF; intro a hF
              refine op_gv (v := .agg #[.int .i64 p110.1, .int .i64 p110.2.1, .slice B116 p110.2.2.1.length d117]) rfl rfl hF rfl (yf (gw_yield hF rfl rfl rfl)) (fun hg => (run_loadN rfl ag28 (hF.ev rfl) rfl ((S.free 7 rfl).cells 0 #[.int .i64 p110.1, .int .i64 p110.2.1, .slice B116 p110.2.2.1.length d117] rfl))) ?_; clear hF; intro a hF
              obtain ⟨p144, h144, hM⟩ := bind_ex hM
              refine op_gcall (v := .bool p144) rfl rfl hF rfl S (yf (gw_yield hF rfl rfl rfl)) (fun hg => (run_call (vs := [.agg #[.int .i64 p125.1, .int .i64 p125.2.1, .slice B129 p125.2.2.1.length d130], .agg #[.int .i64 p110.1, .int .i64 p110.2.1, .slice B116 p110.2.2.1.length d117]]) rfl rfl co11 ⟨((hF.ev rfl).trans (gv_t hg)), ((hF.ev rfl).trans (gv_t hg)), trivial⟩)) (fun hg => c_laws_eqRooms (x0 := p125.1) (x1 := p125.2.1) (x2 := p125.2.2.1) (x3 := p110.1) (x4 := p110.2.1) (x5 := p110.2.2.1) ⟨(S.rc 2 rfl), rfl⟩ ⟨(S.rc 6 rfl), rfl⟩ (gb_t h144 hg)) ?_; clear hF S; intro a u hF S
              refine op_gv (v := .bool (!p144)) rfl rfl hF rfl (yf (gw_yield hF rfl rfl rfl)) (fun hg => (run_not rfl ((hF.ev rfl).trans (gv_t hg)))) ?_; clear hF; intro a hF
              refine op_val (v := .bool ((ltB p142.1 0) || (!p144))) rfl rfl hF rfl (run_pick_or rfl (hF.ev rfl) rfl (fun hp => ((hF.ev rfl).trans (gv_t (not_t hp))))) ?_; clear hF; intro a hF
              refine op_val (v := .bool ((ltB p142.1 0) || (!p144))) rfl rfl hF rfl (run_move rfl (hF.ev rfl)) ?_; clear hF; intro a hF
              refine op_gv (v := .bool p125.2.2.2) rfl rfl hF rfl (yf (gw_yield hF rfl rfl rfl)) (fun hg => (run_move rfl (hF.ev rfl))) ?_; clear hF; intro a hF
              refine op_gv (v := .bool p110.2.2.2) rfl rfl hF rfl (yf (gw_yield hF rfl rfl rfl)) (fun hg => (run_move rfl (hF.ev rfl))) ?_; clear hF; intro a hF
              refine op_gv (v := .bool (p125.2.2.2 != p110.2.2.2)) rfl rfl hF rfl (yf (gw_yield hF rfl rfl rfl)) (fun hg => (run_neqB ((hF.ev rfl).trans (gv_t hg)) ((hF.ev rfl).trans (gv_t hg)) Try.underlying4 rfl)) ?_; clear hF; intro a hF
              refine op_val (v := .bool (((ltB p142.1 0) || (!p144)) || (p125.2.2.2 != p110.2.2.2))) rfl rfl hF rfl (run_pick_or rfl (hF.ev rfl) rfl (fun hp => ((hF.ev rfl).trans (gv_t (not_t hp))))) ?_; clear hF; intro a hF
              refine wpList_nil ?_
              cases hc145 : (((ltB p142.1 0) || (!p144)) || (p125.2.2.2 != p110.2.2.2))
              · replace hM := bif_f hc145 hM
                refine cond_f hF rfl hc145 ?_
                refine wp_skip ?_
                refine wp_seq ?_
                refine wp_region_lit ?_
                refine op_val (v := .int .i64 1) rfl rfl hF rfl (run_assign rfl rfl) ?_; clear hF; intro a hF
                refine wpList_nil ?_
                refine wp_seq ?_
                refine wp_region_lit ?_
                refine op_val (v := .agg #[.int .i64 p125.1, .int .i64 p125.2.1, .slice B129 p125.2.2.1.length d130]) rfl rfl hF rfl (run_loadN rfl ag28 (hF.ev rfl) rfl ((S.free 3 rfl).cells 0 #[.int .i64 p125.1, .int .i64 p125.2.1, .slice B129 p125.2.2.1.length d130] rfl)) ?_; clear hF; intro a hF
                refine op_val (v := .int .i64 1) rfl rfl hF rfl (run_move rfl (hF.ev rfl)) ?_; clear hF; intro a hF
                obtain ⟨p146, h146, hM⟩ := bind_ex hM
                refine op_call rfl rfl hF rfl (run_call (vs := [.agg #[.int .i64 p125.1, .int .i64 p125.2.1, .slice B129 p125.2.2.1.length d130], .int .i64 1]) rfl rfl co12 ⟨(hF.ev rfl), (hF.ev rfl), trivial⟩) (c_laws_markRooms (x0 := p125.1) (x1 := p125.2.1) (x2 := p125.2.2.1) (x3 := 1) rfl (show St w _ [.row 3 1 (.slice B129 p125.2.2.1.length d130) p125.2.2.1.length (p125.2.2.1.flatMap eI), .row 3 1 (.slice B120 p119.2.2.length d122) p119.2.2.length (p142.2.flatMap eI), .row 3 1 (.slice B139 p134.2.2.length d140) p134.2.2.length (p134.2.2.flatMap eI), .box g131 28 #[.int .i64 p125.1, .int .i64 p125.2.1, .slice B129 p125.2.2.1.length d130], .box g123 28 #[.int .i64 p119.1, .int .i64 p119.2.1, .slice B120 p119.2.2.length d122], .row 3 1 (.slice B114 p105.2.2.length d115) p105.2.2.length (p105.2.2.flatMap eI), .row 3 1 (.slice B116 p110.2.2.1.length d117) p110.2.2.1.length (p110.2.2.1.flatMap eI), .box g118 28 #[.int .i64 p110.1, .int .i64 p110.2.1, .slice B116 p110.2.2.1.length d117], .box g102 26 #[.int .i64 x3, .int .i64 x4, .int .i64 x5], .box g101 24 #[.int .i64 x0, .int .i64 x1, .slice A2 x2.length c2]] from S.sel [2, 0, 1, 3, 4, 5, 6, 7, 8, 9] rfl rfl) h146) ?_
                rintro e u ⟨rfl, hn147, T⟩
                refine ⟨_, rfl, ?_⟩
                clear hF; intro a hF
                clear S; have S := T; clear T
                refine op_val (v := .int .i64 p146.1) rfl rfl hF rfl (run_assign rfl (hF.ev rfl)) ?_; clear hF; intro a hF
                refine wpList_nil ?_
                refine wp_seq ?_
                refine wp_region_lit ?_
                refine op_val (v := .int .i64 1) rfl rfl hF rfl (run_assign rfl rfl) ?_; clear hF; intro a hF
                refine wpList_nil ?_
                refine wp_seq ?_
                refine wp_region_lit ?_
                refine op_val (v := .agg #[.int .i64 p125.1, .int .i64 p125.2.1, .slice B129 p125.2.2.1.length d130]) rfl rfl hF rfl (run_loadN rfl ag28 (hF.ev rfl) rfl ((S.free 3 rfl).cells 0 #[.int .i64 p125.1, .int .i64 p125.2.1, .slice B129 p125.2.2.1.length d130] rfl)) ?_; clear hF; intro a hF
                refine op_val (v := .int .i64 1) rfl rfl hF rfl (run_move rfl (hF.ev rfl)) ?_; clear hF; intro a hF
                obtain ⟨p148, h148, hM⟩ := bind_ex hM
                refine op_call rfl rfl hF rfl (run_call (vs := [.agg #[.int .i64 p125.1, .int .i64 p125.2.1, .slice B129 p125.2.2.1.length d130], .int .i64 1]) rfl rfl co13 ⟨(hF.ev rfl), (hF.ev rfl), trivial⟩) (c_laws_heldRooms (x0 := p125.1) (x1 := p125.2.1) (x2 := p146.2) (x3 := 1) ⟨(S.rc 0 rfl), hn147⟩ h148) ?_
                rintro e u ⟨rfl, T⟩
                refine ⟨_, rfl, ?_⟩
                clear hF; intro a hF
                replace S := S.call0 T; clear T
                refine op_val (v := .int .i64 p148) rfl rfl hF rfl (run_assign rfl (hF.ev rfl)) ?_; clear hF; intro a hF
                refine wpList_nil ?_
                refine wp_seq ?_
                refine wp_seq ?_
                refine wp_region_lit ?_
                refine op_val (v := .int .i64 p148) rfl rfl hF rfl (run_move rfl (hF.ev rfl)) ?_; clear hF; intro a hF
                refine op_val (v := .bool (ltB p148 0)) rfl rfl hF rfl (run_lss (hF.ev rfl) rfl rfl) ?_; clear hF; intro a hF
                refine wpList_nil ?_
                cases hc149 : (ltB p148 0)
                · replace hM := bif_f hc149 hM
                  refine cond_f hF rfl hc149 ?_
                  refine wp_skip ?_
                  refine wp_seq ?_
                  refine wp_seq ?_
                  refine wp_region_lit ?_
                  refine op_val (v := .int .i64 p148) rfl rfl hF rfl (run_move rfl (hF.ev rfl)) ?_; clear hF; intro a hF
                  refine op_val (v := .int .i64 p146.1) rfl rfl hF rfl (run_move rfl (hF.ev rfl)) ?_; clear hF; intro a hF
                  refine op_val (v := .bool (p148 != p146.1)) rfl rfl hF rfl (run_neq (hF.ev rfl) (hF.ev rfl) rfl) ?_; clear hF; intro a hF
                  refine wpList_nil ?_
                  cases hc150 : (p148 != p146.1)
                  · replace hM := bif_f hc150 hM
                    refine cond_f hF rfl hc150 ?_
                    refine wp_skip ?_
                    refine wp_seq ?_
                    obtain ⟨p151, h151, hM⟩ := bind_ex hM
                    obtain ⟨p155, h155, hM⟩ := bind_ex hM
                    obtain ⟨p156, h156, hM⟩ := bind_ex hM
                    refine region_gw (D := [80, 81, 82, 83, 84, 79, 85, 86, 14, 15]) (Lr := [.row 3 1 (.slice B129 p125.2.2.1.length d130) p125.2.2.1.length (p146.2.flatMap eI), .row 3 1 (.slice B120 p119.2.2.length d122) p119.2.2.length (p142.2.flatMap eI), .row 3 1 (.slice B139 p134.2.2.length d140) p134.2.2.length (p134.2.2.flatMap eI), .box g131 28 #[.int .i64 p125.1, .int .i64 p125.2.1, .slice B129 p125.2.2.1.length d130], .box g123 28 #[.int .i64 p119.1, .int .i64 p119.2.1, .slice B120 p119.2.2.length d122], .row 3 1 (.slice B114 p105.2.2.length d115) p105.2.2.length (p105.2.2.flatMap eI), .row 3 1 (.slice B116 p110.2.2.1.length d117) p110.2.2.1.length (p110.2.2.1.flatMap eI), .box g118 28 #[.int .i64 p110.1, .int .i64 p110.2.1, .slice B116 p110.2.2.1.length d117], .box g102 26 #[.int .i64 x3, .int .i64 x4, .int .i64 x5], .box g101 24 #[.int .i64 x0, .int .i64 x1, .slice A2 x2.length c2]]) (deps := (fun | 0 => [80] | 1 => [81] | 2 => [82] | 3 => [83] | 4 => [84] | 5 => [79, 84] | 6 => [85, 84] | 7 => [86] | 8 => [14] | 9 => [14, 84] | 10 => [15] | _ => [])) (rd := (fun | 4 => [1] | _ => [])) (zr := (fun _ => []))
                      (φ := fun i vs => match i, vs with | 0, [v80] => v80 = .agg #[.int .i64 x0, .int .i64 x1, .slice A2 x2.length c2] | 1, [v81] => v81 = .agg #[.int .i64 p151.1, .int .i64 p151.2.1, .slice (slA (vtup v81 2)) p151.2.2.length (slC (vtup v81 2))] | 2, [v82] => v82 = .agg #[.int .i64 x3, .int .i64 x4, .int .i64 x5] | 3, [v83] => v83 = .agg #[.int .i64 p155.1, .int .i64 p155.2.1, .int .i64 p155.2.2] | 4, [v84] => v84 = .tuple #[.agg #[.int .i64 p156.1, .int .i64 p156.2.1, .slice (slA (vtup (vtup v84 0) 2)) p156.2.2.1.length (slC (vtup (vtup v84 0) 2))], .bool p156.2.2.2] | 5, [v79, v84] => v79 = .tuple #[.agg #[.int .i64 p156.1, .int .i64 p156.2.1, .slice (slA (vtup (vtup v84 0) 2)) p156.2.2.1.length (slC (vtup (vtup v84 0) 2))], .bool p156.2.2.2] | 6, [v85, v84] => v85 = .agg #[.int .i64 p156.1, .int .i64 p156.2.1, .slice (slA (vtup (vtup v84 0) 2)) p156.2.2.1.length (slC (vtup (vtup v84 0) 2))] | 7, [v86] => v86 = .bool p156.2.2.2 | 8, [v14] => v14 = .pointer (some ⟨ptB v14, 0, none⟩) | 10, [v15] => v15 = .bool p156.2.2.2 | _, _ => True)
                      (C := fun i vs => match i, vs with | 1, [v81] => [.row 3 1 (.slice (slA (vtup v81 2)) p151.2.2.length (slC (vtup v81 2))) p151.2.2.length (p151.2.2.flatMap eI)] | 4, [v84] => [.row 3 1 (.slice (slA (vtup (vtup v84 0) 2)) p156.2.2.1.length (slC (vtup (vtup v84 0) 2))) p156.2.2.1.length (p156.2.2.1.flatMap eI)] | 8, [v14] => [.box (ptB v14) 28 #[.int .i64 0, .int .i64 0, .slice none 0 0]] | 9, [v14, v84] => [.box (ptB v14) 28 #[.int .i64 p156.1, .int .i64 p156.2.1, .slice (slA (vtup (vtup v84 0) 2)) p156.2.2.1.length (slC (vtup (vtup v84 0) 2))]] | _, _ => [])
                      (κ := (fun | 8 => some 9 | _ => none)) (Z := (fun _ => [])) mixed hF (by kernel_rfl) S ?_ ?_
                    · refine ⟨?_, ?_, ?_, ?_, ?_, ?_, ?_, ?_, ?_, ?_, ?_, trivial⟩
                      · intro a u X hB hp hr hz hl S
                        replace S : St w u ([] ++ X) := S
                        exact .inl ⟨rfl, .agg #[.int .i64 x0, .int .i64 x1, .slice A2 x2.length c2], u, (run_loadN rfl ag24 (hF.evB hB rfl rfl) rfl ((gr_box S hl 9 rfl).cells 0 #[.int .i64 x0, .int .i64 x1, .slice A2 x2.length c2] rfl)), rfl, S⟩
                      · intro a u X hB hp hr hz hl S
                        replace S : St w u ([] ++ X) := S
                        have e80 : sl a 80 = .agg #[.int .i64 x0, .int .i64 x1, .slice A2 x2.length c2] := hp 0 rfl
                        refine .inr (.inr (.inl ⟨rfl, _, _, (run_call (vs := [.agg #[.int .i64 x0, .int .i64 x1, .slice A2 x2.length c2]]) rfl rfl co8 ⟨(ev_sl e80), trivial⟩), ?_⟩))
                        refine Calls.mono (c_laws_toRooms (x0 := x0) (x1 := x1) (x2 := x2) ⟨(S.rc0 h2.rc), rfl⟩ h151) ?_
                        rintro e w1 ⟨B152, n153, d154, rfl, rfl, T⟩
                        exact ⟨_, rfl, rfl, S.call1 T⟩
                      · intro a u X hB hp hr hz hl S
                        replace S : St w u ([] ++ X) := S
                        exact .inl ⟨rfl, .agg #[.int .i64 x3, .int .i64 x4, .int .i64 x5], u, (run_loadN rfl ag26 (hF.evB hB rfl rfl) rfl ((gr_box S hl 8 rfl).cells 0 #[.int .i64 x3, .int .i64 x4, .int .i64 x5] rfl)), rfl, S⟩
                      · intro a u X hB hp hr hz hl S
                        replace S : St w u ([] ++ X) := S
                        have e82 : sl a 82 = .agg #[.int .i64 x3, .int .i64 x4, .int .i64 x5] := hp 2 rfl
                        refine .inr (.inr (.inl ⟨rfl, _, _, (run_call (vs := [.agg #[.int .i64 x3, .int .i64 x4, .int .i64 x5]]) rfl rfl co9 ⟨(ev_sl e82), trivial⟩), ?_⟩))
                        refine Calls.mono (c_laws_toRoomDeed (x0 := x3) (x1 := x4) (x2 := x5)  h155) ?_
                        rintro e w1 ⟨rfl, T⟩
                        exact ⟨_, rfl, rfl, S.call0 T⟩
                      · intro a u X hB hp hr hz hl S
                        replace S : St w u ([] ++ X) := S
                        have e81 : sl a 81 = .agg #[.int .i64 p151.1, .int .i64 p151.2.1, .slice (slA (vtup (sl a 81) 2)) p151.2.2.length (slC (vtup (sl a 81) 2))] := hp 1 rfl
                        have e83 : sl a 83 = .agg #[.int .i64 p155.1, .int .i64 p155.2.1, .int .i64 p155.2.2] := hp 3 rfl
                        refine .inr (.inr (.inl ⟨rfl, _, _, (run_call (vs := [.agg #[.int .i64 p151.1, .int .i64 p151.2.1, .slice (slA (vtup (sl a 81) 2)) p151.2.2.length (slC (vtup (sl a 81) 2))], .agg #[.int .i64 p155.1, .int .i64 p155.2.1, .int .i64 p155.2.2]]) rfl rfl co10 ⟨(ev_sl e81), (ev_sl e83), trivial⟩), ?_⟩))
                        refine Calls.mono (c_impl_RoomsDo (x0 := p151.1) (x1 := p151.2.1) (x2 := p151.2.2) (x3 := p155.1) (x4 := p155.2.1) (x5 := p155.2.2) ⟨(own_rc (show World.ownsRow _ 0 _ _ _ _ _ from S.mem (List.mem_append_right _ (hr 1 (List.mem_of_getElem? (i := 0) rfl) _ (List.mem_of_getElem? (i := 0) rfl))))), rfl⟩ h156) ?_
                        rintro e w1 ⟨B157, n158, d159, rfl, rfl, T⟩
                        exact ⟨_, rfl, rfl, S.call1 T⟩
                      · intro a u X hB hp hr hz hl S
                        replace S : St w u ([] ++ X) := S
                        have e84 : sl a 84 = .tuple #[.agg #[.int .i64 p156.1, .int .i64 p156.2.1, .slice (slA (vtup (vtup (sl a 84) 0) 2)) p156.2.2.1.length (slC (vtup (vtup (sl a 84) 0) 2))], .bool p156.2.2.2] := hp 4 rfl
                        exact .inl ⟨rfl, .tuple #[.agg #[.int .i64 p156.1, .int .i64 p156.2.1, .slice (slA (vtup (vtup (sl a 84) 0) 2)) p156.2.2.1.length (slC (vtup (vtup (sl a 84) 0) 2))], .bool p156.2.2.2], u, (run_move rfl (ev_sl e84)), rfl, S⟩
                      · intro a u X hB hp hr hz hl S
                        replace S : St w u ([] ++ X) := S
                        have e79 : sl a 79 = .tuple #[.agg #[.int .i64 p156.1, .int .i64 p156.2.1, .slice (slA (vtup (vtup (sl a 84) 0) 2)) p156.2.2.1.length (slC (vtup (vtup (sl a 84) 0) 2))], .bool p156.2.2.2] := hp 5 rfl
                        exact .inl ⟨rfl, .agg #[.int .i64 p156.1, .int .i64 p156.2.1, .slice (slA (vtup (vtup (sl a 84) 0) 2)) p156.2.2.1.length (slC (vtup (vtup (sl a 84) 0) 2))], u, (run_extract rfl (ev_sl e79) rfl), rfl, S⟩
                      · intro a u X hB hp hr hz hl S
                        replace S : St w u ([] ++ X) := S
                        have e79 : sl a 79 = .tuple #[.agg #[.int .i64 p156.1, .int .i64 p156.2.1, .slice (slA (vtup (vtup (sl a 84) 0) 2)) p156.2.2.1.length (slC (vtup (vtup (sl a 84) 0) 2))], .bool p156.2.2.2] := hp 5 rfl
                        exact .inl ⟨rfl, .bool p156.2.2.2, u, (run_extract rfl (ev_sl e79) rfl), rfl, S⟩
                      · intro a u X hB hp hr hz hl S
                        replace S : St w u ([] ++ X) := S
                        exact .inl ⟨rfl, _, _, (run_allocZ rfl zr28), rfl, S.alloc _ _⟩
                      · intro a u X hB hp hr hz hl S
                        replace S : St w u ([.box (ptB (sl a 14)) 28 #[.int .i64 0, .int .i64 0, .slice none 0 0]] ++ X) := S
                        have e14 : sl a 14 = .pointer (some ⟨ptB (sl a 14), 0, none⟩) := hp 8 rfl
                        have e85 : sl a 85 = .agg #[.int .i64 p156.1, .int .i64 p156.2.1, .slice (slA (vtup (vtup (sl a 84) 0) 2)) p156.2.2.1.length (slC (vtup (vtup (sl a 84) 0) 2))] := hp 6 rfl
                        exact .inr (.inl ⟨rfl, _, run_store (cs' := #[.int .i64 p156.1, .int .i64 p156.2.1, .slice (slA (vtup (vtup (sl a 84) 0) 2)) p156.2.2.1.length (slC (vtup (vtup (sl a 84) 0) 2))]) rfl sz28 (ev_sl e14) (ev_sl e85) rfl rfl rfl (S.free 0 rfl) rfl rfl, trivial, S.put 0 rfl (#[.int .i64 p156.1, .int .i64 p156.2.1, .slice (slA (vtup (vtup (sl a 84) 0) 2)) p156.2.2.1.length (slC (vtup (vtup (sl a 84) 0) 2))])⟩)
                      · intro a u X hB hp hr hz hl S
                        replace S : St w u ([] ++ X) := S
                        have e86 : sl a 86 = .bool p156.2.2.2 := hp 7 rfl
                        exact .inl ⟨rfl, .bool p156.2.2.2, u, (run_assign rfl (ev_sl e86)), rfl, S⟩
                    · intro a u hB hp S
                      obtain ⟨q0, q1, q2, q3, q4, q5, q6, q7, q8, q9, q10, _⟩ := hp
                      have e80 : sl a 80 = .agg #[.int .i64 x0, .int .i64 x1, .slice A2 x2.length c2] := q0
                      have e81 : sl a 81 = .agg #[.int .i64 p151.1, .int .i64 p151.2.1, .slice (slA (vtup (sl a 81) 2)) p151.2.2.length (slC (vtup (sl a 81) 2))] := q1
                      have e82 : sl a 82 = .agg #[.int .i64 x3, .int .i64 x4, .int .i64 x5] := q2
                      have e83 : sl a 83 = .agg #[.int .i64 p155.1, .int .i64 p155.2.1, .int .i64 p155.2.2] := q3
                      have e84 : sl a 84 = .tuple #[.agg #[.int .i64 p156.1, .int .i64 p156.2.1, .slice (slA (vtup (vtup (sl a 84) 0) 2)) p156.2.2.1.length (slC (vtup (vtup (sl a 84) 0) 2))], .bool p156.2.2.2] := q4
                      have e79 : sl a 79 = .tuple #[.agg #[.int .i64 p156.1, .int .i64 p156.2.1, .slice (slA (vtup (vtup (sl a 84) 0) 2)) p156.2.2.1.length (slC (vtup (vtup (sl a 84) 0) 2))], .bool p156.2.2.2] := q5
                      have e85 : sl a 85 = .agg #[.int .i64 p156.1, .int .i64 p156.2.1, .slice (slA (vtup (vtup (sl a 84) 0) 2)) p156.2.2.1.length (slC (vtup (vtup (sl a 84) 0) 2))] := q6
                      have e86 : sl a 86 = .bool p156.2.2.2 := q7
                      have e14 : sl a 14 = .pointer (some ⟨ptB (sl a 14), 0, none⟩) := q8
                      have e15 : sl a 15 = .bool p156.2.2.2 := q10
                      replace S : St w u [.row 3 1 (.slice (slA (vtup (sl a 81) 2)) p151.2.2.length (slC (vtup (sl a 81) 2))) p151.2.2.length (p151.2.2.flatMap eI), .row 3 1 (.slice (slA (vtup (vtup (sl a 84) 0) 2)) p156.2.2.1.length (slC (vtup (vtup (sl a 84) 0) 2))) p156.2.2.1.length (p156.2.2.1.flatMap eI), .box (ptB (sl a 14)) 28 #[.int .i64 p156.1, .int .i64 p156.2.1, .slice (slA (vtup (vtup (sl a 84) 0) 2)) p156.2.2.1.length (slC (vtup (vtup (sl a 84) 0) 2))], .row 3 1 (.slice B129 p125.2.2.1.length d130) p125.2.2.1.length (p146.2.flatMap eI), .row 3 1 (.slice B120 p119.2.2.length d122) p119.2.2.length (p142.2.flatMap eI), .row 3 1 (.slice B139 p134.2.2.length d140) p134.2.2.length (p134.2.2.flatMap eI), .box g131 28 #[.int .i64 p125.1, .int .i64 p125.2.1, .slice B129 p125.2.2.1.length d130], .box g123 28 #[.int .i64 p119.1, .int .i64 p119.2.1, .slice B120 p119.2.2.length d122], .row 3 1 (.slice B114 p105.2.2.length d115) p105.2.2.length (p105.2.2.flatMap eI), .row 3 1 (.slice B116 p110.2.2.1.length d117) p110.2.2.1.length (p110.2.2.1.flatMap eI), .box g118 28 #[.int .i64 p110.1, .int .i64 p110.2.1, .slice B116 p110.2.2.1.length d117], .box g102 26 #[.int .i64 x3, .int .i64 x4, .int .i64 x5], .box g101 24 #[.int .i64 x0, .int .i64 x1, .slice A2 x2.length c2]] := S
                      clear q0 q1 q2 q3 q4 q5 q6 q7 q8 q9 q10
                      generalize slA (vtup (sl a 81) 2) = B160 at *
                      generalize slC (vtup (sl a 81) 2) = d161 at *
                      generalize slA (vtup (vtup (sl a 84) 0) 2) = B162 at *
                      generalize slC (vtup (vtup (sl a 84) 0) 2) = d163 at *
                      generalize ptB (sl a 14) = g164 at *
                      have hF := hF.region hB [(80, .agg #[.int .i64 x0, .int .i64 x1, .slice A2 x2.length c2]), (81, .agg #[.int .i64 p151.1, .int .i64 p151.2.1, .slice B160 p151.2.2.length d161]), (82, .agg #[.int .i64 x3, .int .i64 x4, .int .i64 x5]), (83, .agg #[.int .i64 p155.1, .int .i64 p155.2.1, .int .i64 p155.2.2]), (84, .tuple #[.agg #[.int .i64 p156.1, .int .i64 p156.2.1, .slice B162 p156.2.2.1.length d163], .bool p156.2.2.2]), (79, .tuple #[.agg #[.int .i64 p156.1, .int .i64 p156.2.1, .slice B162 p156.2.2.1.length d163], .bool p156.2.2.2]), (85, .agg #[.int .i64 p156.1, .int .i64 p156.2.1, .slice B162 p156.2.2.1.length d163]), (86, .bool p156.2.2.2), (14, .pointer (some ⟨g164, 0, none⟩)), (15, .bool p156.2.2.2)] (allSl_mem ⟨e80, e81, e82, e83, e84, e79, e85, e86, e14, e15, trivial⟩) rfl
                      clear hB e80 e81 e82 e83 e84 e79 e85 e86 e14 e15
                      refine wp_seq ?_
                      refine wp_seq ?_
                      refine wp_region_lit ?_
                      refine op_val (v := .agg #[.int .i64 p156.1, .int .i64 p156.2.1, .slice B162 p156.2.2.1.length d163]) rfl rfl hF rfl (run_loadN rfl ag28 (hF.ev rfl) rfl ((S.free 2 rfl).cells 0 #[.int .i64 p156.1, .int .i64 p156.2.1, .slice B162 p156.2.2.1.length d163] rfl)) ?_; clear hF; intro a hF
                      refine op_val (v := .agg #[.int .i64 p110.1, .int .i64 p110.2.1, .slice B116 p110.2.2.1.length d117]) rfl rfl hF rfl (run_loadN rfl ag28 (hF.ev rfl) rfl ((S.free 10 rfl).cells 0 #[.int .i64 p110.1, .int .i64 p110.2.1, .slice B116 p110.2.2.1.length d117] rfl)) ?_; clear hF; intro a hF
                      obtain ⟨p165, h165, hM⟩ := bind_ex hM
                      refine op_call rfl rfl hF rfl (run_call (vs := [.agg #[.int .i64 p156.1, .int .i64 p156.2.1, .slice B162 p156.2.2.1.length d163], .agg #[.int .i64 p110.1, .int .i64 p110.2.1, .slice B116 p110.2.2.1.length d117]]) rfl rfl co11 ⟨(hF.ev rfl), (hF.ev rfl), trivial⟩) (c_laws_eqRooms (x0 := p156.1) (x1 := p156.2.1) (x2 := p156.2.2.1) (x3 := p110.1) (x4 := p110.2.1) (x5 := p110.2.2.1) ⟨(S.rc 1 rfl), rfl⟩ ⟨(S.rc 9 rfl), rfl⟩ h165) ?_
                      rintro e u ⟨rfl, T⟩
                      refine ⟨_, rfl, ?_⟩
                      clear hF; intro a hF
                      replace S := S.call0 T; clear T
                      refine op_val (v := .bool (!p165)) rfl rfl hF rfl (run_not rfl (hF.ev rfl)) ?_; clear hF; intro a hF
                      refine op_val (v := .bool (!p165)) rfl rfl hF rfl (run_move rfl (hF.ev rfl)) ?_; clear hF; intro a hF
                      refine op_gv (v := .bool p156.2.2.2) rfl rfl hF rfl (yf (gw_yield hF rfl rfl rfl)) (fun hg => (run_move rfl (hF.ev rfl))) ?_; clear hF; intro a hF
                      refine op_gv (v := .bool p110.2.2.2) rfl rfl hF rfl (yf (gw_yield hF rfl rfl rfl)) (fun hg => (run_move rfl (hF.ev rfl))) ?_; clear hF; intro a hF
                      refine op_gv (v := .bool (p156.2.2.2 != p110.2.2.2)) rfl rfl hF rfl (yf (gw_yield hF rfl rfl rfl)) (fun hg => (run_neqB ((hF.ev rfl).trans (gv_t hg)) ((hF.ev rfl).trans (gv_t hg)) Try.underlying4 rfl)) ?_; clear hF; intro a hF
                      refine op_val (v := .bool ((!p165) || (p156.2.2.2 != p110.2.2.2))) rfl rfl hF rfl (run_pick_or rfl (hF.ev rfl) rfl (fun hp => ((hF.ev rfl).trans (gv_t (not_t hp))))) ?_; clear hF; intro a hF
                      refine wpList_nil ?_
                      cases hc166 : ((!p165) || (p156.2.2.2 != p110.2.2.2))
                      · replace hM := bif_f hc166 hM
                        refine cond_f hF rfl hc166 ?_
                        refine wp_skip ?_
                        refine wp_seq ?_
                        refine wp_region_lit ?_
                        refine op_val (v := .int .i64 1) rfl rfl hF rfl (run_assign rfl rfl) ?_; clear hF; intro a hF
                        refine wpList_nil ?_
                        refine wp_seq ?_
                        refine wp_region_lit ?_
                        refine op_val (v := .agg #[.int .i64 p125.1, .int .i64 p125.2.1, .slice B129 p125.2.2.1.length d130]) rfl rfl hF rfl (run_loadN rfl ag28 (hF.ev rfl) rfl ((S.free 6 rfl).cells 0 #[.int .i64 p125.1, .int .i64 p125.2.1, .slice B129 p125.2.2.1.length d130] rfl)) ?_; clear hF; intro a hF
                        refine op_val (v := .int .i64 1) rfl rfl hF rfl (run_move rfl (hF.ev rfl)) ?_; clear hF; intro a hF
                        obtain ⟨p167, h167, hM⟩ := bind_ex hM
                        refine op_call rfl rfl hF rfl (run_call (vs := [.agg #[.int .i64 p125.1, .int .i64 p125.2.1, .slice B129 p125.2.2.1.length d130], .int .i64 1]) rfl rfl co13 ⟨(hF.ev rfl), (hF.ev rfl), trivial⟩) (c_laws_heldRooms (x0 := p125.1) (x1 := p125.2.1) (x2 := p146.2) (x3 := 1) ⟨(S.rc 3 rfl), hn147⟩ h167) ?_
                        rintro e u ⟨rfl, T⟩
                        refine ⟨_, rfl, ?_⟩
                        clear hF; intro a hF
                        replace S := S.call0 T; clear T
                        refine op_val (v := .int .i64 p167) rfl rfl hF rfl (run_assign rfl (hF.ev rfl)) ?_; clear hF; intro a hF
                        refine wpList_nil ?_
                        refine wp_seq ?_
                        refine wp_seq ?_
                        refine wp_region_lit ?_
                        refine op_val (v := .int .i64 p167) rfl rfl hF rfl (run_move rfl (hF.ev rfl)) ?_; clear hF; intro a hF
                        refine op_val (v := .bool (ltB p167 0)) rfl rfl hF rfl (run_lss (hF.ev rfl) rfl rfl) ?_; clear hF; intro a hF
                        refine wpList_nil ?_
                        cases hc168 : (ltB p167 0)
                        · replace hM := bif_f hc168 hM
                          refine cond_f hF rfl hc168 ?_
                          refine wp_skip ?_
                          refine wp_seq ?_
                          refine wp_seq ?_
                          refine wp_region_lit ?_
                          refine op_val (v := .int .i64 p167) rfl rfl hF rfl (run_move rfl (hF.ev rfl)) ?_; clear hF; intro a hF
                          refine op_val (v := .int .i64 p146.1) rfl rfl hF rfl (run_move rfl (hF.ev rfl)) ?_; clear hF; intro a hF
                          refine op_val (v := .bool (p167 != p146.1)) rfl rfl hF rfl (run_neq (hF.ev rfl) (hF.ev rfl) rfl) ?_; clear hF; intro a hF
                          refine wpList_nil ?_
                          cases hc169 : (p167 != p146.1)
                          · replace hM := bif_f hc169 hM
                            refine cond_f hF rfl hc169 ?_
                            refine wp_skip ?_
                            refine wp_seq ?_
                            refine wp_region_lit ?_
                            refine op_val (v := .bool true) rfl rfl hF rfl (run_assign rfl rfl) ?_; clear hF; intro a hF
                            refine wpList_nil ?_
                            refine wp_ret ?_
                            repeat with_reducible (first | refine then_ret ?_ | refine in_ret ?_ | refine in_nrm ?_)
                            refine ret1_gw (.inl rfl) hF rfl (res_tmp (hF.ev rfl)) ?_
                            obtain rfl := Option.some.inj hM
                            exact ⟨rfl, S.sel [] rfl rfl⟩
                          · replace hM := bif_t hc169 hM
                            refine cond_t hF rfl hc169 ?_
                            refine wp_seq ?_
                            refine wp_region_lit ?_
                            refine op_val (v := .bool false) rfl rfl hF rfl (run_assign rfl rfl) ?_; clear hF; intro a hF
                            refine wpList_nil ?_
                            refine wp_ret ?_
                            repeat with_reducible (first | refine then_ret ?_ | refine in_ret ?_ | refine in_nrm ?_)
                            refine ret1_gw (.inl rfl) hF rfl (res_tmp (hF.ev rfl)) ?_
                            obtain rfl := Option.some.inj hM
                            exact ⟨rfl, S.sel [] rfl rfl⟩
                        · replace hM := bif_t hc168 hM
                          refine cond_t hF rfl hc168 ?_
                          refine wp_seq ?_
                          refine wp_region_lit ?_
                          refine op_val (v := .bool false) rfl rfl hF rfl (run_assign rfl rfl) ?_; clear hF; intro a hF
                          refine wpList_nil ?_
                          refine wp_ret ?_
                          repeat with_reducible (first | refine then_ret ?_ | refine in_ret ?_ | refine in_nrm ?_)
                          refine ret1_gw (.inl rfl) hF rfl (res_tmp (hF.ev rfl)) ?_
                          obtain rfl := Option.some.inj hM
                          exact ⟨rfl, S.sel [] rfl rfl⟩
                      · replace hM := bif_t hc166 hM
                        refine cond_t hF rfl hc166 ?_
                        refine wp_seq ?_
                        refine wp_region_lit ?_
                        refine op_val (v := .bool false) rfl rfl hF rfl (run_assign rfl rfl) ?_; clear hF; intro a hF
                        refine wpList_nil ?_
                        refine wp_ret ?_
                        repeat with_reducible (first | refine then_ret ?_ | refine in_ret ?_ | refine in_nrm ?_)
                        refine ret1_gw (.inl rfl) hF rfl (res_tmp (hF.ev rfl)) ?_
                        obtain rfl := Option.some.inj hM
                        exact ⟨rfl, S.sel [] rfl rfl⟩
                  · replace hM := bif_t hc150 hM
                    refine cond_t hF rfl hc150 ?_
                    refine wp_seq ?_
                    refine wp_region_lit ?_
                    refine op_val (v := .bool false) rfl rfl hF rfl (run_assign rfl rfl) ?_; clear hF; intro a hF
                    refine wpList_nil ?_
                    refine wp_ret ?_
                    repeat with_reducible (first | refine then_ret ?_ | refine in_ret ?_ | refine in_nrm ?_)
                    refine ret1_gw (.inl rfl) hF rfl (res_tmp (hF.ev rfl)) ?_
                    obtain rfl := Option.some.inj hM
                    exact ⟨rfl, S.sel [] rfl rfl⟩
                · replace hM := bif_t hc149 hM
                  refine cond_t hF rfl hc149 ?_
                  refine wp_seq ?_
                  refine wp_region_lit ?_
                  refine op_val (v := .bool false) rfl rfl hF rfl (run_assign rfl rfl) ?_; clear hF; intro a hF
                  refine wpList_nil ?_
                  refine wp_ret ?_
                  repeat with_reducible (first | refine then_ret ?_ | refine in_ret ?_ | refine in_nrm ?_)
                  refine ret1_gw (.inl rfl) hF rfl (res_tmp (hF.ev rfl)) ?_
                  obtain rfl := Option.some.inj hM
                  exact ⟨rfl, S.sel [] rfl rfl⟩
              · replace hM := bif_t hc145 hM
                refine cond_t hF rfl hc145 ?_
                refine wp_seq ?_
                refine wp_region_lit ?_
                refine op_val (v := .bool false) rfl rfl hF rfl (run_assign rfl rfl) ?_; clear hF; intro a hF
                refine wpList_nil ?_
                refine wp_ret ?_
                repeat with_reducible (first | refine then_ret ?_ | refine in_ret ?_ | refine in_nrm ?_)
                refine ret1_gw (.inl rfl) hF rfl (res_tmp (hF.ev rfl)) ?_
                obtain rfl := Option.some.inj hM
                exact ⟨rfl, S.sel [] rfl rfl⟩
        · replace hM := bif_t hc133 hM
          refine cond_t hF rfl hc133 ?_
          refine wp_seq ?_
          refine wp_region_lit ?_
          refine op_val (v := .bool false) rfl rfl hF rfl (run_assign rfl rfl) ?_; clear hF; intro a hF
          refine wpList_nil ?_
          refine wp_ret ?_
          repeat with_reducible (first | refine then_ret ?_ | refine in_ret ?_ | refine in_nrm ?_)
          refine ret1_gw (.inl rfl) hF rfl (res_tmp (hF.ev rfl)) ?_
          obtain rfl := Option.some.inj hM
          exact ⟨rfl, S.sel [] rfl rfl⟩
  · replace hM := bif_t hc104 hM
    refine cond_t hF rfl hc104 ?_
    refine wp_seq ?_
    refine wp_region_lit ?_
    refine op_val (v := .bool true) rfl rfl hF rfl (run_assign rfl rfl) ?_; clear hF; intro a hF
    refine wpList_nil ?_
    refine wp_ret ?_
    repeat with_reducible (first | refine then_ret ?_ | refine in_ret ?_ | refine in_nrm ?_)
    refine ret1_gw (.inl rfl) hF rfl (res_tmp (hF.ev rfl)) ?_
    obtain rfl := Option.some.inj hM
    exact ⟨rfl, S.sel [] rfl rfl⟩

set_option maxHeartbeats 4000000 in
theorem c_laws_szRoomDeedS {x0 : List (Int × Int × Int)} {x1 : Int} {A0 : Option Addr} {n0 c0 : Nat} {w : World} {r : Int} (h0 : Rt w 3 eLRoomDeed A0 n0 c0 x0) (hM : m_laws_szRoomDeedS x0 x1 = some r) :
    Calls Try.prog 16 #[.slice A0 n0 c0, .int .i64 x1] w (fun e w' => e = .returned (.int .i64 r) ∧ St w w' []) := by
  obtain rfl := h0.len
  unfold m_laws_szRoomDeedS at hM
  refine calls_gw Try.func16 Try.ntmps16 rfl [(0, .slice A0 x0.length c0), (1, .int .i64 x1)] ⟨rfl, rfl, trivial⟩ rfl ?_
  intro a hF
  have S := St.nil w
  refine wp_seq ?_
  refine wp_region_lit ?_
  refine op_val (v := .int .i64 0) rfl rfl hF rfl (run_assign rfl rfl) ?_; clear hF; intro a hF
  refine wpList_nil ?_
  refine wp_seq ?_
  refine wp_region_lit ?_
  refine op_val (v := .int .i64 x1) rfl rfl hF rfl (run_move rfl (hF.ev rfl)) ?_; clear hF; intro a hF
  refine op_val (v := .slice A0 x0.length c0) rfl rfl hF rfl (run_move rfl (hF.ev rfl)) ?_; clear hF; intro a hF
  refine op_val (v := .int .i64 (x0.length : Int)) rfl rfl hF rfl (run_lenL rfl rfl Try.underlying39 (hF.ev rfl)) ?_; clear hF; intro a hF
  refine op_val (v := .int .i64 (w64 (x1 - (x0.length : Int)))) rfl rfl hF rfl (run_sub (z := w64 (x1 - (x0.length : Int))) (hF.ev rfl) (hF.ev rfl) rfl rfl) ?_; clear hF; intro a hF
  refine op_val (v := .int .i64 (w64 (x1 - (x0.length : Int)))) rfl rfl hF rfl (run_assign rfl (hF.ev rfl)) ?_; clear hF; intro a hF
  refine wpList_nil ?_
  refine wp_seq ?_
  refine wp_seq ?_
  refine wp_region_lit ?_
  refine op_val (v := .int .i64 (w64 (x1 - (x0.length : Int)))) rfl rfl hF rfl (run_move rfl (hF.ev rfl)) ?_; clear hF; intro a hF
  refine op_val (v := .bool (ltB (w64 (x1 - (x0.length : Int))) 0)) rfl rfl hF rfl (run_lss (hF.ev rfl) rfl rfl) ?_; clear hF; intro a hF
  refine wpList_nil ?_
  cases hc101 : (ltB (w64 (x1 - (x0.length : Int))) 0)
  · replace hM := bif_f hc101 hM
    refine cond_f hF rfl hc101 ?_
    refine wp_skip ?_
    refine wp_seq ?_
    refine wp_region_lit ?_
    refine op_val (v := .int .i64 (w64 (x1 - (x0.length : Int)))) rfl rfl hF rfl (run_move rfl (hF.ev rfl)) ?_; clear hF; intro a hF
    refine op_val (v := .int .i64 (w64 (x1 - (x0.length : Int)))) rfl rfl hF rfl (run_assign rfl (hF.ev rfl)) ?_; clear hF; intro a hF
    refine wpList_nil ?_
    refine wp_ret ?_
    repeat with_reducible (first | refine then_ret ?_ | refine in_ret ?_ | refine in_nrm ?_)
    refine ret1_gw (.inl rfl) hF rfl (res_tmp (hF.ev rfl)) ?_
    obtain rfl := Option.some.inj hM
    exact ⟨rfl, S.sel [] rfl rfl⟩
  · replace hM := bif_t hc101 hM
    refine cond_t hF rfl hc101 ?_
    refine wp_seq ?_
    refine wp_region_lit ?_
    refine op_val (v := .int .i64 (-1)) rfl rfl hF rfl (run_assign rfl rfl) ?_; clear hF; intro a hF
    refine wpList_nil ?_
    refine wp_ret ?_
    repeat with_reducible (first | refine then_ret ?_ | refine in_ret ?_ | refine in_nrm ?_)
    refine ret1_gw (.inl rfl) hF rfl (res_tmp (hF.ev rfl)) ?_
    obtain rfl := Option.some.inj hM
    exact ⟨rfl, S.sel [] rfl rfl⟩

set_option maxHeartbeats 4000000 in
theorem c_laws_toRoomDeedS {x0 : List (Int × Int × Int)} {A0 : Option Addr} {n0 c0 : Nat} {w : World} {r : List (Int × Int × Int)} (h0 : Rt w 3 eLRoomDeed A0 n0 c0 x0) (hM : m_laws_toRoomDeedS x0 = some r) :
    Calls Try.prog 18 #[.slice A0 n0 c0] w (fun e w' => ∃ (B0 : Option Addr) (N0 D0 : Nat), e = .returned (.slice B0 N0 D0) ∧ N0 = r.length ∧ St w w' [.row 32 3 (.slice B0 N0 D0) N0 (r.flatMap eRoomDeed)]) := by
  obtain rfl := h0.len
  unfold m_laws_toRoomDeedS at hM
  refine calls_gw Try.func18 Try.ntmps18 rfl [(0, .slice A0 x0.length c0)] ⟨rfl, trivial⟩ rfl ?_
  intro a hF
  have S := St.nil w
  refine wp_seq ?_
  refine wp_region_lit ?_
  refine op_val (v := .slice none 0 0) rfl rfl hF rfl (run_assign rfl rfl) ?_; clear hF; intro a hF
  refine wpList_nil ?_
  refine wp_seq ?_
  refine wp_region_lit ?_
  refine op_val (v := .slice A0 x0.length c0) rfl rfl hF rfl (run_move rfl (hF.ev rfl)) ?_; clear hF; intro a hF
  refine op_val (v := .int .i64 (x0.length : Int)) rfl rfl hF rfl (run_lenL rfl rfl Try.underlying39 (hF.ev rfl)) ?_; clear hF; intro a hF
  obtain ⟨hk102, hM⟩ := chk_ex hM
  replace hk102 := mkB_t hk102
  refine op_newrowL (m := x0.length) (ls := List.replicate x0.length ((0, 0, 0) : Int × Int × Int)) (e := eRoomDeed) rfl rfl hF rfl S (run_makeL rfl (hF.ev rfl) (hF.ev rfl) Try.underlying42 inf32 eRoomDeed_len rfl (by decide) hk102) List.length_replicate eRoomDeed_len (by rw [List.length_replicate]; omega) ?_; clear hF S; intro a g101 u hF S
  refine op_val (v := .slice (some ⟨g101, 0, none⟩) x0.length x0.length) rfl rfl hF rfl (run_assign rfl (hF.ev rfl)) ?_; clear hF; intro a hF
  refine wpList_nil ?_
  refine wp_seq ?_
  refine wp_seq ?_
  refine wp_region_lit ?_
  refine op_val (v := .int .i64 0) rfl rfl hF rfl (run_assign rfl rfl) ?_; clear hF; intro a hF
  refine wpList_nil ?_
  obtain ⟨o104, hM106, hM⟩ := bind_ex hM
  refine wp_cut (fun a u => ∃ (p103 : List (Int × Int × Int)), p103 = o104 ∧ x0.length = p103.length ∧ Fr a 23 [(2, .slice none 0 0), (3, .slice (some ⟨g101, 0, none⟩) x0.length x0.length)] ∧ St w u [.row 32 3 (.slice (some ⟨g101, 0, none⟩) x0.length x0.length) x0.length (p103.flatMap eRoomDeed)]) ?_ ?_
  · have _ := trivial
    refine wp_block ?_
    refine loop_gw (fun m a u => ∃ (p107 : List (Int × Int × Int) × Int), m_laws_toRoomDeedS_l1 x0 m p107 = some _ ∧ x0.length = p107.1.length ∧ Fr a 23 [(0, .slice A0 x0.length c0), (2, .slice none 0 0), (3, .slice (some ⟨g101, 0, none⟩) x0.length x0.length), (4, .int .i64 p107.2)] ∧ St w u [.row 32 3 (.slice (some ⟨g101, 0, none⟩) x0.length x0.length) x0.length (p107.1.flatMap eRoomDeed)]) FUEL ⟨(List.replicate x0.length ((0, 0, 0) : Int × Int × Int), 0), hM106, List.length_replicate.symm, hF.keep _ ⟨rfl, rfl, rfl, rfl, trivial⟩, S.sel [0] rfl rfl⟩ ?_
    clear hF S hM106; rintro m a u ⟨p107, hM106, hn108, hF, S⟩
    rcases m with _ | f1
    · exact none_some hM106
    rw [m_laws_toRoomDeedS_l1.eq_2] at hM106
    refine wp_seq ?_
    refine wp_seq ?_
    refine wp_region_lit ?_
    refine op_val (v := .int .i64 p107.2) rfl rfl hF rfl (run_move rfl (hF.ev rfl)) ?_; clear hF; intro a hF
    refine op_val (v := .slice A0 x0.length c0) rfl rfl hF rfl (run_move rfl (hF.ev rfl)) ?_; clear hF; intro a hF
    refine op_val (v := .int .i64 (x0.length : Int)) rfl rfl hF rfl (run_lenL rfl rfl Try.underlying39 (hF.ev rfl)) ?_; clear hF; intro a hF
    refine op_val (v := .bool (ltB p107.2 (x0.length : Int))) rfl rfl hF rfl (run_lss (hF.ev rfl) (hF.ev rfl) rfl) ?_; clear hF; intro a hF
    refine wpList_nil ?_
    cases hc109 : (ltB p107.2 (x0.length : Int))
    · replace hM106 := bif_f hc109 hM106
      refine cond_f hF rfl hc109 ?_
      refine wp_exit ?_
      repeat with_reducible (first | refine then_exit ?_ | refine in_hit ?_ | refine in_miss rfl ?_)
      obtain rfl := Option.some.inj hM106
      exact ⟨p107.1, rfl, hn108, hF.keep _ ⟨rfl, rfl, trivial⟩, S.sel [0] rfl rfl⟩
    · replace hM106 := bif_t hc109 hM106
      refine cond_t hF rfl hc109 ?_
      refine wp_skip ?_
      refine wp_seq ?_
      refine wp_block ?_
      refine wp_region_lit ?_
      refine op_val (v := .slice (some ⟨g101, 0, none⟩) x0.length x0.length) rfl rfl hF rfl (run_move rfl (hF.ev rfl)) ?_; clear hF; intro a hF
      refine op_val (v := .int .i64 p107.2) rfl rfl hF rfl (run_move rfl (hF.ev rfl)) ?_; clear hF; intro a hF
      refine op_val (v := .slice A0 x0.length c0) rfl rfl hF rfl (run_move rfl (hF.ev rfl)) ?_; clear hF; intro a hF
      refine op_val (v := .int .i64 p107.2) rfl rfl hF rfl (run_move rfl (hF.ev rfl)) ?_; clear hF; intro a hF
      obtain ⟨hk110, hM106⟩ := chk_ex hM106
      replace hk110 := ixB_t hk110
      refine op_val (v := .pointer (some ⟨adB A0, adO A0 + p107.2.toNat * 3, none⟩)) rfl rfl hF rfl (run_indexAddr (b := adB A0) (off := adO A0) rfl Try.underlying39 sz26 ((hF.ev rfl).trans (congrArg (fun A => Value.slice A x0.length c0) ((S.rc0 h0.rc).rd.ad (ix_pos hk110)))) (hF.ev rfl) hk110.1 hk110.2 (k' := adO A0 + p107.2.toNat * 3) rfl) ?_; clear hF; intro a hF
      refine op_val (v := .agg #[.int .i64 ((x0.getD p107.2.toNat ((0, 0, 0) : Int × Int × Int)).1), .int .i64 ((x0.getD p107.2.toNat ((0, 0, 0) : Int × Int × Int)).2.1), .int .i64 ((x0.getD p107.2.toNat ((0, 0, 0) : Int × Int × Int)).2.2)]) rfl rfl hF rfl (run_loadN (cs := #[.int .i64 ((x0.getD p107.2.toNat ((0, 0, 0) : Int × Int × Int)).1), .int .i64 ((x0.getD p107.2.toNat ((0, 0, 0) : Int × Int × Int)).2.1), .int .i64 ((x0.getD p107.2.toNat ((0, 0, 0) : Int × Int × Int)).2.2)]) rfl ag26 (hF.ev rfl) rfl (rd_elN (l := x0) (S.rc0 h0.rc).rd rfl eLRoomDeed_len ((0, 0, 0) : Int × Int × Int) (ix_ltn hk110 rfl) rfl)) ?_; clear hF; intro a hF
      obtain ⟨p111, h111, hM106⟩ := bind_ex hM106
      refine op_call rfl rfl hF rfl (run_call (vs := [.agg #[.int .i64 ((x0.getD p107.2.toNat ((0, 0, 0) : Int × Int × Int)).1), .int .i64 ((x0.getD p107.2.toNat ((0, 0, 0) : Int × Int × Int)).2.1), .int .i64 ((x0.getD p107.2.toNat ((0, 0, 0) : Int × Int × Int)).2.2)]]) rfl rfl co9 ⟨(hF.ev rfl), trivial⟩) (c_laws_toRoomDeed (x0 := (x0.getD p107.2.toNat ((0, 0, 0) : Int × Int × Int)).1) (x1 := (x0.getD p107.2.toNat ((0, 0, 0) : Int × Int × Int)).2.1) (x2 := (x0.getD p107.2.toNat ((0, 0, 0) : Int × Int × Int)).2.2)  h111) ?_
      rintro e u ⟨rfl, T⟩
      refine ⟨_, rfl, ?_⟩
      clear hF; intro a hF
      replace S := S.call0 T; clear T
      obtain ⟨hk112, hM106⟩ := chk_ex hM106
      replace hk112 := ixB_t hk112
      refine op_val (v := .pointer (some ⟨adB (some ⟨g101, 0, none⟩), adO (some ⟨g101, 0, none⟩) + p107.2.toNat * 3, none⟩)) rfl rfl hF rfl (run_indexAddr (b := adB (some ⟨g101, 0, none⟩)) (off := adO (some ⟨g101, 0, none⟩)) rfl Try.underlying42 sz32 ((hF.ev rfl).trans (congrArg (fun A => Value.slice A x0.length x0.length) ((S.rc 0 rfl).rd.ad (ix_pos hk112)))) (hF.ev rfl) hk112.1 hk112.2 (k' := adO (some ⟨g101, 0, none⟩) + p107.2.toNat * 3) rfl) ?_; clear hF; intro a hF
      obtain ⟨w', hrun, S'⟩ := run_storeElN (P := Try.prog) (ρ := a.eval) (y0 := (p111.1, p111.2.1, p111.2.2)) (off := 0) S 32 (.tmp 21) (.tmp 20) (i := 0) sz32 (hF.ev rfl) (hF.ev rfl) rfl rfl rfl rfl hn108 eRoomDeed_len ((0, 0, 0) : Int × Int × Int) (ix_ltn hk112 hn108) rfl rfl
      refine op_do rfl rfl (hrun _ rfl) ?_; clear hrun S; have S := S'; clear S'; generalize w' = u at S ⊢
      refine wpList_nil ?_
      refine wp_region_lit ?_
      refine op_val (v := .int .i64 p107.2) rfl rfl hF rfl (run_move rfl (hF.ev rfl)) ?_; clear hF; intro a hF
      refine op_val (v := .int .i64 (w64 (p107.2 + 1))) rfl rfl hF rfl (run_add (z := w64 (p107.2 + 1)) (hF.ev rfl) rfl rfl rfl) ?_; clear hF; intro a hF
      refine op_val (v := .int .i64 (w64 (p107.2 + 1))) rfl rfl hF rfl (run_assign rfl (hF.ev rfl)) ?_; clear hF; intro a hF
      refine wpList_nil ?_
      exact ⟨f1, Nat.lt_succ_self _, (p107.1.set p107.2.toNat (p111.1, p111.2.1, p111.2.2), w64 (p107.2 + 1)), hM106, (len_set hn108), hF.keep _ ⟨rfl, rfl, rfl, rfl, trivial⟩, S.sel [0] rfl rfl⟩
  · rintro a u ⟨p103, rfl, hn105, hF, S⟩
    refine wp_seq ?_
    refine wp_region_lit ?_
    refine op_val (v := .slice (some ⟨g101, 0, none⟩) x0.length x0.length) rfl rfl hF rfl (run_move rfl (hF.ev rfl)) ?_; clear hF; intro a hF
    refine op_val (v := .slice (some ⟨g101, 0, none⟩) x0.length x0.length) rfl rfl hF rfl (run_assign rfl (hF.ev rfl)) ?_; clear hF; intro a hF
    refine wpList_nil ?_
    refine wp_ret ?_
    repeat with_reducible (first | refine then_ret ?_ | refine in_ret ?_ | refine in_nrm ?_)
    refine ret1_gw (.inl rfl) hF rfl (res_tmp (hF.ev rfl)) ?_
    obtain rfl := Option.some.inj hM
    exact ⟨(some ⟨g101, 0, none⟩), x0.length, x0.length, rfl, hn105, S.sel [0] rfl rfl⟩

set_option maxHeartbeats 4000000 in
theorem c_spec_RoomsRun {x0 : Int} {x1 : Int} {x2 : List Int} {x3 : List (Int × Int × Int)} {A2 : Option Addr} {n2 c2 : Nat} {A3 : Option Addr} {n3 c3 : Nat} {w : World} {r : Int × Int × List Int} (h2 : Rt w 1 eI A2 n2 c2 x2) (h3 : Rt w 3 eRoomDeed A3 n3 c3 x3) (hM : m_spec_RoomsRun x0 x1 x2 x3 = some r) :
    Calls Try.prog 17 #[.agg #[.int .i64 x0, .int .i64 x1, .slice A2 n2 c2], .slice A3 n3 c3] w (fun e w' => ∃ (B0 : Option Addr) (N0 D0 : Nat), e = .returned (.agg #[.int .i64 r.1, .int .i64 r.2.1, .slice B0 N0 D0]) ∧ N0 = r.2.2.length ∧ St w w' [.row 3 1 (.slice B0 N0 D0) N0 (r.2.2.flatMap eI)]) := by
  obtain rfl := h2.len
  obtain rfl := h3.len
  unfold m_spec_RoomsRun at hM
  refine calls_gw Try.func17 Try.ntmps17 rfl [(0, .agg #[.int .i64 x0, .int .i64 x1, .slice A2 x2.length c2]), (1, .slice A3 x3.length c3)] ⟨rfl, rfl, trivial⟩ rfl ?_
  intro a hF
  have S := St.nil w
  refine wp_seq ?_
  refine wp_region_lit ?_
  refine op_new (cs := #[.int .i64 x0, .int .i64 x1, .slice A2 x2.length c2]) rfl rfl hF rfl S (run_box rfl (hF.ev rfl) rfl) ?_; clear hF S; intro a g101 u hF S
  refine op_new (cs := #[.int .i64 0, .int .i64 0, .slice none 0 0]) rfl rfl hF rfl S (run_allocZ rfl zr28) ?_; clear hF S; intro a g102 u hF S
  refine wpList_nil ?_
  refine wp_seq ?_
  refine wp_seq ?_
  refine wp_region_lit ?_
  refine op_val (v := .agg #[.int .i64 x0, .int .i64 x1, .slice A2 x2.length c2]) rfl rfl hF rfl (run_loadN rfl ag28 (hF.ev rfl) rfl ((S.free 1 rfl).cells 0 #[.int .i64 x0, .int .i64 x1, .slice A2 x2.length c2] rfl)) ?_; clear hF; intro a hF
  obtain ⟨p103, h103, hM⟩ := bind_ex hM
  refine op_call rfl rfl hF rfl (run_call (vs := [.agg #[.int .i64 x0, .int .i64 x1, .slice A2 x2.length c2]]) rfl rfl co23 ⟨(hF.ev rfl), trivial⟩) (c_spec_RoomsValid (x0 := x0) (x1 := x1) (x2 := x2) ⟨(S.rc0 h2.rc), rfl⟩ h103) ?_
  rintro e u ⟨rfl, T⟩
  refine ⟨_, rfl, ?_⟩
  clear hF; intro a hF
  replace S := S.call0 T; clear T
  refine op_val (v := .bool (!p103)) rfl rfl hF rfl (run_not rfl (hF.ev rfl)) ?_; clear hF; intro a hF
  refine wpList_nil ?_
  cases hc104 : (p103)
  · replace hM := bif_f hc104 hM
    refine cond_t hF rfl (not_t hc104) ?_
    refine wp_seq ?_
    refine wp_region_lit ?_
    refine op_val (v := .agg #[.int .i64 0, .int .i64 0, .slice none 0 0]) rfl rfl hF rfl (run_build (vs := []) rfl trivial (bd28 )) ?_; clear hF; intro a hF
    refine op_do rfl rfl (run_store (cs' := #[.int .i64 0, .int .i64 0, .slice none 0 0]) rfl sz28 (hF.ev rfl) (hF.ev rfl) rfl rfl rfl (S.free 0 rfl) rfl rfl) ?_; replace S := S.put 0 rfl (#[.int .i64 0, .int .i64 0, .slice none 0 0])
    generalize World.setRow _ _ _ = u at S ⊢
    refine wpList_nil ?_
    refine wp_ret ?_
    repeat with_reducible (first | refine then_ret ?_ | refine in_ret ?_ | refine in_nrm ?_)
    refine ret1_gw (.inl rfl) hF rfl (res_cell (hF.ev rfl) (res_loadN ag28 rfl (S.cells 0 rfl 0 #[.int .i64 0, .int .i64 0, .slice none 0 0] rfl))) ?_
    obtain rfl := Option.some.inj hM
    replace S := S.nilrow 3 1
    exact ⟨none, 0, 0, rfl, rfl, S.sel [0] rfl rfl⟩
  · replace hM := bif_t hc104 hM
    refine cond_f hF rfl (not_f hc104) ?_
    refine wp_skip ?_
    refine wp_seq ?_
    refine wp_region_lit ?_
    refine op_val (v := .agg #[.int .i64 x0, .int .i64 x1, .slice A2 x2.length c2]) rfl rfl hF rfl (run_loadN rfl ag28 (hF.ev rfl) rfl ((S.free 1 rfl).cells 0 #[.int .i64 x0, .int .i64 x1, .slice A2 x2.length c2] rfl)) ?_; clear hF; intro a hF
    refine op_val (v := .pointer (some ⟨g101, 0, none⟩)) rfl rfl hF rfl (run_fieldAddr rfl fl28_0 (hF.ev rfl) rfl) ?_; clear hF; intro a hF
    refine op_val (v := .int .i64 x0) rfl rfl hF rfl (run_load1 rfl one3 (hF.ev rfl) ((S.free 1 rfl).cell rfl)) ?_; clear hF; intro a hF
    obtain ⟨p105, h105, hM⟩ := bind_ex hM
    refine op_call rfl rfl hF rfl (run_call (vs := [.agg #[.int .i64 x0, .int .i64 x1, .slice A2 x2.length c2], .int .i64 0, .int .i64 x0]) rfl rfl co24 ⟨(hF.ev rfl), rfl, (hF.ev rfl), trivial⟩) (c_spec_l32Set (x0 := x0) (x1 := x1) (x2 := x2) (x3 := 0) (x4 := x0) ⟨(S.rc0 h2.rc), rfl⟩ h105) ?_
    rintro e u ⟨B106, n107, d108, rfl, rfl, T⟩
    refine ⟨_, rfl, ?_⟩
    clear hF; intro a hF
    replace S := S.call1 T; clear T
    refine op_new (cs := #[.int .i64 0, .int .i64 0, .slice none 0 0]) rfl rfl hF rfl S (run_allocZ rfl zr28) ?_; clear hF S; intro a g109 u hF S
    refine op_do rfl rfl (run_store (cs' := #[.int .i64 p105.1, .int .i64 p105.2.1, .slice B106 p105.2.2.length d108]) rfl sz28 (hF.ev rfl) (hF.ev rfl) rfl rfl rfl (S.free 0 rfl) rfl rfl) ?_; replace S := S.put 0 rfl (#[.int .i64 p105.1, .int .i64 p105.2.1, .slice B106 p105.2.2.length d108])
    generalize World.setRow _ _ _ = u at S ⊢
    refine wpList_nil ?_
    refine wp_seq ?_
    refine wp_seq ?_
    refine wp_region_lit ?_
    refine op_val (v := .int .i64 0) rfl rfl hF rfl (run_assign rfl rfl) ?_; clear hF; intro a hF
    refine wpList_nil ?_
    obtain ⟨o111, hM114, hM⟩ := bind_ex hM
    refine wp_cut (fun a u => ∃ (p110 : Int × Int × List Int) (B112 : Option Addr) (d113 : Nat), p110 = o111 ∧ Fr a 34 [(4, .pointer (some ⟨g102, 0, none⟩)), (5, .pointer (some ⟨g109, 0, none⟩))] ∧ St w u [.box g109 28 #[.int .i64 p110.1, .int .i64 p110.2.1, .slice B112 p110.2.2.length d113], .box g102 28 #[.int .i64 0, .int .i64 0, .slice none 0 0], .box g101 28 #[.int .i64 x0, .int .i64 x1, .slice A2 x2.length c2], .row 3 1 (.slice B112 p110.2.2.length d113) p110.2.2.length (p110.2.2.flatMap eI)]) ?_ ?_
    · have _ := trivial
      refine wp_block ?_
      refine loop_gw (fun m a u => ∃ (p115 : Int × Int × Int × List Int) (B116 : Option Addr) (d117 : Nat), m_spec_RoomsRun_l1 x3 m p115 = some _ ∧ Fr a 34 [(1, .slice A3 x3.length c3), (4, .pointer (some ⟨g102, 0, none⟩)), (5, .pointer (some ⟨g109, 0, none⟩)), (6, .int .i64 p115.1)] ∧ St w u [.box g109 28 #[.int .i64 p115.2.1, .int .i64 p115.2.2.1, .slice B116 p115.2.2.2.length d117], .box g102 28 #[.int .i64 0, .int .i64 0, .slice none 0 0], .box g101 28 #[.int .i64 x0, .int .i64 x1, .slice A2 x2.length c2], .row 3 1 (.slice B116 p115.2.2.2.length d117) p115.2.2.2.length (p115.2.2.2.flatMap eI)]) FUEL ⟨(0, p105.1, p105.2.1, p105.2.2), B106, d108, hM114, hF.keep _ ⟨rfl, rfl, rfl, rfl, trivial⟩, S.sel [0, 2, 3, 1] rfl rfl⟩ ?_
      clear hF S hM114; rintro m a u ⟨p115, B116, d117, hM114, hF, S⟩
      rcases m with _ | f1
      · exact none_some hM114
      rw [m_spec_RoomsRun_l1.eq_2] at hM114
      refine wp_seq ?_
      refine wp_seq ?_
      refine wp_region_lit ?_
      refine op_val (v := .int .i64 p115.1) rfl rfl hF rfl (run_move rfl (hF.ev rfl)) ?_; clear hF; intro a hF
      refine op_val (v := .slice A3 x3.length c3) rfl rfl hF rfl (run_move rfl (hF.ev rfl)) ?_; clear hF; intro a hF
      refine op_val (v := .int .i64 (x3.length : Int)) rfl rfl hF rfl (run_lenL rfl rfl Try.underlying42 (hF.ev rfl)) ?_; clear hF; intro a hF
      refine op_val (v := .bool (ltB p115.1 (x3.length : Int))) rfl rfl hF rfl (run_lss (hF.ev rfl) (hF.ev rfl) rfl) ?_; clear hF; intro a hF
      refine wpList_nil ?_
      cases hc118 : (ltB p115.1 (x3.length : Int))
      · replace hM114 := bif_f hc118 hM114
        refine cond_f hF rfl hc118 ?_
        refine wp_exit ?_
        repeat with_reducible (first | refine then_exit ?_ | refine in_hit ?_ | refine in_miss rfl ?_)
        obtain rfl := Option.some.inj hM114
        exact ⟨(p115.2.1, p115.2.2.1, p115.2.2.2), B116, d117, rfl, hF.keep _ ⟨rfl, rfl, trivial⟩, S.sel [0, 1, 2, 3] rfl rfl⟩
      · replace hM114 := bif_t hc118 hM114
        refine cond_t hF rfl hc118 ?_
        refine wp_skip ?_
        refine wp_seq ?_
        refine wp_block ?_
        refine wp_seq ?_
        obtain ⟨hk119, hM114⟩ := chk_ex hM114
        replace hk119 := ixB_t hk119
        obtain ⟨p120, h120, hM114⟩ := bind_ex hM114
        refine region_gw (D := [24, 25, 26, 27, 28, 29, 23, 30, 31, 7, 8]) (Lr := [.box g109 28 #[.int .i64 p115.2.1, .int .i64 p115.2.2.1, .slice B116 p115.2.2.2.length d117], .box g102 28 #[.int .i64 0, .int .i64 0, .slice none 0 0], .box g101 28 #[.int .i64 x0, .int .i64 x1, .slice A2 x2.length c2], .row 3 1 (.slice B116 p115.2.2.2.length d117) p115.2.2.2.length (p115.2.2.2.flatMap eI)]) (deps := (fun | 0 => [24] | 1 => [25] | 2 => [26] | 3 => [27] | 4 => [28] | 5 => [29] | 6 => [23, 29] | 7 => [30, 29] | 8 => [31] | 9 => [7] | 10 => [7, 29] | 11 => [8] | _ => [])) (rd := (fun _ => [])) (zr := (fun _ => []))
          (φ := fun i vs => match i, vs with | 0, [v24] => v24 = .agg #[.int .i64 p115.2.1, .int .i64 p115.2.2.1, .slice B116 p115.2.2.2.length d117] | 1, [v25] => v25 = .slice A3 x3.length c3 | 2, [v26] => v26 = .int .i64 p115.1 | 3, [v27] => v27 = .pointer (some ⟨adB A3, adO A3 + p115.1.toNat * 3, none⟩) | 4, [v28] => v28 = .agg #[.int .i64 ((x3.getD p115.1.toNat ((0, 0, 0) : Int × Int × Int)).1), .int .i64 ((x3.getD p115.1.toNat ((0, 0, 0) : Int × Int × Int)).2.1), .int .i64 ((x3.getD p115.1.toNat ((0, 0, 0) : Int × Int × Int)).2.2)] | 5, [v29] => v29 = .tuple #[.agg #[.int .i64 p120.1, .int .i64 p120.2.1, .slice (slA (vtup (vtup v29 0) 2)) p120.2.2.1.length (slC (vtup (vtup v29 0) 2))], .bool p120.2.2.2] | 6, [v23, v29] => v23 = .tuple #[.agg #[.int .i64 p120.1, .int .i64 p120.2.1, .slice (slA (vtup (vtup v29 0) 2)) p120.2.2.1.length (slC (vtup (vtup v29 0) 2))], .bool p120.2.2.2] | 7, [v30, v29] => v30 = .agg #[.int .i64 p120.1, .int .i64 p120.2.1, .slice (slA (vtup (vtup v29 0) 2)) p120.2.2.1.length (slC (vtup (vtup v29 0) 2))] | 8, [v31] => v31 = .bool p120.2.2.2 | 9, [v7] => v7 = .pointer (some ⟨ptB v7, 0, none⟩) | 11, [v8] => v8 = .bool p120.2.2.2 | _, _ => True)
          (C := fun i vs => match i, vs with | 5, [v29] => [.row 3 1 (.slice (slA (vtup (vtup v29 0) 2)) p120.2.2.1.length (slC (vtup (vtup v29 0) 2))) p120.2.2.1.length (p120.2.2.1.flatMap eI)] | 9, [v7] => [.box (ptB v7) 28 #[.int .i64 0, .int .i64 0, .slice none 0 0]] | 10, [v7, v29] => [.box (ptB v7) 28 #[.int .i64 p120.1, .int .i64 p120.2.1, .slice (slA (vtup (vtup v29 0) 2)) p120.2.2.1.length (slC (vtup (vtup v29 0) 2))]] | _, _ => [])
          (κ := (fun | 9 => some 10 | _ => none)) (Z := (fun _ => [])) mixed hF (by kernel_rfl) S ?_ ?_
        · refine ⟨?_, ?_, ?_, ?_, ?_, ?_, ?_, ?_, ?_, ?_, ?_, ?_, trivial⟩
          · intro a u X hB hp hr hz hl S
            replace S : St w u ([] ++ X) := S
            exact .inl ⟨rfl, .agg #[.int .i64 p115.2.1, .int .i64 p115.2.2.1, .slice B116 p115.2.2.2.length d117], u, (run_loadN rfl ag28 (hF.evB hB rfl rfl) rfl ((gr_box S hl 0 rfl).cells 0 #[.int .i64 p115.2.1, .int .i64 p115.2.2.1, .slice B116 p115.2.2.2.length d117] rfl)), rfl, S⟩
          · intro a u X hB hp hr hz hl S
            replace S : St w u ([] ++ X) := S
            exact .inl ⟨rfl, .slice A3 x3.length c3, u, (run_move rfl (hF.evB hB rfl rfl)), rfl, S⟩
          · intro a u X hB hp hr hz hl S
            replace S : St w u ([] ++ X) := S
            exact .inl ⟨rfl, .int .i64 p115.1, u, (run_move rfl (hF.evB hB rfl rfl)), rfl, S⟩
          · intro a u X hB hp hr hz hl S
            replace S : St w u ([] ++ X) := S
            have e25 : sl a 25 = .slice A3 x3.length c3 := hp 1 rfl
            have e26 : sl a 26 = .int .i64 p115.1 := hp 2 rfl
            exact .inl ⟨rfl, .pointer (some ⟨adB A3, adO A3 + p115.1.toNat * 3, none⟩), u, (run_indexAddr (b := adB A3) (off := adO A3) rfl Try.underlying42 sz32 ((ev_sl e25).trans (congrArg (fun A => Value.slice A x3.length c3) ((S.rc0 h3.rc).rd.ad (ix_pos hk119)))) (ev_sl e26) hk119.1 hk119.2 (k' := adO A3 + p115.1.toNat * 3) rfl), rfl, S⟩
          · intro a u X hB hp hr hz hl S
            replace S : St w u ([] ++ X) := S
            have e27 : sl a 27 = .pointer (some ⟨adB A3, adO A3 + p115.1.toNat * 3, none⟩) := hp 3 rfl
            exact .inl ⟨rfl, .agg #[.int .i64 ((x3.getD p115.1.toNat ((0, 0, 0) : Int × Int × Int)).1), .int .i64 ((x3.getD p115.1.toNat ((0, 0, 0) : Int × Int × Int)).2.1), .int .i64 ((x3.getD p115.1.toNat ((0, 0, 0) : Int × Int × Int)).2.2)], u, (run_loadN (cs := #[.int .i64 ((x3.getD p115.1.toNat ((0, 0, 0) : Int × Int × Int)).1), .int .i64 ((x3.getD p115.1.toNat ((0, 0, 0) : Int × Int × Int)).2.1), .int .i64 ((x3.getD p115.1.toNat ((0, 0, 0) : Int × Int × Int)).2.2)]) rfl ag32 (ev_sl e27) rfl (rd_elN (l := x3) (S.rc0 h3.rc).rd rfl eRoomDeed_len ((0, 0, 0) : Int × Int × Int) (ix_ltn hk119 rfl) rfl)), rfl, S⟩
          · intro a u X hB hp hr hz hl S
            replace S : St w u ([] ++ X) := S
            have e24 : sl a 24 = .agg #[.int .i64 p115.2.1, .int .i64 p115.2.2.1, .slice B116 p115.2.2.2.length d117] := hp 0 rfl
            have e28 : sl a 28 = .agg #[.int .i64 ((x3.getD p115.1.toNat ((0, 0, 0) : Int × Int × Int)).1), .int .i64 ((x3.getD p115.1.toNat ((0, 0, 0) : Int × Int × Int)).2.1), .int .i64 ((x3.getD p115.1.toNat ((0, 0, 0) : Int × Int × Int)).2.2)] := hp 4 rfl
            refine .inr (.inr (.inl ⟨rfl, _, _, (run_call (vs := [.agg #[.int .i64 p115.2.1, .int .i64 p115.2.2.1, .slice B116 p115.2.2.2.length d117], .agg #[.int .i64 ((x3.getD p115.1.toNat ((0, 0, 0) : Int × Int × Int)).1), .int .i64 ((x3.getD p115.1.toNat ((0, 0, 0) : Int × Int × Int)).2.1), .int .i64 ((x3.getD p115.1.toNat ((0, 0, 0) : Int × Int × Int)).2.2)]]) rfl rfl co7 ⟨(ev_sl e24), (ev_sl e28), trivial⟩), ?_⟩))
            refine Calls.mono (c_spec_RoomsDo (x0 := p115.2.1) (x1 := p115.2.2.1) (x2 := p115.2.2.2) (x3 := (x3.getD p115.1.toNat ((0, 0, 0) : Int × Int × Int)).1) (x4 := (x3.getD p115.1.toNat ((0, 0, 0) : Int × Int × Int)).2.1) (x5 := (x3.getD p115.1.toNat ((0, 0, 0) : Int × Int × Int)).2.2) ⟨(gr_rc S hl 3 rfl), rfl⟩ h120) ?_
            rintro e w1 ⟨B121, n122, d123, rfl, rfl, T⟩
            exact ⟨_, rfl, rfl, S.call1 T⟩
          · intro a u X hB hp hr hz hl S
            replace S : St w u ([] ++ X) := S
            have e29 : sl a 29 = .tuple #[.agg #[.int .i64 p120.1, .int .i64 p120.2.1, .slice (slA (vtup (vtup (sl a 29) 0) 2)) p120.2.2.1.length (slC (vtup (vtup (sl a 29) 0) 2))], .bool p120.2.2.2] := hp 5 rfl
            exact .inl ⟨rfl, .tuple #[.agg #[.int .i64 p120.1, .int .i64 p120.2.1, .slice (slA (vtup (vtup (sl a 29) 0) 2)) p120.2.2.1.length (slC (vtup (vtup (sl a 29) 0) 2))], .bool p120.2.2.2], u, (run_move rfl (ev_sl e29)), rfl, S⟩
          · intro a u X hB hp hr hz hl S
            replace S : St w u ([] ++ X) := S
            have e23 : sl a 23 = .tuple #[.agg #[.int .i64 p120.1, .int .i64 p120.2.1, .slice (slA (vtup (vtup (sl a 29) 0) 2)) p120.2.2.1.length (slC (vtup (vtup (sl a 29) 0) 2))], .bool p120.2.2.2] := hp 6 rfl
            exact .inl ⟨rfl, .agg #[.int .i64 p120.1, .int .i64 p120.2.1, .slice (slA (vtup (vtup (sl a 29) 0) 2)) p120.2.2.1.length (slC (vtup (vtup (sl a 29) 0) 2))], u, (run_extract rfl (ev_sl e23) rfl), rfl, S⟩
          · intro a u X hB hp hr hz hl S
            replace S : St w u ([] ++ X) := S
            have e23 : sl a 23 = .tuple #[.agg #[.int .i64 p120.1, .int .i64 p120.2.1, .slice (slA (vtup (vtup (sl a 29) 0) 2)) p120.2.2.1.length (slC (vtup (vtup (sl a 29) 0) 2))], .bool p120.2.2.2] := hp 6 rfl
            exact .inl ⟨rfl, .bool p120.2.2.2, u, (run_extract rfl (ev_sl e23) rfl), rfl, S⟩
          · intro a u X hB hp hr hz hl S
            replace S : St w u ([] ++ X) := S
            exact .inl ⟨rfl, _, _, (run_allocZ rfl zr28), rfl, S.alloc _ _⟩
          · intro a u X hB hp hr hz hl S
            replace S : St w u ([.box (ptB (sl a 7)) 28 #[.int .i64 0, .int .i64 0, .slice none 0 0]] ++ X) := S
            have e7 : sl a 7 = .pointer (some ⟨ptB (sl a 7), 0, none⟩) := hp 9 rfl
            have e30 : sl a 30 = .agg #[.int .i64 p120.1, .int .i64 p120.2.1, .slice (slA (vtup (vtup (sl a 29) 0) 2)) p120.2.2.1.length (slC (vtup (vtup (sl a 29) 0) 2))] := hp 7 rfl
            exact .inr (.inl ⟨rfl, _, run_store (cs' := #[.int .i64 p120.1, .int .i64 p120.2.1, .slice (slA (vtup (vtup (sl a 29) 0) 2)) p120.2.2.1.length (slC (vtup (vtup (sl a 29) 0) 2))]) rfl sz28 (ev_sl e7) (ev_sl e30) rfl rfl rfl (S.free 0 rfl) rfl rfl, trivial, S.put 0 rfl (#[.int .i64 p120.1, .int .i64 p120.2.1, .slice (slA (vtup (vtup (sl a 29) 0) 2)) p120.2.2.1.length (slC (vtup (vtup (sl a 29) 0) 2))])⟩)
          · intro a u X hB hp hr hz hl S
            replace S : St w u ([] ++ X) := S
            have e31 : sl a 31 = .bool p120.2.2.2 := hp 8 rfl
            exact .inl ⟨rfl, .bool p120.2.2.2, u, (run_assign rfl (ev_sl e31)), rfl, S⟩
        · intro a u hB hp S
          obtain ⟨q0, q1, q2, q3, q4, q5, q6, q7, q8, q9, q10, q11, _⟩ := hp
          have e24 : sl a 24 = .agg #[.int .i64 p115.2.1, .int .i64 p115.2.2.1, .slice B116 p115.2.2.2.length d117] := q0
          have e25 : sl a 25 = .slice A3 x3.length c3 := q1
          have e26 : sl a 26 = .int .i64 p115.1 := q2
          have e27 : sl a 27 = .pointer (some ⟨adB A3, adO A3 + p115.1.toNat * 3, none⟩) := q3
          have e28 : sl a 28 = .agg #[.int .i64 ((x3.getD p115.1.toNat ((0, 0, 0) : Int × Int × Int)).1), .int .i64 ((x3.getD p115.1.toNat ((0, 0, 0) : Int × Int × Int)).2.1), .int .i64 ((x3.getD p115.1.toNat ((0, 0, 0) : Int × Int × Int)).2.2)] := q4
          have e29 : sl a 29 = .tuple #[.agg #[.int .i64 p120.1, .int .i64 p120.2.1, .slice (slA (vtup (vtup (sl a 29) 0) 2)) p120.2.2.1.length (slC (vtup (vtup (sl a 29) 0) 2))], .bool p120.2.2.2] := q5
          have e23 : sl a 23 = .tuple #[.agg #[.int .i64 p120.1, .int .i64 p120.2.1, .slice (slA (vtup (vtup (sl a 29) 0) 2)) p120.2.2.1.length (slC (vtup (vtup (sl a 29) 0) 2))], .bool p120.2.2.2] := q6
          have e30 : sl a 30 = .agg #[.int .i64 p120.1, .int .i64 p120.2.1, .slice (slA (vtup (vtup (sl a 29) 0) 2)) p120.2.2.1.length (slC (vtup (vtup (sl a 29) 0) 2))] := q7
          have e31 : sl a 31 = .bool p120.2.2.2 := q8
          have e7 : sl a 7 = .pointer (some ⟨ptB (sl a 7), 0, none⟩) := q9
          have e8 : sl a 8 = .bool p120.2.2.2 := q11
          replace S : St w u [.row 3 1 (.slice (slA (vtup (vtup (sl a 29) 0) 2)) p120.2.2.1.length (slC (vtup (vtup (sl a 29) 0) 2))) p120.2.2.1.length (p120.2.2.1.flatMap eI), .box (ptB (sl a 7)) 28 #[.int .i64 p120.1, .int .i64 p120.2.1, .slice (slA (vtup (vtup (sl a 29) 0) 2)) p120.2.2.1.length (slC (vtup (vtup (sl a 29) 0) 2))], .box g109 28 #[.int .i64 p115.2.1, .int .i64 p115.2.2.1, .slice B116 p115.2.2.2.length d117], .box g102 28 #[.int .i64 0, .int .i64 0, .slice none 0 0], .box g101 28 #[.int .i64 x0, .int .i64 x1, .slice A2 x2.length c2], .row 3 1 (.slice B116 p115.2.2.2.length d117) p115.2.2.2.length (p115.2.2.2.flatMap eI)] := S
          clear q0 q1 q2 q3 q4 q5 q6 q7 q8 q9 q10 q11
          generalize slA (vtup (vtup (sl a 29) 0) 2) = B124 at *
          generalize slC (vtup (vtup (sl a 29) 0) 2) = d125 at *
          generalize ptB (sl a 7) = g126 at *
          have hF := hF.region hB [(24, .agg #[.int .i64 p115.2.1, .int .i64 p115.2.2.1, .slice B116 p115.2.2.2.length d117]), (25, .slice A3 x3.length c3), (26, .int .i64 p115.1), (27, .pointer (some ⟨adB A3, adO A3 + p115.1.toNat * 3, none⟩)), (28, .agg #[.int .i64 ((x3.getD p115.1.toNat ((0, 0, 0) : Int × Int × Int)).1), .int .i64 ((x3.getD p115.1.toNat ((0, 0, 0) : Int × Int × Int)).2.1), .int .i64 ((x3.getD p115.1.toNat ((0, 0, 0) : Int × Int × Int)).2.2)]), (29, .tuple #[.agg #[.int .i64 p120.1, .int .i64 p120.2.1, .slice B124 p120.2.2.1.length d125], .bool p120.2.2.2]), (23, .tuple #[.agg #[.int .i64 p120.1, .int .i64 p120.2.1, .slice B124 p120.2.2.1.length d125], .bool p120.2.2.2]), (30, .agg #[.int .i64 p120.1, .int .i64 p120.2.1, .slice B124 p120.2.2.1.length d125]), (31, .bool p120.2.2.2), (7, .pointer (some ⟨g126, 0, none⟩)), (8, .bool p120.2.2.2)] (allSl_mem ⟨e24, e25, e26, e27, e28, e29, e23, e30, e31, e7, e8, trivial⟩) rfl
          clear hB e24 e25 e26 e27 e28 e29 e23 e30 e31 e7 e8
          refine wp_region_lit ?_
          refine op_val (v := .agg #[.int .i64 p120.1, .int .i64 p120.2.1, .slice B124 p120.2.2.1.length d125]) rfl rfl hF rfl (run_loadN rfl ag28 (hF.ev rfl) rfl ((S.free 1 rfl).cells 0 #[.int .i64 p120.1, .int .i64 p120.2.1, .slice B124 p120.2.2.1.length d125] rfl)) ?_; clear hF; intro a hF
          refine op_do rfl rfl (run_store (cs' := #[.int .i64 p120.1, .int .i64 p120.2.1, .slice B124 p120.2.2.1.length d125]) rfl sz28 (hF.ev rfl) (hF.ev rfl) rfl rfl rfl (S.free 2 rfl) rfl rfl) ?_; replace S := S.put 2 rfl (#[.int .i64 p120.1, .int .i64 p120.2.1, .slice B124 p120.2.2.1.length d125])
          generalize World.setRow _ _ _ = u at S ⊢
          refine wpList_nil ?_
          refine wp_region_lit ?_
          refine op_val (v := .int .i64 p115.1) rfl rfl hF rfl (run_move rfl (hF.ev rfl)) ?_; clear hF; intro a hF
          refine op_val (v := .int .i64 (w64 (p115.1 + 1))) rfl rfl hF rfl (run_add (z := w64 (p115.1 + 1)) (hF.ev rfl) rfl rfl rfl) ?_; clear hF; intro a hF
          refine op_val (v := .int .i64 (w64 (p115.1 + 1))) rfl rfl hF rfl (run_assign rfl (hF.ev rfl)) ?_; clear hF; intro a hF
          refine wpList_nil ?_
          exact ⟨f1, Nat.lt_succ_self _, (w64 (p115.1 + 1), p120.1, p120.2.1, p120.2.2.1), B124, d125, hM114, hF.keep _ ⟨rfl, rfl, rfl, rfl, trivial⟩, S.sel [2, 3, 4, 0] rfl rfl⟩
    · rintro a u ⟨p110, B112, d113, rfl, hF, S⟩
      refine wp_seq ?_
      refine wp_region_lit ?_
      refine op_val (v := .agg #[.int .i64 p110.1, .int .i64 p110.2.1, .slice B112 p110.2.2.length d113]) rfl rfl hF rfl (run_loadN rfl ag28 (hF.ev rfl) rfl ((S.free 0 rfl).cells 0 #[.int .i64 p110.1, .int .i64 p110.2.1, .slice B112 p110.2.2.length d113] rfl)) ?_; clear hF; intro a hF
      refine op_do rfl rfl (run_store (cs' := #[.int .i64 p110.1, .int .i64 p110.2.1, .slice B112 p110.2.2.length d113]) rfl sz28 (hF.ev rfl) (hF.ev rfl) rfl rfl rfl (S.free 1 rfl) rfl rfl) ?_; replace S := S.put 1 rfl (#[.int .i64 p110.1, .int .i64 p110.2.1, .slice B112 p110.2.2.length d113])
      generalize World.setRow _ _ _ = u at S ⊢
      refine wpList_nil ?_
      refine wp_ret ?_
      repeat with_reducible (first | refine then_ret ?_ | refine in_ret ?_ | refine in_nrm ?_)
      refine ret1_gw (.inl rfl) hF rfl (res_cell (hF.ev rfl) (res_loadN ag28 rfl (S.cells 1 rfl 0 #[.int .i64 p110.1, .int .i64 p110.2.1, .slice B112 p110.2.2.length d113] rfl))) ?_
      obtain rfl := Option.some.inj hM
      exact ⟨B112, p110.2.2.length, d113, rfl, rfl, S.sel [3] rfl rfl⟩

set_option maxHeartbeats 4000000 in
theorem c_impl_RoomsRun {x0 : Int} {x1 : Int} {x2 : List Int} {x3 : List (Int × Int × Int)} {A2 : Option Addr} {n2 c2 : Nat} {A3 : Option Addr} {n3 c3 : Nat} {w : World} {r : Int × Int × List Int} (h2 : Rt w 1 eI A2 n2 c2 x2) (h3 : Rt w 3 eRoomDeed A3 n3 c3 x3) (hM : m_impl_RoomsRun x0 x1 x2 x3 = some r) :
    Calls Try.prog 19 #[.agg #[.int .i64 x0, .int .i64 x1, .slice A2 n2 c2], .slice A3 n3 c3] w (fun e w' => ∃ (B0 : Option Addr) (N0 D0 : Nat), e = .returned (.agg #[.int .i64 r.1, .int .i64 r.2.1, .slice B0 N0 D0]) ∧ N0 = r.2.2.length ∧ St w w' [.row 3 1 (.slice B0 N0 D0) N0 (r.2.2.flatMap eI)]) := by
  obtain rfl := h2.len
  obtain rfl := h3.len
  unfold m_impl_RoomsRun at hM
  refine calls_gw Try.func19 Try.ntmps19 rfl [(0, .agg #[.int .i64 x0, .int .i64 x1, .slice A2 x2.length c2]), (1, .slice A3 x3.length c3)] ⟨rfl, rfl, trivial⟩ rfl ?_
  intro a hF
  have S := St.nil w
  refine wp_seq ?_
  refine wp_region_lit ?_
  refine op_new (cs := #[.int .i64 x0, .int .i64 x1, .slice A2 x2.length c2]) rfl rfl hF rfl S (run_box rfl (hF.ev rfl) rfl) ?_; clear hF S; intro a g101 u hF S
  refine op_new (cs := #[.int .i64 0, .int .i64 0, .slice none 0 0]) rfl rfl hF rfl S (run_allocZ rfl zr28) ?_; clear hF S; intro a g102 u hF S
  refine wpList_nil ?_
  refine wp_seq ?_
  refine wp_seq ?_
  refine wp_region_lit ?_
  refine op_val (v := .agg #[.int .i64 x0, .int .i64 x1, .slice A2 x2.length c2]) rfl rfl hF rfl (run_loadN rfl ag28 (hF.ev rfl) rfl ((S.free 1 rfl).cells 0 #[.int .i64 x0, .int .i64 x1, .slice A2 x2.length c2] rfl)) ?_; clear hF; intro a hF
  obtain ⟨p103, h103, hM⟩ := bind_ex hM
  refine op_call rfl rfl hF rfl (run_call (vs := [.agg #[.int .i64 x0, .int .i64 x1, .slice A2 x2.length c2]]) rfl rfl co28 ⟨(hF.ev rfl), trivial⟩) (c_impl_RoomsValid (x0 := x0) (x1 := x1) (x2 := x2) ⟨(S.rc0 h2.rc), rfl⟩ h103) ?_
  rintro e u ⟨rfl, T⟩
  refine ⟨_, rfl, ?_⟩
  clear hF; intro a hF
  replace S := S.call0 T; clear T
  refine op_val (v := .bool (!p103)) rfl rfl hF rfl (run_not rfl (hF.ev rfl)) ?_; clear hF; intro a hF
  refine wpList_nil ?_
  cases hc104 : (p103)
  · replace hM := bif_f hc104 hM
    refine cond_t hF rfl (not_t hc104) ?_
    refine wp_seq ?_
    refine wp_region_lit ?_
    refine op_val (v := .agg #[.int .i64 0, .int .i64 0, .slice none 0 0]) rfl rfl hF rfl (run_build (vs := []) rfl trivial (bd28 )) ?_; clear hF; intro a hF
    refine op_do rfl rfl (run_store (cs' := #[.int .i64 0, .int .i64 0, .slice none 0 0]) rfl sz28 (hF.ev rfl) (hF.ev rfl) rfl rfl rfl (S.free 0 rfl) rfl rfl) ?_; replace S := S.put 0 rfl (#[.int .i64 0, .int .i64 0, .slice none 0 0])
    generalize World.setRow _ _ _ = u at S ⊢
    refine wpList_nil ?_
    refine wp_ret ?_
    repeat with_reducible (first | refine then_ret ?_ | refine in_ret ?_ | refine in_nrm ?_)
    refine ret1_gw (.inl rfl) hF rfl (res_cell (hF.ev rfl) (res_loadN ag28 rfl (S.cells 0 rfl 0 #[.int .i64 0, .int .i64 0, .slice none 0 0] rfl))) ?_
    obtain rfl := Option.some.inj hM
    replace S := S.nilrow 3 1
    exact ⟨none, 0, 0, rfl, rfl, S.sel [0] rfl rfl⟩
  · replace hM := bif_t hc104 hM
    refine cond_f hF rfl (not_f hc104) ?_
    refine wp_skip ?_
    refine wp_seq ?_
    refine wp_region_lit ?_
    refine op_val (v := .agg #[.int .i64 x0, .int .i64 x1, .slice A2 x2.length c2]) rfl rfl hF rfl (run_loadN rfl ag28 (hF.ev rfl) rfl ((S.free 1 rfl).cells 0 #[.int .i64 x0, .int .i64 x1, .slice A2 x2.length c2] rfl)) ?_; clear hF; intro a hF
    obtain ⟨p105, h105, hM⟩ := bind_ex hM
    refine op_call rfl rfl hF rfl (run_call (vs := [.agg #[.int .i64 x0, .int .i64 x1, .slice A2 x2.length c2]]) rfl rfl co29 ⟨(hF.ev rfl), trivial⟩) (c_impl_Rooms_clone (x0 := x0) (x1 := x1) (x2 := x2) ⟨(S.rc0 h2.rc), rfl⟩ h105) ?_
    rintro e u ⟨B106, n107, d108, rfl, rfl, T⟩
    refine ⟨_, rfl, ?_⟩
    clear hF; intro a hF
    replace S := S.call1 T; clear T
    refine op_new (cs := #[.int .i64 0, .int .i64 0, .slice none 0 0]) rfl rfl hF rfl S (run_allocZ rfl zr28) ?_; clear hF S; intro a g109 u hF S
    refine op_do rfl rfl (run_store (cs' := #[.int .i64 p105.1, .int .i64 p105.2.1, .slice B106 p105.2.2.length d108]) rfl sz28 (hF.ev rfl) (hF.ev rfl) rfl rfl rfl (S.free 0 rfl) rfl rfl) ?_; replace S := S.put 0 rfl (#[.int .i64 p105.1, .int .i64 p105.2.1, .slice B106 p105.2.2.length d108])
    generalize World.setRow _ _ _ = u at S ⊢
    refine wpList_nil ?_
    refine wp_seq ?_
    refine wp_seq ?_
    refine wp_region_lit ?_
    refine op_val (v := .slice A3 x3.length c3) rfl rfl hF rfl (run_move rfl (hF.ev rfl)) ?_; clear hF; intro a hF
    refine op_val (v := .int .i64 (x3.length : Int)) rfl rfl hF rfl (run_lenL rfl rfl Try.underlying42 (hF.ev rfl)) ?_; clear hF; intro a hF
    refine op_val (v := .int .i64 0) rfl rfl hF rfl (run_move rfl rfl) ?_; clear hF; intro a hF
    refine wpList_nil ?_
    obtain ⟨o111, hM114, hM⟩ := bind_ex hM
    refine wp_cut (fun a u => ∃ (p110 : Int × Int × List Int) (B112 : Option Addr) (d113 : Nat), p110 = o111 ∧ Fr a 28 [(4, .pointer (some ⟨g102, 0, none⟩)), (5, .pointer (some ⟨g109, 0, none⟩))] ∧ St w u [.box g109 28 #[.int .i64 p110.1, .int .i64 p110.2.1, .slice B112 p110.2.2.length d113], .box g102 28 #[.int .i64 0, .int .i64 0, .slice none 0 0], .box g101 28 #[.int .i64 x0, .int .i64 x1, .slice A2 x2.length c2], .row 3 1 (.slice B112 p110.2.2.length d113) p110.2.2.length (p110.2.2.flatMap eI)]) ?_ ?_
    · have _ := trivial
      refine wp_block ?_
      refine loop_gw (fun m a u => ∃ (p115 : Int × Int × Int × List Int) (B116 : Option Addr) (d117 : Nat), m_impl_RoomsRun_l1 x3 m p115 = some _ ∧ Fr a 28 [(4, .pointer (some ⟨g102, 0, none⟩)), (5, .pointer (some ⟨g109, 0, none⟩)), (14, .slice A3 x3.length c3), (15, .int .i64 (x3.length : Int)), (16, .int .i64 p115.1)] ∧ St w u [.box g109 28 #[.int .i64 p115.2.1, .int .i64 p115.2.2.1, .slice B116 p115.2.2.2.length d117], .box g102 28 #[.int .i64 0, .int .i64 0, .slice none 0 0], .box g101 28 #[.int .i64 x0, .int .i64 x1, .slice A2 x2.length c2], .row 3 1 (.slice B116 p115.2.2.2.length d117) p115.2.2.2.length (p115.2.2.2.flatMap eI)]) FUEL ⟨(0, p105.1, p105.2.1, p105.2.2), B106, d108, hM114, hF.keep _ ⟨rfl, rfl, rfl, rfl, rfl, trivial⟩, S.sel [0, 2, 3, 1] rfl rfl⟩ ?_
      clear hF S hM114; rintro m a u ⟨p115, B116, d117, hM114, hF, S⟩
      rcases m with _ | f1
      · exact none_some hM114
      rw [m_impl_RoomsRun_l1.eq_2] at hM114
      refine wp_seq ?_
      refine wp_region_lit ?_
      refine op_val (v := .bool (ltB p115.1 (x3.length : Int))) rfl rfl hF rfl (run_lss (hF.ev rfl) (hF.ev rfl) rfl) ?_; clear hF; intro a hF
      refine wpList_nil ?_
      refine wp_seq ?_
      cases hc118 : (ltB p115.1 (x3.length : Int))
      · replace hM114 := bif_f hc118 hM114
        refine cond_f hF rfl hc118 ?_
        refine wp_exit ?_
        repeat with_reducible (first | refine then_exit ?_ | refine in_hit ?_ | refine in_miss rfl ?_)
        obtain rfl := Option.some.inj hM114
        exact ⟨(p115.2.1, p115.2.2.1, p115.2.2.2), B116, d117, rfl, hF.keep _ ⟨rfl, rfl, trivial⟩, S.sel [0, 1, 2, 3] rfl rfl⟩
      · replace hM114 := bif_t hc118 hM114
        refine cond_t hF rfl hc118 ?_
        refine wp_skip ?_
        refine wp_seq ?_
        refine wp_block ?_
        refine wp_seq ?_
        refine wp_region_lit ?_
        obtain ⟨hk119, hM114⟩ := chk_ex hM114
        replace hk119 := ixB_t hk119
        refine op_val (v := .pointer (some ⟨adB A3, adO A3 + p115.1.toNat * 3, none⟩)) rfl rfl hF rfl (run_indexAddr (b := adB A3) (off := adO A3) rfl Try.underlying42 sz32 ((hF.ev rfl).trans (congrArg (fun A => Value.slice A x3.length c3) ((S.rc0 h3.rc).rd.ad (ix_pos hk119)))) (hF.ev rfl) hk119.1 hk119.2 (k' := adO A3 + p115.1.toNat * 3) rfl) ?_; clear hF; intro a hF
        refine op_val (v := .agg #[.int .i64 ((x3.getD p115.1.toNat ((0, 0, 0) : Int × Int × Int)).1), .int .i64 ((x3.getD p115.1.toNat ((0, 0, 0) : Int × Int × Int)).2.1), .int .i64 ((x3.getD p115.1.toNat ((0, 0, 0) : Int × Int × Int)).2.2)]) rfl rfl hF rfl (run_loadN (cs := #[.int .i64 ((x3.getD p115.1.toNat ((0, 0, 0) : Int × Int × Int)).1), .int .i64 ((x3.getD p115.1.toNat ((0, 0, 0) : Int × Int × Int)).2.1), .int .i64 ((x3.getD p115.1.toNat ((0, 0, 0) : Int × Int × Int)).2.2)]) rfl ag32 (hF.ev rfl) rfl (rd_elN (l := x3) (S.rc0 h3.rc).rd rfl eRoomDeed_len ((0, 0, 0) : Int × Int × Int) (ix_ltn hk119 rfl) rfl)) ?_; clear hF; intro a hF
        refine op_new (cs := #[.int .i64 0, .int .i64 0, .int .i64 0]) rfl rfl hF rfl S (run_allocZ rfl zr32) ?_; clear hF S; intro a g120 u hF S
        refine op_do rfl rfl (run_store (cs' := #[.int .i64 ((x3.getD p115.1.toNat ((0, 0, 0) : Int × Int × Int)).1), .int .i64 ((x3.getD p115.1.toNat ((0, 0, 0) : Int × Int × Int)).2.1), .int .i64 ((x3.getD p115.1.toNat ((0, 0, 0) : Int × Int × Int)).2.2)]) rfl sz32 (hF.ev rfl) (hF.ev rfl) rfl rfl rfl (S.free 0 rfl) rfl rfl) ?_; replace S := S.put 0 rfl (#[.int .i64 ((x3.getD p115.1.toNat ((0, 0, 0) : Int × Int × Int)).1), .int .i64 ((x3.getD p115.1.toNat ((0, 0, 0) : Int × Int × Int)).2.1), .int .i64 ((x3.getD p115.1.toNat ((0, 0, 0) : Int × Int × Int)).2.2)])
        generalize World.setRow _ _ _ = u at S ⊢
        refine wpList_nil ?_
        refine wp_region_lit ?_
        refine op_val (v := .agg #[.int .i64 p115.2.1, .int .i64 p115.2.2.1, .slice B116 p115.2.2.2.length d117]) rfl rfl hF rfl (run_loadN rfl ag28 (hF.ev rfl) rfl ((S.free 1 rfl).cells 0 #[.int .i64 p115.2.1, .int .i64 p115.2.2.1, .slice B116 p115.2.2.2.length d117] rfl)) ?_; clear hF; intro a hF
        refine op_val (v := .agg #[.int .i64 ((x3.getD p115.1.toNat ((0, 0, 0) : Int × Int × Int)).1), .int .i64 ((x3.getD p115.1.toNat ((0, 0, 0) : Int × Int × Int)).2.1), .int .i64 ((x3.getD p115.1.toNat ((0, 0, 0) : Int × Int × Int)).2.2)]) rfl rfl hF rfl (run_loadN rfl ag32 (hF.ev rfl) rfl ((S.free 0 rfl).cells 0 #[.int .i64 ((x3.getD p115.1.toNat ((0, 0, 0) : Int × Int × Int)).1), .int .i64 ((x3.getD p115.1.toNat ((0, 0, 0) : Int × Int × Int)).2.1), .int .i64 ((x3.getD p115.1.toNat ((0, 0, 0) : Int × Int × Int)).2.2)] rfl)) ?_; clear hF; intro a hF
        obtain ⟨p121, h121, hM114⟩ := bind_ex hM114
        refine op_call rfl rfl hF rfl (run_call (vs := [.agg #[.int .i64 p115.2.1, .int .i64 p115.2.2.1, .slice B116 p115.2.2.2.length d117], .agg #[.int .i64 ((x3.getD p115.1.toNat ((0, 0, 0) : Int × Int × Int)).1), .int .i64 ((x3.getD p115.1.toNat ((0, 0, 0) : Int × Int × Int)).2.1), .int .i64 ((x3.getD p115.1.toNat ((0, 0, 0) : Int × Int × Int)).2.2)]]) rfl rfl co10 ⟨(hF.ev rfl), (hF.ev rfl), trivial⟩) (c_impl_RoomsDo (x0 := p115.2.1) (x1 := p115.2.2.1) (x2 := p115.2.2.2) (x3 := (x3.getD p115.1.toNat ((0, 0, 0) : Int × Int × Int)).1) (x4 := (x3.getD p115.1.toNat ((0, 0, 0) : Int × Int × Int)).2.1) (x5 := (x3.getD p115.1.toNat ((0, 0, 0) : Int × Int × Int)).2.2) ⟨(S.rc 4 rfl), rfl⟩ h121) ?_
        rintro e u ⟨B122, n123, d124, rfl, rfl, T⟩
        refine ⟨_, rfl, ?_⟩
        clear hF; intro a hF
        replace S := S.call1 T; clear T
        refine op_val (v := .tuple #[.agg #[.int .i64 p121.1, .int .i64 p121.2.1, .slice B122 p121.2.2.1.length d124], .bool p121.2.2.2]) rfl rfl hF rfl (run_move rfl (hF.ev rfl)) ?_; clear hF; intro a hF
        refine op_val (v := .agg #[.int .i64 p121.1, .int .i64 p121.2.1, .slice B122 p121.2.2.1.length d124]) rfl rfl hF rfl (run_extract rfl (hF.ev rfl) rfl) ?_; clear hF; intro a hF
        refine op_val (v := .bool p121.2.2.2) rfl rfl hF rfl (run_extract rfl (hF.ev rfl) rfl) ?_; clear hF; intro a hF
        refine op_do rfl rfl (run_store (cs' := #[.int .i64 p121.1, .int .i64 p121.2.1, .slice B122 p121.2.2.1.length d124]) rfl sz28 (hF.ev rfl) (hF.ev rfl) rfl rfl rfl (S.free 2 rfl) rfl rfl) ?_; replace S := S.put 2 rfl (#[.int .i64 p121.1, .int .i64 p121.2.1, .slice B122 p121.2.2.1.length d124])
        generalize World.setRow _ _ _ = u at S ⊢
        refine wpList_nil ?_
        refine wp_region_lit ?_
        refine op_val (v := .int .i64 (w64 (p115.1 + 1))) rfl rfl hF rfl (run_add (z := w64 (p115.1 + 1)) (hF.ev rfl) rfl rfl rfl) ?_; clear hF; intro a hF
        refine op_val (v := .int .i64 (w64 (p115.1 + 1))) rfl rfl hF rfl (run_move rfl (hF.ev rfl)) ?_; clear hF; intro a hF
        refine wpList_nil ?_
        exact ⟨f1, Nat.lt_succ_self _, (w64 (p115.1 + 1), p121.1, p121.2.1, p121.2.2.1), B122, d124, hM114, hF.keep _ ⟨rfl, rfl, rfl, rfl, rfl, trivial⟩, S.sel [2, 3, 4, 0] rfl rfl⟩
    · rintro a u ⟨p110, B112, d113, rfl, hF, S⟩
      refine wp_seq ?_
      refine wp_region_lit ?_
      refine op_val (v := .agg #[.int .i64 p110.1, .int .i64 p110.2.1, .slice B112 p110.2.2.length d113]) rfl rfl hF rfl (run_loadN rfl ag28 (hF.ev rfl) rfl ((S.free 0 rfl).cells 0 #[.int .i64 p110.1, .int .i64 p110.2.1, .slice B112 p110.2.2.length d113] rfl)) ?_; clear hF; intro a hF
      refine op_do rfl rfl (run_store (cs' := #[.int .i64 p110.1, .int .i64 p110.2.1, .slice B112 p110.2.2.length d113]) rfl sz28 (hF.ev rfl) (hF.ev rfl) rfl rfl rfl (S.free 1 rfl) rfl rfl) ?_; replace S := S.put 1 rfl (#[.int .i64 p110.1, .int .i64 p110.2.1, .slice B112 p110.2.2.length d113])
      generalize World.setRow _ _ _ = u at S ⊢
      refine wpList_nil ?_
      refine wp_ret ?_
      repeat with_reducible (first | refine then_ret ?_ | refine in_ret ?_ | refine in_nrm ?_)
      refine ret1_gw (.inl rfl) hF rfl (res_cell (hF.ev rfl) (res_loadN ag28 rfl (S.cells 1 rfl 0 #[.int .i64 p110.1, .int .i64 p110.2.1, .slice B112 p110.2.2.length d113] rfl))) ?_
      obtain rfl := Option.some.inj hM
      exact ⟨B112, p110.2.2.length, d113, rfl, rfl, S.sel [3] rfl rfl⟩

set_option maxHeartbeats 4000000 in
theorem c_laws_eqRoomDeed {x0 : Int} {x1 : Int} {x2 : Int} {x3 : Int} {x4 : Int} {x5 : Int} {w : World} {r : Bool}  (hM : m_laws_eqRoomDeed x0 x1 x2 x3 x4 x5 = some r) :
    Calls Try.prog 35 #[.agg #[.int .i64 x0, .int .i64 x1, .int .i64 x2], .agg #[.int .i64 x3, .int .i64 x4, .int .i64 x5]] w (fun e w' => e = .returned (.bool r) ∧ St w w' []) := by
  unfold m_laws_eqRoomDeed at hM
  refine calls_gw Try.func35 Try.ntmps35 rfl [(0, .agg #[.int .i64 x0, .int .i64 x1, .int .i64 x2]), (1, .agg #[.int .i64 x3, .int .i64 x4, .int .i64 x5])] ⟨rfl, rfl, trivial⟩ rfl ?_
  intro a hF
  have S := St.nil w
  refine wp_seq ?_
  refine wp_region_lit ?_
  refine op_new (cs := #[.int .i64 x0, .int .i64 x1, .int .i64 x2]) rfl rfl hF rfl S (run_box rfl (hF.ev rfl) rfl) ?_; clear hF S; intro a g101 u hF S
  refine op_new (cs := #[.int .i64 x3, .int .i64 x4, .int .i64 x5]) rfl rfl hF rfl S (run_box rfl (hF.ev rfl) rfl) ?_; clear hF S; intro a g102 u hF S
  refine op_val (v := .bool false) rfl rfl hF rfl (run_assign rfl rfl) ?_; clear hF; intro a hF
  refine wpList_nil ?_
  refine wp_seq ?_
  refine wp_seq ?_
  refine wp_region_lit ?_
  refine op_val (v := .pointer (some ⟨g101, 0, none⟩)) rfl rfl hF rfl (run_fieldAddr rfl fl32_0 (hF.ev rfl) rfl) ?_; clear hF; intro a hF
  refine op_val (v := .int .i64 x0) rfl rfl hF rfl (run_load1 rfl one3 (hF.ev rfl) ((S.free 1 rfl).cell rfl)) ?_; clear hF; intro a hF
  refine op_val (v := .pointer (some ⟨g102, 0, none⟩)) rfl rfl hF rfl (run_fieldAddr rfl fl32_0 (hF.ev rfl) rfl) ?_; clear hF; intro a hF
  refine op_val (v := .int .i64 x3) rfl rfl hF rfl (run_load1 rfl one3 (hF.ev rfl) ((S.free 0 rfl).cell rfl)) ?_; clear hF; intro a hF
  refine op_val (v := .bool (x0 != x3)) rfl rfl hF rfl (run_neq (hF.ev rfl) (hF.ev rfl) rfl) ?_; clear hF; intro a hF
  refine wpList_nil ?_
  cases hc103 : (x0 != x3)
  · replace hM := bif_f hc103 hM
    refine cond_f hF rfl hc103 ?_
    refine wp_skip ?_
    refine wp_seq ?_
    refine wp_seq ?_
    refine wp_region_lit ?_
    refine op_val (v := .pointer (some ⟨g101, 1, none⟩)) rfl rfl hF rfl (run_fieldAddr rfl fl32_1 (hF.ev rfl) rfl) ?_; clear hF; intro a hF
    refine op_val (v := .int .i64 x1) rfl rfl hF rfl (run_load1 rfl one3 (hF.ev rfl) ((S.free 1 rfl).cell rfl)) ?_; clear hF; intro a hF
    refine op_val (v := .pointer (some ⟨g102, 1, none⟩)) rfl rfl hF rfl (run_fieldAddr rfl fl32_1 (hF.ev rfl) rfl) ?_; clear hF; intro a hF
    refine op_val (v := .int .i64 x4) rfl rfl hF rfl (run_load1 rfl one3 (hF.ev rfl) ((S.free 0 rfl).cell rfl)) ?_; clear hF; intro a hF
    refine op_val (v := .bool (x1 != x4)) rfl rfl hF rfl (run_neq (hF.ev rfl) (hF.ev rfl) rfl) ?_; clear hF; intro a hF
    refine wpList_nil ?_
    cases hc104 : (x1 != x4)
    · replace hM := bif_f hc104 hM
      refine cond_f hF rfl hc104 ?_
      refine wp_skip ?_
      refine wp_seq ?_
      refine wp_seq ?_
      refine wp_region_lit ?_
      refine op_val (v := .pointer (some ⟨g101, 2, none⟩)) rfl rfl hF rfl (run_fieldAddr rfl fl32_2 (hF.ev rfl) rfl) ?_; clear hF; intro a hF
      refine op_val (v := .int .i64 x2) rfl rfl hF rfl (run_load1 rfl one3 (hF.ev rfl) ((S.free 1 rfl).cell rfl)) ?_; clear hF; intro a hF
      refine op_val (v := .pointer (some ⟨g102, 2, none⟩)) rfl rfl hF rfl (run_fieldAddr rfl fl32_2 (hF.ev rfl) rfl) ?_; clear hF; intro a hF
      refine op_val (v := .int .i64 x5) rfl rfl hF rfl (run_load1 rfl one3 (hF.ev rfl) ((S.free 0 rfl).cell rfl)) ?_; clear hF; intro a hF
      refine op_val (v := .bool (x2 != x5)) rfl rfl hF rfl (run_neq (hF.ev rfl) (hF.ev rfl) rfl) ?_; clear hF; intro a hF
      refine wpList_nil ?_
      cases hc105 : (x2 != x5)
      · replace hM := bif_f hc105 hM
        refine cond_f hF rfl hc105 ?_
        refine wp_skip ?_
        refine wp_seq ?_
        refine wp_region_lit ?_
        refine op_val (v := .bool true) rfl rfl hF rfl (run_assign rfl rfl) ?_; clear hF; intro a hF
        refine wpList_nil ?_
        refine wp_ret ?_
        repeat with_reducible (first | refine then_ret ?_ | refine in_ret ?_ | refine in_nrm ?_)
        refine ret1_gw (.inl rfl) hF rfl (res_tmp (hF.ev rfl)) ?_
        obtain rfl := Option.some.inj hM
        exact ⟨rfl, S.sel [] rfl rfl⟩
      · replace hM := bif_t hc105 hM
        refine cond_t hF rfl hc105 ?_
        refine wp_seq ?_
        refine wp_region_lit ?_
        refine op_val (v := .bool false) rfl rfl hF rfl (run_assign rfl rfl) ?_; clear hF; intro a hF
        refine wpList_nil ?_
        refine wp_ret ?_
        repeat with_reducible (first | refine then_ret ?_ | refine in_ret ?_ | refine in_nrm ?_)
        refine ret1_gw (.inl rfl) hF rfl (res_tmp (hF.ev rfl)) ?_
        obtain rfl := Option.some.inj hM
        exact ⟨rfl, S.sel [] rfl rfl⟩
    · replace hM := bif_t hc104 hM
      refine cond_t hF rfl hc104 ?_
      refine wp_seq ?_
      refine wp_region_lit ?_
      refine op_val (v := .bool false) rfl rfl hF rfl (run_assign rfl rfl) ?_; clear hF; intro a hF
      refine wpList_nil ?_
      refine wp_ret ?_
      repeat with_reducible (first | refine then_ret ?_ | refine in_ret ?_ | refine in_nrm ?_)
      refine ret1_gw (.inl rfl) hF rfl (res_tmp (hF.ev rfl)) ?_
      obtain rfl := Option.some.inj hM
      exact ⟨rfl, S.sel [] rfl rfl⟩
  · replace hM := bif_t hc103 hM
    refine cond_t hF rfl hc103 ?_
    refine wp_seq ?_
    refine wp_region_lit ?_
    refine op_val (v := .bool false) rfl rfl hF rfl (run_assign rfl rfl) ?_; clear hF; intro a hF
    refine wpList_nil ?_
    refine wp_ret ?_
    repeat with_reducible (first | refine then_ret ?_ | refine in_ret ?_ | refine in_nrm ?_)
    refine ret1_gw (.inl rfl) hF rfl (res_tmp (hF.ev rfl)) ?_
    obtain rfl := Option.some.inj hM
    exact ⟨rfl, S.sel [] rfl rfl⟩

set_option maxHeartbeats 4000000 in
theorem c_laws_eqRoomDeedS {x0 : List (Int × Int × Int)} {x1 : List (Int × Int × Int)} {A0 : Option Addr} {n0 c0 : Nat} {A1 : Option Addr} {n1 c1 : Nat} {w : World} {r : Bool} (h0 : Rt w 3 eRoomDeed A0 n0 c0 x0) (h1 : Rt w 3 eRoomDeed A1 n1 c1 x1) (hM : m_laws_eqRoomDeedS x0 x1 = some r) :
    Calls Try.prog 20 #[.slice A0 n0 c0, .slice A1 n1 c1] w (fun e w' => e = .returned (.bool r) ∧ St w w' []) := by
  obtain rfl := h0.len
  obtain rfl := h1.len
  unfold m_laws_eqRoomDeedS at hM
  refine calls_gw Try.func20 Try.ntmps20 rfl [(0, .slice A0 x0.length c0), (1, .slice A1 x1.length c1)] ⟨rfl, rfl, trivial⟩ rfl ?_
  intro a hF
  have S := St.nil w
  refine wp_seq ?_
  refine wp_region_lit ?_
  refine op_val (v := .bool false) rfl rfl hF rfl (run_assign rfl rfl) ?_; clear hF; intro a hF
  refine wpList_nil ?_
  refine wp_seq ?_
  refine wp_seq ?_
  refine wp_region_lit ?_
  refine op_val (v := .slice A0 x0.length c0) rfl rfl hF rfl (run_move rfl (hF.ev rfl)) ?_; clear hF; intro a hF
  refine op_val (v := .int .i64 (x0.length : Int)) rfl rfl hF rfl (run_lenL rfl rfl Try.underlying42 (hF.ev rfl)) ?_; clear hF; intro a hF
  refine op_val (v := .slice A1 x1.length c1) rfl rfl hF rfl (run_move rfl (hF.ev rfl)) ?_; clear hF; intro a hF
  refine op_val (v := .int .i64 (x1.length : Int)) rfl rfl hF rfl (run_lenL rfl rfl Try.underlying42 (hF.ev rfl)) ?_; clear hF; intro a hF
  refine op_val (v := .bool ((x0.length : Int) != (x1.length : Int))) rfl rfl hF rfl (run_neq (hF.ev rfl) (hF.ev rfl) rfl) ?_; clear hF; intro a hF
  refine wpList_nil ?_
  cases hc101 : ((x0.length : Int) != (x1.length : Int))
  · replace hM := bif_f hc101 hM
    refine cond_f hF rfl hc101 ?_
    refine wp_skip ?_
    refine wp_seq ?_
    refine wp_seq ?_
    refine wp_region_lit ?_
    refine op_val (v := .int .i64 0) rfl rfl hF rfl (run_assign rfl rfl) ?_; clear hF; intro a hF
    refine wpList_nil ?_
    obtain ⟨o103, hM104, hM⟩ := bind_ex hM
    refine wp_cut (fun a u => ∃ (p102 : Unit), (Sum.inl p102) = o103 ∧ Fr a 27 [(4, .bool false)] ∧ St w u []) ?_ ?_
    · have _ := trivial
      refine wp_block ?_
      refine loop_gw (fun m a u => ∃ (p105 : Int), m_laws_eqRoomDeedS_l1 x0 x1 m p105 = some _ ∧ Fr a 27 [(0, .slice A0 x0.length c0), (1, .slice A1 x1.length c1), (4, .bool false), (5, .int .i64 p105)] ∧ St w u []) FUEL ⟨0, hM104, hF.keep _ ⟨rfl, rfl, rfl, rfl, trivial⟩, S.sel [] rfl rfl⟩ ?_
      clear hF S hM104; rintro m a u ⟨p105, hM104, hF, S⟩
      rcases m with _ | f1
      · exact none_some hM104
      rw [m_laws_eqRoomDeedS_l1.eq_2] at hM104
      refine wp_seq ?_
      refine wp_seq ?_
      refine wp_region_lit ?_
      refine op_val (v := .int .i64 p105) rfl rfl hF rfl (run_move rfl (hF.ev rfl)) ?_; clear hF; intro a hF
      refine op_val (v := .slice A0 x0.length c0) rfl rfl hF rfl (run_move rfl (hF.ev rfl)) ?_; clear hF; intro a hF
      refine op_val (v := .int .i64 (x0.length : Int)) rfl rfl hF rfl (run_lenL rfl rfl Try.underlying42 (hF.ev rfl)) ?_; clear hF; intro a hF
      refine op_val (v := .bool (ltB p105 (x0.length : Int))) rfl rfl hF rfl (run_lss (hF.ev rfl) (hF.ev rfl) rfl) ?_; clear hF; intro a hF
      refine wpList_nil ?_
      cases hc106 : (ltB p105 (x0.length : Int))
      · replace hM104 := bif_f hc106 hM104
        refine cond_f hF rfl hc106 ?_
        refine wp_exit ?_
        repeat with_reducible (first | refine then_exit ?_ | refine in_hit ?_ | refine in_miss rfl ?_)
        obtain rfl := Option.some.inj hM104
        exact ⟨(), rfl, hF.keep _ ⟨rfl, trivial⟩, S.sel [] rfl rfl⟩
      · replace hM104 := bif_t hc106 hM104
        refine cond_t hF rfl hc106 ?_
        refine wp_skip ?_
        refine wp_seq ?_
        refine wp_block ?_
        refine wp_seq ?_
        obtain ⟨hk107, hM104⟩ := chk_ex hM104
        replace hk107 := ixB_t hk107
        obtain ⟨hk108, hM104⟩ := chk_ex hM104
        replace hk108 := ixB_t hk108
        obtain ⟨p109, h109, hM104⟩ := bind_ex hM104
        refine region_gw (D := [17, 18, 19, 20, 21, 22, 23, 24, 25, 26]) (Lr := []) (deps := (fun | 0 => [17] | 1 => [18] | 2 => [19] | 3 => [20] | 4 => [21] | 5 => [22] | 6 => [23] | 7 => [24] | 8 => [25] | 9 => [26] | _ => [])) (rd := (fun _ => [])) (zr := (fun _ => []))
          (φ := fun i vs => match i, vs with | 0, [v17] => v17 = .slice A0 x0.length c0 | 1, [v18] => v18 = .int .i64 p105 | 2, [v19] => v19 = .pointer (some ⟨adB A0, adO A0 + p105.toNat * 3, none⟩) | 3, [v20] => v20 = .agg #[.int .i64 ((x0.getD p105.toNat ((0, 0, 0) : Int × Int × Int)).1), .int .i64 ((x0.getD p105.toNat ((0, 0, 0) : Int × Int × Int)).2.1), .int .i64 ((x0.getD p105.toNat ((0, 0, 0) : Int × Int × Int)).2.2)] | 4, [v21] => v21 = .slice A1 x1.length c1 | 5, [v22] => v22 = .int .i64 p105 | 6, [v23] => v23 = .pointer (some ⟨adB A1, adO A1 + p105.toNat * 3, none⟩) | 7, [v24] => v24 = .agg #[.int .i64 ((x1.getD p105.toNat ((0, 0, 0) : Int × Int × Int)).1), .int .i64 ((x1.getD p105.toNat ((0, 0, 0) : Int × Int × Int)).2.1), .int .i64 ((x1.getD p105.toNat ((0, 0, 0) : Int × Int × Int)).2.2)] | 8, [v25] => v25 = .bool p109 | 9, [v26] => v26 = .bool (!p109) | _, _ => True)
          (C := fun _ _ => [])
          (κ := (fun _ => none)) (Z := (fun _ => [])) mixed hF (by kernel_rfl) S ?_ ?_
        · refine ⟨?_, ?_, ?_, ?_, ?_, ?_, ?_, ?_, ?_, ?_, trivial⟩
          · intro a u X hB hp hr hz hl S
            replace S : St w u ([] ++ X) := S
            exact .inl ⟨rfl, .slice A0 x0.length c0, u, (run_move rfl (hF.evB hB rfl rfl)), rfl, S⟩
          · intro a u X hB hp hr hz hl S
            replace S : St w u ([] ++ X) := S
            exact .inl ⟨rfl, .int .i64 p105, u, (run_move rfl (hF.evB hB rfl rfl)), rfl, S⟩
          · intro a u X hB hp hr hz hl S
            replace S : St w u ([] ++ X) := S
            have e17 : sl a 17 = .slice A0 x0.length c0 := hp 0 rfl
            have e18 : sl a 18 = .int .i64 p105 := hp 1 rfl
            exact .inl ⟨rfl, .pointer (some ⟨adB A0, adO A0 + p105.toNat * 3, none⟩), u, (run_indexAddr (b := adB A0) (off := adO A0) rfl Try.underlying42 sz32 ((ev_sl e17).trans (congrArg (fun A => Value.slice A x0.length c0) ((S.rc0 h0.rc).rd.ad (ix_pos hk107)))) (ev_sl e18) hk107.1 hk107.2 (k' := adO A0 + p105.toNat * 3) rfl), rfl, S⟩
          · intro a u X hB hp hr hz hl S
            replace S : St w u ([] ++ X) := S
            have e19 : sl a 19 = .pointer (some ⟨adB A0, adO A0 + p105.toNat * 3, none⟩) := hp 2 rfl
            exact .inl ⟨rfl, .agg #[.int .i64 ((x0.getD p105.toNat ((0, 0, 0) : Int × Int × Int)).1), .int .i64 ((x0.getD p105.toNat ((0, 0, 0) : Int × Int × Int)).2.1), .int .i64 ((x0.getD p105.toNat ((0, 0, 0) : Int × Int × Int)).2.2)], u, (run_loadN (cs := #[.int .i64 ((x0.getD p105.toNat ((0, 0, 0) : Int × Int × Int)).1), .int .i64 ((x0.getD p105.toNat ((0, 0, 0) : Int × Int × Int)).2.1), .int .i64 ((x0.getD p105.toNat ((0, 0, 0) : Int × Int × Int)).2.2)]) rfl ag32 (ev_sl e19) rfl (rd_elN (l := x0) (S.rc0 h0.rc).rd rfl eRoomDeed_len ((0, 0, 0) : Int × Int × Int) (ix_ltn hk107 rfl) rfl)), rfl, S⟩
          · intro a u X hB hp hr hz hl S
            replace S : St w u ([] ++ X) := S
            exact .inl ⟨rfl, .slice A1 x1.length c1, u, (run_move rfl (hF.evB hB rfl rfl)), rfl, S⟩
          · intro a u X hB hp hr hz hl S
            replace S : St w u ([] ++ X) := S
            exact .inl ⟨rfl, .int .i64 p105, u, (run_move rfl (hF.evB hB rfl rfl)), rfl, S⟩
          · intro a u X hB hp hr hz hl S
            replace S : St w u ([] ++ X) := S
            have e21 : sl a 21 = .slice A1 x1.length c1 := hp 4 rfl
            have e22 : sl a 22 = .int .i64 p105 := hp 5 rfl
            exact .inl ⟨rfl, .pointer (some ⟨adB A1, adO A1 + p105.toNat * 3, none⟩), u, (run_indexAddr (b := adB A1) (off := adO A1) rfl Try.underlying42 sz32 ((ev_sl e21).trans (congrArg (fun A => Value.slice A x1.length c1) ((S.rc0 h1.rc).rd.ad (ix_pos hk108)))) (ev_sl e22) hk108.1 hk108.2 (k' := adO A1 + p105.toNat * 3) rfl), rfl, S⟩
          · intro a u X hB hp hr hz hl S
            replace S : St w u ([] ++ X) := S
            have e23 : sl a 23 = .pointer (some ⟨adB A1, adO A1 + p105.toNat * 3, none⟩) := hp 6 rfl
            exact .inl ⟨rfl, .agg #[.int .i64 ((x1.getD p105.toNat ((0, 0, 0) : Int × Int × Int)).1), .int .i64 ((x1.getD p105.toNat ((0, 0, 0) : Int × Int × Int)).2.1), .int .i64 ((x1.getD p105.toNat ((0, 0, 0) : Int × Int × Int)).2.2)], u, (run_loadN (cs := #[.int .i64 ((x1.getD p105.toNat ((0, 0, 0) : Int × Int × Int)).1), .int .i64 ((x1.getD p105.toNat ((0, 0, 0) : Int × Int × Int)).2.1), .int .i64 ((x1.getD p105.toNat ((0, 0, 0) : Int × Int × Int)).2.2)]) rfl ag32 (ev_sl e23) rfl (rd_elN (l := x1) (S.rc0 h1.rc).rd rfl eRoomDeed_len ((0, 0, 0) : Int × Int × Int) (ix_ltn hk108 rfl) rfl)), rfl, S⟩
          · intro a u X hB hp hr hz hl S
            replace S : St w u ([] ++ X) := S
            have e20 : sl a 20 = .agg #[.int .i64 ((x0.getD p105.toNat ((0, 0, 0) : Int × Int × Int)).1), .int .i64 ((x0.getD p105.toNat ((0, 0, 0) : Int × Int × Int)).2.1), .int .i64 ((x0.getD p105.toNat ((0, 0, 0) : Int × Int × Int)).2.2)] := hp 3 rfl
            have e24 : sl a 24 = .agg #[.int .i64 ((x1.getD p105.toNat ((0, 0, 0) : Int × Int × Int)).1), .int .i64 ((x1.getD p105.toNat ((0, 0, 0) : Int × Int × Int)).2.1), .int .i64 ((x1.getD p105.toNat ((0, 0, 0) : Int × Int × Int)).2.2)] := hp 7 rfl
            refine .inr (.inr (.inl ⟨rfl, _, _, (run_call (vs := [.agg #[.int .i64 ((x0.getD p105.toNat ((0, 0, 0) : Int × Int × Int)).1), .int .i64 ((x0.getD p105.toNat ((0, 0, 0) : Int × Int × Int)).2.1), .int .i64 ((x0.getD p105.toNat ((0, 0, 0) : Int × Int × Int)).2.2)], .agg #[.int .i64 ((x1.getD p105.toNat ((0, 0, 0) : Int × Int × Int)).1), .int .i64 ((x1.getD p105.toNat ((0, 0, 0) : Int × Int × Int)).2.1), .int .i64 ((x1.getD p105.toNat ((0, 0, 0) : Int × Int × Int)).2.2)]]) rfl rfl co35 ⟨(ev_sl e20), (ev_sl e24), trivial⟩), ?_⟩))
            refine Calls.mono (c_laws_eqRoomDeed (x0 := (x0.getD p105.toNat ((0, 0, 0) : Int × Int × Int)).1) (x1 := (x0.getD p105.toNat ((0, 0, 0) : Int × Int × Int)).2.1) (x2 := (x0.getD p105.toNat ((0, 0, 0) : Int × Int × Int)).2.2) (x3 := (x1.getD p105.toNat ((0, 0, 0) : Int × Int × Int)).1) (x4 := (x1.getD p105.toNat ((0, 0, 0) : Int × Int × Int)).2.1) (x5 := (x1.getD p105.toNat ((0, 0, 0) : Int × Int × Int)).2.2)  h109) ?_
            rintro e w1 ⟨rfl, T⟩
            exact ⟨_, rfl, rfl, S.call0 T⟩
          · intro a u X hB hp hr hz hl S
            replace S : St w u ([] ++ X) := S
            have e25 : sl a 25 = .bool p109 := hp 8 rfl
            exact .inl ⟨rfl, .bool (!p109), u, (run_not rfl (ev_sl e25)), rfl, S⟩
        · intro a u hB hp S
          obtain ⟨q0, q1, q2, q3, q4, q5, q6, q7, q8, q9, _⟩ := hp
          have e17 : sl a 17 = .slice A0 x0.length c0 := q0
          have e18 : sl a 18 = .int .i64 p105 := q1
          have e19 : sl a 19 = .pointer (some ⟨adB A0, adO A0 + p105.toNat * 3, none⟩) := q2
          have e20 : sl a 20 = .agg #[.int .i64 ((x0.getD p105.toNat ((0, 0, 0) : Int × Int × Int)).1), .int .i64 ((x0.getD p105.toNat ((0, 0, 0) : Int × Int × Int)).2.1), .int .i64 ((x0.getD p105.toNat ((0, 0, 0) : Int × Int × Int)).2.2)] := q3
          have e21 : sl a 21 = .slice A1 x1.length c1 := q4
          have e22 : sl a 22 = .int .i64 p105 := q5
          have e23 : sl a 23 = .pointer (some ⟨adB A1, adO A1 + p105.toNat * 3, none⟩) := q6
          have e24 : sl a 24 = .agg #[.int .i64 ((x1.getD p105.toNat ((0, 0, 0) : Int × Int × Int)).1), .int .i64 ((x1.getD p105.toNat ((0, 0, 0) : Int × Int × Int)).2.1), .int .i64 ((x1.getD p105.toNat ((0, 0, 0) : Int × Int × Int)).2.2)] := q7
          have e25 : sl a 25 = .bool p109 := q8
          have e26 : sl a 26 = .bool (!p109) := q9
          replace S : St w u [] := S
          clear q0 q1 q2 q3 q4 q5 q6 q7 q8 q9
          have hF := hF.region hB [(17, .slice A0 x0.length c0), (18, .int .i64 p105), (19, .pointer (some ⟨adB A0, adO A0 + p105.toNat * 3, none⟩)), (20, .agg #[.int .i64 ((x0.getD p105.toNat ((0, 0, 0) : Int × Int × Int)).1), .int .i64 ((x0.getD p105.toNat ((0, 0, 0) : Int × Int × Int)).2.1), .int .i64 ((x0.getD p105.toNat ((0, 0, 0) : Int × Int × Int)).2.2)]), (21, .slice A1 x1.length c1), (22, .int .i64 p105), (23, .pointer (some ⟨adB A1, adO A1 + p105.toNat * 3, none⟩)), (24, .agg #[.int .i64 ((x1.getD p105.toNat ((0, 0, 0) : Int × Int × Int)).1), .int .i64 ((x1.getD p105.toNat ((0, 0, 0) : Int × Int × Int)).2.1), .int .i64 ((x1.getD p105.toNat ((0, 0, 0) : Int × Int × Int)).2.2)]), (25, .bool p109), (26, .bool (!p109))] (allSl_mem ⟨e17, e18, e19, e20, e21, e22, e23, e24, e25, e26, trivial⟩) rfl
          clear hB e17 e18 e19 e20 e21 e22 e23 e24 e25 e26
          cases hc110 : (p109)
          · replace hM104 := bif_f hc110 hM104
            refine cond_t hF rfl (not_t hc110) ?_
            refine wp_seq ?_
            refine wp_region_lit ?_
            refine op_val (v := .bool false) rfl rfl hF rfl (run_assign rfl rfl) ?_; clear hF; intro a hF
            refine wpList_nil ?_
            refine wp_ret ?_
            repeat with_reducible (first | refine then_ret ?_ | refine in_ret ?_ | refine in_nrm ?_)
            refine ret1_gw (.inl rfl) hF rfl (res_tmp (hF.ev rfl)) ?_
            obtain rfl := Option.some.inj hM104
            obtain rfl := Option.some.inj hM
            exact ⟨rfl, S.sel [] rfl rfl⟩
          · replace hM104 := bif_t hc110 hM104
            refine cond_f hF rfl (not_f hc110) ?_
            refine wp_skip ?_
            refine wp_region_lit ?_
            refine op_val (v := .int .i64 p105) rfl rfl hF rfl (run_move rfl (hF.ev rfl)) ?_; clear hF; intro a hF
            refine op_val (v := .int .i64 (w64 (p105 + 1))) rfl rfl hF rfl (run_add (z := w64 (p105 + 1)) (hF.ev rfl) rfl rfl rfl) ?_; clear hF; intro a hF
            refine op_val (v := .int .i64 (w64 (p105 + 1))) rfl rfl hF rfl (run_assign rfl (hF.ev rfl)) ?_; clear hF; intro a hF
            refine wpList_nil ?_
            exact ⟨f1, Nat.lt_succ_self _, w64 (p105 + 1), hM104, hF.keep _ ⟨rfl, rfl, rfl, rfl, trivial⟩, S.sel [] rfl rfl⟩
    · rintro a u ⟨p102, rfl, hF, S⟩
      replace hM := elim_l hM
      refine wp_seq ?_
      refine wp_region_lit ?_
      refine op_val (v := .bool true) rfl rfl hF rfl (run_assign rfl rfl) ?_; clear hF; intro a hF
      refine wpList_nil ?_
      refine wp_ret ?_
      repeat with_reducible (first | refine then_ret ?_ | refine in_ret ?_ | refine in_nrm ?_)
      refine ret1_gw (.inl rfl) hF rfl (res_tmp (hF.ev rfl)) ?_
      obtain rfl := Option.some.inj hM
      exact ⟨rfl, S.sel [] rfl rfl⟩
  · replace hM := bif_t hc101 hM
    refine cond_t hF rfl hc101 ?_
    refine wp_seq ?_
    refine wp_region_lit ?_
    refine op_val (v := .bool false) rfl rfl hF rfl (run_assign rfl rfl) ?_; clear hF; intro a hF
    refine wpList_nil ?_
    refine wp_ret ?_
    repeat with_reducible (first | refine then_ret ?_ | refine in_ret ?_ | refine in_nrm ?_)
    refine ret1_gw (.inl rfl) hF rfl (res_tmp (hF.ev rfl)) ?_
    obtain rfl := Option.some.inj hM
    exact ⟨rfl, S.sel [] rfl rfl⟩

set_option maxHeartbeats 4000000 in
theorem c_laws_markRoomDeedS {x0 : List (Int × Int × Int)} {x1 : Int} {A0 : Option Addr} {n0 c0 : Nat} {w : World} {r : Int × List (Int × Int × Int)} {w0 : World} {X : List Asn} (h0 : n0 = x0.length) (S : St w0 w (Asn.row 32 3 (.slice A0 n0 c0) n0 (x0.flatMap eRoomDeed) :: X)) (hM : m_laws_markRoomDeedS x0 x1 = some r) :
    Calls Try.prog 21 #[.slice A0 n0 c0, .int .i64 x1] w (fun e w' => e = .returned (.int .i64 r.1) ∧ n0 = r.2.length ∧ St w0 w' (Asn.row 32 3 (.slice A0 n0 c0) n0 (r.2.flatMap eRoomDeed) :: X)) := by
  obtain rfl := h0
  unfold m_laws_markRoomDeedS at hM
  refine calls_gw Try.func21 Try.ntmps21 rfl [(0, .slice A0 x0.length c0), (1, .int .i64 x1)] ⟨rfl, rfl, trivial⟩ rfl ?_
  intro a hF
  refine wp_seq ?_
  refine wp_region_lit ?_
  refine op_val (v := .int .i64 0) rfl rfl hF rfl (run_assign rfl rfl) ?_; clear hF; intro a hF
  refine wpList_nil ?_
  refine wp_seq ?_
  refine wp_seq ?_
  refine wp_region_lit ?_
  refine op_val (v := .int .i64 0) rfl rfl hF rfl (run_assign rfl rfl) ?_; clear hF; intro a hF
  refine wpList_nil ?_
  obtain ⟨o102, hM104, hM⟩ := bind_ex hM
  refine wp_cut (fun a u => ∃ (p101 : Int × List (Int × Int × Int)), p101 = o102 ∧ x0.length = p101.2.length ∧ Fr a 34 [(1, .int .i64 p101.1), (4, .int .i64 0)] ∧ St w0 u (Asn.row 32 3 (.slice A0 x0.length c0) x0.length (p101.2.flatMap eRoomDeed) :: X)) ?_ ?_
  · have _ := trivial
    refine wp_block ?_
    refine loop_gw (fun m a u => ∃ (p105 : List (Int × Int × Int) × Int × Int), m_laws_markRoomDeedS_l1 x0 m p105 = some _ ∧ x0.length = p105.1.length ∧ Fr a 34 [(0, .slice A0 x0.length c0), (1, .int .i64 p105.2.1), (4, .int .i64 0), (5, .int .i64 p105.2.2)] ∧ St w0 u (Asn.row 32 3 (.slice A0 x0.length c0) x0.length (p105.1.flatMap eRoomDeed) :: X)) FUEL ⟨(x0, x1, 0), hM104, rfl, hF.keep _ ⟨rfl, rfl, rfl, rfl, trivial⟩, S.selT (M := [.row 32 3 (.slice A0 x0.length c0) x0.length (x0.flatMap eRoomDeed)]) 1 [0] rfl rfl rfl⟩ ?_
    clear hF S hM104; rintro m a u ⟨p105, hM104, hn106, hF, S⟩
    rcases m with _ | f1
    · exact none_some hM104
    rw [m_laws_markRoomDeedS_l1.eq_2] at hM104
    refine wp_seq ?_
    refine wp_seq ?_
    refine wp_region_lit ?_
    refine op_val (v := .int .i64 p105.2.2) rfl rfl hF rfl (run_move rfl (hF.ev rfl)) ?_; clear hF; intro a hF
    refine op_val (v := .slice A0 x0.length c0) rfl rfl hF rfl (run_move rfl (hF.ev rfl)) ?_; clear hF; intro a hF
    refine op_val (v := .int .i64 (x0.length : Int)) rfl rfl hF rfl (run_lenL rfl rfl Try.underlying42 (hF.ev rfl)) ?_; clear hF; intro a hF
    refine op_val (v := .bool (ltB p105.2.2 (x0.length : Int))) rfl rfl hF rfl (run_lss (hF.ev rfl) (hF.ev rfl) rfl) ?_; clear hF; intro a hF
    refine wpList_nil ?_
    cases hc107 : (ltB p105.2.2 (x0.length : Int))
    · replace hM104 := bif_f hc107 hM104
      refine cond_f hF rfl hc107 ?_
      refine wp_exit ?_
      repeat with_reducible (first | refine then_exit ?_ | refine in_hit ?_ | refine in_miss rfl ?_)
      obtain rfl := Option.some.inj hM104
      exact ⟨(p105.2.1, p105.1), rfl, hn106, hF.keep _ ⟨rfl, rfl, trivial⟩, S.selT (M := [.row 32 3 (.slice A0 x0.length c0) x0.length (p105.1.flatMap eRoomDeed)]) 1 [0] rfl rfl rfl⟩
    · replace hM104 := bif_t hc107 hM104
      refine cond_t hF rfl hc107 ?_
      refine wp_skip ?_
      refine wp_seq ?_
      refine wp_block ?_
      refine wp_seq ?_
      refine wp_region_lit ?_
      refine op_val (v := .slice A0 x0.length c0) rfl rfl hF rfl (run_move rfl (hF.ev rfl)) ?_; clear hF; intro a hF
      refine op_val (v := .int .i64 p105.2.2) rfl rfl hF rfl (run_move rfl (hF.ev rfl)) ?_; clear hF; intro a hF
      refine op_val (v := .int .i64 p105.2.1) rfl rfl hF rfl (run_move rfl (hF.ev rfl)) ?_; clear hF; intro a hF
      obtain ⟨hk108, hM104⟩ := chk_ex hM104
      replace hk108 := ixB_t hk108
      refine op_val (v := .pointer (some ⟨adB A0, adO A0 + p105.2.2.toNat * 3, none⟩)) rfl rfl hF rfl (run_indexAddr (b := adB A0) (off := adO A0) rfl Try.underlying42 sz32 ((hF.ev rfl).trans (congrArg (fun A => Value.slice A x0.length c0) ((S.rc 0 rfl).rd.ad (ix_pos hk108)))) (hF.ev rfl) hk108.1 hk108.2 (k' := adO A0 + p105.2.2.toNat * 3) rfl) ?_; clear hF; intro a hF
      refine op_val (v := .pointer (some ⟨adB A0, adO A0 + p105.2.2.toNat * 3, none⟩)) rfl rfl hF rfl (run_fieldAddr rfl fl32_0 (hF.ev rfl) rfl) ?_; clear hF; intro a hF
      obtain ⟨w', hrun, S'⟩ := run_storeElN (P := Try.prog) (ρ := a.eval) (y0 := (p105.2.1, (p105.1.getD p105.2.2.toNat ((0, 0, 0) : Int × Int × Int)).2.1, (p105.1.getD p105.2.2.toNat ((0, 0, 0) : Int × Int × Int)).2.2)) (off := 0) S 3 (.tmp 16) (.tmp 14) (i := 0) sz3 (hF.ev rfl) (hF.ev rfl) rfl rfl rfl rfl hn106 eRoomDeed_len ((0, 0, 0) : Int × Int × Int) (ix_ltn hk108 hn106) rfl rfl
      refine op_do rfl rfl (hrun _ rfl) ?_; clear hrun S; have S := S'; clear S'; generalize w' = u at S ⊢
      refine wpList_nil ?_
      refine wp_seq ?_
      refine wp_region_lit ?_
      refine op_val (v := .int .i64 p105.2.1) rfl rfl hF rfl (run_move rfl (hF.ev rfl)) ?_; clear hF; intro a hF
      refine op_val (v := .int .i64 (w64 (p105.2.1 + 1))) rfl rfl hF rfl (run_add (z := w64 (p105.2.1 + 1)) (hF.ev rfl) rfl rfl rfl) ?_; clear hF; intro a hF
      refine op_val (v := .int .i64 (w64 (p105.2.1 + 1))) rfl rfl hF rfl (run_assign rfl (hF.ev rfl)) ?_; clear hF; intro a hF
      refine wpList_nil ?_
      refine wp_seq ?_
      refine wp_region_lit ?_
      refine op_val (v := .slice A0 x0.length c0) rfl rfl hF rfl (run_move rfl (hF.ev rfl)) ?_; clear hF; intro a hF
      refine op_val (v := .int .i64 p105.2.2) rfl rfl hF rfl (run_move rfl (hF.ev rfl)) ?_; clear hF; intro a hF
      refine op_val (v := .int .i64 (w64 (p105.2.1 + 1))) rfl rfl hF rfl (run_move rfl (hF.ev rfl)) ?_; clear hF; intro a hF
      obtain ⟨hk109, hM104⟩ := chk_ex hM104
      replace hk109 := ixB_t hk109
      refine op_val (v := .pointer (some ⟨adB A0, adO A0 + p105.2.2.toNat * 3, none⟩)) rfl rfl hF rfl (run_indexAddr (b := adB A0) (off := adO A0) rfl Try.underlying42 sz32 ((hF.ev rfl).trans (congrArg (fun A => Value.slice A x0.length c0) ((S.rc 0 rfl).rd.ad (ix_pos hk109)))) (hF.ev rfl) hk109.1 hk109.2 (k' := adO A0 + p105.2.2.toNat * 3) rfl) ?_; clear hF; intro a hF
      refine op_val (v := .pointer (some ⟨adB A0, adO A0 + p105.2.2.toNat * 3 + 1, none⟩)) rfl rfl hF rfl (run_fieldAddr rfl fl32_1 (hF.ev rfl) rfl) ?_; clear hF; intro a hF
      obtain ⟨w', hrun, S'⟩ := run_storeEl2 (P := Try.prog) (ρ := a.eval) (l := p105.1) (y0 := (p105.2.1, (p105.1.getD p105.2.2.toNat ((0, 0, 0) : Int × Int × Int)).2.1, (p105.1.getD p105.2.2.toNat ((0, 0, 0) : Int × Int × Int)).2.2)) (y1 := (p105.2.1, w64 (p105.2.1 + 1), (p105.1.getD p105.2.2.toNat ((0, 0, 0) : Int × Int × Int)).2.2)) (off := 1) S 3 (.tmp 23) (.tmp 21) (i := 0) sz3 (hF.ev rfl) (hF.ev rfl) rfl rfl rfl rfl hn106 eRoomDeed_len (ix_ltn hk109 hn106) rfl rfl
      refine op_do rfl rfl (hrun _ rfl) ?_; clear hrun S; have S := S'; clear S'; generalize w' = u at S ⊢
      refine wpList_nil ?_
      refine wp_seq ?_
      refine wp_region_lit ?_
      refine op_val (v := .int .i64 (w64 (p105.2.1 + 1))) rfl rfl hF rfl (run_move rfl (hF.ev rfl)) ?_; clear hF; intro a hF
      refine op_val (v := .int .i64 (w64 ((w64 (p105.2.1 + 1)) + 1))) rfl rfl hF rfl (run_add (z := w64 ((w64 (p105.2.1 + 1)) + 1)) (hF.ev rfl) rfl rfl rfl) ?_; clear hF; intro a hF
      refine op_val (v := .int .i64 (w64 ((w64 (p105.2.1 + 1)) + 1))) rfl rfl hF rfl (run_assign rfl (hF.ev rfl)) ?_; clear hF; intro a hF
      refine wpList_nil ?_
      refine wp_seq ?_
      refine wp_region_lit ?_
      refine op_val (v := .slice A0 x0.length c0) rfl rfl hF rfl (run_move rfl (hF.ev rfl)) ?_; clear hF; intro a hF
      refine op_val (v := .int .i64 p105.2.2) rfl rfl hF rfl (run_move rfl (hF.ev rfl)) ?_; clear hF; intro a hF
      refine op_val (v := .int .i64 (w64 ((w64 (p105.2.1 + 1)) + 1))) rfl rfl hF rfl (run_move rfl (hF.ev rfl)) ?_; clear hF; intro a hF
      obtain ⟨hk110, hM104⟩ := chk_ex hM104
      replace hk110 := ixB_t hk110
      refine op_val (v := .pointer (some ⟨adB A0, adO A0 + p105.2.2.toNat * 3, none⟩)) rfl rfl hF rfl (run_indexAddr (b := adB A0) (off := adO A0) rfl Try.underlying42 sz32 ((hF.ev rfl).trans (congrArg (fun A => Value.slice A x0.length c0) ((S.rc 0 rfl).rd.ad (ix_pos hk110)))) (hF.ev rfl) hk110.1 hk110.2 (k' := adO A0 + p105.2.2.toNat * 3) rfl) ?_; clear hF; intro a hF
      refine op_val (v := .pointer (some ⟨adB A0, adO A0 + p105.2.2.toNat * 3 + 2, none⟩)) rfl rfl hF rfl (run_fieldAddr rfl fl32_2 (hF.ev rfl) rfl) ?_; clear hF; intro a hF
      obtain ⟨w', hrun, S'⟩ := run_storeEl2 (P := Try.prog) (ρ := a.eval) (l := p105.1) (y0 := (p105.2.1, w64 (p105.2.1 + 1), (p105.1.getD p105.2.2.toNat ((0, 0, 0) : Int × Int × Int)).2.2)) (y1 := (p105.2.1, w64 (p105.2.1 + 1), w64 ((w64 (p105.2.1 + 1)) + 1))) (off := 2) S 3 (.tmp 30) (.tmp 28) (i := 0) sz3 (hF.ev rfl) (hF.ev rfl) rfl rfl rfl rfl hn106 eRoomDeed_len (ix_ltn hk110 hn106) rfl rfl
      refine op_do rfl rfl (hrun _ rfl) ?_; clear hrun S; have S := S'; clear S'; generalize w' = u at S ⊢
      refine wpList_nil ?_
      refine wp_region_lit ?_
      refine op_val (v := .int .i64 (w64 ((w64 (p105.2.1 + 1)) + 1))) rfl rfl hF rfl (run_move rfl (hF.ev rfl)) ?_; clear hF; intro a hF
      refine op_val (v := .int .i64 (w64 ((w64 ((w64 (p105.2.1 + 1)) + 1)) + 1))) rfl rfl hF rfl (run_add (z := w64 ((w64 ((w64 (p105.2.1 + 1)) + 1)) + 1)) (hF.ev rfl) rfl rfl rfl) ?_; clear hF; intro a hF
      refine op_val (v := .int .i64 (w64 ((w64 ((w64 (p105.2.1 + 1)) + 1)) + 1))) rfl rfl hF rfl (run_assign rfl (hF.ev rfl)) ?_; clear hF; intro a hF
      refine wpList_nil ?_
      refine wp_region_lit ?_
      refine op_val (v := .int .i64 p105.2.2) rfl rfl hF rfl (run_move rfl (hF.ev rfl)) ?_; clear hF; intro a hF
      refine op_val (v := .int .i64 (w64 (p105.2.2 + 1))) rfl rfl hF rfl (run_add (z := w64 (p105.2.2 + 1)) (hF.ev rfl) rfl rfl rfl) ?_; clear hF; intro a hF
      refine op_val (v := .int .i64 (w64 (p105.2.2 + 1))) rfl rfl hF rfl (run_assign rfl (hF.ev rfl)) ?_; clear hF; intro a hF
      refine wpList_nil ?_
      exact ⟨f1, Nat.lt_succ_self _, (p105.1.set p105.2.2.toNat (p105.2.1, w64 (p105.2.1 + 1), w64 ((w64 (p105.2.1 + 1)) + 1)), w64 ((w64 ((w64 (p105.2.1 + 1)) + 1)) + 1), w64 (p105.2.2 + 1)), hM104, (len_set hn106), hF.keep _ ⟨rfl, rfl, rfl, rfl, trivial⟩, S.selT (M := [.row 32 3 (.slice A0 x0.length c0) x0.length ((p105.1.set p105.2.2.toNat (p105.2.1, w64 (p105.2.1 + 1), w64 ((w64 (p105.2.1 + 1)) + 1))).flatMap eRoomDeed)]) 1 [0] rfl rfl rfl⟩
  · rintro a u ⟨p101, rfl, hn103, hF, S⟩
    refine wp_seq ?_
    refine wp_region_lit ?_
    refine op_val (v := .int .i64 p101.1) rfl rfl hF rfl (run_move rfl (hF.ev rfl)) ?_; clear hF; intro a hF
    refine op_val (v := .int .i64 p101.1) rfl rfl hF rfl (run_assign rfl (hF.ev rfl)) ?_; clear hF; intro a hF
    refine wpList_nil ?_
    refine wp_ret ?_
    repeat with_reducible (first | refine then_ret ?_ | refine in_ret ?_ | refine in_nrm ?_)
    refine ret1_gw (.inl rfl) hF rfl (res_tmp (hF.ev rfl)) ?_
    obtain rfl := Option.some.inj hM
    exact ⟨rfl, hn103, S.selT (M := [.row 32 3 (.slice A0 x0.length c0) x0.length (p101.2.flatMap eRoomDeed)]) 1 [0] rfl rfl rfl⟩

end Go.Proofs.Ythpmmfbnclfbmaa
